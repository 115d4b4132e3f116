import Derived.Test.YtidkjfaeolfcaaaGreatRfOps9
set_option linter.unusedVariables false
set_option linter.unusedSimpArgs false
namespace Go.Rf
open Go.RowKit

/-! ### operations with their types resolved -/
inductive AOp where
  | mv (x : Opd)
  | pick (c x y : Opd)
  | box (m : Nat) (x : Opd)
  | alloc (z : AV) (m : Nat)
  | load (k : Option Nat) (p : Opd)
  | store (m : Nat) (p x : Opd)
  | bin (op : BinOp) (x y : Opd)
  | beq (neq : Bool) (x y : Opd)
  | un (op : UnOp) (x : Opd)
  | conv (k : IntKind) (x : Opd)
  | fieldA (off : Nat) (p : Opd)
  | idxA (es : Nat) (x i : Opd)
  | idxP (m es : Nat) (p i : Opd)
  | field (k : Option Nat) (off : Nat) (x : Opd)
  | idxV (m es : Nat) (k : Option Nat) (x i : Opd)
  | idxS (x i : Opd)
  | len (x : Opd)
  | lenS (x : Opd)
  | app (es b : Nat) (x y : Opd)
  | slc (es : Nat) (x : Opd) (lo hi : Option Opd)
  | slcS (x : Opd) (lo hi : Option Opd)
  | build (z : AV) (rs : List (Nat × Nat)) (qs : List (Nat × Opd))
  | bslice (es m : Nat) (z : AV) (qs : List (Nat × Opd))
  | mks (es b : Nat) (z : AV) (l c : Opd)
  | ext (i : Nat) (x : Opd)
  | mkf (f : FuncId) (first cap : List Opd)
  | mmk
  | look (d : KK) (z : AV) (ok : Bool) (m k : Opd)
  | mset (d : KK) (m k x : Opd)
  | lenM (x : Opd)
  | mm (mx : Bool) (x y : Opd)
  | seq (neq : Bool) (offs : List Nat) (x y : Opd)
  | nilc (x : Opd)
  | cap (x : Opd)
  | clr (es : Nat) (z : AV) (x : Opd)
  | cpy (es : Nat) (x y : Opd)
  | nilq (sl neg : Bool) (x : Opd)
  | appz (es b : Nat) (z : AV) (x n : Opd)
  | mki (t : TypeId) (x : Opd)
  | tas (t : TypeId) (z : AV) (x : Opd)
  | inil (neg : Bool) (x : Opd)
structure AOper where
  dst : Option Nat
  op : AOp
  guard : Option (Nat × Bool)
  call : Option (Opd × List Opd)
def exBeq (neq : Bool) (x y : AV) : Option AV :=
  match x, y with
  | .v (.bool p), .v (.bool q) => some (.v (.bool (if neq = true then p != q else p == q)))
  | _, _ => none
def ex (op : AOp) (a : AF) : Eff :=
  match op with
  | .mv x => .val (some (x.ev a))
  | .pick c x y => .val (exPick (c.ev a) (x.ev a) (y.ev a))
  | .box m x => exBox m (x.ev a)
  | .alloc z m => exAlloc z m
  | .load k p => exLoad k (p.ev a)
  | .store m p x => exStore m (p.ev a) (x.ev a)
  | .bin op x y => .val (binV op (x.ev a) (y.ev a))
  | .beq q x y => .val (exBeq q (x.ev a) (y.ev a))
  | .un op x => .val (exUn op (x.ev a))
  | .conv k x => .val (exConv k (x.ev a))
  | .fieldA off p => .val (exFieldA off (p.ev a))
  | .idxA es x i => exIdxA es (x.ev a) (i.ev a)
  | .idxP m es p i => .val (exIdxP m es (p.ev a) (i.ev a))
  | .field k off x => .val (exField k off (x.ev a))
  | .idxV m es k x i => .val (exIdxV m es k (x.ev a) (i.ev a))
  | .idxS x i => .val (exIdxS (x.ev a) (i.ev a))
  | .len x => .val (exLen (x.ev a))
  | .lenS x => .val (exLenS (x.ev a))
  | .app es b x y => exApp es b (x.ev a) (y.ev a)
  | .slc es x lo hi => exSlc es (x.ev a) (lo.map (·.ev a)) (hi.map (·.ev a))
  | .slcS x lo hi => .val (exSlcS (x.ev a) (lo.map (·.ev a)) (hi.map (·.ev a)))
  | .build z rs qs => .val (exBuild z (List.zipWith (fun r q => (r.1, r.2, q.2.ev a)) rs qs))
  | .bslice es m z qs => .val (exBslice es m z (qs.map fun q => (q.1, q.2.ev a)))
  | .mks es b z l c => exMks es b z (l.ev a) (c.ev a)
  | .ext i x => .val (exExt i (x.ev a))
  | .mkf f first cap => .val (some (.clo f (first.map (·.ev a)) (cap.map (·.ev a))))
  | .mmk => exMmk
  | .look d z ok m k => exLook d z ok (m.ev a) (k.ev a)
  | .mset d m k x => exMset d (m.ev a) (k.ev a) (x.ev a)
  | .lenM x => exLenM (x.ev a)
  | .mm mx x y => .val (exMM mx (x.ev a) (y.ev a))
  | .seq q offs x y => .val (exSeq q offs (x.ev a) (y.ev a))
  | .nilc x => .val (exNil (x.ev a))
  | .cap x => .val (exCap (x.ev a))
  | .clr es z x => exClr es z (x.ev a)
  | .cpy es x y => exCpy es (x.ev a) (y.ev a)
  | .nilq sl neg x => .val (exNilq sl neg (x.ev a))
  | .appz es b z x n => exAppz es b z (x.ev a) (n.ev a)
  | .mki t x => .val (exMki t (x.ev a))
  | .tas t z x => .val (exTas t z (x.ev a))
  | .inil neg x => .val (exInil neg (x.ev a))
def cparts (ps : Array (Nat × Operand)) : Option (List (Nat × Opd)) := ps.toList.mapM fun p => (ofOperand p.2).map fun x => (p.1, x)
def copnds (xs : Array Operand) : Option (List Opd) := xs.toList.mapM ofOperand
def cbin (P : Program) (op : BinOp) (t : TypeId) (x y : Opd) : Option AOp :=
  match P.underlying t with
  | some .bool => match op with
    | .eql => some (.beq false x y)
    | .neq => some (.beq true x y)
    | _ => none
  | some (.int _) => some (.bin op x y)
  | some .string => some (.bin op x y)
  | some (.struct _) => match op with
    | .eql => (seqOffs P t).map fun offs => .seq false offs x y
    | .neq => (seqOffs P t).map fun offs => .seq true offs x y
    | _ => none
  | some (.array _ _) => match op with
    | .eql => (seqOffs P t).map fun offs => .seq false offs x y
    | .neq => (seqOffs P t).map fun offs => .seq true offs x y
    | _ => none
  | _ => none
def clen (P : Program) (t : TypeId) (x : Opd) : Option AOp :=
  match P.underlying t with
  | some (.slice _) => some (.len x)
  | some .string => some (.lenS x)
  | some (.map _ _) => some (.lenM x)
  | _ => none
def ccall (P : Program) (c : Call) : Option AOp :=
  match c with
  | ⟨.builtin .len, ⟨[x]⟩, ⟨[t]⟩⟩ => (ofOperand x).bind fun X => clen P t X
  | ⟨.builtin .append, ⟨[x, y]⟩, ⟨[t, u]⟩⟩ => if t = u then (ofOperand x).bind fun X => (ofOperand y).bind fun Y => (appSz P t).map fun p => .app p.1 p.2 X Y else
      match P.underlying u with
      | some (.int _) => (ofOperand x).bind fun X => (ofOperand y).bind fun Y => (elemOf3 P t).map fun p => .appz p.2.1 p.2.2 p.1 X Y
      | _ => none
  | ⟨.builtin .max, ⟨[x, y]⟩, ⟨[t, u]⟩⟩ => (ofOperand x).bind fun X => (ofOperand y).map fun Y => .mm true X Y
  | ⟨.builtin .min, ⟨[x, y]⟩, ⟨[t, u]⟩⟩ => (ofOperand x).bind fun X => (ofOperand y).map fun Y => .mm false X Y
  | ⟨.builtin .cap, ⟨[x]⟩, ⟨[t]⟩⟩ => (ofOperand x).bind fun X => (sliceSz P t).map fun _ => .cap X
  | ⟨.builtin .clear, ⟨[x]⟩, ⟨[t]⟩⟩ => (ofOperand x).bind fun X => (elemOf3 P t).map fun p => .clr p.2.1 p.1 X
  | ⟨.builtin .copy, ⟨[x, y]⟩, ⟨[t, u]⟩⟩ => (ofOperand x).bind fun X => (ofOperand y).bind fun Y => (elemOf3 P t).map fun p => .cpy p.2.1 X Y
  | _ => none
def cidx (P : Program) (t : TypeId) (x i : Opd) : Option AOp :=
  match P.underlying t with
  | some (.slice _) => (sliceSz P t).map fun es => .idxA es x i
  | some (.array _ _) => (arrSz P t).map fun p => .idxP p.1 p.2 x i
  | _ => none
def cidxv (P : Program) (t : TypeId) (x i : Opd) : Option AOp :=
  match P.underlying t with
  | some .string => some (.idxS x i)
  | some (.array _ _) => (arrK P t).map fun p => .idxV p.1 p.2.1 p.2.2 x i
  | _ => none
def cslc (P : Program) (t : TypeId) (x : Opd) (lo hi : Option Opd) : Option AOp :=
  match P.underlying t with
  | some .string => some (.slcS x lo hi)
  | some (.slice _) => (sliceSz P t).map fun es => .slc es x lo hi
  | _ => none
def cbuild (P : Program) (t : TypeId) (qs : List (Nat × Opd)) : Option AOp :=
  if fieldsKnown P t = true then (qs.mapM fun q => placeOf P t q.1).bind fun rs => (zeroOf P t).map fun p => .build p.1 rs qs else none
def cmset (P : Program) (t : TypeId) (m k x : Operand) : Option AOp :=
  (ofOperand m).bind fun M => (ofOperand k).bind fun K => (ofOperand x).bind fun X => (mapOf P t).map fun p => .mset p.1 M K X
def cop (P : Program) (o : Op) : Option AOp :=
  match o with
  | .move x => (ofOperand x).map .mv
  | .assign x => (ofOperand x).map .mv
  | .pick c x y => (ofOperand c).bind fun C => (ofOperand x).bind fun X => (ofOperand y).map fun Y => .pick C X Y
  | .box t x => (kindOf P t).bind fun k => (ofOperand x).map fun X => .box (sizeK k) X
  | .alloc t => (zeroOf P t).map fun p => .alloc p.1 p.2
  | .load t p => (kindOf P t).bind fun k => (ofOperand p).map fun X => .load k X
  | .store t p x => (kindOf P t).bind fun k => (ofOperand p).bind fun Y => (ofOperand x).map fun X => .store (sizeK k) Y X
  | .binOp op t x y _ => match cnil P op t y with
    | some (sl, neg) => (ofOperand x).map (.nilq sl neg)
    | none => match cinil P op t y with
      | some neg => (ofOperand x).map (.inil neg)
      | none => (ofOperand x).bind fun X => (ofOperand y).bind fun Y => cbin P op t X Y
  | .unOp op _ x => (ofOperand x).map fun X => .un op X
  | .convert s t x => (intOf? P s t).bind fun k => (ofOperand x).map fun X => .conv k X
  | .fieldAddr s x f => (fieldOff P s f).bind fun off => (ofOperand x).map fun X => .fieldA off X
  | .indexAddr t x i => (ofOperand x).bind fun X => (ofOperand i).bind fun I => cidx P t X I
  | .field s x f => (fieldK P s f).bind fun p => (ofOperand x).map fun X => .field p.2 p.1 X
  | .index t x i => (ofOperand x).bind fun X => (ofOperand i).bind fun I => cidxv P t X I
  | .slice t x lo hi none => (ofOperand x).bind fun X => (oOpd lo).bind fun LO => (oOpd hi).bind fun HI => cslc P t X LO HI
  | .build t ps => (cparts ps).bind fun qs => cbuild P t qs
  | .buildSlice t m ps => (cparts ps).bind fun qs => (elemOf3 P t).map fun p => .bslice p.2.1 m p.1 qs
  | .makeSlice t l c => (ofOperand l).bind fun L => (ofOperand c).bind fun C => (elemOf3 P t).map fun p => .mks p.2.1 p.2.2 p.1 L C
  | .extract x i => (ofOperand x).map fun X => .ext i X
  | .makeFunc (.func f) first cap => (copnds first).bind fun F => (copnds cap).map fun C => .mkf f F C
  | .call c => ccall P c
  | .makeMap _ none => some .mmk
  | .lookup t m k ok => (ofOperand m).bind fun M => (ofOperand k).bind fun K => (mapOf P t).map fun p => .look p.1 p.2 ok M K
  | .mapUpdate t m k x => cmset P t m k x
  | .insert t m k x => cmset P t m k x
  | .nilCheck x => (ofOperand x).map .nilc
  | .makeInterface t x => if concT P t = true then (ofOperand x).map (.mki t) else none
  | .typeAssert x _ t true => if concT P t = true then (ofOperand x).bind fun X => (zeroOf P t).map fun p => .tas t p.1 X else none
  | _ => none
section
variable {P : Program} {n : Nat} {o : Oper} {a : AF} {S : St} {nid : Nat} {v : AV}

theorem run_equal_bool {t : TypeId} (hu : P.underlying t = some .bool) (p q : Bool) (w : World) : (Op.equal t (.bool p) (.bool q)).run P w = .ok (p == q) w := by
  show (Op.equalIn (9999 + 1) t (.bool p) (.bool q)).run P w = _
  rw [Op.equalIn]
  simp only [Sem.run_bind, run_underlying hu, Result.andThen_ok]
  rfl
theorem ok_beq {op : BinOp} {t t2 : TypeId} {x y : Operand} {X Y : Opd} {q : Bool} (hd : ∀ d, o.dst = some d → d < n) (hop : o.op = .binOp op t x y t2) (hx : ofOperand x = some X) (hy : ofOperand y = some Y)
    (hu : P.underlying t = some .bool) (hq : (op = .eql ∧ q = false) ∨ (op = .neq ∧ q = true)) (h : exBeq q (X.ev a) (Y.ev a) = some v) : OpOk P n o a S nid v S := by
  refine .pure hd fun E w act hS hF => ?_
  have rx := ofOperand_ok hF hx
  have ry := ofOperand_ok hF hy
  unfold exBeq at h
  split at h
  · rename_i p r hxe hye
    rw [hxe] at rx
    rw [hye] at ry
    have e1 := rx.v_inv
    have e2 := ry.v_inv
    cases h
    have he := run_equal_bool (P := P) hu p r w
    rcases hq with ⟨rfl, rfl⟩ | ⟨rfl, rfl⟩
    · exact ⟨.bool (p == r), by simp only [execOp, hop, e1, e2, eqGuard_at_bool, binOp]; simp [he], .v _ rfl⟩
    · exact ⟨.bool (p != r), by simp only [execOp, hop, e1, e2, eqGuard_at_bool, binOp]; simp [he, bne], .v _ rfl⟩
  · cases h
theorem val_inv {e : Option AV} {S' : St} (h : (Eff.val e).run S nid = some (v, S')) : e = some v ∧ S' = S := by
  simp only [Eff.run_val, Option.map_eq_some_iff, Prod.mk.injEq] at h
  obtain ⟨v', h1, rfl, rfl⟩ := h
  exact ⟨h1, rfl⟩
theorem cop_ok (hd : ∀ d, o.dst = some d → d < n) {ao : AOp} (hc : cop P o.op = some ao) {S' : St} (h : (ex ao a).run S nid = some (v, S')) : OpOk P n o a S nid v S' := by
  generalize hop : o.op = op at hc
  cases op with
  | move x =>
    simp only [cop, Option.map_eq_some_iff] at hc
    obtain ⟨X, hx, rfl⟩ := hc
    obtain ⟨h1, rfl⟩ := val_inv h
    cases h1; exact ok_move hd (.inl hop) hx
  | assign x =>
    simp only [cop, Option.map_eq_some_iff] at hc
    obtain ⟨X, hx, rfl⟩ := hc
    obtain ⟨h1, rfl⟩ := val_inv h
    cases h1; exact ok_move hd (.inr hop) hx
  | pick c x y =>
    simp only [cop, Option.map_eq_some_iff, Option.bind_eq_some_iff] at hc
    obtain ⟨C, hC, X, hx, Y, hy, rfl⟩ := hc
    obtain ⟨h1, rfl⟩ := val_inv h
    exact ok_pick hd hop hC hx hy h1
  | box t x =>
    simp only [cop, Option.map_eq_some_iff, Option.bind_eq_some_iff] at hc
    obtain ⟨k, hk, X, hx, rfl⟩ := hc
    exact ok_box (t := t) (k := k) hd hop hx h
  | alloc t =>
    simp only [cop, Option.map_eq_some_iff] at hc
    obtain ⟨p, hp, rfl⟩ := hc
    exact ok_alloc hd hop hp h
  | load t p =>
    simp only [cop, Option.map_eq_some_iff, Option.bind_eq_some_iff] at hc
    obtain ⟨k, hk, X, hx, rfl⟩ := hc
    obtain ⟨rfl, h1⟩ := ok_load hd hop hx hk h
    exact h1
  | store t p x =>
    simp only [cop, Option.map_eq_some_iff, Option.bind_eq_some_iff] at hc
    obtain ⟨k, hk, Y, hy, X, hx, rfl⟩ := hc
    obtain ⟨rfl, h1⟩ := ok_store hd hop hy hx hk h
    exact h1
  | binOp bop t x y t2 =>
    simp only [cop] at hc
    split at hc
    · rename_i sl neg hcn
      simp only [Option.map_eq_some_iff] at hc
      obtain ⟨X, hx, rfl⟩ := hc
      obtain ⟨h1, rfl⟩ := val_inv h; exact ok_nilq hd hop hcn hx h1
    · split at hc
      · rename_i neg hci
        simp only [Option.map_eq_some_iff] at hc
        obtain ⟨X, hx, rfl⟩ := hc
        obtain ⟨h1, rfl⟩ := val_inv h; exact ok_inil hd hop hx hci h1
      simp only [Option.bind_eq_some_iff] at hc
      obtain ⟨X, hx, Y, hy, hb⟩ := hc
      unfold cbin at hb
      split at hb
      · rename_i hu
        split at hb
        · cases hb; obtain ⟨h1, rfl⟩ := val_inv h; exact ok_beq hd hop hx hy hu (.inl ⟨rfl, rfl⟩) h1
        · cases hb; obtain ⟨h1, rfl⟩ := val_inv h; exact ok_beq hd hop hx hy hu (.inr ⟨rfl, rfl⟩) h1
        · cases hb
      · cases hb; obtain ⟨h1, rfl⟩ := val_inv h; exact ok_bin hd hop hx hy h1
      · cases hb; obtain ⟨h1, rfl⟩ := val_inv h; exact ok_bin hd hop hx hy h1
      · split at hb
        · simp only [Option.map_eq_some_iff] at hb
          obtain ⟨offs, ho, rfl⟩ := hb
          obtain ⟨h1, rfl⟩ := val_inv h; exact ok_seq hd hop hx hy ho (.inl ⟨rfl, rfl⟩) h1
        · simp only [Option.map_eq_some_iff] at hb
          obtain ⟨offs, ho, rfl⟩ := hb
          obtain ⟨h1, rfl⟩ := val_inv h; exact ok_seq hd hop hx hy ho (.inr ⟨rfl, rfl⟩) h1
        · cases hb
      · split at hb
        · simp only [Option.map_eq_some_iff] at hb
          obtain ⟨offs, ho, rfl⟩ := hb
          obtain ⟨h1, rfl⟩ := val_inv h; exact ok_seq hd hop hx hy ho (.inl ⟨rfl, rfl⟩) h1
        · simp only [Option.map_eq_some_iff] at hb
          obtain ⟨offs, ho, rfl⟩ := hb
          obtain ⟨h1, rfl⟩ := val_inv h; exact ok_seq hd hop hx hy ho (.inr ⟨rfl, rfl⟩) h1
        · cases hb
      · cases hb
  | unOp uop t x =>
    simp only [cop, Option.map_eq_some_iff] at hc
    obtain ⟨X, hx, rfl⟩ := hc
    obtain ⟨h1, rfl⟩ := val_inv h
    exact ok_un hd hop hx h1
  | convert s t x =>
    simp only [cop, Option.map_eq_some_iff, Option.bind_eq_some_iff] at hc
    obtain ⟨k, hk, X, hx, rfl⟩ := hc
    obtain ⟨h1, rfl⟩ := val_inv h
    exact ok_conv hd hop hx hk h1
  | fieldAddr s x f =>
    simp only [cop, Option.map_eq_some_iff, Option.bind_eq_some_iff] at hc
    obtain ⟨off, hk, X, hx, rfl⟩ := hc
    obtain ⟨h1, rfl⟩ := val_inv h
    exact ok_fieldA hd hop hx hk h1
  | indexAddr t x i =>
    simp only [cop, Option.bind_eq_some_iff] at hc
    obtain ⟨X, hx, I, hi, hb⟩ := hc
    unfold cidx at hb
    split at hb
    · simp only [Option.map_eq_some_iff] at hb
      obtain ⟨es, hes, rfl⟩ := hb
      obtain ⟨rfl, h1⟩ := ok_idxA hd hop hx hi hes h
      exact h1
    · simp only [Option.map_eq_some_iff] at hb
      obtain ⟨p, hp, rfl⟩ := hb
      obtain ⟨h1, rfl⟩ := val_inv h
      exact ok_idxP hd hop hx hi hp h1
    · cases hb
  | field s x f =>
    simp only [cop, Option.map_eq_some_iff, Option.bind_eq_some_iff] at hc
    obtain ⟨p, hk, X, hx, rfl⟩ := hc
    obtain ⟨h1, rfl⟩ := val_inv h
    exact ok_field hd hop hx hk h1
  | index t x i =>
    simp only [cop, Option.bind_eq_some_iff] at hc
    obtain ⟨X, hx, I, hi, hb⟩ := hc
    unfold cidxv at hb
    split at hb
    · rename_i hu
      cases hb; obtain ⟨h1, rfl⟩ := val_inv h; exact ok_idxS hd hop hx hi hu h1
    · simp only [Option.map_eq_some_iff] at hb
      obtain ⟨p, hp, rfl⟩ := hb
      obtain ⟨h1, rfl⟩ := val_inv h
      exact ok_idxV hd hop hx hi hp h1
    · cases hb
  | slice t x lo hi mx =>
    cases mx with
    | some m => simp [cop] at hc
    | none =>
      simp only [cop, Option.bind_eq_some_iff] at hc
      obtain ⟨X, hx, LO, hlo, HI, hhi, hb⟩ := hc
      unfold cslc at hb
      split at hb
      · rename_i hu
        cases hb; obtain ⟨h1, rfl⟩ := val_inv h; exact ok_slcS hd hop hx hlo hhi hu h1
      · simp only [Option.map_eq_some_iff] at hb
        obtain ⟨es, hes, rfl⟩ := hb
        obtain ⟨rfl, h1⟩ := ok_slc hd hop hx hlo hhi hes h
        exact h1
      · cases hb
  | build t ps =>
    simp only [cop, Option.bind_eq_some_iff] at hc
    obtain ⟨qs, hq, hb⟩ := hc
    unfold cbuild at hb
    split at hb
    · rename_i hk
      simp only [Option.bind_eq_some_iff, Option.map_eq_some_iff] at hb
      obtain ⟨rs, hrs, p, hp, rfl⟩ := hb
      obtain ⟨h1, rfl⟩ := val_inv h
      exact ok_build hd hop hq hrs hp hk h1
    · cases hb
  | buildSlice t m ps =>
    simp only [cop, Option.bind_eq_some_iff, Option.map_eq_some_iff] at hc
    obtain ⟨qs, hq, p, hp, rfl⟩ := hc
    obtain ⟨h1, rfl⟩ := val_inv h
    exact ok_bslice hd hop hq hp h1
  | makeSlice t l c =>
    simp only [cop, Option.bind_eq_some_iff, Option.map_eq_some_iff] at hc
    obtain ⟨L, hl, C, hC, p, hp, rfl⟩ := hc
    exact ok_mks hd hop hl hC hp h
  | extract x i =>
    simp only [cop, Option.map_eq_some_iff] at hc
    obtain ⟨X, hx, rfl⟩ := hc
    obtain ⟨h1, rfl⟩ := val_inv h
    exact ok_ext hd hop hx h1
  | makeFunc fn first cap =>
    cases fn with
    | func f =>
      simp only [cop, Option.bind_eq_some_iff, Option.map_eq_some_iff] at hc
      obtain ⟨F, hf, C, hC, rfl⟩ := hc
      obtain ⟨h1, rfl⟩ := val_inv h
      cases h1; exact ok_mkf hd hop hf hC
    | _ => simp [cop] at hc
  | call c =>
    simp only [cop] at hc
    unfold ccall at hc
    split at hc
    · rename_i x t
      simp only [Option.bind_eq_some_iff] at hc
      obtain ⟨X, hx, hb⟩ := hc
      unfold clen at hb
      split at hb
      · rename_i hu
        cases hb; obtain ⟨h1, rfl⟩ := val_inv h; exact ok_len hd hop hx hu h1
      · rename_i hu
        cases hb; obtain ⟨h1, rfl⟩ := val_inv h; exact ok_lenS hd hop hx hu h1
      · rename_i hu
        cases hb; exact ok_lenM hd hop hx hu h
      · cases hb
    · rename_i x y t u
      split at hc
      · rename_i htu
        subst htu
        simp only [Option.bind_eq_some_iff, Option.map_eq_some_iff] at hc
        obtain ⟨X, hx, Y, hy, p, hp, rfl⟩ := hc
        exact ok_app hd hop hx hy hp h
      · split at hc
        · rename_i kn hu
          simp only [Option.bind_eq_some_iff, Option.map_eq_some_iff] at hc
          obtain ⟨X, hx, Y, hy, p, hp, rfl⟩ := hc
          exact ok_appz (z := p.1) (es := p.2.1) (by_ := p.2.2) hd hop hx hy hp hu h
        · cases hc
    · rename_i x y t u
      simp only [Option.bind_eq_some_iff, Option.map_eq_some_iff] at hc
      obtain ⟨X, hx, Y, hy, rfl⟩ := hc
      obtain ⟨h1, rfl⟩ := val_inv h; exact ok_mm (.inl ⟨rfl, rfl⟩) hd hop hx hy h1
    · rename_i x y t u
      simp only [Option.bind_eq_some_iff, Option.map_eq_some_iff] at hc
      obtain ⟨X, hx, Y, hy, rfl⟩ := hc
      obtain ⟨h1, rfl⟩ := val_inv h; exact ok_mm (.inr ⟨rfl, rfl⟩) hd hop hx hy h1
    · rename_i x t
      simp only [Option.bind_eq_some_iff, Option.map_eq_some_iff] at hc
      obtain ⟨X, hx, es, hs, rfl⟩ := hc
      obtain ⟨h1, rfl⟩ := val_inv h
      unfold sliceSz at hs
      split at hs
      · rename_i e hu
        exact ok_cap hd hop hx hu h1
      · cases hs
    · rename_i x t
      simp only [Option.bind_eq_some_iff, Option.map_eq_some_iff] at hc
      obtain ⟨X, hx, p, hp, rfl⟩ := hc
      exact ok_clr (z := p.1) (es := p.2.1) (by_ := p.2.2) hd hop hx hp h
    · rename_i x y t u
      simp only [Option.bind_eq_some_iff, Option.map_eq_some_iff] at hc
      obtain ⟨X, hx, Y, hy, p, hp, rfl⟩ := hc
      exact ok_cpy (z := p.1) (es := p.2.1) (by_ := p.2.2) hd hop hx hy hp h
    · cases hc
  | nilCheck x =>
    simp only [cop, Option.map_eq_some_iff] at hc
    obtain ⟨X, hx, rfl⟩ := hc
    obtain ⟨h1, rfl⟩ := val_inv h
    exact ok_nilc hd hop hx h1
  | makeInterface t x =>
    simp only [cop] at hc
    split at hc
    · rename_i hcc
      simp only [Option.map_eq_some_iff] at hc
      obtain ⟨X, hx, rfl⟩ := hc
      obtain ⟨h1, rfl⟩ := val_inv h
      exact ok_mki hd hop hx hcc h1
    · cases hc
  | typeAssert x xt t ok =>
    cases ok with
    | false => simp [cop] at hc
    | true =>
      simp only [cop] at hc
      split at hc
      · rename_i hcc
        simp only [Option.bind_eq_some_iff, Option.map_eq_some_iff] at hc
        obtain ⟨X, hx, p, hz, rfl⟩ := hc
        obtain ⟨h1, rfl⟩ := val_inv h
        exact ok_tas (m := p.2) hd hop hx hcc hz h1
      · cases hc
  | makeMap t r =>
    cases r with
    | some r => simp [cop] at hc
    | none =>
      simp only [cop, Option.some.injEq] at hc
      subst hc
      exact ok_mmk hd hop h
  | lookup t m k ok =>
    simp only [cop, Option.bind_eq_some_iff, Option.map_eq_some_iff] at hc
    obtain ⟨M, hm, K, hk, p, hp, rfl⟩ := hc
    exact ok_look hd hop hm hk hp h
  | mapUpdate t m k x =>
    simp only [cop, cmset, Option.bind_eq_some_iff, Option.map_eq_some_iff] at hc
    obtain ⟨M, hm, K, hk, X, hx, p, hp, rfl⟩ := hc
    obtain ⟨rfl, h1⟩ := ok_mset hd (.inl hop) hm hk hx hp h
    exact h1
  | insert t m k x =>
    simp only [cop, cmset, Option.bind_eq_some_iff, Option.map_eq_some_iff] at hc
    obtain ⟨M, hm, K, hk, X, hx, p, hp, rfl⟩ := hc
    obtain ⟨rfl, h1⟩ := ok_mset hd (.inr hop) hm hk hx hp h
    exact h1
  | _ => simp [cop] at hc
theorem Eff.run_n {e : Eff} {S' : St} (h : e.run S nid = some (v, S')) : S'.n = S.n := by
  have hL : ∀ (F : List Nat) (ks : List (Option Blk)) (T : St), (T.setL F ks).n = T.n := by
    intro F
    induction F with
    | nil => intro ks T; cases ks <;> rfl
    | cons i F ih => intro ks T; cases ks with
      | nil => rfl
      | cons k ks => simp only [St.setL]; rw [ih]; rfl
  unfold Eff.run at h
  split at h
  · cases h
  · split at h
    · cases h
    · rename_i out _
      simp only [Option.some.injEq, Prod.mk.injEq] at h
      obtain ⟨_, rfl⟩ := h
      cases out.nw <;> simp [St.setO, St.set, hL]
/-- What is undecided: an empty list that is nil or isn't. -/
def nilG (op : AOp) (a : AF) (k : AV → Prop) : Prop :=
  match op with
  | .nilq true _ x => isEmptyL (x.ev a) ∧ ∀ b, k (.v (.bool b))
  | _ => False
theorem nilG_mono {op : AOp} {a : AF} {k k' : AV → Prop} (hk : ∀ v, k v → k' v) (h : nilG op a k) : nilG op a k' := by
  unfold nilG at h ⊢
  split <;> rename_i h2
  · simp only at h; exact ⟨h.1, fun b => hk _ (h.2 b)⟩
  · split at h
    · exact (h2 _ _ rfl).elim
    · exact h
theorem nilG_ok {ao : AOp} (hc : cop P o.op = some ao) {k : AV → Prop} (h : nilG ao a k) {E : Env} {act : Act} (hF : RepF E n a act) (w : World) :
    ∃ b, k (.v (.bool b)) ∧ (execOp act.eval o).run P w = .ok (.value (.bool b)) w := by
  unfold nilG at h
  split at h
  · rename_i neg X
    obtain ⟨h1, h2⟩ := h
    generalize hop : o.op = op at hc
    have key : ∃ bop t x y t2, op = .binOp bop t x y t2 ∧ cnil P bop t y = some (true, neg) ∧ ofOperand x = some X := by
      cases op with
      | binOp bop t x y t2 =>
        simp only [cop] at hc
        split at hc
        · rename_i sl ng hcn
          simp only [Option.map_eq_some_iff, AOp.nilq.injEq] at hc
          obtain ⟨X', hx, rfl, rfl, rfl⟩ := hc
          exact ⟨bop, t, x, y, t2, rfl, hcn, hx⟩
        · split at hc
          · simp only [Option.map_eq_some_iff, reduceCtorEq, and_false, exists_false] at hc
          simp only [Option.bind_eq_some_iff] at hc
          obtain ⟨X, hx, Y, hy, hb⟩ := hc
          unfold cbin at hb
          split at hb <;> (try split at hb) <;> simp at hb
      | makeInterface t x =>
        simp only [cop] at hc
        split at hc
        · simp only [Option.map_eq_some_iff, reduceCtorEq, and_false, exists_false] at hc
        · cases hc
      | typeAssert x xt t ok =>
        cases ok with
        | false => simp [cop] at hc
        | true =>
          simp only [cop] at hc
          split at hc
          · simp only [Option.bind_eq_some_iff, Option.map_eq_some_iff, reduceCtorEq, and_false, exists_false] at hc
          · cases hc
      | call c =>
        simp only [cop] at hc
        unfold ccall at hc
        split at hc
        · simp only [Option.bind_eq_some_iff] at hc
          obtain ⟨X, hx, hb⟩ := hc
          unfold clen at hb
          split at hb <;> simp at hb
        · split at hc
          · simp only [cop, cmset, Option.bind_eq_some_iff, Option.map_eq_some_iff, reduceCtorEq, and_false, exists_false] at hc
          · split at hc <;> simp only [cop, cmset, Option.bind_eq_some_iff, Option.map_eq_some_iff, reduceCtorEq, and_false, exists_false] at hc
        all_goals simp only [cop, cmset, Option.bind_eq_some_iff, Option.map_eq_some_iff, reduceCtorEq, and_false, exists_false] at hc
      | indexAddr t x i =>
        simp only [cop, Option.bind_eq_some_iff] at hc
        obtain ⟨X, hx, I, hi, hb⟩ := hc
        unfold cidx at hb
        split at hb <;> simp at hb
      | index t x i =>
        simp only [cop, Option.bind_eq_some_iff] at hc
        obtain ⟨X, hx, I, hi, hb⟩ := hc
        unfold cidxv at hb
        split at hb <;> simp at hb
      | slice t x lo hi mx =>
        cases mx with
        | some m => simp [cop] at hc
        | none =>
          simp only [cop, Option.bind_eq_some_iff] at hc
          obtain ⟨X, hx, LO, hlo, HI, hhi, hb⟩ := hc
          unfold cslc at hb
          split at hb <;> simp at hb
      | build t ps =>
        simp only [cop, Option.bind_eq_some_iff] at hc
        obtain ⟨qs, hq, hb⟩ := hc
        unfold cbuild at hb
        split at hb <;> simp only [Option.bind_eq_some_iff, Option.map_eq_some_iff, reduceCtorEq, and_false, exists_false] at hb
      | makeFunc f a b => cases f <;> simp only [cop, cmset, Option.bind_eq_some_iff, Option.map_eq_some_iff, reduceCtorEq, and_false, exists_false] at hc
      | makeMap t r => cases r <;> first | (simp only [cop, Option.some.injEq, reduceCtorEq] at hc; done) | simp only [cop, cmset, Option.bind_eq_some_iff, Option.map_eq_some_iff, reduceCtorEq, and_false, exists_false] at hc
      | mapUpdate t m k x => simp only [cop, cmset, Option.bind_eq_some_iff, Option.map_eq_some_iff, reduceCtorEq, and_false, exists_false] at hc
      | insert t m k x => simp only [cop, cmset, Option.bind_eq_some_iff, Option.map_eq_some_iff, reduceCtorEq, and_false, exists_false] at hc
      | _ => simp only [cop, cmset, Option.bind_eq_some_iff, Option.map_eq_some_iff, reduceCtorEq, and_false, exists_false] at hc
    obtain ⟨bop, t, x, y, t2, rfl, k1, k2⟩ := key
    obtain ⟨b, hb⟩ := run_nilE hop k1 k2 h1 hF w
    exact ⟨b, h2 b, hb⟩
  · exact h.elim
end
end Go.Rf

