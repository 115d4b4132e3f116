import Derived.Test.YtpllebbaahanjaaRfOps6
set_option linter.unusedVariables false
set_option linter.unusedSimpArgs false
namespace Go.Rf
open Go.RowKit

def bnd (d : Nat) : Option AV → Option Nat
  | none => some d
  | some (.v (.int _ m)) => if 0 ≤ m then some m.toNat else none
  | _ => none
def exSlc (es : Nat) (x : AV) (lo hi : Option AV) : Eff :=
  match x with
  | .sl t xs => .val ((bnd 0 lo).bind fun l => (bnd xs.length hi).bind fun h =>
      if l ≤ h ∧ h ≤ xs.length ∧ ∀ y ∈ xs, y.cells.length = es then some (.sl (t && (hi.isNone || h == xs.length)) ((xs.take h).drop l)) else none)
  | .own id off len => .rd id fun
    | .arr es' xs => (bnd 0 lo).bind fun l => (bnd len hi).bind fun h => if es' = es ∧ l ≤ h ∧ h ≤ len then some (.own id (off + l) (h - l)) else none
    | _ => none
  | _ => .val none
def exSlcS (x : AV) (lo hi : Option AV) : Option AV :=
  match x with
  | .v (.string s) => (bnd 0 lo).bind fun l => (bnd s.size hi).bind fun h => if l ≤ h ∧ h ≤ s.size then some (.v (.string (s.extract l h))) else none
  | _ => none
def oOpd : Option Operand → Option (Option Opd)
  | none => some none
  | some x => (ofOperand x).map some
section
variable {P : Program} {n : Nat} {o : Oper} {a : AF} {S : St} {nid : Nat} {v : AV}

theorem bnd_run {E : Env} {act : Act} (hF : RepF E n a act) {x : Option Operand} {X : Option Opd} (hx : oOpd x = some X) {d m y : Nat} (h : bnd d (X.map (·.ev a)) = some m) (hy : m ≤ y) (code : BoundsCode) (w : World) :
    (match x.map act.eval with | some v => Instr.sliceBound v y code | none => pure d : Sem Nat).run P w = .ok m w := by
  cases x with
  | none =>
    simp only [oOpd, Option.some.injEq] at hx
    subst hx
    simp [bnd] at h
    subst h; rfl
  | some x =>
    simp only [oOpd, Option.map_eq_some_iff] at hx
    obtain ⟨X', hX, rfl⟩ := hx
    have r := ofOperand_ok hF hX
    simp only [Option.map_some] at h
    generalize X'.ev a = p at r h
    unfold bnd at h
    split at h
    · simp at *
    · rename_i k q hq
      cases hq
      have e := r.v_inv
      split at h
      · rename_i h0
        cases h
        have : q ≤ (y : Int) := by omega
        simp [Instr.sliceBound, e, asIntOf, h0, this]
      · cases h
    · cases h
theorem ok_slc {t : TypeId} {x : Operand} {lo hi : Option Operand} {X : Opd} {LO HI : Option Opd} {es : Nat} {S' : St} (hd : ∀ d, o.dst = some d → d < n) (hop : o.op = .slice t x lo hi none) (hx : ofOperand x = some X)
    (hlo : oOpd lo = some LO) (hhi : oOpd hi = some HI) (ht : sliceSz P t = some es) (h : (exSlc es (X.ev a) (LO.map (·.ev a)) (HI.map (·.ev a))).run S nid = some (v, S')) : S' = S ∧ OpOk P n o a S nid v S := by
  unfold sliceSz at ht
  split at ht
  · rename_i e hu
    simp only [Option.map_eq_some_iff] at ht
    obtain ⟨ie, hie, rfl⟩ := ht
    have run : ∀ {E : Env} {w : World} {act : Act} (hF : RepF E n a act) (A : Option Addr) (len cap l hh : Nat), act.eval x = .slice A len cap → bnd 0 (LO.map (·.ev a)) = some l → bnd len (HI.map (·.ev a)) = some hh → l ≤ hh → hh ≤ cap →
        (execOp act.eval o).run P w = .ok (.value (.slice (if cap = l then A else A.map (·.add (l * ie.size))) (hh - l) (cap - l))) w := by
      intro E w act hF A len cap l hh ev hl hh1 h1 h2
      have b1 := bnd_run (P := P) hF hhi hh1 h2 .sliceAcap w
      have b2 := bnd_run (P := P) hF hlo hl h1 .sliceB w
      have b3 : (Instr.sliceBounds true len cap (lo.map act.eval) (hi.map act.eval) none).run P w = .ok (l, hh, cap) w := by
        cases hi with
        | none =>
          have : hh = len := by simp only [oOpd, Option.some.injEq] at hhi; subst hhi; simp [bnd] at hh1; exact hh1.symm
          subst this
          cases lo with
          | none =>
            have : l = 0 := by simp only [oOpd, Option.some.injEq] at hlo; subst hlo; simp [bnd] at hl; exact hl.symm
            subst this
            simp [Instr.sliceBounds]
          | some y =>
            simp only [Option.map_some] at b2
            simp [Instr.sliceBounds, b2]
        | some z =>
          simp only [Option.map_some] at b1
          cases lo with
          | none =>
            have : l = 0 := by simp only [oOpd, Option.some.injEq] at hlo; subst hlo; simp [bnd] at hl; exact hl.symm
            subst this
            simp [Instr.sliceBounds, b1]
          | some y =>
            simp only [Option.map_some] at b2
            simp [Instr.sliceBounds, b1, b2]
      simp only [execOp, hop, ev, Option.map_none]
      have : (Instr.sliceAt t (.slice A len cap) (lo.map act.eval) (hi.map act.eval) none) = (do
        match ← underlying t with
        | .array n elem =>
          let a ← Instr.sureAddr (.slice A len cap)
          let (l, h, m) ← Instr.sliceBounds false n n (lo.map act.eval) (hi.map act.eval) none
          let size ← sizeOf elem
          pure (.slice (some (if m = l then a else a.add (l * size))) (h - l) (m - l))
        | _ => Instr.slice t (.slice A len cap) (lo.map act.eval) (hi.map act.eval) none) := rfl
      rw [this]
      simp [run_underlying hu, Instr.slice, b3, run_sizeOf hie]
    unfold exSlc at h
    split at h
    · rename_i t' xs hxe
      simp only [Eff.run_val, Option.map_eq_some_iff, Prod.mk.injEq, Option.bind_eq_some_iff] at h
      obtain ⟨v', ⟨l, hl, hh, hh1, h1⟩, rfl, rfl⟩ := h
      split at h1
      · rename_i hc
        obtain ⟨c1, c2, c3⟩ := hc
        cases h1
        refine ⟨rfl, .pure hd fun E w act hS hF => ?_⟩
        have rx := ofOperand_ok hF hx
        rw [hxe] at rx
        generalize hev : act.eval x = av at rx
        cases rx with
        | sl0 _ A cap ht =>
          simp only [List.length_nil, Nat.le_zero] at c2
          subst c2
          have : l = 0 := by omega
          subst this
          refine ⟨_, run hF A 0 cap 0 0 hev hl hh1 (by omega) (by omega), ?_⟩
          simp only [List.take_nil, List.drop_nil, Nat.sub_zero]
          refine .sl0 _ _ cap (fun e => ht ?_)
          simp at e; first | exact e.1 | exact e
        | sl _ _ b p cap cs es' f hne hb hes hcap htt hat hcc hr =>
          have hes' : es' = ie.size := by
            have := List.getElem_mem hne
            rw [← hes _ this]; exact c3 _ this
          subst hes'
          refine ⟨_, run hF _ xs.length cap l hh hev hl hh1 c1 (by omega), ?_⟩
          have hlen : ((xs.take hh).drop l).length = hh - l := by simp; omega
          have htight : (t' && ((HI.map (·.ev a)).isNone || hh == xs.length)) = true → cap - l = hh - l := by
            intro e
            simp only [Bool.and_eq_true, Bool.or_eq_true, beq_iff_eq] at e
            rcases e.2 with h2 | h2
            · have h2 : HI.map (·.ev a) = none := by simpa using h2
              rw [h2] at hh1
              simp [bnd] at hh1
              rw [htt e.1]; omega
            · rw [htt e.1, h2]
          by_cases hz : hh - l = 0
          · have : (xs.take hh).drop l = [] := List.eq_nil_of_length_eq_zero (by rw [hlen]; exact hz)
            rw [this, hz]
            exact .sl0 _ _ _ (fun e => by rw [htight e, hz])
          · rw [if_neg (by omega)]
            simp only [Option.map_some, addr_add]
            have htk : ∀ x ∈ xs.take hh, x.cells.length = ie.size := fun x hx => hes x (List.mem_of_mem_take hx)
            have hf : flat ((xs.take hh).drop l) = ((flat xs).take (hh * ie.size)).drop (l * ie.size) := by rw [flat_drop htk, flat_take hes]
            rw [← hlen]
            refine .sl _ _ b (p + l * ie.size) _ cs ie.size (fun k => f (l * ie.size + k)) (by omega) hb (fun y hy => htk y (List.mem_of_mem_drop hy)) (by omega) (fun e => by rw [htight e, hlen]) ?_ ?_ ?_
            · intro y hy; rw [hf] at hy; exact hat y (List.mem_of_mem_take (List.mem_of_mem_drop hy))
            · intro k hk
              rw [hf] at hk
              simp only [List.length_drop, List.length_take] at hk
              rw [Nat.add_assoc]; exact hcc _ (by omega)
            · intro k hk
              have hk2 := hk
              rw [hf] at hk2
              simp only [List.length_drop, List.length_take] at hk2
              have : (flat ((xs.take hh).drop l))[k] = (flat xs)[l * ie.size + k]'(by omega) := by
                simp only [hf, List.getElem_drop, List.getElem_take]
              rw [this]; exact hr _ (by omega)
      · cases h1
    · rename_i id off len hxe
      simp only [Eff.run_rd, Option.map_eq_some_iff, Prod.mk.injEq] at h
      obtain ⟨v', h1, rfl, rfl⟩ := h
      cases hg : S.g id with
      | none => rw [hg] at h1; simp at h1
      | some bk =>
        rw [hg] at h1
        cases bk with
        | map e => simp at h1
        | arr es' xs =>
          simp only [Option.bind_some, Option.bind_eq_some_iff] at h1
          obtain ⟨l, hl, hh, hh1, h2⟩ := h1
          split at h2
          · rename_i hc
            obtain ⟨c1, c2, c3⟩ := hc
            cases h2
            refine ⟨rfl, .pure hd fun E w act hS hF => ?_⟩
            have rx := ofOperand_ok hF hx
            rw [hxe] at rx
            generalize hev : act.eval x = av at rx
            cases rx with
            | own _ _ _ A cap q hq hlen hA =>
              obtain ⟨q', e', hN, ok⟩ := hS.live id _ hg
              rw [hq] at e'; cases e'
              have hes : q.es = es' := ok.1
              refine ⟨_, run hF A len cap l hh hev hl hh1 c2 (by omega), ?_⟩
              refine .own id _ _ _ _ q hq (by omega) (fun hne => ?_)
              have hcap0 : cap ≠ 0 := by omega
              obtain ⟨hA1, hA2⟩ := hA hcap0
              rw [if_neg (by omega), hA1]
              refine ⟨?_, by omega⟩
              simp only [Option.map_some, addr_add]
              rw [hes, c1, Nat.add_mul, Nat.add_assoc]
          · cases h2
    · simp at h
  · cases ht
theorem ok_slcS {t : TypeId} {x : Operand} {lo hi : Option Operand} {X : Opd} {LO HI : Option Opd} (hd : ∀ d, o.dst = some d → d < n) (hop : o.op = .slice t x lo hi none) (hx : ofOperand x = some X)
    (hlo : oOpd lo = some LO) (hhi : oOpd hi = some HI) (hu : P.underlying t = some .string) (h : exSlcS (X.ev a) (LO.map (·.ev a)) (HI.map (·.ev a)) = some v) : OpOk P n o a S nid v S := by
  refine .pure hd fun E w act hS hF => ?_
  have rx := ofOperand_ok hF hx
  unfold exSlcS at h
  split at h
  · rename_i s hs
    rw [hs] at rx
    have ev := rx.v_inv
    simp only [Option.bind_eq_some_iff] at h
    obtain ⟨l, hl, hh, hh1, h1⟩ := h
    split at h1
    · rename_i hc
      cases h1
      have b1 := bnd_run (P := P) hF hhi hh1 hc.2 .sliceAlen w
      have b2 := bnd_run (P := P) hF hlo hl hc.1 .sliceB w
      have b3 : (Instr.sliceBounds false s.size s.size (lo.map act.eval) (hi.map act.eval) none).run P w = .ok (l, hh, s.size) w := by
        cases hi with
        | none =>
          have : hh = s.size := by simp only [oOpd, Option.some.injEq] at hhi; subst hhi; simp [bnd] at hh1; exact hh1.symm
          subst this
          cases lo with
          | none =>
            have : l = 0 := by simp only [oOpd, Option.some.injEq] at hlo; subst hlo; simp [bnd] at hl; exact hl.symm
            subst this
            simp [Instr.sliceBounds]
          | some y =>
            simp only [Option.map_some] at b2
            simp [Instr.sliceBounds, b2]
        | some z =>
          simp only [Option.map_some] at b1
          cases lo with
          | none =>
            have : l = 0 := by simp only [oOpd, Option.some.injEq] at hlo; subst hlo; simp [bnd] at hl; exact hl.symm
            subst this
            simp [Instr.sliceBounds, b1]
          | some y =>
            simp only [Option.map_some] at b2
            simp [Instr.sliceBounds, b1, b2]
      refine ⟨.string (s.extract l hh), ?_, .v _ rfl⟩
      simp only [execOp, hop, ev, Option.map_none]
      simp [Instr.sliceAt, run_underlying hu, Instr.slice, b3]
    · cases h1
  · cases h
theorem run_part {E : Env} {w : World} {t : TypeId} {k : Option Nat} (hk : kindOf P t = some k) {cs : List AV} {vs : Array Value} (hn : vs.size = cs.length) (hat : ∀ y ∈ cs, y.atom = true)
    (hr : ∀ j (h : j < cs.length), Rep E (cs[j]) (vs.getD j undef)) {c : Nat} (h : subc k (.agg cs) c = some v) : ∃ val, (part t vs c).run P w = .ok val w ∧ Rep E v val := by
  obtain ⟨d, i, hu, hi, hor⟩ := kindOf_inv hk
  have hget : ∀ j (hj : j < cs.length), vs[j]? = some (vs.getD j undef) := by
    intro j hj; simp [Array.getD_eq_getD_getElem?]; rw [Array.getElem?_eq_getElem (by omega)]; rfl
  rcases hor with ⟨hag, rfl⟩ | ⟨hag, rfl, hs⟩
  · unfold subc at h
    simp only at h
    split at h
    · rename_i hle0
      have hle : c + i.size ≤ cs.length := hle0
      cases h
      refine ⟨.agg (vs.extract c (c + i.size)), by simp [part, run_isAgg hu, hag, run_sizeOf hi], .agg _ _ (by simp [AV.cells]; omega) (fun y hy => hat y (List.mem_of_mem_drop (List.mem_of_mem_take hy))) (fun j hj => ?_)⟩
      simp only [AV.cells, List.length_take, List.length_drop] at hj
      have e : (vs.extract c (c + i.size)).getD j undef = vs.getD (c + j) undef := by
        simp only [Array.getD_eq_getD_getElem?, Array.getElem?_extract]
        rw [if_pos (by omega)]
      rw [e]
      simpa [AV.cells, List.getElem_take, List.getElem_drop] using hr (c + j) (by omega)
    · cases h
  · unfold subc at h
    simp only at h
    obtain ⟨hlt, e⟩ := List.getElem?_eq_some_iff.mp h
    obtain ⟨u, hu1, hu2⟩ : ∃ u, vs[c]? = some u ∧ u = vs.getD c undef := ⟨_, hget c hlt, rfl⟩
    refine ⟨u, by simp [part, run_isAgg hu, hag, hu1], by rw [← e, hu2]; exact hr c hlt⟩
theorem ok_field {s : TypeId} {x : Operand} {X : Opd} {f off : Nat} {k : Option Nat} (hd : ∀ d, o.dst = some d → d < n) (hop : o.op = .field s x f) (hx : ofOperand x = some X) (hk : fieldK P s f = some (off, k))
    (h : exField k off (X.ev a) = some v) : OpOk P n o a S nid v S := by
  refine .pure hd fun E w act hS hF => ?_
  have rx := ofOperand_ok hF hx
  unfold fieldK at hk
  split at hk
  · rename_i fs hu
    split at hk
    · rename_i fd hfd
      simp only [Option.map_eq_some_iff, Prod.mk.injEq] at hk
      obtain ⟨k', hk', rfl, rfl⟩ := hk
      generalize X.ev a = p at rx h
      generalize hev : act.eval x = av at rx
      cases rx with
      | agg cs vs hn hat hr =>
        obtain ⟨val, h1, h2⟩ := run_part (P := P) (w := w) hk' hn hat hr h
        exact ⟨val, by simp [execOp, hop, hev, Instr.field, run_underlying hu, hfd, asAgg, h1], h2⟩
      | _ => simp [exField] at h
    · cases hk
  · cases hk
theorem ok_idxV {t : TypeId} {x i : Operand} {X I : Opd} {m es : Nat} {k : Option Nat} (hd : ∀ d, o.dst = some d → d < n) (hop : o.op = .index t x i) (hx : ofOperand x = some X) (hi : ofOperand i = some I)
    (hk : arrK P t = some (m, es, k)) (h : exIdxV m es k (X.ev a) (I.ev a) = some v) : OpOk P n o a S nid v S := by
  refine .pure hd fun E w act hS hF => ?_
  have rx := ofOperand_ok hF hx
  have ri := ofOperand_ok hF hi
  unfold arrK at hk
  split at hk
  · rename_i m' e hu
    split at hk
    · rename_i ie hie
      simp only [Option.map_eq_some_iff, Prod.mk.injEq] at hk
      obtain ⟨k', hk', rfl, rfl, rfl⟩ := hk
      unfold exIdxV at h
      split at h
      · rename_i cs ki q hxe hie2
        rw [hxe] at rx
        rw [hie2] at ri
        have ei := ri.v_inv
        split at h
        · rename_i hc
          generalize hev : act.eval x = av at rx
          cases rx with
          | agg _ vs hn hat hr =>
            obtain ⟨val, h1, h2⟩ := run_part (P := P) (w := w) hk' hn hat hr h
            exact ⟨val, by simp [execOp, hop, hev, ei, Instr.index, asIntOf, run_underlying hu, hc.1, hc.2, run_sizeOf hie, h1], h2⟩
        · cases h
      · cases h
    · cases hk
  · cases hk
theorem ok_idxS {t : TypeId} {x i : Operand} {X I : Opd} (hd : ∀ d, o.dst = some d → d < n) (hop : o.op = .index t x i) (hx : ofOperand x = some X) (hi : ofOperand i = some I)
    (hu : P.underlying t = some .string) (h : exIdxS (X.ev a) (I.ev a) = some v) : OpOk P n o a S nid v S := by
  refine .pure hd fun E w act hS hF => ?_
  have rx := ofOperand_ok hF hx
  have ri := ofOperand_ok hF hi
  unfold exIdxS at h
  split at h
  · rename_i s ki q hxe hie2
    rw [hxe] at rx
    rw [hie2] at ri
    have ei := ri.v_inv
    have ex := rx.v_inv
    split at h
    · rename_i hc
      simp only [Option.map_eq_some_iff] at h
      obtain ⟨b, hb, rfl⟩ := h
      refine ⟨.int .u8 b.toNat, ?_, .v _ rfl⟩
      simp [execOp, hop, ei, ex, Instr.index, asIntOf, run_underlying hu, hc, hb]
    · cases h
  · cases h
theorem ok_idxP {t : TypeId} {x i : Operand} {X I : Opd} {m es : Nat} (hd : ∀ d, o.dst = some d → d < n) (hop : o.op = .indexAddr t x i) (hx : ofOperand x = some X) (hi : ofOperand i = some I)
    (hk : arrSz P t = some (m, es)) (h : exIdxP m es (X.ev a) (I.ev a) = some v) : OpOk P n o a S nid v S := by
  refine .pure hd fun E w act hS hF => ?_
  have rx := ofOperand_ok hF hx
  have ri := ofOperand_ok hF hi
  unfold arrSz at hk
  split at hk
  · rename_i m' e hu
    simp only [Option.map_eq_some_iff, Prod.mk.injEq] at hk
    obtain ⟨ie, hie, rfl, rfl⟩ := hk
    have run : ∀ A ki q, act.eval x = .pointer (some A) → act.eval i = .int ki q → 0 ≤ q → q < (m' : Int) → (execOp act.eval o).run P w = .ok (.value (.pointer (some (A.add (q.toNat * ie.size))))) w := by
      intro A ki q h1 h2 h3 h4
      simp [execOp, hop, h1, h2, Instr.indexAt, asIntOf, run_underlying hu, Instr.sureAddr, h3, h4, run_sizeOf hie]
    unfold exIdxP at h
    split at h
    · rename_i id ix c ki q hxe hie2
      rw [hxe] at rx
      rw [hie2] at ri
      split at h
      · rename_i hc
        cases h
        generalize hev : act.eval x = av at rx
        cases rx with
        | ptr _ _ _ l hl =>
          refine ⟨_, run _ ki q hev ri.v_inv hc.1 hc.2, ?_⟩
          rw [addr_add, Nat.add_assoc]
          exact .ptr id ix _ l hl
      · cases h
    · rename_i y c ki q hxe hie2
      rw [hxe] at rx
      rw [hie2] at ri
      split at h
      · rename_i hc
        cases h
        generalize hev : act.eval x = av at rx
        cases rx with
        | eptr _ _ b p cs g hb hat hcc hr =>
          refine ⟨_, run _ ki q hev ri.v_inv hc.1 hc.2, ?_⟩
          rw [addr_add, Nat.add_assoc]
          exact .eptr y _ b p cs g hb hat hcc hr
      · cases h
    · cases h
  · cases hk
theorem ok_build {t : TypeId} {ps : Array (Nat × Operand)} {qs : List (Nat × Opd)} {rs : List (Nat × Nat)} {z : AV} {m : Nat} (hd : ∀ d, o.dst = some d → d < n) (hop : o.op = .build t ps)
    (hq : ps.toList.mapM (fun p => (ofOperand p.2).map fun x => (p.1, x)) = some qs) (hp : qs.mapM (fun q => placeOf P t q.1) = some rs) (hz : zeroOf P t = some (z, m)) (hk : fieldsKnown P t = true)
    (h : exBuild z (List.zipWith (fun r q => (r.1, r.2, q.2.ev a)) rs qs) = some v) : OpOk P n o a S nid v S := by
  refine .pure hd fun E w act hS hF => ?_
  obtain ⟨p1, p2⟩ := parts_ok hF hq
  have hm : rs.length = qs.length ∧ ∀ j (h1 : j < qs.length) (h2 : j < rs.length), placeOf P t (qs[j]).1 = some (rs[j]) := by
    clear h p1 p2 hq
    induction qs generalizing rs with
    | nil => simp at hp; subst hp; simp
    | cons q qs ih =>
      simp only [List.mapM_cons, Option.bind_eq_bind, Option.bind_eq_some_iff, Option.pure_def, Option.some.injEq] at hp
      obtain ⟨r, hr, rs', hrs, rfl⟩ := hp
      obtain ⟨a1, a2⟩ := ih hrs
      refine ⟨by simp [a1], fun j h1 h2 => ?_⟩
      cases j with
      | zero => exact hr
      | succ j => simpa using a2 j (by simpa using h1) (by simpa using h2)
  obtain ⟨m1, m2⟩ := hm
  let ps' := ps.map fun p => (p.1, act.eval p.2)
  obtain ⟨val, h1, h2⟩ := run_build (P := P) (E := E) (w := w) hz hk (ps := ps') (qs := List.zipWith (fun r q => (r.1, r.2, q.2.ev a)) rs qs) (by simp [ps', m1]; simpa using p1)
    (fun j hj hj' => by
      simp only [ps', Array.toList_map, List.length_map] at hj
      have hjq : j < qs.length := by omega
      obtain ⟨b1, b2⟩ := p2 j hj hjq
      simp only [ps', Array.toList_map, List.getElem_map, List.getElem_zipWith]
      exact ⟨by rw [b1]; exact m2 j hjq (by omega), b2⟩) h
  exact ⟨val, by simp only [execOp, hop]; simp only [ps'] at h1; simp [h1], h2⟩
end
end Go.Rf

