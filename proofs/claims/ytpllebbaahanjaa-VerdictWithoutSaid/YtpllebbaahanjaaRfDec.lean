import Derived.Test.YtpllebbaahanjaaRfR14
import Derived.Test.YtpllebbaahanjaaRfIn
/- Own work: what an argument of a type is, by a table of types that is checked at once; books. -/
set_option linter.unusedVariables false
set_option linter.unusedSimpArgs false
namespace Go.Rf
open Go.RowKit

def In64 (n : Int) : Prop := IntKind.i64.min ≤ n ∧ n ≤ IntKind.i64.max
def chkI (P : Program) (t : TypeId) : Bool := (match P.underlying t with | some (.int .i64) => true | _ => false) && Nat.beq (P.cellsOf t) 1
def chkB (P : Program) (t : TypeId) : Bool := (match P.underlying t with | some .bool => true | _ => false) && Nat.beq (P.cellsOf t) 1
def chkS (P : Program) (t : TypeId) : Bool := (match P.underlying t with | some .string => true | _ => false) && Nat.beq (P.cellsOf t) 1
def chkL (P : Program) (t e : TypeId) : Bool := (match P.underlying t with | some (.slice e') => Nat.beq e' e | _ => false) && (Nat.beq (P.cellsOf t) 1 && (decide (0 < P.cellsOf e) && decide (0 < P.bytesOf e)))
def chkF (P : Program) : Nat → List Field → List TypeId → Bool
  | _, [], [] => true
  | o, f :: fs, t :: ts => Nat.beq f.offset o && (Nat.beq f.type t && chkF P (o + P.cellsOf t) fs ts)
  | _, _, _ => false
def chkT (P : Program) (t : TypeId) (ts : List TypeId) : Bool := match P.underlying t with
  | some (.struct fs) => chkF P 0 fs.toList ts && Nat.beq (P.cellsOf t) ((fs.toList.map fun f => P.cellsOf f.type).sum)
  | _ => false
section
variable {P : Program}
theorem chkI_ok {t : TypeId} (h : chkI P t = true) (n : Nat) : DecF P n t encI In64 := by
  simp only [chkI, Bool.and_eq_true] at h
  obtain ⟨h1, h2⟩ := h
  split at h1
  · rename_i hu; exact DecF.int hu (Nat.eq_of_beq_eq_true h2) n
  · cases h1
theorem chkB_ok {t : TypeId} (h : chkB P t = true) (n : Nat) : DecF P n t encB (fun _ => True) := by
  simp only [chkB, Bool.and_eq_true] at h
  obtain ⟨h1, h2⟩ := h
  split at h1
  · rename_i hu; exact DecF.bool hu (Nat.eq_of_beq_eq_true h2) n
  · cases h1
theorem chkS_ok {t : TypeId} (h : chkS P t = true) (n : Nat) : DecF P n t encS LenS := by
  simp only [chkS, Bool.and_eq_true] at h
  obtain ⟨h1, h2⟩ := h
  split at h1
  · rename_i hu
    have hc := Nat.eq_of_beq_eq_true h2
    refine ⟨fun x _ => by simp [encS, AV.cells, hc], fun x _ y hy => by simp [encS, AV.cells] at hy; subst hy; rfl, fun eh w cs r hr hw => ?_⟩
    cases n with
    | zero => simp [DataW.trod] at hr
    | succ n =>
      unfold DataW.trod at hr
      rw [hu] at hr
      split at hr <;> simp_all
      rename_i bs
      obtain ⟨q1, q2⟩ := hr
      refine ⟨bs, ?_, fun j hj => ?_⟩
      · have hw2 := hw bs.data.toList.length (by rw [← q2]; simp [DataW.weights])
        unfold LenS
        have : bs.data.toList.length = bs.size := Array.length_toList
        rw [this] at hw2
        exact hw2
      · simp [encS, AV.cells] at hj
        subst hj
        exact ⟨_, rfl, .v _ rfl⟩
  · cases h1
theorem chkL_ok {X : Type} {enc : X → AV} {good : X → Prop} {t e : TypeId} (h : chkL P t e = true) (he : ∀ n, DecF P n e enc good) : ∀ n, DecF P n t (fun l : List X => .sl false (l.map enc)) (fun l => Len l ∧ ∀ x ∈ l, good x) := by
  simp only [chkL, Bool.and_eq_true, decide_eq_true_eq] at h
  obtain ⟨h1, h2, h3, h4⟩ := h
  have hc := Nat.eq_of_beq_eq_true h2
  intro n
  cases n with
  | zero => exact .zero (fun _ _ => by simp [AV.cells, hc]) (fun _ _ => by simp [AV.cells, AV.atom])
  | succ n =>
    split at h1
    · rename_i e' hu
      have := Nat.eq_of_beq_eq_true h1
      subst this
      exact DecF.slice hu hc h3 h4 (he n)
    · cases h1
/-- As chkL_ok, one step of fuel at a time. -/
theorem chkL_succ {X : Type} {enc : X → AV} {good : X → Prop} {t e : TypeId} (h : chkL P t e = true) {n : Nat} (he : DecF P n e enc good) : DecF P (n + 1) t (fun l : List X => .sl false (l.map enc)) (fun l => Len l ∧ ∀ x ∈ l, good x) := by
  simp only [chkL, Bool.and_eq_true, decide_eq_true_eq] at h
  obtain ⟨h1, h2, h3, h4⟩ := h
  have hc := Nat.eq_of_beq_eq_true h2
  split at h1
  · rename_i e' hu
    have := Nat.eq_of_beq_eq_true h1
    subst this
    exact DecF.slice hu hc h3 h4 he
  · cases h1
theorem chkL_zero {X : Type} {enc : X → AV} {good : List X → Prop} {t e : TypeId} (h : chkL P t e = true) : DecF P 0 t (fun l : List X => .sl false (l.map enc)) good := by
  simp only [chkL, Bool.and_eq_true, decide_eq_true_eq] at h
  have hc := Nat.eq_of_beq_eq_true h.2.1
  exact .zero (fun _ _ => by simp [AV.cells, hc]) (fun _ _ => by simp [AV.cells, AV.atom])
theorem chkF_nil {n o : Nat} (fs : List Field) (h : chkF P o fs [] = true) : DecR P n o fs (fun _ : Unit => []) (fun _ => True) := by
  cases fs with
  | nil => exact DecR.nil
  | cons f fs => simp [chkF] at h
theorem chkF_cons {n o : Nat} {t : TypeId} {ts : List TypeId} {X Y : Type} {e1 : X → AV} {g1 : X → Prop} {e2 : Y → List AV} {g2 : Y → Prop} (h1 : DecF P n t e1 g1) (h2 : ∀ fs, chkF P (o + P.cellsOf t) fs ts = true → DecR P n (o + P.cellsOf t) fs e2 g2)
    (fs : List Field) (h : chkF P o fs (t :: ts) = true) : DecR P n o fs (fun p : X × Y => (e1 p.1).cells ++ e2 p.2) (fun p => g1 p.1 ∧ g2 p.2) := by
  cases fs with
  | nil => simp [chkF] at h
  | cons f fs =>
    simp only [chkF, Bool.and_eq_true] at h
    obtain ⟨a, b, c⟩ := h
    have hb := Nat.eq_of_beq_eq_true b
    subst hb
    exact DecR.cons (Nat.eq_of_beq_eq_true a) h1 (h2 fs c)
theorem chkT_ok {t : TypeId} {ts : List TypeId} {n : Nat} {X : Type} {enc : X → List AV} {good : X → Prop} (h : chkT P t ts = true) (hR : ∀ fs, chkF P 0 fs ts = true → DecR P n 0 fs enc good) : DecF P (n + 1) t (fun x => .agg (enc x)) good := by
  unfold chkT at h
  split at h
  · rename_i fs hu
    simp only [Bool.and_eq_true] at h
    exact DecF.struct hu (Nat.eq_of_beq_eq_true h.2) (hR _ h.1)
  · cases h
theorem chkT_cells {t : TypeId} {ts : List TypeId} (h : chkT P t ts = true) : P.cellsOf t = (ts.map fun t => P.cellsOf t).sum := by
  unfold chkT at h
  split at h
  · rename_i fs hu
    simp only [Bool.and_eq_true] at h
    rw [Nat.eq_of_beq_eq_true h.2]
    have key : ∀ (o : Nat) (l : List Field) (ts : List TypeId), chkF P o l ts = true → l.map (fun f => P.cellsOf f.type) = ts.map fun t => P.cellsOf t := by
      intro o l
      induction l generalizing o with
      | nil => intro ts h; cases ts with
        | nil => rfl
        | cons t ts => simp [chkF] at h
      | cons f l ih => intro ts h; cases ts with
        | nil => simp [chkF] at h
        | cons t ts =>
          simp only [chkF, Bool.and_eq_true] at h
          rw [List.map_cons, List.map_cons, ih _ _ h.2.2, Nat.eq_of_beq_eq_true h.2.1]
    rw [key _ _ _ h.1]
  · cases h
theorem cellsI {t : TypeId} (h : chkI P t = true) : P.cellsOf t = 1 := by simp only [chkI, Bool.and_eq_true] at h; exact Nat.eq_of_beq_eq_true h.2
theorem cellsB {t : TypeId} (h : chkB P t = true) : P.cellsOf t = 1 := by simp only [chkB, Bool.and_eq_true] at h; exact Nat.eq_of_beq_eq_true h.2
theorem cellsS {t : TypeId} (h : chkS P t = true) : P.cellsOf t = 1 := by simp only [chkS, Bool.and_eq_true] at h; exact Nat.eq_of_beq_eq_true h.2
theorem cellsL {t e : TypeId} (h : chkL P t e = true) : P.cellsOf t = 1 := by simp only [chkL, Bool.and_eq_true] at h; exact Nat.eq_of_beq_eq_true h.2.1
/-! ### books -/
structure BTy where
  i : TypeId
  b : TypeId
  s : TypeId
  is : TypeId
  rg : TypeId
  rgs : TypeId
  p : TypeId
  ps : TypeId
  ru : TypeId
  rus : TypeId
  nd : TypeId
  nds : TypeId
  it : TypeId
  its : TypeId
  vr : TypeId
  vrs : TypeId
  ss : TypeId
  bk : TypeId
def chkPat (P : Program) (T : BTy) : Bool := chkI P T.i && chkL P T.is T.i && chkT P T.rg [T.i, T.i] && chkL P T.rgs T.rg && chkT P T.p [T.i, T.rgs, T.is, T.ps] && chkL P T.ps T.p
def chkBook (P : Program) (T : BTy) : Bool := chkPat P T && chkB P T.b && chkS P T.s && chkT P T.ru [T.i, T.b, T.p, T.p, T.i] && chkL P T.rus T.ru && chkT P T.nd [T.i, T.s, T.i, T.i, T.nds] && chkL P T.nds T.nd &&
  chkT P T.it [T.i, T.s, T.i, T.b, T.nd, T.nd, T.i] && chkL P T.its T.it && chkT P T.vr [T.s, T.p, T.b, T.i] && chkL P T.vrs T.vr && chkL P T.ss T.s && chkT P T.bk [T.vrs, T.rus, T.its, T.ss]
def goodRg (r : Rg) : Prop := In64 r.low ∧ In64 r.high
mutual
def okP : Pat → Prop
  | .mk k s g ks => In64 k ∧ (Len s ∧ ∀ r ∈ s, goodRg r) ∧ (Len g ∧ ∀ x ∈ g, In64 x) ∧ Len ks ∧ okPs ks
def okPs : List Pat → Prop
  | [] => True
  | p :: ps => okP p ∧ okPs ps
end
theorem okPs_iff : ∀ {ks : List Pat}, okPs ks ↔ ∀ q ∈ ks, okP q
  | [] => by simp [okPs]
  | p :: ps => by simp [okPs, okPs_iff (ks := ps)]
mutual
def okN : Nod → Prop
  | .mk k s a b ks => In64 k ∧ LenS s ∧ In64 a ∧ In64 b ∧ Len ks ∧ okNs ks
def okNs : List Nod → Prop
  | [] => True
  | p :: ps => okN p ∧ okNs ps
end
theorem okNs_iff : ∀ {ks : List Nod}, okNs ks ↔ ∀ q ∈ ks, okN q
  | [] => by simp [okNs]
  | p :: ps => by simp [okNs, okNs_iff (ks := ps)]
theorem decRg {T : BTy} (h : chkPat P T = true) : ∀ n, DecF P n T.rg encR goodRg := by
  simp only [chkPat, Bool.and_eq_true] at h
  obtain ⟨⟨⟨⟨⟨hi, his⟩, hrg⟩, hrgs⟩, hp⟩, hps⟩ := h
  intro n
  cases n with
  | zero => exact .zero (fun x _ => by rw [chkT_cells hrg]; simp [encR, AV.cells, cellsI hi]) (fun x _ y hy => by simp [encR, AV.cells] at hy; rcases hy with rfl | rfl <;> rfl)
  | succ n =>
    have hD := chkT_ok (n := n) hrg (chkF_cons (chkI_ok hi n) (chkF_cons (chkI_ok hi n) chkF_nil))
    exact hD.map encR goodRg (fun p => ⟨p.1, p.2.1⟩) (fun r => (r.low, r.high, ())) (fun x => by simp [encR, encI, AV.cells]) (fun x hx => ⟨hx.1, hx.2.1⟩) (fun y hy => ⟨⟨hy.1, hy.2, trivial⟩, by simp [encR, encI, AV.cells]⟩)
theorem decPat {T : BTy} (h : chkPat P T = true) : ∀ n, DecF P n T.p encPat okP ∧ DecF P n T.ps (fun l : List Pat => .sl false (l.map encPat)) (fun l => Len l ∧ ∀ x ∈ l, okP x) := by
  have hr := decRg h
  simp only [chkPat, Bool.and_eq_true] at h
  obtain ⟨⟨⟨⟨⟨hi, his⟩, hrg⟩, hrgs⟩, hp⟩, hps⟩ := h
  intro n
  induction n with
  | zero =>
    refine ⟨.zero (fun x _ => ?_) (fun x _ y hy => ?_), chkL_zero hps⟩
    · rw [chkT_cells hp]; simp [encPat_cells, cellsI hi, cellsL hrgs, cellsL his, cellsL hps]
    · obtain ⟨k, s, g, ks⟩ := x
      rw [encPat_eq] at hy
      simp only [AV.cells, List.mem_cons, List.not_mem_nil, or_false] at hy
      rcases hy with rfl | rfl | rfl | rfl <;> rfl
  | succ n ih =>
    refine ⟨?_, chkL_succ hps ih.1⟩
    have hD := chkT_ok (n := n) hp (chkF_cons (chkI_ok hi n) (chkF_cons (chkL_ok hrgs hr n) (chkF_cons (chkL_ok his (chkI_ok hi) n) (chkF_cons ih.2 chkF_nil))))
    refine hD.map encPat okP (fun p => .mk p.1 p.2.1 p.2.2.1 p.2.2.2.1) (fun p => (p.kind, p.set, p.signs, p.kids, ())) (fun x => ?_) (fun x hx => ?_) (fun y hy => ?_)
    · rw [encPat_eq]; simp [encI, encRs, encIs, AV.cells]
    · rw [okP, okPs_iff]; exact ⟨hx.1, hx.2.1, hx.2.2.1, hx.2.2.2.1.1, hx.2.2.2.1.2⟩
    · obtain ⟨k, s, g, ks⟩ := y
      rw [okP, okPs_iff] at hy
      exact ⟨⟨hy.1, hy.2.1, hy.2.2.1, ⟨hy.2.2.2.1, hy.2.2.2.2⟩, trivial⟩, by rw [encPat_eq]; simp [encI, encRs, encIs, AV.cells, Pat.kind, Pat.set, Pat.signs, Pat.kids]⟩
structure okRul (r : Rul) : Prop where
  num : In64 r.num
  b : okP r.before
  a : okP r.after
  pos : In64 r.pos
structure okItm (r : Itm) : Prop where
  kind : In64 r.kind
  name : LenS r.name
  num : In64 r.number
  b : okN r.before
  a : okN r.after
  pos : In64 r.pos
structure okVr (r : Vr) : Prop where
  name : LenS r.name
  pat : okP r.pat
  pos : In64 r.pos
structure okBook (x : Book) : Prop where
  v : Len x.vars ∧ ∀ v ∈ x.vars, okVr v
  r : Len x.rules ∧ ∀ r ∈ x.rules, okRul r
  a : Len x.allows ∧ ∀ i ∈ x.allows, okItm i
  u : Len x.used ∧ ∀ s ∈ x.used, LenS s
theorem atom_Pat (p : Pat) : ∀ y ∈ (encPat p).cells, y.atom = true := by
  obtain ⟨k, s, g, ks⟩ := p
  rw [encPat_eq]
  intro y hy
  simp only [AV.cells, List.mem_cons, List.not_mem_nil, or_false] at hy
  rcases hy with rfl | rfl | rfl | rfl <;> rfl
theorem atom_Nod (p : Nod) : ∀ y ∈ (encNod p).cells, y.atom = true := by
  obtain ⟨k, s, a, b, ks⟩ := p
  rw [encNod_eq]
  intro y hy
  simp only [AV.cells, List.mem_cons, List.not_mem_nil, or_false] at hy
  rcases hy with rfl | rfl | rfl | rfl | rfl <;> rfl
theorem decNod {T : BTy} (hi : chkI P T.i = true) (hs : chkS P T.s = true) (hn : chkT P T.nd [T.i, T.s, T.i, T.i, T.nds] = true) (hns : chkL P T.nds T.nd = true) :
    ∀ n, DecF P n T.nd encNod okN ∧ DecF P n T.nds (fun l : List Nod => .sl false (l.map encNod)) (fun l => Len l ∧ ∀ x ∈ l, okN x) := by
  intro n
  induction n with
  | zero =>
    refine ⟨.zero (fun x _ => ?_) (fun x _ => atom_Nod x), chkL_zero hns⟩
    rw [chkT_cells hn]; simp [encNod_cells, cellsI hi, cellsS hs, cellsL hns]
  | succ n ih =>
    refine ⟨?_, chkL_succ hns ih.1⟩
    have hD := chkT_ok (n := n) hn (chkF_cons (chkI_ok hi n) (chkF_cons (chkS_ok hs n) (chkF_cons (chkI_ok hi n) (chkF_cons (chkI_ok hi n) (chkF_cons ih.2 chkF_nil)))))
    refine hD.map encNod okN (fun p => .mk p.1 p.2.1 p.2.2.1 p.2.2.2.1 p.2.2.2.2.1) (fun p => match p with | .mk k s a b ks => (k, s, a, b, ks, ())) (fun x => ?_) (fun x hx => ?_) (fun y hy => ?_)
    · rw [encNod_eq]; simp [encI, encS, AV.cells]
    · rw [okN, okNs_iff]; exact ⟨hx.1, hx.2.1, hx.2.2.1, hx.2.2.2.1, hx.2.2.2.2.1.1, hx.2.2.2.2.1.2⟩
    · obtain ⟨k, s, a, b, ks⟩ := y
      rw [okN, okNs_iff] at hy
      exact ⟨⟨hy.1, hy.2.1, hy.2.2.1, hy.2.2.2.1, ⟨hy.2.2.2.2.1, hy.2.2.2.2.2⟩, trivial⟩, by rw [encNod_eq]; simp [encI, encS, AV.cells]⟩
theorem decRul {T : BTy} (h : chkPat P T = true) (hb : chkB P T.b = true) (hr : chkT P T.ru [T.i, T.b, T.p, T.p, T.i] = true) : ∀ n, DecF P n T.ru encRul okRul := by
  have hp := fun n => (decPat h n).1
  have hpc : P.cellsOf T.p = 4 := by have := (hp 0).size (.mk 0 [] [] []) (by simp [okP, okPs, In64, Len, IntKind.min, IntKind.max]; decide); rw [encPat_cells] at this; exact this.symm
  have hi : chkI P T.i = true := by simp only [chkPat, Bool.and_eq_true] at h; exact h.1.1.1.1.1
  intro n
  cases n with
  | zero =>
    refine .zero (fun x _ => ?_) (fun x _ y hy => ?_)
    · rw [chkT_cells hr, Rul_len]; simp [cellsI hi, cellsB hb, hpc]
    · unfold encRul at hy
      simp only [AV.cells, List.mem_append, List.mem_cons, List.not_mem_nil, or_false] at hy
      rcases hy with (((rfl | rfl) | hy) | hy) | rfl
      · rfl
      · rfl
      · exact atom_Pat _ _ hy
      · exact atom_Pat _ _ hy
      · rfl
  | succ n =>
    have hD := chkT_ok (n := n) hr (chkF_cons (chkI_ok hi n) (chkF_cons (chkB_ok hb n) (chkF_cons (hp n) (chkF_cons (hp n) (chkF_cons (chkI_ok hi n) chkF_nil)))))
    refine hD.map encRul okRul (fun p => ⟨p.1, p.2.1, p.2.2.1, p.2.2.2.1, p.2.2.2.2.1⟩) (fun r => (r.num, r.cut, r.before, r.after, r.pos, ())) (fun x => ?_) (fun x hx => ⟨hx.1, hx.2.2.1, hx.2.2.2.1, hx.2.2.2.2.1⟩) (fun y hy => ⟨⟨hy.num, trivial, hy.b, hy.a, hy.pos, trivial⟩, ?_⟩)
    · simp [encRul, encI, encB, AV.cells]
    · simp [encRul, encI, encB, AV.cells]
theorem decBook {T : BTy} (h : chkBook P T = true) : ∀ n, DecF P n T.bk encBook okBook := by
  simp only [chkBook, Bool.and_eq_true] at h
  obtain ⟨⟨⟨⟨⟨⟨⟨⟨⟨⟨⟨⟨hp, hb⟩, hs⟩, hru⟩, hrus⟩, hnd⟩, hnds⟩, hit⟩, hits⟩, hvr⟩, hvrs⟩, hss⟩, hbk⟩ := h
  have hi : chkI P T.i = true := by simp only [chkPat, Bool.and_eq_true] at hp; exact hp.1.1.1.1.1
  have dp := fun n => (decPat hp n).1
  have hpc : P.cellsOf T.p = 4 := by have := (dp 0).size (.mk 0 [] [] []) (by simp [okP, okPs, In64, Len, IntKind.min, IntKind.max]; decide); rw [encPat_cells] at this; exact this.symm
  have dr := decRul hp hb hru
  have dn := fun n => (decNod hi hs hnd hnds n).1
  have hnc : P.cellsOf T.nd = 5 := by rw [chkT_cells hnd]; simp [cellsI hi, cellsS hs, cellsL hnds]
  have di : ∀ n, DecF P n T.it encItm okItm := by
    intro n
    cases n with
    | zero =>
      refine .zero (fun x _ => ?_) (fun x _ y hy => ?_)
      · rw [chkT_cells hit]; simp [encItm, AV.cells, encNod_cells, cellsI hi, cellsB hb, cellsS hs, hnc]
        have := encNod_cells x.before; have := encNod_cells x.after; simp only [AV.cells] at *; omega
      · unfold encItm at hy
        simp only [AV.cells, List.mem_append, List.mem_cons, List.not_mem_nil, or_false] at hy
        rcases hy with (((rfl | rfl | rfl | rfl) | hy) | hy) | rfl
        · rfl
        · rfl
        · rfl
        · rfl
        · exact atom_Nod _ _ hy
        · exact atom_Nod _ _ hy
        · rfl
    | succ n =>
      have hD := chkT_ok (n := n) hit (chkF_cons (chkI_ok hi n) (chkF_cons (chkS_ok hs n) (chkF_cons (chkI_ok hi n) (chkF_cons (chkB_ok hb n) (chkF_cons (dn n) (chkF_cons (dn n) (chkF_cons (chkI_ok hi n) chkF_nil)))))))
      refine hD.map encItm okItm (fun p => ⟨p.1, p.2.1, p.2.2.1, p.2.2.2.1, p.2.2.2.2.1, p.2.2.2.2.2.1, p.2.2.2.2.2.2.1⟩) (fun r => (r.kind, r.name, r.number, r.cut, r.before, r.after, r.pos, ())) (fun x => ?_)
        (fun x hx => ⟨hx.1, hx.2.1, hx.2.2.1, hx.2.2.2.2.1, hx.2.2.2.2.2.1, hx.2.2.2.2.2.2.1⟩) (fun y hy => ⟨⟨hy.kind, hy.name, hy.num, trivial, hy.b, hy.a, hy.pos, trivial⟩, ?_⟩)
      · simp [encItm, encI, encB, encS, AV.cells]
      · simp [encItm, encI, encB, encS, AV.cells]
  have dv : ∀ n, DecF P n T.vr encVr okVr := by
    intro n
    cases n with
    | zero =>
      refine .zero (fun x _ => ?_) (fun x _ y hy => ?_)
      · rw [chkT_cells hvr]; simp [encVr, AV.cells, cellsI hi, cellsB hb, cellsS hs, hpc]
        have := encPat_cells x.pat; simp only [AV.cells] at *; omega
      · unfold encVr at hy
        simp only [AV.cells, List.mem_append, List.mem_cons, List.not_mem_nil, or_false] at hy
        rcases hy with (rfl | hy) | rfl | rfl
        · rfl
        · exact atom_Pat _ _ hy
        · rfl
        · rfl
    | succ n =>
      have hD := chkT_ok (n := n) hvr (chkF_cons (chkS_ok hs n) (chkF_cons (dp n) (chkF_cons (chkB_ok hb n) (chkF_cons (chkI_ok hi n) chkF_nil))))
      refine hD.map encVr okVr (fun p => ⟨p.1, p.2.1, p.2.2.1, p.2.2.2.1⟩) (fun r => (r.name, r.pat, r.set, r.pos, ())) (fun x => ?_) (fun x hx => ⟨hx.1, hx.2.1, hx.2.2.2.1⟩) (fun y hy => ⟨⟨hy.name, hy.pat, trivial, hy.pos, trivial⟩, ?_⟩)
      · simp [encVr, encI, encB, encS, AV.cells]
      · simp [encVr, encI, encB, encS, AV.cells]
  intro n
  cases n with
  | zero =>
    refine .zero (fun x _ => ?_) (fun x _ y hy => ?_)
    · rw [chkT_cells hbk]; simp [encBook, encBk, AV.cells, cellsL hvrs, cellsL hrus, cellsL hits, cellsL hss]
    · simp only [encBook, encBk, Book.bk, AV.cells, List.mem_cons, List.not_mem_nil, or_false] at hy
      rcases hy with rfl | rfl | rfl | rfl <;> rfl
  | succ n =>
    have hD := chkT_ok (n := n) hbk (chkF_cons (chkL_ok hvrs dv n) (chkF_cons (chkL_ok hrus dr n) (chkF_cons (chkL_ok hits di n) (chkF_cons (chkL_ok hss (chkS_ok hs) n) chkF_nil))))
    exact hD.map encBook okBook (fun p => ⟨p.1, p.2.1, p.2.2.1, p.2.2.2.1⟩) (fun r => (r.vars, r.rules, r.allows, r.used, ())) (fun x => by simp [encBook, encBk, Book.bk, AV.cells]) (fun x hx => ⟨hx.1, hx.2.1, hx.2.2.1, hx.2.2.2.1⟩)
      (fun y hy => ⟨⟨hy.v, hy.r, hy.a, hy.u, trivial⟩, by simp [encBook, encBk, Book.bk, AV.cells]⟩)
end
mutual
theorem okP.good : ∀ {p : Pat}, okP p → goodP p
  | .mk k s g ks, h => by simp only [okP] at h; simp only [goodP]; exact ⟨h.2.1.1, h.2.2.1.1, h.2.2.2.1, okPs.good h.2.2.2.2⟩
theorem okPs.good : ∀ {ks : List Pat}, okPs ks → goodPs ks
  | [], _ => trivial
  | p :: ps, h => by simp only [okPs] at h; exact ⟨okP.good h.1, okPs.good h.2⟩
end
mutual
theorem okN.good : ∀ {p : Nod}, okN p → goodN p
  | .mk k s a b ks, h => by simp only [okN] at h; simp only [goodN]; exact ⟨h.2.1, h.2.2.2.2.1, okNs.good h.2.2.2.2.2⟩
theorem okNs.good : ∀ {ks : List Nod}, okNs ks → goodNs ks
  | [], _ => trivial
  | p :: ps, h => by simp only [okNs] at h; exact ⟨okN.good h.1, okNs.good h.2⟩
end
theorem okBook.good {x : Book} (h : okBook x) : goodBook x :=
  ⟨⟨h.v.1, fun v hv => ⟨(h.v.2 v hv).name, (h.v.2 v hv).pat.good⟩⟩, ⟨h.r.1, fun v hv => ⟨(h.r.2 v hv).b.good, (h.r.2 v hv).a.good⟩⟩,
    ⟨h.a.1, fun v hv => ⟨(h.a.2 v hv).name, (h.a.2 v hv).b.good, (h.a.2 v hv).a.good⟩⟩, h.u⟩
end Go.Rf

