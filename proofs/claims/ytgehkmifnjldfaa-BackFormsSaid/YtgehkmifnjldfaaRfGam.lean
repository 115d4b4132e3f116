import Derived.Test.YtgehkmifnjldfaaRfW9
import Derived.Test.YtgehkmifnjldfaaRfNew
import Derived.Lib.LaidTab
import Derived.Lib.ItoaNum
/- Own work: whether a book is more than is looked at. -/
set_option linter.unusedVariables false
set_option linter.unusedSimpArgs false
namespace Go.Rf
open Go.RowKit

structure Vr where
  name : ByteArray
  pat : Pat
  set : Bool
  pos : Int
structure Itm where
  kind : Int
  name : ByteArray
  number : Int
  cut : Bool
  before : Nod
  after : Nod
  pos : Int
structure Book where
  vars : List Vr
  rules : List Rul
  allows : List Itm
  used : List ByteArray
def encVr (v : Vr) : AV := .agg ([encS v.name] ++ (encPat v.pat).cells ++ [encB v.set, encI v.pos])
def encItm (v : Itm) : AV := .agg ([encI v.kind, encS v.name, encI v.number, encB v.cut] ++ (encNod v.before).cells ++ (encNod v.after).cells ++ [encI v.pos])
theorem encVr_7 (v : Vr) : ∃ x1 x2 x3 x4 : AV, encPat v.pat = .agg [x1, x2, x3, x4] ∧ encVr v = .agg [encS v.name, x1, x2, x3, x4, encB v.set, encI v.pos] := by
  obtain ⟨x1, x2, x3, x4, h⟩ := encPat_4 v.pat
  exact ⟨x1, x2, x3, x4, h, by unfold encVr; rw [h]; rfl⟩
theorem cl_all {cs : List AV} (h : Closed (.agg cs)) : ∀ y ∈ cs, Closed y := by cases h with | agg _ h => exact h
theorem closed_Vr (v : Vr) : Closed (encVr v) := by
  obtain ⟨x1, x2, x3, x4, h, k⟩ := encVr_7 v
  have hc := closed_Pat v.pat
  rw [h] at hc
  have := cl_all hc
  rw [k]
  refine .agg _ (fun y hy => ?_)
  simp only [List.mem_cons, List.not_mem_nil, or_false] at hy
  rcases hy with rfl | rfl | rfl | rfl | rfl | rfl | rfl
  · exact closed_S _
  · exact this _ (by simp)
  · exact this _ (by simp)
  · exact this _ (by simp)
  · exact this _ (by simp)
  · exact Z2o _
  · exact Z2r _
theorem closed_Itm (v : Itm) : Closed (encItm v) := by
  unfold encItm
  refine .agg _ (fun y hy => ?_)
  simp only [List.mem_append, List.mem_cons, List.not_mem_nil, or_false] at hy
  rcases hy with (((rfl | rfl | rfl | rfl) | hy) | hy) | rfl
  · exact Z2r _
  · exact closed_S _
  · exact Z2r _
  · exact Z2o _
  · exact (closed_Nod v.before).cells y hy
  · exact (closed_Nod v.after).cells y hy
  · exact Z2r _
def Book.bk (x : Book) : Bk := ⟨.sl false (x.vars.map encVr), x.rules, .sl false (x.allows.map encItm), .sl false (x.used.map encS)⟩
theorem Book.ok (x : Book) : BkOk x.bk := ⟨closed_map closed_Vr _, closed_map closed_Itm _, closed_map closed_S _, rfl, rfl, rfl⟩
def encBook (x : Book) : AV := encBk x.bk
structure goodBook (x : Book) : Prop where
  v : Len x.vars ∧ ∀ v ∈ x.vars, LenS v.name ∧ goodP v.pat
  r : Len x.rules ∧ ∀ r ∈ x.rules, goodP r.before ∧ goodP r.after
  a : Len x.allows ∧ ∀ i ∈ x.allows, LenS i.name ∧ goodN i.before ∧ goodN i.after
  u : Len x.used ∧ ∀ s ∈ x.used, LenS s
structure GbS (x : Book) (most : Int) (f : AF) (S : St) : Prop where
  e1 : f 1 = encI most
  e2 : f 2 = .ptr 0 0 0
  g0 : S.g 0 = some (.arr 4 [encBook x])
end Go.Rf


/- Own work: what an argument of a type is, by a table of types that is checked at once; books. -/
set_option linter.unusedVariables false
set_option linter.unusedSimpArgs false
namespace Go.Rf
open Go.RowKit

def In64 (n : Int) : Prop := IntKind.i64.min ≤ n ∧ n ≤ IntKind.i64.max
def chkI (P : Program) (t : TypeId) : Bool := (match P.underlying t with | some (.int .i64) => true | _ => false) && Nat.beq (P.cellsOf t) 1
def chkL (P : Program) (t e : TypeId) : Bool := (match P.underlying t with | some (.slice e') => Nat.beq e' e | _ => false) && (Nat.beq (P.cellsOf t) 1 && (decide (0 < P.cellsOf e) && decide (0 < P.bytesOf e)))
def chkF (P : Program) : Nat → List Field → List TypeId → Bool
  | _, [], [] => true
  | o, f :: fs, t :: ts => Nat.beq f.offset o && (Nat.beq f.type t && chkF P (o + P.cellsOf t) fs ts)
  | _, _, _ => false
def chkT (P : Program) (t : TypeId) (ts : List TypeId) : Bool := match P.underlying t with
  | some (.struct fs) => chkF P 0 fs.toList ts && Nat.beq (P.cellsOf t) ((fs.toList.map fun f => P.cellsOf f.type).sum)
  | _ => false
section
variable {P : Program}
theorem chkI_ok {t : TypeId} (h : chkI P t = true) (n : Nat) : DecF P n t encI In64 := by
  simp only [chkI, Bool.and_eq_true] at h
  obtain ⟨h1, h2⟩ := h
  split at h1
  · rename_i hu; exact DecF.int hu (Nat.eq_of_beq_eq_true h2) n
  · cases h1
theorem chkL_ok {X : Type} {enc : X → AV} {good : X → Prop} {t e : TypeId} (h : chkL P t e = true) (he : ∀ n, DecF P n e enc good) : ∀ n, DecF P n t (fun l : List X => .sl false (l.map enc)) (fun l => Len l ∧ ∀ x ∈ l, good x) := by
  simp only [chkL, Bool.and_eq_true, decide_eq_true_eq] at h
  obtain ⟨h1, h2, h3, h4⟩ := h
  have hc := Nat.eq_of_beq_eq_true h2
  intro n
  cases n with
  | zero => exact .zero (fun _ _ => by simp [AV.cells, hc]) (fun _ _ => by simp [AV.cells, AV.atom])
  | succ n =>
    split at h1
    · rename_i e' hu
      have := Nat.eq_of_beq_eq_true h1
      subst this
      exact DecF.slice hu hc h3 h4 (he n)
    · cases h1
/-- As chkL_ok, one step of fuel at a time. -/
theorem chkL_succ {X : Type} {enc : X → AV} {good : X → Prop} {t e : TypeId} (h : chkL P t e = true) {n : Nat} (he : DecF P n e enc good) : DecF P (n + 1) t (fun l : List X => .sl false (l.map enc)) (fun l => Len l ∧ ∀ x ∈ l, good x) := by
  simp only [chkL, Bool.and_eq_true, decide_eq_true_eq] at h
  obtain ⟨h1, h2, h3, h4⟩ := h
  have hc := Nat.eq_of_beq_eq_true h2
  split at h1
  · rename_i e' hu
    have := Nat.eq_of_beq_eq_true h1
    subst this
    exact DecF.slice hu hc h3 h4 he
  · cases h1
theorem chkL_zero {X : Type} {enc : X → AV} {good : List X → Prop} {t e : TypeId} (h : chkL P t e = true) : DecF P 0 t (fun l : List X => .sl false (l.map enc)) good := by
  simp only [chkL, Bool.and_eq_true, decide_eq_true_eq] at h
  have hc := Nat.eq_of_beq_eq_true h.2.1
  exact .zero (fun _ _ => by simp [AV.cells, hc]) (fun _ _ => by simp [AV.cells, AV.atom])
theorem chkF_nil {n o : Nat} (fs : List Field) (h : chkF P o fs [] = true) : DecR P n o fs (fun _ : Unit => []) (fun _ => True) := by
  cases fs with
  | nil => exact DecR.nil
  | cons f fs => simp [chkF] at h
theorem chkF_cons {n o : Nat} {t : TypeId} {ts : List TypeId} {X Y : Type} {e1 : X → AV} {g1 : X → Prop} {e2 : Y → List AV} {g2 : Y → Prop} (h1 : DecF P n t e1 g1) (h2 : ∀ fs, chkF P (o + P.cellsOf t) fs ts = true → DecR P n (o + P.cellsOf t) fs e2 g2)
    (fs : List Field) (h : chkF P o fs (t :: ts) = true) : DecR P n o fs (fun p : X × Y => (e1 p.1).cells ++ e2 p.2) (fun p => g1 p.1 ∧ g2 p.2) := by
  cases fs with
  | nil => simp [chkF] at h
  | cons f fs =>
    simp only [chkF, Bool.and_eq_true] at h
    obtain ⟨a, b, c⟩ := h
    have hb := Nat.eq_of_beq_eq_true b
    subst hb
    exact DecR.cons (Nat.eq_of_beq_eq_true a) h1 (h2 fs c)
theorem chkT_ok {t : TypeId} {ts : List TypeId} {n : Nat} {X : Type} {enc : X → List AV} {good : X → Prop} (h : chkT P t ts = true) (hR : ∀ fs, chkF P 0 fs ts = true → DecR P n 0 fs enc good) : DecF P (n + 1) t (fun x => .agg (enc x)) good := by
  unfold chkT at h
  split at h
  · rename_i fs hu
    simp only [Bool.and_eq_true] at h
    exact DecF.struct hu (Nat.eq_of_beq_eq_true h.2) (hR _ h.1)
  · cases h
theorem chkT_cells {t : TypeId} {ts : List TypeId} (h : chkT P t ts = true) : P.cellsOf t = (ts.map fun t => P.cellsOf t).sum := by
  unfold chkT at h
  split at h
  · rename_i fs hu
    simp only [Bool.and_eq_true] at h
    rw [Nat.eq_of_beq_eq_true h.2]
    have key : ∀ (o : Nat) (l : List Field) (ts : List TypeId), chkF P o l ts = true → l.map (fun f => P.cellsOf f.type) = ts.map fun t => P.cellsOf t := by
      intro o l
      induction l generalizing o with
      | nil => intro ts h; cases ts with
        | nil => rfl
        | cons t ts => simp [chkF] at h
      | cons f l ih => intro ts h; cases ts with
        | nil => simp [chkF] at h
        | cons t ts =>
          simp only [chkF, Bool.and_eq_true] at h
          rw [List.map_cons, List.map_cons, ih _ _ h.2.2, Nat.eq_of_beq_eq_true h.2.1]
    rw [key _ _ _ h.1]
  · cases h
theorem cellsI {t : TypeId} (h : chkI P t = true) : P.cellsOf t = 1 := by simp only [chkI, Bool.and_eq_true] at h; exact Nat.eq_of_beq_eq_true h.2
theorem cellsL {t e : TypeId} (h : chkL P t e = true) : P.cellsOf t = 1 := by simp only [chkL, Bool.and_eq_true] at h; exact Nat.eq_of_beq_eq_true h.2.1
/-! ### books -/
structure BTy where
  i : TypeId
  b : TypeId
  s : TypeId
  is : TypeId
  rg : TypeId
  rgs : TypeId
  p : TypeId
  ps : TypeId
  ru : TypeId
  rus : TypeId
  nd : TypeId
  nds : TypeId
  it : TypeId
  its : TypeId
  vr : TypeId
  vrs : TypeId
  ss : TypeId
  bk : TypeId
def chkPat (P : Program) (T : BTy) : Bool := chkI P T.i && chkL P T.is T.i && chkT P T.rg [T.i, T.i] && chkL P T.rgs T.rg && chkT P T.p [T.i, T.rgs, T.is, T.ps] && chkL P T.ps T.p
def goodRg (r : Rg) : Prop := In64 r.low ∧ In64 r.high
mutual
def okP : Pat → Prop
  | .mk k s g ks => In64 k ∧ (Len s ∧ ∀ r ∈ s, goodRg r) ∧ (Len g ∧ ∀ x ∈ g, In64 x) ∧ Len ks ∧ okPs ks
def okPs : List Pat → Prop
  | [] => True
  | p :: ps => okP p ∧ okPs ps
end
theorem okPs_iff : ∀ {ks : List Pat}, okPs ks ↔ ∀ q ∈ ks, okP q
  | [] => by simp [okPs]
  | p :: ps => by simp [okPs, okPs_iff (ks := ps)]
mutual
def okNd : Nod → Prop
  | .mk k s a b ks => In64 k ∧ LenS s ∧ In64 a ∧ In64 b ∧ Len ks ∧ okNs ks
def okNs : List Nod → Prop
  | [] => True
  | p :: ps => okNd p ∧ okNs ps
end
theorem decRg {T : BTy} (h : chkPat P T = true) : ∀ n, DecF P n T.rg encR goodRg := by
  simp only [chkPat, Bool.and_eq_true] at h
  obtain ⟨⟨⟨⟨⟨hi, his⟩, hrg⟩, hrgs⟩, hp⟩, hps⟩ := h
  intro n
  cases n with
  | zero => exact .zero (fun x _ => by rw [chkT_cells hrg]; simp [encR, AV.cells, cellsI hi]) (fun x _ y hy => by simp [encR, AV.cells] at hy; rcases hy with rfl | rfl <;> rfl)
  | succ n =>
    have hD := chkT_ok (n := n) hrg (chkF_cons (chkI_ok hi n) (chkF_cons (chkI_ok hi n) chkF_nil))
    exact hD.map encR goodRg (fun p => ⟨p.1, p.2.1⟩) (fun r => (r.low, r.high, ())) (fun x => by simp [encR, encI, AV.cells]) (fun x hx => ⟨hx.1, hx.2.1⟩) (fun y hy => ⟨⟨hy.1, hy.2, trivial⟩, by simp [encR, encI, AV.cells]⟩)
theorem decPat {T : BTy} (h : chkPat P T = true) : ∀ n, DecF P n T.p encPat okP ∧ DecF P n T.ps (fun l : List Pat => .sl false (l.map encPat)) (fun l => Len l ∧ ∀ x ∈ l, okP x) := by
  have hr := decRg h
  simp only [chkPat, Bool.and_eq_true] at h
  obtain ⟨⟨⟨⟨⟨hi, his⟩, hrg⟩, hrgs⟩, hp⟩, hps⟩ := h
  intro n
  induction n with
  | zero =>
    refine ⟨.zero (fun x _ => ?_) (fun x _ y hy => ?_), chkL_zero hps⟩
    · rw [chkT_cells hp]; simp [encPat_cells, cellsI hi, cellsL hrgs, cellsL his, cellsL hps]
    · obtain ⟨k, s, g, ks⟩ := x
      rw [encPat_eq] at hy
      simp only [AV.cells, List.mem_cons, List.not_mem_nil, or_false] at hy
      rcases hy with rfl | rfl | rfl | rfl <;> rfl
  | succ n ih =>
    refine ⟨?_, chkL_succ hps ih.1⟩
    have hD := chkT_ok (n := n) hp (chkF_cons (chkI_ok hi n) (chkF_cons (chkL_ok hrgs hr n) (chkF_cons (chkL_ok his (chkI_ok hi) n) (chkF_cons ih.2 chkF_nil))))
    refine hD.map encPat okP (fun p => .mk p.1 p.2.1 p.2.2.1 p.2.2.2.1) (fun p => (p.kind, p.set, p.signs, p.kids, ())) (fun x => ?_) (fun x hx => ?_) (fun y hy => ?_)
    · rw [encPat_eq]; simp [encI, encRs, encIs, AV.cells]
    · rw [okP, okPs_iff]; exact ⟨hx.1, hx.2.1, hx.2.2.1, hx.2.2.2.1.1, hx.2.2.2.1.2⟩
    · obtain ⟨k, s, g, ks⟩ := y
      rw [okP, okPs_iff] at hy
      exact ⟨⟨hy.1, hy.2.1, hy.2.2.1, ⟨hy.2.2.2.1, hy.2.2.2.2⟩, trivial⟩, by rw [encPat_eq]; simp [encI, encRs, encIs, AV.cells, Pat.kind, Pat.set, Pat.signs, Pat.kids]⟩
structure okRul (r : Rul) : Prop where
  num : In64 r.num
  b : okP r.before
  a : okP r.after
  pos : In64 r.pos
structure okItm (r : Itm) : Prop where
  kind : In64 r.kind
  name : LenS r.name
  num : In64 r.number
  b : okNd r.before
  a : okNd r.after
  pos : In64 r.pos
structure okVr (r : Vr) : Prop where
  name : LenS r.name
  pat : okP r.pat
  pos : In64 r.pos
structure okBook (x : Book) : Prop where
  v : Len x.vars ∧ ∀ v ∈ x.vars, okVr v
  r : Len x.rules ∧ ∀ r ∈ x.rules, okRul r
  a : Len x.allows ∧ ∀ i ∈ x.allows, okItm i
  u : Len x.used ∧ ∀ s ∈ x.used, LenS s
end
mutual
theorem okP.good : ∀ {p : Pat}, okP p → goodP p
  | .mk k s g ks, h => by simp only [okP] at h; simp only [goodP]; exact ⟨h.2.1.1, h.2.2.1.1, h.2.2.2.1, okPs.good h.2.2.2.2⟩
theorem okPs.good : ∀ {ks : List Pat}, okPs ks → goodPs ks
  | [], _ => trivial
  | p :: ps, h => by simp only [okPs] at h; exact ⟨okP.good h.1, okPs.good h.2⟩
end
mutual
theorem okNd.good : ∀ {p : Nod}, okNd p → goodN p
  | .mk k s a b ks, h => by simp only [okNd] at h; simp only [goodN]; exact ⟨h.2.1, h.2.2.2.2.1, okNs.good h.2.2.2.2.2⟩
theorem okNs.good : ∀ {ks : List Nod}, okNs ks → goodNs ks
  | [], _ => trivial
  | p :: ps, h => by simp only [okNs] at h; exact ⟨okNd.good h.1, okNs.good h.2⟩
end
theorem okBook.good {x : Book} (h : okBook x) : goodBook x :=
  ⟨⟨h.v.1, fun v hv => ⟨(h.v.2 v hv).name, (h.v.2 v hv).pat.good⟩⟩, ⟨h.r.1, fun v hv => ⟨(h.r.2 v hv).b.good, (h.r.2 v hv).a.good⟩⟩,
    ⟨h.a.1, fun v hv => ⟨(h.a.2 v hv).name, (h.a.2 v hv).b.good, (h.a.2 v hv).a.good⟩⟩, h.u⟩
theorem DecF.arr {P : Program} {t e : TypeId} {n fuel : Nat} {X : Type} {enc : X → AV} {good : X → Prop} (ht : P.underlying t = some (.array n e)) (hc : P.cellsOf t = n) (he : P.cellsOf e = 1) (hat : ∀ x, (enc x).atom = true) (h : DecF P fuel e enc good) :
    DecF P (fuel + 1) t (fun l : List X => .agg (l.map enc)) (fun l => l.length = n ∧ ∀ x ∈ l, good x) := by
  refine ⟨fun x hx => by simp [AV.cells, hc, hx.1], fun x hx y hy => ?_, fun eh w cs r hr hw => ?_⟩
  · simp only [AV.cells] at hy
    obtain ⟨z, _, rfl⟩ := List.mem_map.mp hy
    exact hat z
  · unfold DataW.trod at hr
    rw [ht] at hr
    have hr' : (if cs.length = P.cellsOf t then ((List.range n).mapM fun i => DataW.trod eh P w 0 (fun _ => true) true fuel e ((cs.drop (i * P.cellsOf e)).take (P.cellsOf e))).map fun xs => (DataW.agg (xs.map (·.1)), xs.flatMap (·.2)) else none) = some r := by
      revert hr
      split <;> simp_all
    clear hr
    split at hr'
    · rename_i hlen
      simp only [Option.map_eq_some_iff] at hr'
      obtain ⟨ds, hds, hr2⟩ := hr'
      obtain ⟨hdl, hget⟩ := mapM_get hds
      rw [List.length_range] at hdl
      have hw2 : ∀ i (hi : i < ds.length), lightB P e (ds[i]).1 := by
        intro i hi k hk
        refine hw k ?_
        rw [← hr2]
        simp only [DataW.weights, ht]
        have key : ∀ (l : List (DataW _ × List MemPlace)), ds[i] ∈ l → k ∈ DataW.weightsAll P e (l.map (·.1)) := by
          intro l hl
          induction l with
          | nil => simp at hl
          | cons d l ih =>
            simp only [List.map_cons, DataW.weightsAll, List.mem_append]
            rcases List.mem_cons.mp hl with rfl | hl
            · exact .inl hk
            · exact .inr (ih hl)
        exact key ds (List.getElem_mem hi)
      obtain ⟨l, hll, hq⟩ := forall_choose (X := X) (Q := fun i x => good x ∧ ∃ v, cs[i]? = some v ∧ Rep (E0 w) (enc x) v) n (by
        intro i hi
        obtain ⟨j, h1, h2⟩ := hget i (by omega)
        rw [List.getElem?_range hi] at h1
        cases h1
        obtain ⟨x, g1, g2, g3⟩ := h.run eh w _ _ h2 (hw2 i (by omega))
        have hcx := AV.cells_atom (hat x)
        obtain ⟨v, g4, g5⟩ := g3 0 (by rw [hcx]; simp)
        refine ⟨x, g1, v, ?_, ?_⟩
        · rw [he, List.getElem?_take, if_pos (by omega), List.getElem?_drop] at g4
          simpa using g4
        · simpa [hcx] using g5)
      refine ⟨l, ⟨hll, fun x hx => ?_⟩, hlen, fun k hk => ?_⟩
      · obtain ⟨i, hi, rfl⟩ := List.mem_iff_getElem.mp hx
        exact (hq i hi).1
      · have hk' : k < l.length := by simpa [AV.cells] using hk
        obtain ⟨_, v, g1, g2⟩ := hq k hk'
        exact ⟨v, g1, by simpa [AV.cells] using g2⟩
    · cases hr'
end Go.Rf


/- Own work: the library's tables, out of what a row lists. -/
set_option linter.unusedVariables false
namespace Go.Rf
open Go.RowKit
theorem gam_none {P : Program} (h : P.globalNamed "internal/strconv.uint64pow10" = none) (H : Nat → Option (Array Value)) : Gam P H := by
  intro t ht g hg
  simp only [gtabs, List.mem_singleton] at ht
  subst ht
  rw [h] at hg; cases hg
end Go.Rf

