import Derived.Test.YtidkjfaeolfcaaaGreatRfR14
import Derived.Test.YtidkjfaeolfcaaaGreatRfIn
import Derived.Lib.LaidTab
import Derived.Lib.ItoaNum
/- Own work: what an argument of a type is, by a table of types that is checked at once; books. -/
set_option linter.unusedVariables false
set_option linter.unusedSimpArgs false
namespace Go.Rf
open Go.RowKit

def In64 (n : Int) : Prop := IntKind.i64.min ≤ n ∧ n ≤ IntKind.i64.max
def chkI (P : Program) (t : TypeId) : Bool := (match P.underlying t with | some (.int .i64) => true | _ => false) && Nat.beq (P.cellsOf t) 1
def chkB (P : Program) (t : TypeId) : Bool := (match P.underlying t with | some .bool => true | _ => false) && Nat.beq (P.cellsOf t) 1
def chkL (P : Program) (t e : TypeId) : Bool := (match P.underlying t with | some (.slice e') => Nat.beq e' e | _ => false) && (Nat.beq (P.cellsOf t) 1 && (decide (0 < P.cellsOf e) && decide (0 < P.bytesOf e)))
def chkF (P : Program) : Nat → List Field → List TypeId → Bool
  | _, [], [] => true
  | o, f :: fs, t :: ts => Nat.beq f.offset o && (Nat.beq f.type t && chkF P (o + P.cellsOf t) fs ts)
  | _, _, _ => false
def chkT (P : Program) (t : TypeId) (ts : List TypeId) : Bool := match P.underlying t with
  | some (.struct fs) => chkF P 0 fs.toList ts && Nat.beq (P.cellsOf t) ((fs.toList.map fun f => P.cellsOf f.type).sum)
  | _ => false
section
variable {P : Program}
theorem chkI_ok {t : TypeId} (h : chkI P t = true) (n : Nat) : DecF P n t encI In64 := by
  simp only [chkI, Bool.and_eq_true] at h
  obtain ⟨h1, h2⟩ := h
  split at h1
  · rename_i hu; exact DecF.int hu (Nat.eq_of_beq_eq_true h2) n
  · cases h1
theorem chkB_ok {t : TypeId} (h : chkB P t = true) (n : Nat) : DecF P n t encB (fun _ => True) := by
  simp only [chkB, Bool.and_eq_true] at h
  obtain ⟨h1, h2⟩ := h
  split at h1
  · rename_i hu; exact DecF.bool hu (Nat.eq_of_beq_eq_true h2) n
  · cases h1
theorem chkL_ok {X : Type} {enc : X → AV} {good : X → Prop} {t e : TypeId} (h : chkL P t e = true) (he : ∀ n, DecF P n e enc good) : ∀ n, DecF P n t (fun l : List X => .sl false (l.map enc)) (fun l => Len l ∧ ∀ x ∈ l, good x) := by
  simp only [chkL, Bool.and_eq_true, decide_eq_true_eq] at h
  obtain ⟨h1, h2, h3, h4⟩ := h
  have hc := Nat.eq_of_beq_eq_true h2
  intro n
  cases n with
  | zero => exact .zero (fun _ _ => by simp [AV.cells, hc]) (fun _ _ => by simp [AV.cells, AV.atom])
  | succ n =>
    split at h1
    · rename_i e' hu
      have := Nat.eq_of_beq_eq_true h1
      subst this
      exact DecF.slice hu hc h3 h4 (he n)
    · cases h1
theorem chkF_nil {n o : Nat} (fs : List Field) (h : chkF P o fs [] = true) : DecR P n o fs (fun _ : Unit => []) (fun _ => True) := by
  cases fs with
  | nil => exact DecR.nil
  | cons f fs => simp [chkF] at h
theorem chkF_cons {n o : Nat} {t : TypeId} {ts : List TypeId} {X Y : Type} {e1 : X → AV} {g1 : X → Prop} {e2 : Y → List AV} {g2 : Y → Prop} (h1 : DecF P n t e1 g1) (h2 : ∀ fs, chkF P (o + P.cellsOf t) fs ts = true → DecR P n (o + P.cellsOf t) fs e2 g2)
    (fs : List Field) (h : chkF P o fs (t :: ts) = true) : DecR P n o fs (fun p : X × Y => (e1 p.1).cells ++ e2 p.2) (fun p => g1 p.1 ∧ g2 p.2) := by
  cases fs with
  | nil => simp [chkF] at h
  | cons f fs =>
    simp only [chkF, Bool.and_eq_true] at h
    obtain ⟨a, b, c⟩ := h
    have hb := Nat.eq_of_beq_eq_true b
    subst hb
    exact DecR.cons (Nat.eq_of_beq_eq_true a) h1 (h2 fs c)
theorem chkT_ok {t : TypeId} {ts : List TypeId} {n : Nat} {X : Type} {enc : X → List AV} {good : X → Prop} (h : chkT P t ts = true) (hR : ∀ fs, chkF P 0 fs ts = true → DecR P n 0 fs enc good) : DecF P (n + 1) t (fun x => .agg (enc x)) good := by
  unfold chkT at h
  split at h
  · rename_i fs hu
    simp only [Bool.and_eq_true] at h
    exact DecF.struct hu (Nat.eq_of_beq_eq_true h.2) (hR _ h.1)
  · cases h
theorem chkT_cells {t : TypeId} {ts : List TypeId} (h : chkT P t ts = true) : P.cellsOf t = (ts.map fun t => P.cellsOf t).sum := by
  unfold chkT at h
  split at h
  · rename_i fs hu
    simp only [Bool.and_eq_true] at h
    rw [Nat.eq_of_beq_eq_true h.2]
    have key : ∀ (o : Nat) (l : List Field) (ts : List TypeId), chkF P o l ts = true → l.map (fun f => P.cellsOf f.type) = ts.map fun t => P.cellsOf t := by
      intro o l
      induction l generalizing o with
      | nil => intro ts h; cases ts with
        | nil => rfl
        | cons t ts => simp [chkF] at h
      | cons f l ih => intro ts h; cases ts with
        | nil => simp [chkF] at h
        | cons t ts =>
          simp only [chkF, Bool.and_eq_true] at h
          rw [List.map_cons, List.map_cons, ih _ _ h.2.2, Nat.eq_of_beq_eq_true h.2.1]
    rw [key _ _ _ h.1]
  · cases h
theorem cellsI {t : TypeId} (h : chkI P t = true) : P.cellsOf t = 1 := by simp only [chkI, Bool.and_eq_true] at h; exact Nat.eq_of_beq_eq_true h.2
theorem cellsL {t e : TypeId} (h : chkL P t e = true) : P.cellsOf t = 1 := by simp only [chkL, Bool.and_eq_true] at h; exact Nat.eq_of_beq_eq_true h.2.1
/-! ### books -/
structure BTy where
  i : TypeId
  b : TypeId
  s : TypeId
  is : TypeId
  rg : TypeId
  rgs : TypeId
  p : TypeId
  ps : TypeId
  ru : TypeId
  rus : TypeId
  nd : TypeId
  nds : TypeId
  it : TypeId
  its : TypeId
  vr : TypeId
  vrs : TypeId
  ss : TypeId
  bk : TypeId
def goodRg (r : Rg) : Prop := In64 r.low ∧ In64 r.high
mutual
def okP : Pat → Prop
  | .mk k s g ks => In64 k ∧ (Len s ∧ ∀ r ∈ s, goodRg r) ∧ (Len g ∧ ∀ x ∈ g, In64 x) ∧ Len ks ∧ okPs ks
def okPs : List Pat → Prop
  | [] => True
  | p :: ps => okP p ∧ okPs ps
end
mutual
def okNd : Nod → Prop
  | .mk k s a b ks => In64 k ∧ LenS s ∧ In64 a ∧ In64 b ∧ Len ks ∧ okNs ks
def okNs : List Nod → Prop
  | [] => True
  | p :: ps => okNd p ∧ okNs ps
end
structure okRul (r : Rul) : Prop where
  num : In64 r.num
  b : okP r.before
  a : okP r.after
  pos : In64 r.pos
structure okItm (r : Itm) : Prop where
  kind : In64 r.kind
  name : LenS r.name
  num : In64 r.number
  b : okNd r.before
  a : okNd r.after
  pos : In64 r.pos
structure okVr (r : Vr) : Prop where
  name : LenS r.name
  pat : okP r.pat
  pos : In64 r.pos
structure okBook (x : Book) : Prop where
  v : Len x.vars ∧ ∀ v ∈ x.vars, okVr v
  r : Len x.rules ∧ ∀ r ∈ x.rules, okRul r
  a : Len x.allows ∧ ∀ i ∈ x.allows, okItm i
  u : Len x.used ∧ ∀ s ∈ x.used, LenS s
end
mutual
theorem okP.good : ∀ {p : Pat}, okP p → goodP p
  | .mk k s g ks, h => by simp only [okP] at h; simp only [goodP]; exact ⟨h.2.1.1, h.2.2.1.1, h.2.2.2.1, okPs.good h.2.2.2.2⟩
theorem okPs.good : ∀ {ks : List Pat}, okPs ks → goodPs ks
  | [], _ => trivial
  | p :: ps, h => by simp only [okPs] at h; exact ⟨okP.good h.1, okPs.good h.2⟩
end
mutual
theorem okNd.good : ∀ {p : Nod}, okNd p → goodN p
  | .mk k s a b ks, h => by simp only [okNd] at h; simp only [goodN]; exact ⟨h.2.1, h.2.2.2.2.1, okNs.good h.2.2.2.2.2⟩
theorem okNs.good : ∀ {ks : List Nod}, okNs ks → goodNs ks
  | [], _ => trivial
  | p :: ps, h => by simp only [okNs] at h; exact ⟨okNd.good h.1, okNs.good h.2⟩
end
theorem okBook.good {x : Book} (h : okBook x) : goodBook x :=
  ⟨⟨h.v.1, fun v hv => ⟨(h.v.2 v hv).name, (h.v.2 v hv).pat.good⟩⟩, ⟨h.r.1, fun v hv => ⟨(h.r.2 v hv).b.good, (h.r.2 v hv).a.good⟩⟩,
    ⟨h.a.1, fun v hv => ⟨(h.a.2 v hv).name, (h.a.2 v hv).b.good, (h.a.2 v hv).a.good⟩⟩, h.u⟩
theorem DecF.arr {P : Program} {t e : TypeId} {n fuel : Nat} {X : Type} {enc : X → AV} {good : X → Prop} (ht : P.underlying t = some (.array n e)) (hc : P.cellsOf t = n) (he : P.cellsOf e = 1) (hat : ∀ x, (enc x).atom = true) (h : DecF P fuel e enc good) :
    DecF P (fuel + 1) t (fun l : List X => .agg (l.map enc)) (fun l => l.length = n ∧ ∀ x ∈ l, good x) := by
  refine ⟨fun x hx => by simp [AV.cells, hc, hx.1], fun x hx y hy => ?_, fun eh w cs r hr hw => ?_⟩
  · simp only [AV.cells] at hy
    obtain ⟨z, _, rfl⟩ := List.mem_map.mp hy
    exact hat z
  · unfold DataW.trod at hr
    rw [ht] at hr
    have hr' : (if cs.length = P.cellsOf t then ((List.range n).mapM fun i => DataW.trod eh P w 0 (fun _ => true) true fuel e ((cs.drop (i * P.cellsOf e)).take (P.cellsOf e))).map fun xs => (DataW.agg (xs.map (·.1)), xs.flatMap (·.2)) else none) = some r := by
      revert hr
      split <;> simp_all
    clear hr
    split at hr'
    · rename_i hlen
      simp only [Option.map_eq_some_iff] at hr'
      obtain ⟨ds, hds, hr2⟩ := hr'
      obtain ⟨hdl, hget⟩ := mapM_get hds
      rw [List.length_range] at hdl
      have hw2 : ∀ i (hi : i < ds.length), lightB P e (ds[i]).1 := by
        intro i hi k hk
        refine hw k ?_
        rw [← hr2]
        simp only [DataW.weights, ht]
        have key : ∀ (l : List (DataW _ × List MemPlace)), ds[i] ∈ l → k ∈ DataW.weightsAll P e (l.map (·.1)) := by
          intro l hl
          induction l with
          | nil => simp at hl
          | cons d l ih =>
            simp only [List.map_cons, DataW.weightsAll, List.mem_append]
            rcases List.mem_cons.mp hl with rfl | hl
            · exact .inl hk
            · exact .inr (ih hl)
        exact key ds (List.getElem_mem hi)
      obtain ⟨l, hll, hq⟩ := forall_choose (X := X) (Q := fun i x => good x ∧ ∃ v, cs[i]? = some v ∧ Rep (E0 w) (enc x) v) n (by
        intro i hi
        obtain ⟨j, h1, h2⟩ := hget i (by omega)
        rw [List.getElem?_range hi] at h1
        cases h1
        obtain ⟨x, g1, g2, g3⟩ := h.run eh w _ _ h2 (hw2 i (by omega))
        have hcx := AV.cells_atom (hat x)
        obtain ⟨v, g4, g5⟩ := g3 0 (by rw [hcx]; simp)
        refine ⟨x, g1, v, ?_, ?_⟩
        · rw [he, List.getElem?_take, if_pos (by omega), List.getElem?_drop] at g4
          simpa using g4
        · simpa [hcx] using g5)
      refine ⟨l, ⟨hll, fun x hx => ?_⟩, hlen, fun k hk => ?_⟩
      · obtain ⟨i, hi, rfl⟩ := List.mem_iff_getElem.mp hx
        exact (hq i hi).1
      · have hk' : k < l.length := by simpa [AV.cells] using hk
        obtain ⟨_, v, g1, g2⟩ := hq k hk'
        exact ⟨v, g1, by simpa [AV.cells] using g2⟩
    · cases hr'
end Go.Rf


/- Own work: the library's tables, out of what a row lists. -/
set_option linter.unusedVariables false
namespace Go.Rf
open Go.RowKit
theorem gam_none {P : Program} (h : P.globalNamed "internal/strconv.uint64pow10" = none) (H : Nat → Option (Array Value)) : Gam P H := by
  intro t ht g hg
  simp only [gtabs, List.mem_singleton] at ht
  subst ht
  rw [h] at hg; cases hg
end Go.Rf

