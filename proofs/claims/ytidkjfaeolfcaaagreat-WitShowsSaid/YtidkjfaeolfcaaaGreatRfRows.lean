import Derived.Test.YtidkjfaeolfcaaaGreatRfTx2
import Derived.Test.YtidkjfaeolfcaaaGreatRfCell
import Derived.Test.YtidkjfaeolfcaaaGreatRfR11
import Derived.Test.YtidkjfaeolfcaaaGreatRfWk
import Derived.Test.YtidkjfaeolfcaaaGreatRfKl
import Derived.Test.YtidkjfaeolfcaaaGreatRfB3
/- Own work: sets' texts tell sets apart; numbers of sets (plain laws). -/
set_option linter.unusedVariables false
set_option linter.unusedSimpArgs false
namespace Go.Rf
open Go.RowKit

def NonNeg (l : List Int) : Prop := ∀ n ∈ l, 0 ≤ n
/-! ### the map of sets -/
def entsF : Nat → List (List Int) → List (AV × AV)
  | _, [] => []
  | k, s :: ss => (strAV (textL s), encI k) :: entsF (k + 1) ss
end Go.Rf


/- Own work: (*det.maker).number. -/
set_option linter.unusedVariables false
set_option linter.unusedSimpArgs false
namespace Go.Rf
open Go.RowKit
/-- A maker lies at id, its map at km; it has these sets. -/
structure MkS (S : St) (id km : Nat) (n : Net) (most : Int) (ss : List (List Int)) (v : AV) : Prop where
  g : S.g id = some (.arr 7 [.agg [encI n.signs, encIss n.by_, encIss n.follow, encIs n.last, encI most, .mp km, v]])
  m : S.g km = some (.map (entsF 0 ss))
  vec : Vec S.g v 1 (ss.map encIs)
  ne : id ≠ km
  hv : ∀ i ∈ v.ids, i ≠ id ∧ i ≠ km
  lid : id < S.n
  lkm : km < S.n
  lv : ∀ i ∈ v.ids, i < S.n
/-- All but these blocks is as it was. -/
structure Frm (S S' : St) (R : List Nat) : Prop where
  n : S.n ≤ S'.n
  g : ∀ i, i < S.n → i ∉ R → S'.g i = S.g i
section
variable {g : Nat → Option Blk} {km m nid : Nat} {ss : List (List Int)} {x : List Int}
end
end Go.Rf


/- Own work: (*det.maker).step and .ends. -/
set_option linter.unusedVariables false
set_option linter.unusedSimpArgs false
namespace Go.Rf
open Go.RowKit
def pNet (n : Net) : AV := .eptr (encNet n) 0
structure DsS (n : Net) (at_ : List Int) (sign : Int) (i : Nat) (cur : List Int) (f : AF) (S : St) : Prop where
  e12 : f 12 = encIs at_
  e13 : f 13 = encI at_.length
  e14 : f 14 = encI i
  e2 : f 2 = encI sign
  e0 : f 0 = pNet n
  vec : Vec S.g (f 7) 1 (cur.map encI)
  nil : cur = [] → f 7 = .sl true []
theorem DsS.same {n : Net} {at_ : List Int} {sign : Int} {i : Nat} {cur : List Int} {f f' : AF} {S S' : St} (h : DsS n at_ sign i cur f S) (hf : ∀ j, j = 12 ∨ j = 13 ∨ j = 14 ∨ j = 2 ∨ j = 0 ∨ j = 7 → f' j = f j) (hg : S'.g = S.g) : DsS n at_ sign i cur f' S' :=
  ⟨by rw [hf _ (by simp)]; exact h.e12, by rw [hf _ (by simp)]; exact h.e13, by rw [hf _ (by simp)]; exact h.e14, by rw [hf _ (by simp)]; exact h.e2, by rw [hf _ (by simp)]; exact h.e0, by rw [hg, hf _ (by simp)]; exact h.vec, fun e => by rw [hf _ (by simp)]; exact h.nil e⟩
structure HStep (P : Program) (fc fs fm : FuncId) : Prop where
  cont : ∀ (l : List Int) x, Len l → PureC P fc [encIs l, encI x] (encB (l.contains x))
  sort : HSort P fs
  comp : HComp P fm
  sort0 : PureC P fs [.sl true []] (.tup [])
  comp0 : PureC P fm [.sl true []] (.sl true [])
def endsB (n : Net) (set : List Int) : Bool := set.any fun s => n.last.contains s
end Go.Rf


/- Own work: several lists of one's own, of whatever elements, apart from one another. -/
set_option linter.unusedVariables false
set_option linter.unusedSimpArgs false
namespace Go.Rf
open Go.RowKit
structure ARows (g : Nat → Option Blk) (n : Nat) (av : List Nat) (vs : List AV) (ls : List (List AV)) : Prop where
  len : vs.length = ls.length
  row : ∀ t (h : t < vs.length) (h' : t < ls.length), Vec g vs[t] 1 (ls[t])
  sep : vs.Pairwise (fun a b => ∀ i ∈ a.ids, i ∉ b.ids)
  out : ∀ v ∈ vs, ∀ i ∈ v.ids, i < n ∧ i ∉ av
theorem ARows.nil {g : Nat → Option Blk} {n : Nat} {av : List Nat} : ARows g n av [] [] := ⟨rfl, fun t h => by simp at h, .nil, by simp⟩
theorem ARows.cons {g : Nat → Option Blk} {n : Nat} {av : List Nat} {vs : List AV} {ls : List (List AV)} {v : AV} {l : List AV} (hv : Vec g v 1 l) (ho : ∀ i ∈ v.ids, i < n ∧ i ∉ av) (hs : ∀ w ∈ vs, ∀ i ∈ v.ids, i ∉ w.ids) (h : ARows g n av vs ls) :
    ARows g n av (v :: vs) (l :: ls) := by
  refine ⟨by simp [h.len], fun t h1 h2 => ?_, List.pairwise_cons.mpr ⟨hs, h.sep⟩, fun w hw => ?_⟩
  · cases t with
    | zero => exact hv
    | succ t => exact h.row t (by simpa using h1) (by simpa using h2)
  · rcases List.mem_cons.mp hw with rfl | hw
    · exact ho
    · exact h.out w hw
theorem ARows.head {g : Nat → Option Blk} {n : Nat} {av : List Nat} {vs : List AV} {ls : List (List AV)} {v : AV} {l : List AV} (h : ARows g n av (v :: vs) (l :: ls)) :
    Vec g v 1 l ∧ (∀ i ∈ v.ids, i < n ∧ i ∉ av) ∧ (∀ w ∈ vs, ∀ i ∈ v.ids, i ∉ w.ids) ∧ ARows g n av vs ls := by
  have hp := List.pairwise_cons.mp h.sep
  refine ⟨h.row 0 (by simp) (by simp), h.out v (by simp), hp.1, by have := h.len; simpa using this, fun t h1 h2 => ?_, hp.2, fun w hw => h.out w (by simp [hw])⟩
  exact h.row (t + 1) (by simpa using h1) (by simpa using h2)
theorem ARows.frame {g g' : Nat → Option Blk} {n n' : Nat} {av : List Nat} {vs : List AV} {ls : List (List AV)} (h : ARows g n av vs ls) (hn : n ≤ n') (hg : ∀ v ∈ vs, ∀ i ∈ v.ids, g' i = g i) : ARows g' n' av vs ls :=
  ⟨h.len, fun t h1 h2 => (h.row t h1 h2).frame (fun i hi => hg _ (List.getElem_mem h1) i hi), h.sep, fun v hv i hi => ⟨Nat.lt_of_lt_of_le (h.out v hv i hi).1 hn, (h.out v hv i hi).2⟩⟩
theorem ARows.snoc {g : Nat → Option Blk} {n : Nat} {av : List Nat} {vs : List AV} {ls : List (List AV)} {v : AV} {l : List AV} (h : ARows g n av vs ls) (hv : Vec g v 1 l) (ho : ∀ i ∈ v.ids, i < n ∧ i ∉ av) (hs : ∀ w ∈ vs, ∀ i ∈ w.ids, i ∉ v.ids) :
    ARows g n av (vs ++ [v]) (ls ++ [l]) := by
  refine ⟨by simp [h.len], fun t h1 h2 => ?_, ?_, fun w hw => ?_⟩
  · by_cases ht : t < vs.length
    · have ht2 : t < ls.length := by rw [← h.len]; exact ht
      rw [List.getElem_append_left ht, List.getElem_append_left ht2]; exact h.row t ht ht2
    · have e : t = vs.length := by simp at h1; omega
      have e2 : t = ls.length := by rw [← h.len]; exact e
      rw [List.getElem_append_right (by omega), List.getElem_append_right (by omega)]
      simp [e, ← h.len]; exact hv
  · rw [List.pairwise_append]
    exact ⟨h.sep, by simp, fun a ha b hb => by simp at hb; subst hb; exact hs a ha⟩
  · rcases List.mem_append.mp hw with hw | hw
    · exact h.out w hw
    · simp at hw; subst hw; exact ho
theorem Vec.fzL {g : Nat → Option Blk} {v : AV} {es : Nat} {xs zs : List AV} (h : Vec g v es xs) (hl : zs.length = xs.length) (hz : ∀ i (h1 : i < xs.length) (h2 : i < zs.length), Fz g (xs[i]) (zs[i])) : Fz g v (.sl false zs) := by
  rcases h with ⟨rfl, h0⟩ | ⟨id, off, ys, rfl, h1, h2, h3⟩
  · subst h0
    have : zs = [] := List.eq_nil_of_length_eq_zero hl
    subst this; exact .loose true [] (.sl _ _ (by simp))
  · have hle : off + xs.length = ys.length := by rw [← h3]; simp; omega
    have ht : (ys.drop off).take xs.length = xs := by rw [h3, List.take_length]
    refine .own id off _ es ys zs h1 (by omega) hl (fun i k1 k2 => ?_)
    simp only [ht] at k1 ⊢
    exact hz i k1 k2
end Go.Rf

