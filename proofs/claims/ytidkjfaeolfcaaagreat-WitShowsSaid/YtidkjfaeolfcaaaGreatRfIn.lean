import Derived.Test.YtidkjfaeolfcaaaGreatRfPure
import Derived.ChangeArms
import Derived.WideShapes
import GoSem.ClaimJoined
import Derived.SizedLaws
set_option linter.unusedVariables false
set_option linter.unusedSimpArgs false
namespace Go.Rf
open Go.RowKit

/-! ### what a call is handed: all that is there when it begins is frozen -/
def E0 (w : World) : Env := ⟨fun _ => none, fun b => match w.heap[b]? with | some (.cells cs _ _) => some cs | _ => none⟩
theorem hok0 (w : World) : HOk (E0 w).H w := by
  intro b cs e
  simp only [E0] at e
  split at e
  · rename_i c el fz h; cases e; exact ⟨el, fz, h⟩
  · cases e
theorem E0_eq (w : World) : E0 w = ⟨noρ, (E0 w).H⟩ := rfl
def lightB {H : Type} (P : Program) (t : TypeId) (d : DataW H) : Prop := ∀ n ∈ d.weights P t, n ≤ reachBytes
theorem cell_E0 {w : World} {a : Addr} {v : Value} (h : w.cell? a = some v) : a.spot = none ∧ ∃ cs, (E0 w).H a.block = some cs ∧ cs[a.off]? = some v := by
  unfold World.cell? at h
  split at h
  · rename_i c el fz hb
    split at h
    · cases h
    · rename_i hs
      refine ⟨by simpa using hs, c, by simp [E0, hb], h⟩
  · cases h
structure DecF (P : Program) (fuel : Nat) (t : TypeId) {X : Type} (enc : X → AV) (good : X → Prop) : Prop where
  size : ∀ x, good x → (enc x).cells.length = P.cellsOf t
  atom : ∀ x, good x → ∀ y ∈ (enc x).cells, y.atom = true
  run : ∀ {H : Type} (eh : TypeId × Value → H) (w : World) (cs : List Value) (r : DataW H × List MemPlace), DataW.trod eh P w 0 (fun _ => true) true fuel t cs = some r → lightB P t r.1 →
    ∃ x, good x ∧ cs.length = P.cellsOf t ∧ ∀ k (h : k < (enc x).cells.length), ∃ v, cs[k]? = some v ∧ Rep (E0 w) ((enc x).cells[k]) v
theorem DecF.map {P : Program} {fuel : Nat} {t : TypeId} {X Y : Type} {enc : X → AV} {good : X → Prop} (h : DecF P fuel t enc good) (enc' : Y → AV) (good' : Y → Prop) (f : X → Y) (g : Y → X)
    (he : ∀ x, enc' (f x) = enc x) (hg : ∀ x, good x → good' (f x)) (hi : ∀ y, good' y → good (g y) ∧ enc' y = enc (g y)) : DecF P fuel t enc' good' := by
  refine ⟨fun y hy => ?_, fun y hy => ?_, fun eh w cs r hr hw => ?_⟩
  · obtain ⟨h1, h2⟩ := hi y hy; rw [h2]; exact h.size _ h1
  · obtain ⟨h1, h2⟩ := hi y hy; rw [h2]; exact h.atom _ h1
  · obtain ⟨x, h1, h2, h3⟩ := h.run eh w cs r hr hw
    exact ⟨f x, hg x h1, h2, by rw [he]; exact h3⟩
theorem DecF.zero {P : Program} {t : TypeId} {X : Type} {enc : X → AV} {good : X → Prop} (h1 : ∀ x, good x → (enc x).cells.length = P.cellsOf t) (h2 : ∀ x, good x → ∀ y ∈ (enc x).cells, y.atom = true) : DecF P 0 t enc good :=
  ⟨h1, h2, fun eh w cs r hr _ => by simp [DataW.trod] at hr⟩
theorem DecF.int {P : Program} {t : TypeId} {k : IntKind} (ht : P.underlying t = some (.int k)) (hc : P.cellsOf t = 1) (fuel : Nat) :
    DecF P fuel t (fun n : Int => AV.v (.int k n)) (fun n => k.min ≤ n ∧ n ≤ k.max) := by
  refine ⟨fun x _ => by simp [AV.cells, hc], fun x _ y hy => by simp [AV.cells] at hy; subst hy; rfl, fun eh w cs r hr hw => ?_⟩
  cases fuel with
  | zero => simp [DataW.trod] at hr
  | succ n =>
    unfold DataW.trod at hr
    rw [ht] at hr
    split at hr <;> simp_all
    obtain ⟨⟨rfl, h2⟩, _⟩ := hr
    refine ⟨_, by simpa [Lit.wf] using h2, fun j hj => ?_⟩
    simp [AV.cells] at hj
    subst hj
    exact ⟨_, rfl, .v _ rfl⟩
theorem DecF.bool {P : Program} {t : TypeId} (ht : P.underlying t = some .bool) (hc : P.cellsOf t = 1) (fuel : Nat) :
    DecF P fuel t (fun b : Bool => AV.v (.bool b)) (fun _ => True) := by
  refine ⟨fun x _ => by simp [AV.cells, hc], fun x _ y hy => by simp [AV.cells] at hy; subst hy; rfl, fun eh w cs r hr hw => ?_⟩
  cases fuel with
  | zero => simp [DataW.trod] at hr
  | succ n =>
    unfold DataW.trod at hr
    rw [ht] at hr
    split at hr
    · rename_i b _
      refine ⟨b, trivial, by simp [hc], fun j hj => ?_⟩
      simp [AV.cells] at hj
      subst hj
      exact ⟨_, rfl, .v _ rfl⟩
    all_goals simp_all
theorem DecF.str {P : Program} {t : TypeId} (ht : P.underlying t = some .string) (hc : P.cellsOf t = 1) (fuel : Nat) :
    DecF P fuel t (fun s : ByteArray => AV.v (.string s)) (fun s => s.size ≤ maxLen) := by
  refine ⟨fun x _ => by simp [AV.cells, hc], fun x _ y hy => by simp [AV.cells] at hy; subst hy; rfl, fun eh w cs r hr hw => ?_⟩
  cases fuel with
  | zero => simp [DataW.trod] at hr
  | succ n =>
    unfold DataW.trod at hr
    rw [ht] at hr
    split at hr <;> simp_all
    refine ⟨_, hr.1, fun j hj => ?_⟩
    simp [AV.cells] at hj
    subst hj
    exact ⟨_, rfl, .v _ rfl⟩
theorem forall_choose {X : Type} {Q : Nat → X → Prop} : ∀ (n : Nat), (∀ i, i < n → ∃ x, Q i x) → ∃ l : List X, l.length = n ∧ ∀ i (h : i < l.length), Q i l[i]
  | 0, _ => ⟨[], rfl, by simp⟩
  | n + 1, h => by
    obtain ⟨l, h1, h2⟩ := forall_choose n (fun i hi => h i (by omega))
    obtain ⟨x, hx⟩ := h n (by omega)
    refine ⟨l ++ [x], by simp [h1], fun i hi => ?_⟩
    by_cases hil : i < l.length
    · rw [List.getElem_append_left hil]; exact h2 i hil
    · have : i = l.length := by simp at hi; omega
      subst this
      simp [h1] at *; exact hx
theorem cells_get {w : World} {a : Addr} {n : Nat} {cs : List Value} (h : w.cells? 0 a n = some cs) : cs.length = n ∧ ∀ i (hi : i < n), w.cell? (a.add i) = cs[i]? := by
  simp only [World.cells?, Nat.zero_le, if_true] at h
  refine ⟨by simpa using mapM_some_length h, fun i hi => mapM_some_get h i i (by simp [hi])⟩
theorem add_add (a : Addr) (m n : Nat) (h : m ≠ 0 ∨ n ≠ 0 ∨ a.spot = none) : ((a.add m).add n).block = a.block ∧ ((a.add m).add n).off = a.off + (m + n) ∧ ((a.spot = none → ((a.add m).add n).spot = none)) := by
  unfold Addr.add
  split <;> split <;> simp_all <;> omega
theorem DecF.slice {P : Program} {t e : TypeId} {fuel : Nat} {X : Type} {enc : X → AV} {good : X → Prop} (ht : P.underlying t = some (.slice e)) (hc : P.cellsOf t = 1) (he : 0 < P.cellsOf e) (hby : 0 < P.bytesOf e) (h : DecF P fuel e enc good) :
    DecF P (fuel + 1) t (fun l : List X => .sl false (l.map enc)) (fun l => l.length ≤ 140737488351232 ∧ ∀ x ∈ l, good x) := by
  refine ⟨fun x _ => by simp [AV.cells, hc], fun x _ y hy => by simp [AV.cells] at hy; subst hy; rfl, fun eh w cs r hr hw => ?_⟩
  rcases DataW.trod_slice ht hr with ⟨rfl, _⟩ | ⟨a, len, cap, elems, rest, n, hfu, rfl, hrx, hb, hl, hm, hlen, hel, hsp, hns⟩
  · refine ⟨[], ⟨by simp, by simp⟩, by simp [hc], fun k hk => ?_⟩
    simp [AV.cells] at hk
    subst hk
    exact ⟨_, rfl, .sl0 false none 0 (by simp)⟩
  · have hnf : n = fuel := by omega
    subst hnf
    have hw1 : (elems.length + rest.length) * P.bytesOf e ≤ reachBytes ∧ ∀ i (hi : i < elems.length), lightB P e (elems[i]).1 := by
      rw [hrx] at hw
      simp only [lightB, DataW.weights, ht, List.length_map] at hw
      refine ⟨hw _ (by simp), fun i hi n hn => hw n ?_⟩
      simp only [List.mem_cons, List.mem_append]
      right; left
      have key : ∀ (l : List (DataW _ × List MemPlace)), elems[i] ∈ l → n ∈ DataW.weightsAll P e (l.map (·.1)) := by
        intro l hl
        induction l with
        | nil => simp at hl
        | cons d l ih =>
          simp only [List.map_cons, DataW.weightsAll, List.mem_append]
          rcases List.mem_cons.mp hl with rfl | hl
          · exact .inl hn
          · exact .inr (ih hl)
      exact key elems (List.getElem_mem hi)
    have hlen3 : len ≤ 140737488351232 := by
      have h1 := hw1.1
      have h2 : (elems.length + rest.length) * 1 ≤ (elems.length + rest.length) * P.bytesOf e := Nat.mul_le_mul_left _ hby
      have h3 : reachBytes = 140737488351232 := rfl
      omega
    obtain ⟨l, hll, hq⟩ := forall_choose (X := X) (Q := fun i x => good x ∧ ∃ cs, w.cells? 0 (a.add (i * P.cellsOf e)) (P.cellsOf e) = some cs ∧ ∀ k (h : k < (enc x).cells.length), ∃ v, cs[k]? = some v ∧ Rep (E0 w) ((enc x).cells[k]) v) len (by
      intro i hi
      have h1 := hel i hi
      rw [List.getElem?_eq_getElem (by omega)] at h1
      simp only [Option.bind_eq_some_iff] at h1
      obtain ⟨cs, h2, h3⟩ := h1
      obtain ⟨x, g1, g2, g3⟩ := h.run eh w cs _ h3 (hw1.2 i (by omega))
      exact ⟨x, g1, cs, h2, g3⟩)
    refine ⟨l, ⟨by omega, fun x hx => ?_⟩, by simp [hc], fun k hk => ?_⟩
    · obtain ⟨i, hi, rfl⟩ := List.mem_iff_getElem.mp hx
      exact (hq i hi).1
    · simp [AV.cells] at hk
      subst hk
      refine ⟨_, rfl, ?_⟩
      simp only [AV.cells, List.getElem_cons_zero]
      by_cases hl0 : l = []
      · subst hl0
        simp at hll
        subst hll
        exact .sl0 false _ _ (by simp)
      · have hpos : 0 < l.length := List.length_pos_iff.mpr hl0
        have hsz : ∀ y ∈ l.map enc, y.cells.length = P.cellsOf e := by
          intro y hy
          obtain ⟨x, hx, rfl⟩ := List.mem_map.mp hy
          obtain ⟨i, hi, rfl⟩ := List.mem_iff_getElem.mp hx
          exact h.size _ (hq i hi).1
        have hcell : ∀ i (hi : i < l.length) j (hj : j < (enc l[i]).cells.length), ∃ v, w.cell? ((a.add (i * P.cellsOf e)).add j) = some v ∧ Rep (E0 w) ((enc l[i]).cells[j]) v := by
          intro i hi j hj
          obtain ⟨g1, cs, g2, g3⟩ := hq i hi
          obtain ⟨v, g4, g5⟩ := g3 j hj
          obtain ⟨q1, q2⟩ := cells_get g2
          exact ⟨v, by rw [q2 j (by rw [← h.size _ g1]; exact hj)]; exact g4, g5⟩
        have h0 := hcell 0 hpos 0 (by rw [h.size _ (hq 0 hpos).1]; exact he)
        obtain ⟨v0, c0, _⟩ := h0
        have ha0 : ((a.add (0 * P.cellsOf e)).add 0) = a := by simp [Addr.add]
        rw [ha0] at c0
        obtain ⟨s0, cs0, hH, _⟩ := cell_E0 c0
        have haddr : a = ⟨a.block, a.off, none⟩ := by cases a; simp_all
        have hflat : ∀ k (hk : k < (flat (l.map enc)).length), ∃ v, cs0[a.off + k]? = some v ∧ Rep (E0 w) ((flat (l.map enc))[k]) v := by
          intro k hk
          have hlen2 := length_flat hsz
          rw [List.length_map] at hlen2
          have hk2 : k < l.length * P.cellsOf e := by omega
          have hi : k / P.cellsOf e < l.length := Nat.div_lt_of_lt_mul (by rw [Nat.mul_comm]; exact hk2)
          have hj : k % P.cellsOf e < P.cellsOf e := Nat.mod_lt _ he
          have hkk : k / P.cellsOf e * P.cellsOf e + k % P.cellsOf e = k := by rw [Nat.mul_comm]; exact Nat.div_add_mod k _
          have hj2 : k % P.cellsOf e < ((l.map enc)[k / P.cellsOf e]'(by simpa using hi)).cells.length := by rw [hsz _ (List.getElem_mem _)]; exact hj
          obtain ⟨hk', e1⟩ := flat_at hsz (k / P.cellsOf e) (by simpa using hi) (k % P.cellsOf e) hj2
          obtain ⟨v, g1, g2⟩ := hcell (k / P.cellsOf e) hi (k % P.cellsOf e) (by simpa using hj2)
          obtain ⟨q1, cs1, q2, q3⟩ := cell_E0 g1
          obtain ⟨b1, b2, b3⟩ := add_add a (k / P.cellsOf e * P.cellsOf e) (k % P.cellsOf e) (.inr (.inr s0))
          rw [b1, hH] at q2
          cases q2
          rw [b2, hkk] at q3
          refine ⟨v, q3, ?_⟩
          have : (flat (l.map enc))[k] = (flat (l.map enc))[k / P.cellsOf e * P.cellsOf e + k % P.cellsOf e] := by simp only [hkk]
          rw [this, e1]
          simpa using g2
        rw [haddr]
        have hat : ∀ y ∈ flat (l.map enc), y.atom = true := by
          intro y hy
          obtain ⟨x, hx, hyx⟩ := List.mem_flatMap.mp hy
          obtain ⟨z, hz, rfl⟩ := List.mem_map.mp hx
          obtain ⟨i, hi, rfl⟩ := List.mem_iff_getElem.mp hz
          exact h.atom _ (hq i hi).1 y hyx
        have hlm : (l.map enc).length = len := by rw [List.length_map, hll]
        rw [← hlm]
        refine .sl false (l.map enc) a.block a.off cap cs0 (P.cellsOf e) (fun k => (cs0[a.off + k]?).getD undef) (by simpa using hpos) hH hsz (by omega) (by simp) hat (fun k hk => ?_) (fun k hk => ?_)
        · obtain ⟨v, g1, g2⟩ := hflat k hk
          rw [g1]; rfl
        · obtain ⟨v, g1, g2⟩ := hflat k hk
          rw [g1]; exact g2
/-- Some fields, side by side, from a place on. -/
structure DecR (P : Program) (fuel : Nat) (o : Nat) (fs : List Field) {X : Type} (enc : X → List AV) (good : X → Prop) : Prop where
  size : ∀ x, good x → (enc x).length = (fs.map fun f => P.cellsOf f.type).sum
  atom : ∀ x, good x → ∀ y ∈ enc x, y.atom = true
  run : ∀ {H : Type} (eh : TypeId × Value → H) (w : World) (cs : List Value) (r : List (DataW H × List MemPlace)),
    (fs.mapM fun f => DataW.trod eh P w 0 (fun _ => true) true fuel f.type ((cs.drop f.offset).take (P.cellsOf f.type))) = some r → (∀ n ∈ DataW.weightsEach P (fs.map (·.type)) (r.map (·.1)), n ≤ reachBytes) →
    ∃ x, good x ∧ ∀ k (h : k < (enc x).length), ∃ v, cs[o + k]? = some v ∧ Rep (E0 w) ((enc x)[k]) v
theorem DecR.nil {P : Program} {fuel o : Nat} : DecR P fuel o [] (fun _ : Unit => []) (fun _ => True) :=
  ⟨by simp, by simp, fun eh w cs r _ _ => ⟨(), trivial, by simp⟩⟩
theorem DecR.cons {P : Program} {fuel o : Nat} {f : Field} {fs : List Field} {X Y : Type} {e1 : X → AV} {g1 : X → Prop} {e2 : Y → List AV} {g2 : Y → Prop} (ho : f.offset = o) (h : DecF P fuel f.type e1 g1)
    (k : DecR P fuel (o + P.cellsOf f.type) fs e2 g2) : DecR P fuel o (f :: fs) (fun p : X × Y => (e1 p.1).cells ++ e2 p.2) (fun p => g1 p.1 ∧ g2 p.2) := by
  refine ⟨fun x hx => ?_, fun x hx y hy => ?_, fun eh w cs r hr hw => ?_⟩
  · simp [h.size _ hx.1, k.size _ hx.2]
  · rcases List.mem_append.mp hy with hy | hy
    · exact h.atom _ hx.1 y hy
    · exact k.atom _ hx.2 y hy
  · simp only [List.mapM_cons, Option.bind_eq_bind, Option.bind_eq_some_iff, Option.pure_def, Option.some.injEq] at hr
    obtain ⟨r1, h1, r2, h2, rfl⟩ := hr
    simp only [List.map_cons, DataW.weightsEach, List.mem_append] at hw
    obtain ⟨x, a1, a2, a3⟩ := h.run eh w _ _ h1 (fun n hn => hw n (.inl hn))
    obtain ⟨y, b1, b2⟩ := k.run eh w cs _ h2 (fun n hn => hw n (.inr hn))
    refine ⟨(x, y), ⟨a1, b1⟩, fun j hj => ?_⟩
    have hs := h.size _ a1
    by_cases hjl : j < (e1 x).cells.length
    · obtain ⟨v, c1, c2⟩ := a3 j hjl
      refine ⟨v, ?_, by simp only [List.getElem_append_left hjl]; exact c2⟩
      rw [List.getElem?_take, if_pos (by omega), List.getElem?_drop, ho] at c1
      exact c1
    · have hj3 : j < (e1 x).cells.length + (e2 y).length := by simpa using hj
      obtain ⟨v, c1, c2⟩ := b2 (j - (e1 x).cells.length) (by omega)
      refine ⟨v, ?_, by rw [List.getElem_append_right (by show (e1 x).cells.length ≤ j; omega)]; exact c2⟩
      rw [← c1]; congr 1; omega
theorem DecF.struct {P : Program} {fuel : Nat} {t : TypeId} {fs : Array Field} {X : Type} {enc : X → List AV} {good : X → Prop} (ht : P.underlying t = some (.struct fs)) (hs : P.cellsOf t = (fs.toList.map fun f => P.cellsOf f.type).sum)
    (h : DecR P fuel 0 fs.toList enc good) : DecF P (fuel + 1) t (fun x => .agg (enc x)) good := by
  refine ⟨fun x hx => by simp [AV.cells, hs, h.size x hx], fun x hx y hy => h.atom x hx y hy, fun eh w cs r hr hw => ?_⟩
  unfold DataW.trod at hr
  rw [ht] at hr
  split at hr <;> simp_all
  obtain ⟨h1, a, h2, h3⟩ := hr
  obtain ⟨x, g1, g2⟩ := h.run eh w _ _ h2 (by
    rw [← h3] at hw
    simp only [lightB, DataW.weights, ht] at hw
    exact hw)
  refine ⟨x, g1, fun k hk => ?_⟩
  obtain ⟨v, a1, a2⟩ := g2 k hk
  exact ⟨v, by simpa using a1, a2⟩
/-- One argument. -/
theorem okWide_row {P : Program} {w : World} {r : Reach} {base : Nat} {t : TypeId} {v : Value} (h : Value.okWide P w r base t v) : (∃ cs, v = .agg cs) ∨ v.cells = #[v] := by
  unfold Value.okWide at h
  split at h
  · obtain ⟨cs, rfl, _⟩ := h; exact .inl ⟨cs, rfl⟩
  · obtain ⟨cs, rfl, _⟩ := h; exact .inl ⟨cs, rfl⟩
  · right
    unfold Cell.okWide at h
    cases v <;> simp [Value.cells]
    · exfalso; revert h; split <;> simp_all [Cell.ok]
theorem DecF.val {P : Program} {t : TypeId} {X : Type} {enc : X → AV} {good : X → Prop} (h : ∀ n, DecF P n t enc good) {w : World} {r : Reach} {base : Nat} {v : Value} (hv : Value.okWide P w r base t v)
    (hk : (∃ f : X → List AV, (∀ x, enc x = .agg (f x)) ∧ ∃ fs, P.underlying t = some (.struct fs) ∨ ∃ n e, P.underlying t = some (.array n e)) ∨ ((∀ x, (enc x).atom = true) ∧ (∀ fs, P.underlying t ≠ some (.struct fs)) ∧ ∀ n e, P.underlying t ≠ some (.array n e)))
    {H : Type} {eh : TypeId × Value → H} {d : DataW H} {p : List MemPlace} (ht : DataW.Trod eh P w 0 (fun _ => true) true t v d p) (hw : lightB P t d) : ∃ x, good x ∧ Rep (E0 w) (enc x) v := by
  obtain ⟨fuel, hf⟩ := ht
  obtain ⟨x, h1, h2, h3⟩ := (h fuel).run eh w _ _ hf hw
  refine ⟨x, h1, ?_⟩
  rcases hk with ⟨f, hf1, fs, hu⟩ | ⟨ha, hu1, hu2⟩
  · have : ∃ cs, v = .agg cs := by
      unfold Value.okWide at hv
      rcases hu with hu | ⟨n, e, hu⟩ <;> (rw [hu] at hv; obtain ⟨cs, rfl, _⟩ := hv; exact ⟨cs, rfl⟩)
    obtain ⟨cs, rfl⟩ := this
    have hs := (h fuel).size x h1
    have hat := (h fuel).atom x h1
    rw [hf1 x] at hs hat h3 ⊢
    simp only [AV.cells, Value.cells] at hs hat h3 h2
    refine .agg _ _ (by simpa [hs] using h2) hat (fun j hj => ?_)
    obtain ⟨v, g1, g2⟩ := h3 j hj
    have : cs.getD j undef = v := by
      simp only [Array.getElem?_toList] at g1
      simp [Array.getD_eq_getD_getElem?, g1]
    rw [this]; exact g2
  · have hc : v.cells = #[v] := by
      rcases okWide_row hv with ⟨cs, rfl⟩ | h4
      · exfalso
        unfold Value.okWide at hv
        split at hv
        · rename_i fs hfs; exact hu1 _ hfs
        · rename_i n e hfs; exact hu2 _ _ hfs
        · unfold Cell.okWide at hv; revert hv; split <;> simp_all [Cell.ok]
      · exact h4
    have hx := ha x
    rw [AV.cells_atom hx] at h3
    rw [hc] at h3
    obtain ⟨v', g1, g2⟩ := h3 0 (by simp)
    simp at g1
    subst g1
    exact g2
/-- A law's call, in the form that a row wants. -/
theorem PureC.calls {P : Program} {f : FuncId} {args : List AV} {x : Value} (h : PureC P f args (.v x)) (W : World) (hG : Gam P (E0 W).H) {vals : Array Value} (hv : Reps (E0 W) args vals) :
    Calls P f vals W fun e W' => e = .returned x ∧ Below W.heap.size W W' :=
  (h.2 _ W vals hG (hok0 W) (by rw [E0_eq] at hv; exact hv)).mono fun e w' ⟨v, H', he, _, _, _, hr, hb⟩ => by
    cases hr; exact ⟨he, hb⟩
theorem trod_none {H : Type} {eh : TypeId × Value → H} {P : Program} {w : World} {base : Nat} {spare : Nat → Bool} {held : Bool} : DataW.TrodAll eh P w base spare held [] [] [] [] := rfl
theorem trod_more {H : Type} {eh : TypeId × Value → H} {P : Program} {w : World} {base : Nat} {spare : Nat → Bool} {held : Bool} {t : TypeId} {ts : List TypeId} {v : Value} {vs : List Value} {d : DataW H} {ds : List (DataW H)} {p q : List MemPlace}
    (h : DataW.Trod eh P w base spare held t v d p) (k : DataW.TrodAll eh P w base spare held ts vs ds q) : DataW.TrodAll eh P w base spare held (t :: ts) (v :: vs) (d :: ds) (p ++ q) := ⟨p, q, h, k, rfl⟩
theorem light_of {H : Type} {P : Program} {t : TypeId} {ts : List TypeId} {d : DataW H} {ds : List (DataW H)} (h : (DataW.weightsEach P ts ds).all (· ≤ reachBytes) = true) {j : Nat} (ht : ts[j]? = some t) (hd : ds[j]? = some d) : lightB P t d := by
  intro n hn
  have := List.all_eq_true.1 h _ (DataW.weights_mem_each ht hd n hn)
  simpa using this
theorem reps_one {E : Env} {x : AV} {v : Value} (h : Rep E x v) : Reps E [x] #[v] := ⟨rfl, fun j hj => by
  have : j = 0 := by simpa using hj
  subst this; simpa using h⟩
theorem reps_two {E : Env} {x y : AV} {v u : Value} (h : Rep E x v) (k : Rep E y u) : Reps E [x, y] #[v, u] := (reps_one h).append (reps_one k)
theorem reps_three {E : Env} {x y z : AV} {v u t : Value} (h : Rep E x v) (k : Rep E y u) (l : Rep E z t) : Reps E [x, y, z] #[v, u, t] := (reps_two h k).append (reps_one l)
end Go.Rf

