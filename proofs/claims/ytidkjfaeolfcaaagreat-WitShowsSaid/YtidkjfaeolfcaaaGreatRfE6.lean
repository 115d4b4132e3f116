import Derived.Test.YtidkjfaeolfcaaaGreatRfRows
/- Own work: automata by sets of a net's states (plain laws), and what lives while one is made. -/
set_option linter.unusedVariables false
set_option linter.unusedSimpArgs false
namespace Go.Rf
open Go.RowKit

/-! ### the making -/
inductive Kd where
  | whole
  | tails
  | heads
def bhS (kd : Kd) (n : Net) (set : List Int) (s : Int) : List Int :=
  match kd with
  | .whole => stepN n set s
  | .tails => 0 :: stepN n set s
  | .heads => if endsB n set = true then set else stepN n set s
def numF (most : Int) (ss : List (List Int)) (x : List Int) : Option (List (List Int) × Int) :=
  if x ∈ ss then some (ss, (ss.idxOf x : Int)) else if (ss.length : Int) = most then none else some (ss ++ [x], (ss.length : Int))
def rowF (most : Int) (b : Int → List Int) : Nat → List (List Int) → Option (List (List Int) × List Int)
  | 0, ss => some (ss, [])
  | k + 1, ss => match rowF most b k ss with
    | none => none
    | some (s1, r) => match numF most s1 (b k) with
      | none => none
      | some (s2, j) => some (s2, r ++ [j])
abbrev Sts := List (List Int) × List (List Int) × List Bool
def nxF (kd : Kd) (n : Net) (most : Int) (i : Nat) (st : Sts) : Option Sts :=
  match st.1[i]? with
  | none => none
  | some set => match rowF most (bhS kd n set) n.signs.toNat st.1 with
    | none => none
    | some (s2, r) => some (s2, st.2.1 ++ [r], st.2.2 ++ [endsB n set])
def stF (kd : Kd) (n : Net) (most : Int) : Nat → Option Sts
  | 0 => some ([[0]], [], [])
  | i + 1 => match stF kd n most i with
    | none => none
    | some st => nxF kd n most i st
def Val (n : Net) (s : List Int) : Prop := (∀ x ∈ s, 0 ≤ x ∧ x < n.follow.length) ∧ s.length ≤ 302
theorem Val.nn {n : Net} {s : List Int} (h : Val n s) : NonNeg s := fun x hx => (h.1 x hx).1
theorem step_val {n : Net} (R : RightN n) (set : List Int) (s : Int) : (∀ x ∈ stepN n set s, 1 ≤ x ∧ x < n.follow.length) ∧ (stepN n set s).length ≤ 301 := by
  refine ⟨fun x hx => ?_, stepN_len R set s⟩
  unfold stepN at hx
  rw [mem_setF] at hx
  unfold behindL at hx
  obtain ⟨p, hp, hx⟩ := List.mem_flatMap.mp hx
  unfold behind1 at hx
  split at hx
  · rename_i h
    have h2 := (List.mem_filter.mp hx).1
    have hlt : p.toNat < n.follow.length := by omega
    rw [List.getD_eq_getElem?_getD, List.getElem?_eq_getElem hlt, Option.getD_some] at h2
    have := (R.follow _ hlt).2 x h2
    have := R.len
    omega
  · cases hx
structure SsOk (n : Net) (most : Int) (ss : List (List Int)) : Prop where
  v : ∀ s ∈ ss, Val n s
  l : (ss.length : Int) ≤ most
structure StOk (n : Net) (most : Int) (i : Nat) (st : Sts) : Prop where
  ss : SsOk n most st.1
  le : i ≤ st.1.length
  nx : st.2.1.length = i
  en : st.2.2.length = i
  row : ∀ r ∈ st.2.1, r.length = n.signs.toNat
end Go.Rf


/- Own work: what lives while an automaton is made. -/
set_option linter.unusedVariables false
set_option linter.unusedSimpArgs false
namespace Go.Rf
open Go.RowKit

theorem ARows.unsnoc {g : Nat → Option Blk} {n : Nat} {av : List Nat} {vs : List AV} {ls : List (List AV)} {v : AV} {l : List AV} (h : ARows g n av (vs ++ [v]) (ls ++ [l])) :
    Vec g v 1 l ∧ (∀ i ∈ v.ids, i < n ∧ i ∉ av) ∧ (∀ w ∈ vs, ∀ i ∈ w.ids, i ∉ v.ids) ∧ ARows g n av vs ls := by
  have hl : vs.length = ls.length := by have := h.len; simpa using this
  have hp := List.pairwise_append.mp h.sep
  refine ⟨?_, h.out v (by simp), fun w hw => hp.2.2 w hw v (by simp), hl, fun t h1 h2 => ?_, hp.1, fun w hw => h.out w (by simp [hw])⟩
  · have := h.row vs.length (by simp) (by simp [hl])
    rw [List.getElem_append_right (by omega), List.getElem_append_right (by omega)] at this
    simpa [hl] using this
  · have := h.row t (by simp; omega) (by simp; omega)
    rwa [List.getElem_append_left h1, List.getElem_append_left h2] at this
def zDet : AV := .agg [encI 0, .sl true [], .sl true []]
def rowsA (nx : List (List Int)) : List (List AV) := nx.map fun l => l.map encI
structure AlS (S S00 : St) (id km b4 b5 : Nat) (n : Net) (most : Int) (ss nx : List (List Int)) (en : List Bool) (v vN vE : AV) (rs ex : List AV) (exl : List (List AV)) : Prop where
  mg : S.g id = some (.arr 7 [.agg [encI n.signs, encIss n.by_, encIss n.follow, encIs n.last, encI most, .mp km, v]])
  mm : S.g km = some (.map (entsF 0 ss))
  g4 : S.g b4 = some (.arr 3 [zDet])
  g5 : S.g b5 = some (.arr 3 [.agg [encI n.signs, vN, vE]])
  rows : ARows S.g S.n [id, km, b4, b5] (v :: vN :: vE :: (rs ++ ex)) (ss.map encIs :: rs :: en.map encB :: (rowsA nx ++ exl))
  ne : id ≠ km
  lid : id < S00.n
  lkm : km < S00.n
  l4 : S00.n ≤ b4
  l5 : S00.n ≤ b5
  n45 : b4 ≠ b5
  t4 : b4 < S.n
  t5 : b5 < S.n
  new : ∀ w ∈ (v :: vN :: vE :: (rs ++ ex)), ∀ i ∈ w.ids, S00.n ≤ i
  old : ∀ i, i < S00.n → i ≠ id → i ≠ km → S.g i = S00.g i
  nle : S00.n ≤ S.n
section
variable {S S00 : St} {id km b4 b5 : Nat} {n : Net} {most : Int} {ss nx : List (List Int)} {en : List Bool} {v vN vE : AV} {rs ex : List AV} {exl : List (List AV)}
theorem AlS.mk' (h : AlS S S00 id km b4 b5 n most ss nx en v vN vE rs ex exl) : MkS S id km n most ss v := by
  obtain ⟨hv, ho, _⟩ := h.rows.head
  refine ⟨h.mg, h.mm, hv, h.ne, fun i hi => ?_, Nat.lt_of_lt_of_le h.lid h.nle, Nat.lt_of_lt_of_le h.lkm h.nle, fun i hi => (ho i hi).1⟩
  have := (ho i hi).2
  simp only [List.mem_cons, not_or] at this
  exact ⟨this.1, this.2.1⟩
theorem AlS.up (h : AlS S S00 id km b4 b5 n most ss nx en v vN vE rs ex exl) {m : Nat} (hm : S.n ≤ m) : AlS ⟨m, S.g⟩ S00 id km b4 b5 n most ss nx en v vN vE rs ex exl :=
  ⟨h.mg, h.mm, h.g4, h.g5, h.rows.frame hm (fun _ _ _ _ => rfl), h.ne, h.lid, h.lkm, h.l4, h.l5, h.n45, Nat.lt_of_lt_of_le h.t4 hm, Nat.lt_of_lt_of_le h.t5 hm, h.new, h.old, Nat.le_trans h.nle hm⟩
/-- A set more. -/
theorem AlS.num (h : AlS S S00 id km b4 b5 n most ss nx en v vN vE rs ex exl) {S' : St} {ss' : List (List Int)} {v' : AV} (M : MkS S' id km n most ss' v') (F : Frm S S' (id :: km :: v.ids)) (hv' : ∀ i ∈ v'.ids, S.n ≤ i) :
    AlS S' S00 id km b4 b5 n most ss' nx en v' vN vE rs ex exl := by
  obtain ⟨hv, ho, hs, hr⟩ := h.rows.head
  have hlid := h.lid
  have hlkm := h.lkm
  have h4 := h.l4
  have h5 := h.l5
  have hnle := h.nle
  have hlt4 := h.t4
  have hlt5 := h.t5
  have key : ∀ i, i < S.n → i ≠ id → i ≠ km → i ∉ v.ids → S'.g i = S.g i := fun i h1 h2 h3 h4 => F.g i h1 (by simp [h2, h3, h4])
  have hav : ∀ b, b ∈ [id, km, b4, b5] → b ∉ v.ids := fun b hb hi => (ho b hi).2 hb
  have hFn := F.n
  refine ⟨M.g, M.m, ?_, ?_, ?_, h.ne, h.lid, h.lkm, h.l4, h.l5, h.n45, by omega, by omega, fun w hw i hi => ?_, fun i h1 h2 h3 => ?_, by omega⟩
  · rw [key b4 hlt4 (by omega) (by omega) (hav b4 (by simp))]; exact h.g4
  · rw [key b5 hlt5 (by omega) (by omega) (hav b5 (by simp))]; exact h.g5
  · refine ARows.cons M.vec (fun i hi => ⟨M.lv i hi, ?_⟩) (fun w hw i hi hi2 => ?_) (hr.frame hFn (fun w hw i hi => ?_))
    · have := hv' i hi
      simp only [List.mem_cons, List.not_mem_nil, or_false, not_or]
      omega
    · have := (hr.out w hw i hi2).1
      have := hv' i hi
      omega
    · have h1 := hr.out w hw i hi
      have h2 := h1.2
      simp only [List.mem_cons, List.not_mem_nil, or_false, not_or] at h2
      exact key i h1.1 h2.1 h2.2.1 (fun h3 => hs w hw i h3 hi)
  · rcases List.mem_cons.mp hw with rfl | hw
    · have := hv' i hi; omega
    · exact h.new w (List.mem_cons_of_mem _ hw) i hi
  · rw [key i (by omega) h2 h3 (fun h4 => by have := h.new v (by simp) i h4; omega)]; exact h.old i h1 h2 h3
/-- A row is laid. -/
theorem AlS.row (h : AlS S S00 id km b4 b5 n most ss nx en v vN vE rs [] []) {q : Nat} (hq : S.n ≤ q) {m : Nat} (hm : q < m) {zs : List AV} {L : Nat} (hL : zs.length = L) :
    AlS ((St.mk m S.g).set q (some (.arr 1 zs))) S00 id km b4 b5 n most ss nx en v vN vE rs [.own q 0 L] [zs] := by
  have hlid := h.lid
  have hlkm := h.lkm
  have hnle := h.nle
  have hlt4 := h.t4
  have hlt5 := h.t5
  have key : ∀ i, i < S.n → ((St.mk m S.g).set q (some (.arr 1 zs))).g i = S.g i := fun i hi => by rw [Z4e, if_neg (by omega)]
  have hr := h.rows
  simp only [List.append_nil] at hr
  have hr2 : ARows ((St.mk m S.g).set q (some (.arr 1 zs))).g m [id, km, b4, b5] (v :: vN :: vE :: rs) (ss.map encIs :: rs :: en.map encB :: rowsA nx) := hr.frame (by omega) (fun w hw i hi => key i (hr.out w hw i hi).1)
  have hfin := hr2.snoc (v := .own q 0 L) (l := zs) (.mk' (by simp [Z4e]) hL.symm) (fun i hi => by
      simp only [AV.ids, List.mem_singleton] at hi
      subst hi
      refine ⟨hm, ?_⟩
      simp only [List.mem_cons, List.not_mem_nil, or_false, not_or]
      omega) (fun w hw i hi hi2 => by
      simp only [AV.ids, List.mem_singleton] at hi2
      have := (hr.out w hw i hi).1
      omega)
  refine ⟨by rw [key id (by omega)]; exact h.mg, by rw [key km (by omega)]; exact h.mm, by rw [key b4 hlt4]; exact h.g4, by rw [key b5 hlt5]; exact h.g5, ?_, h.ne, h.lid, h.lkm, h.l4, h.l5, h.n45, by show b4 < m; omega, by show b5 < m; omega, fun w hw i hi => ?_, fun i h1 h2 h3 => by rw [key i (by omega)]; exact h.old i h1 h2 h3, by show S00.n ≤ m; omega⟩
  · rw [Z4f]; simpa using hfin
  · simp only [List.mem_cons, List.mem_append, List.not_mem_nil, or_false] at hw
    have hn := h.new
    simp only [List.append_nil] at hn
    rcases hw with rfl | rfl | rfl | hw | rfl
    · exact hn _ (by simp) i hi
    · exact hn _ (by simp) i hi
    · exact hn _ (by simp) i hi
    · exact hn _ (by simp [hw]) i hi
    · simp only [AV.ids, List.mem_singleton] at hi; omega
theorem AlS.b7 {q L : Nat} {zs : List AV} (h : AlS S S00 id km b4 b5 n most ss nx en v vN vE rs [.own q 0 L] [zs]) : S.g q = some (.arr 1 zs) ∧ zs.length = L ∧ q < S.n := by
  have hr : ARows S.g S.n [id, km, b4, b5] ((v :: vN :: vE :: rs) ++ [.own q 0 L]) ((ss.map encIs :: rs :: en.map encB :: rowsA nx) ++ [zs]) := by simpa using h.rows
  obtain ⟨a, b, c, d⟩ := hr.unsnoc
  rcases a with ⟨e, _⟩ | ⟨id', off, ys, e, g', ho, hd⟩
  · cases e
  · cases e
    simp only [List.drop_zero] at hd
    subst hd
    exact ⟨g', rfl, (b q (by simp [AV.ids])).1⟩
/-- A row's cell is written. -/
theorem AlS.put {q L : Nat} {zs zs' : List AV} (h : AlS S S00 id km b4 b5 n most ss nx en v vN vE rs [.own q 0 L] [zs]) (hl : zs'.length = zs.length) {m : Nat} (hm : S.n ≤ m) :
    AlS ((St.mk m S.g).set q (some (.arr 1 zs'))) S00 id km b4 b5 n most ss nx en v vN vE rs [.own q 0 L] [zs'] := by
  obtain ⟨hq, hL, hqn⟩ := h.b7
  have hr : ARows S.g S.n [id, km, b4, b5] ((v :: vN :: vE :: rs) ++ [.own q 0 L]) ((ss.map encIs :: rs :: en.map encB :: rowsA nx) ++ [zs]) := by simpa using h.rows
  obtain ⟨a, b, c, d⟩ := hr.unsnoc
  have hqo := (b q (by simp [AV.ids])).2
  simp only [List.mem_cons, List.not_mem_nil, or_false, not_or] at hqo
  have hqS : S00.n ≤ q := h.new (.own q 0 L) (by simp) q (by simp [AV.ids])
  have key : ∀ i, i ≠ q → ((St.mk m S.g).set q (some (.arr 1 zs'))).g i = S.g i := fun i hi => by rw [Z4e, if_neg hi]
  have hnle := h.nle
  have t4 := h.t4
  have t5 := h.t5
  have hfin := (d.frame (g' := ((St.mk m S.g).set q (some (.arr 1 zs'))).g) hm (fun w hw i hi => key i (fun e => c w hw i hi (by simp [AV.ids, e])))).snoc (v := .own q 0 L) (l := zs') (.mk' (by simp [Z4e]) (by rw [hl, hL])) (fun i hi => by
      have := b i hi
      exact ⟨by omega, this.2⟩) c
  refine ⟨by rw [key id (fun e => hqo.1 e.symm)]; exact h.mg, by rw [key km (fun e => hqo.2.1 e.symm)]; exact h.mm, by rw [key b4 (fun e => hqo.2.2.1 e.symm)]; exact h.g4, by rw [key b5 (fun e => hqo.2.2.2 e.symm)]; exact h.g5, ?_, h.ne, h.lid, h.lkm, h.l4, h.l5, h.n45, by show b4 < m; omega, by show b5 < m; omega, h.new, fun i h1 h2 h3 => by rw [key i (by omega)]; exact h.old i h1 h2 h3, by show S00.n ≤ m; omega⟩
  rw [Z4f]; simpa using hfin
/-- What is made is frozen. -/
theorem AlS.fz (h : AlS S S00 id km b4 b5 n most ss nx en v vN vE rs [] []) {g : Nat → Option Blk} (hg : ∀ i, S00.n ≤ i → i ≠ b4 → g i = S.g i) : Fz g vN (encIss nx) ∧ Fz g vE (encBs en) := by
  have hrows := h.rows.frame (g' := g) (n' := S.n) (Nat.le_refl _) (fun w hw i hi => hg i (h.new w hw i hi) (fun e => (h.rows.out w hw i hi).2 (by simp [e])))
  obtain ⟨_, _, _, hr⟩ := hrows.head
  obtain ⟨hN, _, _, hr2⟩ := hr.head
  obtain ⟨hE, _, _, hr3⟩ := hr2.head
  simp only [List.append_nil] at hr3
  refine ⟨?_, ?_⟩
  · have hl : nx.length = rs.length := by have := hr3.len; simpa [rowsA] using this.symm
    refine hN.fzL (by simpa using hl) (fun i h1 h2 => ?_)
    have h3 := hr3.row i h1 (by simpa [rowsA, hl] using h1)
    simp only [rowsA, List.getElem_map] at h3 ⊢
    exact h3.fz Z2r
  · exact hE.fz Z2o
theorem Vec.fzNL {g : Nat → Option Blk} {v : AV} {es : Nat} {xs zs : List AV} (h : Vec g v es xs) (hl : zs.length = xs.length) (hz : ∀ i (h1 : i < xs.length) (h2 : i < zs.length), FzN g (xs[i]) (zs[i])) : FzN g v (.sl false zs) := by
  rcases h with ⟨rfl, h0⟩ | ⟨id, off, ys, rfl, h1, h2, h3⟩
  · subst h0
    have : zs = [] := List.eq_nil_of_length_eq_zero hl
    subst this; exact .nil true false (by simp)
  · have hle : off + xs.length = ys.length := by rw [← h3]; simp; omega
    have ht : (ys.drop off).take xs.length = xs := by rw [h3, List.take_length]
    refine .own id off _ es ys zs h1 (by omega) hl (fun i k1 k2 => ?_)
    simp only [ht] at k1 ⊢
    exact hz i k1 k2
theorem FzN.mono {g g' : Nat → Option Blk} {x y : AV} (h : FzN g x y) (hg : ∀ i k, g i = some k → g' i = some k) : FzN g' x y := by
  induction h with
  | v x => exact .v x
  | nil t u h => exact .nil t u h
  | own id off len es xs zs hi hl hz h ih => exact .own id off len es xs zs (hg _ _ hi) hl hz ih
  | agg cs ds hl h ih => exact .agg cs ds hl ih
  | tup cs ds hl h ih => exact .tup cs ds hl ih
theorem AlS.fzN (h : AlS S S00 id km b4 b5 n most ss nx en v vN vE rs [] []) {g : Nat → Option Blk} (hg : ∀ i, S00.n ≤ i → i ≠ b4 → i < S.n → g i = S.g i) : FzN g vN (encIss nx) ∧ FzN g vE (encBs en) := by
  have hrows := h.rows.frame (g' := g) (n' := S.n) (Nat.le_refl _) (fun w hw i hi => hg i (h.new w hw i hi) (fun e => (h.rows.out w hw i hi).2 (by simp [e])) (h.rows.out w hw i hi).1)
  obtain ⟨_, _, _, hr⟩ := hrows.head
  obtain ⟨hN, _, _, hr2⟩ := hr.head
  obtain ⟨hE, _, _, hr3⟩ := hr2.head
  simp only [List.append_nil] at hr3
  refine ⟨?_, ?_⟩
  · have hl : nx.length = rs.length := by have := hr3.len; simpa [rowsA] using this.symm
    refine hN.fzNL (by simpa using hl) (fun i h1 h2 => ?_)
    have h3 := hr3.row i h1 (by simpa [rowsA, hl] using h1)
    simp only [rowsA, List.getElem_map] at h3 ⊢
    exact h3.fzN
  · refine hE.fzNL (by simp) (fun i h1 h2 => ?_)
    simp only [List.getElem_map]
    exact .v _
end
end Go.Rf


/- Own work: (*det.maker).all. -/
set_option linter.unusedVariables false
set_option linter.unusedSimpArgs false
namespace Go.Rf
open Go.RowKit
def Old (S00 S : St) (id km : Nat) : Prop := S00.n ≤ S.n ∧ ∀ i, i < S00.n → i ≠ id → i ≠ km → S.g i = S00.g i
def HBeh (P : Program) (cf : FuncId) (cap : List AV) (S00 : St) (id km : Nat) (n : Net) (most : Int) (kd : Kd) : Prop := ∀ (S : St) (ss : List (List Int)) (v : AV) (set : List Int) (s : Int) (K : AV → St → Prop), MkS S id km n most ss v → Old S00 S id km → Val n set →
  (∀ m, S.n ≤ m → K (encIs (bhS kd n set s)) ⟨m, S.g⟩) → CallR P cf ([encIs set, encI s] ++ cap) S K
structure InI (f : AF) (id b4 b5 q L i : Nat) (clo : AV) : Prop where
  e0 : f 0 = .ptr id 0 0
  e1 : f 1 = clo
  e4 : f 4 = .ptr b4 0 0
  e5 : f 5 = .ptr b5 0 0
  e6 : f 6 = encI i
  e7 : f 7 = .own q 0 L
theorem InI.same {f f' : AF} {id b4 b5 q L i : Nat} {clo : AV} (h : InI f id b4 b5 q L i clo) (hf : ∀ j, j = 0 ∨ j = 1 ∨ j = 4 ∨ j = 5 ∨ j = 6 ∨ j = 7 → f' j = f j) : InI f' id b4 b5 q L i clo :=
  ⟨by rw [hf _ (by simp)]; exact h.e0, by rw [hf _ (by simp)]; exact h.e1, by rw [hf _ (by simp)]; exact h.e4, by rw [hf _ (by simp)]; exact h.e5, by rw [hf _ (by simp)]; exact h.e6, by rw [hf _ (by simp)]; exact h.e7⟩
structure DaI (S00 : St) (id km b4 b5 q i L : Nat) (n : Net) (most : Int) (b : Int → List Int) (ss0 nx : List (List Int)) (en : List Bool) (vN vE : AV) (rs : List AV) (clo : AV) (k : Nat) (f : AF) (S : St) (ss : List (List Int)) (r : List Int) (v : AV) : Prop where
  rf : rowF most b k ss0 = some (ss, r)
  A : AlS S S00 id km b4 b5 n most ss nx en v vN vE rs [.own q 0 L] [r.map encI ++ List.replicate (L - k) (encI 0)]
  I : InI f id b4 b5 q L i clo
  e34 : f 34 = encI L
  e35 : f 35 = encI k
  pre : ∀ j (h : j < ss0.length), ss[j]? = some ss0[j]
end Go.Rf


/- Own work: (*det.maker).all, whole. -/
set_option linter.unusedVariables false
set_option linter.unusedSimpArgs false
namespace Go.Rf
open Go.RowKit
structure OuI (S00 : St) (id km b4 b5 : Nat) (n : Net) (most : Int) (kd : Kd) (clo : AV) (i : Nat) (f : AF) (S : St) (st : Sts) (v vN vE : AV) (rs : List AV) : Prop where
  eq : stF kd n most i = some st
  A : AlS S S00 id km b4 b5 n most st.1 st.2.1 st.2.2 v vN vE rs [] []
  e0 : f 0 = .ptr id 0 0
  e1 : f 1 = clo
  e4 : f 4 = .ptr b4 0 0
  e5 : f 5 = .ptr b5 0 0
  e6 : f 6 = encI i
  min : ∀ m, m < i → ∀ stm, stF kd n most m = some stm → m ≠ stm.1.length
end Go.Rf

