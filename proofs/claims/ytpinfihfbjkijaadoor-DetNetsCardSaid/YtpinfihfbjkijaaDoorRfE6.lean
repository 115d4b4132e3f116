import Derived.Test.YtpinfihfbjkijaaDoorRfE3
import Derived.Test.YtpinfihfbjkijaaDoorRfRows
/- Own work: automata by sets of a net's states (plain laws), and what lives while one is made. -/
set_option linter.unusedVariables false
set_option linter.unusedSimpArgs false
namespace Go.Rf
open Go.RowKit

/-! ### the making -/
inductive Kd where
  | whole
  | tails
  | heads
def bhS (kd : Kd) (n : Net) (set : List Int) (s : Int) : List Int :=
  match kd with
  | .whole => stepN n set s
  | .tails => 0 :: stepN n set s
  | .heads => if endsB n set = true then set else stepN n set s
def numF (most : Int) (ss : List (List Int)) (x : List Int) : Option (List (List Int) × Int) :=
  if x ∈ ss then some (ss, (ss.idxOf x : Int)) else if (ss.length : Int) = most then none else some (ss ++ [x], (ss.length : Int))
def rowF (most : Int) (b : Int → List Int) : Nat → List (List Int) → Option (List (List Int) × List Int)
  | 0, ss => some (ss, [])
  | k + 1, ss => match rowF most b k ss with
    | none => none
    | some (s1, r) => match numF most s1 (b k) with
      | none => none
      | some (s2, j) => some (s2, r ++ [j])
abbrev Sts := List (List Int) × List (List Int) × List Bool
def nxF (kd : Kd) (n : Net) (most : Int) (i : Nat) (st : Sts) : Option Sts :=
  match st.1[i]? with
  | none => none
  | some set => match rowF most (bhS kd n set) n.signs.toNat st.1 with
    | none => none
    | some (s2, r) => some (s2, st.2.1 ++ [r], st.2.2 ++ [endsB n set])
def stF (kd : Kd) (n : Net) (most : Int) : Nat → Option Sts
  | 0 => some ([[0]], [], [])
  | i + 1 => match stF kd n most i with
    | none => none
    | some st => nxF kd n most i st
def goF (kd : Kd) (n : Net) (most : Int) : Nat → Nat → Sts → Option Sts
  | 0, _, _ => none
  | f + 1, i, st => if i = st.1.length then some st else match nxF kd n most i st with
    | none => none
    | some st' => goF kd n most f (i + 1) st'
/-- What it comes to: a number of states too great, or the automaton. -/
def dmakeF (kd : Kd) (n : Net) (most : Int) : Option Sts := goF kd n most (most.toNat + 1) 0 ([[0]], [], [])
def Val (n : Net) (s : List Int) : Prop := (∀ x ∈ s, 0 ≤ x ∧ x < n.follow.length) ∧ s.length ≤ 302
theorem Val.nn {n : Net} {s : List Int} (h : Val n s) : NonNeg s := fun x hx => (h.1 x hx).1
theorem step_val {n : Net} (R : RightN n) (set : List Int) (s : Int) : (∀ x ∈ stepN n set s, 1 ≤ x ∧ x < n.follow.length) ∧ (stepN n set s).length ≤ 301 := by
  refine ⟨fun x hx => ?_, stepN_len R set s⟩
  unfold stepN at hx
  rw [mem_setF] at hx
  unfold behindL at hx
  obtain ⟨p, hp, hx⟩ := List.mem_flatMap.mp hx
  unfold behind1 at hx
  split at hx
  · rename_i h
    have h2 := (List.mem_filter.mp hx).1
    have hlt : p.toNat < n.follow.length := by omega
    rw [List.getD_eq_getElem?_getD, List.getElem?_eq_getElem hlt, Option.getD_some] at h2
    have := (R.follow _ hlt).2 x h2
    have := R.len
    omega
  · cases hx
theorem bh_val {kd : Kd} {n : Net} (R : RightN n) {set : List Int} (h : Val n set) (s : Int) : Val n (bhS kd n set s) := by
  obtain ⟨h1, h2⟩ := step_val R set s
  cases kd with
  | whole => exact ⟨fun x hx => by have := h1 x hx; omega, by show (stepN n set s).length ≤ 302; omega⟩
  | tails =>
    refine ⟨fun x hx => ?_, by show (0 :: stepN n set s).length ≤ 302; simp only [List.length_cons]; omega⟩
    have hx' : x = 0 ∨ x ∈ stepN n set s := by simpa [bhS] using hx
    rcases hx' with rfl | hx'
    · have := R.n1; have := R.len; omega
    · have := h1 x hx'; omega
  | heads =>
    simp only [bhS]
    split
    · exact h
    · exact ⟨fun x hx => by have := h1 x hx; omega, by omega⟩
structure SsOk (n : Net) (most : Int) (ss : List (List Int)) : Prop where
  v : ∀ s ∈ ss, Val n s
  l : (ss.length : Int) ≤ most
theorem numF_ok {n : Net} {most : Int} {ss : List (List Int)} {x : List Int} (h : SsOk n most ss) (hx : Val n x) {p : List (List Int) × Int} (e : numF most ss x = some p) : SsOk n most p.1 ∧ ss.length ≤ p.1.length := by
  unfold numF at e
  split at e
  · cases e; exact ⟨h, Nat.le_refl _⟩
  · split at e
    · cases e
    · cases e
      refine ⟨⟨fun s hs => ?_, ?_⟩, by simp⟩
      · rcases List.mem_append.mp hs with hs | hs
        · exact h.v s hs
        · simp at hs; subst hs; exact hx
      · have := h.l; simp only [List.length_append, List.length_cons, List.length_nil]; omega
theorem rowF_ok {n : Net} {most : Int} {b : Int → List Int} (hb : ∀ s, Val n (b s)) {ss : List (List Int)} (h : SsOk n most ss) : ∀ (k : Nat) {p : List (List Int) × List Int}, rowF most b k ss = some p → SsOk n most p.1 ∧ ss.length ≤ p.1.length ∧ p.2.length = k
  | 0, p, e => by simp only [rowF, Option.some.injEq] at e; subst e; exact ⟨h, Nat.le_refl _, rfl⟩
  | k + 1, p, e => by
    simp only [rowF] at e
    split at e
    · cases e
    · rename_i s1 r h1
      obtain ⟨i1, i2, i3⟩ := rowF_ok hb h k h1
      split at e
      · cases e
      · rename_i s2 j h2
        cases e
        obtain ⟨j1, j2⟩ := numF_ok i1 (hb k) h2
        exact ⟨j1, Nat.le_trans i2 j2, by simp only at i3; simp [i3]⟩
theorem rowF_none {most : Int} {b : Int → List Int} {ss : List (List Int)} {k : Nat} (h : rowF most b k ss = none) : ∀ m, k ≤ m → rowF most b m ss = none
  | 0, hm => by have : k = 0 := by omega
                subst this; exact h
  | m + 1, hm => by
    by_cases hk : k = m + 1
    · subst hk; exact h
    · simp only [rowF, rowF_none h m (by omega)]
structure StOk (n : Net) (most : Int) (i : Nat) (st : Sts) : Prop where
  ss : SsOk n most st.1
  le : i ≤ st.1.length
  nx : st.2.1.length = i
  en : st.2.2.length = i
  row : ∀ r ∈ st.2.1, r.length = n.signs.toNat
theorem nxF_ok {kd : Kd} {n : Net} (R : RightN n) {most : Int} {i : Nat} {st st' : Sts} (h : StOk n most i st) (e : nxF kd n most i st = some st') : StOk n most (i + 1) st' := by
  unfold nxF at e
  split at e
  · cases e
  · rename_i set hs
    obtain ⟨hlt, hse⟩ := List.getElem?_eq_some_iff.mp hs
    split at e
    · cases e
    · rename_i s2 r h1
      cases e
      obtain ⟨j1, j2, j3⟩ := rowF_ok (n := n) (fun s => bh_val R (h.ss.v set (by rw [← hse]; exact List.getElem_mem hlt)) s) h.ss _ h1
      refine ⟨j1, by simp only at j2 ⊢; omega, by simp [h.nx], by simp [h.en], fun r' hr => ?_⟩
      rcases List.mem_append.mp hr with hr | hr
      · exact h.row r' hr
      · simp at hr; subst hr; exact j3
theorem stF_ok {kd : Kd} {n : Net} (R : RightN n) {most : Int} (hm : 1 ≤ most) : ∀ (i : Nat) {st : Sts}, stF kd n most i = some st → StOk n most i st
  | 0, st, e => by
    simp only [stF, Option.some.injEq] at e
    subst e
    refine ⟨⟨fun s hs => ?_, by simpa using hm⟩, by simp, rfl, rfl, by simp⟩
    simp only [List.mem_cons, List.not_mem_nil, or_false] at hs
    subst hs
    exact ⟨fun x hx => by simp at hx; subst hx; have := R.n1; have := R.len; omega, by simp⟩
  | i + 1, st, e => by
    simp only [stF] at e
    split at e
    · cases e
    · rename_i st0 h0
      exact nxF_ok R (stF_ok R hm i h0) e
theorem goF_end {kd : Kd} {n : Net} (R : RightN n) {most : Int} (hm : 1 ≤ most) : ∀ (f i : Nat) {st : Sts}, stF kd n most i = some st → most.toNat + 1 ≤ f + i → ∀ j stj, i ≤ j → stF kd n most j = some stj → j = stj.1.length → (∀ m, i ≤ m → m < j → ∀ stm, stF kd n most m = some stm → m ≠ stm.1.length) → goF kd n most f i st = some stj
  | 0, i, st, h, hf, j, stj, hij, hj, hlen, hmin => by
    have o := stF_ok R hm i h
    have := o.ss.l; have := o.le
    omega
  | f + 1, i, st, h, hf, j, stj, hij, hj, hlen, hmin => by
    simp only [goF]
    by_cases hi : i = st.1.length
    · rw [if_pos hi]
      by_cases hij2 : i = j
      · subst hij2; rw [h] at hj; exact hj
      · exact (hmin i (Nat.le_refl _) (by omega) st h hi).elim
    · rw [if_neg hi]
      by_cases hij2 : i = j
      · subst hij2; rw [h] at hj; cases hj; exact (hi hlen).elim
      · have hs1 : stF kd n most (i + 1) = nxF kd n most i st := by simp only [stF, h]
        cases hn : nxF kd n most i st with
        | none =>
          exfalso
          rw [hn] at hs1
          have key : ∀ m, i + 1 ≤ m → stF kd n most m = none := by
            intro m
            induction m with
            | zero => intro hm; omega
            | succ m ih =>
              intro hm'
              by_cases hmi : m = i
              · subst hmi; exact hs1
              · simp only [stF, ih (by omega)]
          rw [key j (by omega)] at hj; cases hj
        | some st' =>
          rw [hn] at hs1
          exact goF_end R hm f (i + 1) hs1 (by omega) j stj (by omega) hj hlen (fun m h1 h2 => hmin m (by omega) h2)
theorem goF_none {kd : Kd} {n : Net} (R : RightN n) {most : Int} : ∀ (f i : Nat) {st : Sts}, stF kd n most i = some st → ∀ j, i ≤ j → stF kd n most (j + 1) = none → (∀ m, i ≤ m → m ≤ j → ∀ stm, stF kd n most m = some stm → m ≠ stm.1.length) → goF kd n most f i st = none
  | 0, i, st, h, j, hij, hj, hmin => rfl
  | f + 1, i, st, h, j, hij, hj, hmin => by
    simp only [goF]
    rw [if_neg (hmin i (Nat.le_refl _) hij st h)]
    have hs1 : stF kd n most (i + 1) = nxF kd n most i st := by simp only [stF, h]
    cases hn : nxF kd n most i st with
    | none => rfl
    | some st' =>
      rw [hn] at hs1
      simp only
      by_cases hij2 : i = j
      · subst hij2; rw [hs1] at hj; cases hj
      · exact goF_none R f (i + 1) hs1 j (by omega) hj (fun m h1 h2 => hmin m (by omega) h2)
end Go.Rf


/- Own work: what lives while an automaton is made. -/
set_option linter.unusedVariables false
set_option linter.unusedSimpArgs false
namespace Go.Rf
open Go.RowKit

theorem ARows.unsnoc {g : Nat → Option Blk} {n : Nat} {av : List Nat} {vs : List AV} {ls : List (List AV)} {v : AV} {l : List AV} (h : ARows g n av (vs ++ [v]) (ls ++ [l])) :
    Vec g v 1 l ∧ (∀ i ∈ v.ids, i < n ∧ i ∉ av) ∧ (∀ w ∈ vs, ∀ i ∈ w.ids, i ∉ v.ids) ∧ ARows g n av vs ls := by
  have hl : vs.length = ls.length := by have := h.len; simpa using this
  have hp := List.pairwise_append.mp h.sep
  refine ⟨?_, h.out v (by simp), fun w hw => hp.2.2 w hw v (by simp), hl, fun t h1 h2 => ?_, hp.1, fun w hw => h.out w (by simp [hw])⟩
  · have := h.row vs.length (by simp) (by simp [hl])
    rw [List.getElem_append_right (by omega), List.getElem_append_right (by omega)] at this
    simpa [hl] using this
  · have := h.row t (by simp; omega) (by simp; omega)
    rwa [List.getElem_append_left h1, List.getElem_append_left h2] at this
def zDet : AV := .agg [encI 0, .sl true [], .sl true []]
def rowsA (nx : List (List Int)) : List (List AV) := nx.map fun l => l.map encI
structure AlS (S S00 : St) (id km b4 b5 : Nat) (n : Net) (most : Int) (ss nx : List (List Int)) (en : List Bool) (v vN vE : AV) (rs ex : List AV) (exl : List (List AV)) : Prop where
  mg : S.g id = some (.arr 7 [.agg [encI n.signs, encIss n.by_, encIss n.follow, encIs n.last, encI most, .mp km, v]])
  mm : S.g km = some (.map (entsF 0 ss))
  g4 : S.g b4 = some (.arr 3 [zDet])
  g5 : S.g b5 = some (.arr 3 [.agg [encI n.signs, vN, vE]])
  rows : ARows S.g S.n [id, km, b4, b5] (v :: vN :: vE :: (rs ++ ex)) (ss.map encIs :: rs :: en.map encB :: (rowsA nx ++ exl))
  ne : id ≠ km
  lid : id < S00.n
  lkm : km < S00.n
  l4 : S00.n ≤ b4
  l5 : S00.n ≤ b5
  n45 : b4 ≠ b5
  t4 : b4 < S.n
  t5 : b5 < S.n
  new : ∀ w ∈ (v :: vN :: vE :: (rs ++ ex)), ∀ i ∈ w.ids, S00.n ≤ i
  old : ∀ i, i < S00.n → i ≠ id → i ≠ km → S.g i = S00.g i
  nle : S00.n ≤ S.n
section
variable {S S00 : St} {id km b4 b5 : Nat} {n : Net} {most : Int} {ss nx : List (List Int)} {en : List Bool} {v vN vE : AV} {rs ex : List AV} {exl : List (List AV)}
theorem AlS.mk' (h : AlS S S00 id km b4 b5 n most ss nx en v vN vE rs ex exl) : MkS S id km n most ss v := by
  obtain ⟨hv, ho, _⟩ := h.rows.head
  refine ⟨h.mg, h.mm, hv, h.ne, fun i hi => ?_, Nat.lt_of_lt_of_le h.lid h.nle, Nat.lt_of_lt_of_le h.lkm h.nle, fun i hi => (ho i hi).1⟩
  have := (ho i hi).2
  simp only [List.mem_cons, not_or] at this
  exact ⟨this.1, this.2.1⟩
theorem AlS.up (h : AlS S S00 id km b4 b5 n most ss nx en v vN vE rs ex exl) {m : Nat} (hm : S.n ≤ m) : AlS ⟨m, S.g⟩ S00 id km b4 b5 n most ss nx en v vN vE rs ex exl :=
  ⟨h.mg, h.mm, h.g4, h.g5, h.rows.frame hm (fun _ _ _ _ => rfl), h.ne, h.lid, h.lkm, h.l4, h.l5, h.n45, Nat.lt_of_lt_of_le h.t4 hm, Nat.lt_of_lt_of_le h.t5 hm, h.new, h.old, Nat.le_trans h.nle hm⟩
/-- A set more. -/
theorem AlS.num (h : AlS S S00 id km b4 b5 n most ss nx en v vN vE rs ex exl) {S' : St} {ss' : List (List Int)} {v' : AV} (M : MkS S' id km n most ss' v') (F : Frm S S' (id :: km :: v.ids)) (hv' : ∀ i ∈ v'.ids, S.n ≤ i) :
    AlS S' S00 id km b4 b5 n most ss' nx en v' vN vE rs ex exl := by
  obtain ⟨hv, ho, hs, hr⟩ := h.rows.head
  have hlid := h.lid
  have hlkm := h.lkm
  have h4 := h.l4
  have h5 := h.l5
  have hnle := h.nle
  have hlt4 := h.t4
  have hlt5 := h.t5
  have key : ∀ i, i < S.n → i ≠ id → i ≠ km → i ∉ v.ids → S'.g i = S.g i := fun i h1 h2 h3 h4 => F.g i h1 (by simp [h2, h3, h4])
  have hav : ∀ b, b ∈ [id, km, b4, b5] → b ∉ v.ids := fun b hb hi => (ho b hi).2 hb
  have hFn := F.n
  refine ⟨M.g, M.m, ?_, ?_, ?_, h.ne, h.lid, h.lkm, h.l4, h.l5, h.n45, by omega, by omega, fun w hw i hi => ?_, fun i h1 h2 h3 => ?_, by omega⟩
  · rw [key b4 hlt4 (by omega) (by omega) (hav b4 (by simp))]; exact h.g4
  · rw [key b5 hlt5 (by omega) (by omega) (hav b5 (by simp))]; exact h.g5
  · refine ARows.cons M.vec (fun i hi => ⟨M.lv i hi, ?_⟩) (fun w hw i hi hi2 => ?_) (hr.frame hFn (fun w hw i hi => ?_))
    · have := hv' i hi
      simp only [List.mem_cons, List.not_mem_nil, or_false, not_or]
      omega
    · have := (hr.out w hw i hi2).1
      have := hv' i hi
      omega
    · have h1 := hr.out w hw i hi
      have h2 := h1.2
      simp only [List.mem_cons, List.not_mem_nil, or_false, not_or] at h2
      exact key i h1.1 h2.1 h2.2.1 (fun h3 => hs w hw i h3 hi)
  · rcases List.mem_cons.mp hw with rfl | hw
    · have := hv' i hi; omega
    · exact h.new w (List.mem_cons_of_mem _ hw) i hi
  · rw [key i (by omega) h2 h3 (fun h4 => by have := h.new v (by simp) i h4; omega)]; exact h.old i h1 h2 h3
/-- A row is laid. -/
theorem AlS.row (h : AlS S S00 id km b4 b5 n most ss nx en v vN vE rs [] []) {q : Nat} (hq : S.n ≤ q) {m : Nat} (hm : q < m) {zs : List AV} {L : Nat} (hL : zs.length = L) :
    AlS ((St.mk m S.g).set q (some (.arr 1 zs))) S00 id km b4 b5 n most ss nx en v vN vE rs [.own q 0 L] [zs] := by
  have hlid := h.lid
  have hlkm := h.lkm
  have hnle := h.nle
  have hlt4 := h.t4
  have hlt5 := h.t5
  have key : ∀ i, i < S.n → ((St.mk m S.g).set q (some (.arr 1 zs))).g i = S.g i := fun i hi => by rw [Z4y, if_neg (by omega)]
  have hr := h.rows
  simp only [List.append_nil] at hr
  have hr2 : ARows ((St.mk m S.g).set q (some (.arr 1 zs))).g m [id, km, b4, b5] (v :: vN :: vE :: rs) (ss.map encIs :: rs :: en.map encB :: rowsA nx) := hr.frame (by omega) (fun w hw i hi => key i (hr.out w hw i hi).1)
  have hfin := hr2.snoc (v := .own q 0 L) (l := zs) (.mk' (by simp [Z4y]) hL.symm) (fun i hi => by
      simp only [AV.ids, List.mem_singleton] at hi
      subst hi
      refine ⟨hm, ?_⟩
      simp only [List.mem_cons, List.not_mem_nil, or_false, not_or]
      omega) (fun w hw i hi hi2 => by
      simp only [AV.ids, List.mem_singleton] at hi2
      have := (hr.out w hw i hi).1
      omega)
  refine ⟨by rw [key id (by omega)]; exact h.mg, by rw [key km (by omega)]; exact h.mm, by rw [key b4 hlt4]; exact h.g4, by rw [key b5 hlt5]; exact h.g5, ?_, h.ne, h.lid, h.lkm, h.l4, h.l5, h.n45, by show b4 < m; omega, by show b5 < m; omega, fun w hw i hi => ?_, fun i h1 h2 h3 => by rw [key i (by omega)]; exact h.old i h1 h2 h3, by show S00.n ≤ m; omega⟩
  · rw [Z4z]; simpa using hfin
  · simp only [List.mem_cons, List.mem_append, List.not_mem_nil, or_false] at hw
    have hn := h.new
    simp only [List.append_nil] at hn
    rcases hw with rfl | rfl | rfl | hw | rfl
    · exact hn _ (by simp) i hi
    · exact hn _ (by simp) i hi
    · exact hn _ (by simp) i hi
    · exact hn _ (by simp [hw]) i hi
    · simp only [AV.ids, List.mem_singleton] at hi; omega
theorem AlS.b7 {q L : Nat} {zs : List AV} (h : AlS S S00 id km b4 b5 n most ss nx en v vN vE rs [.own q 0 L] [zs]) : S.g q = some (.arr 1 zs) ∧ zs.length = L ∧ q < S.n := by
  have hr : ARows S.g S.n [id, km, b4, b5] ((v :: vN :: vE :: rs) ++ [.own q 0 L]) ((ss.map encIs :: rs :: en.map encB :: rowsA nx) ++ [zs]) := by simpa using h.rows
  obtain ⟨a, b, c, d⟩ := hr.unsnoc
  rcases a with ⟨e, _⟩ | ⟨id', off, ys, e, g', ho, hd⟩
  · cases e
  · cases e
    simp only [List.drop_zero] at hd
    subst hd
    exact ⟨g', rfl, (b q (by simp [AV.ids])).1⟩
/-- A row's cell is written. -/
theorem AlS.put {q L : Nat} {zs zs' : List AV} (h : AlS S S00 id km b4 b5 n most ss nx en v vN vE rs [.own q 0 L] [zs]) (hl : zs'.length = zs.length) {m : Nat} (hm : S.n ≤ m) :
    AlS ((St.mk m S.g).set q (some (.arr 1 zs'))) S00 id km b4 b5 n most ss nx en v vN vE rs [.own q 0 L] [zs'] := by
  obtain ⟨hq, hL, hqn⟩ := h.b7
  have hr : ARows S.g S.n [id, km, b4, b5] ((v :: vN :: vE :: rs) ++ [.own q 0 L]) ((ss.map encIs :: rs :: en.map encB :: rowsA nx) ++ [zs]) := by simpa using h.rows
  obtain ⟨a, b, c, d⟩ := hr.unsnoc
  have hqo := (b q (by simp [AV.ids])).2
  simp only [List.mem_cons, List.not_mem_nil, or_false, not_or] at hqo
  have hqS : S00.n ≤ q := h.new (.own q 0 L) (by simp) q (by simp [AV.ids])
  have key : ∀ i, i ≠ q → ((St.mk m S.g).set q (some (.arr 1 zs'))).g i = S.g i := fun i hi => by rw [Z4y, if_neg hi]
  have hnle := h.nle
  have t4 := h.t4
  have t5 := h.t5
  have hfin := (d.frame (g' := ((St.mk m S.g).set q (some (.arr 1 zs'))).g) hm (fun w hw i hi => key i (fun e => c w hw i hi (by simp [AV.ids, e])))).snoc (v := .own q 0 L) (l := zs') (.mk' (by simp [Z4y]) (by rw [hl, hL])) (fun i hi => by
      have := b i hi
      exact ⟨by omega, this.2⟩) c
  refine ⟨by rw [key id (fun e => hqo.1 e.symm)]; exact h.mg, by rw [key km (fun e => hqo.2.1 e.symm)]; exact h.mm, by rw [key b4 (fun e => hqo.2.2.1 e.symm)]; exact h.g4, by rw [key b5 (fun e => hqo.2.2.2 e.symm)]; exact h.g5, ?_, h.ne, h.lid, h.lkm, h.l4, h.l5, h.n45, by show b4 < m; omega, by show b5 < m; omega, h.new, fun i h1 h2 h3 => by rw [key i (by omega)]; exact h.old i h1 h2 h3, by show S00.n ≤ m; omega⟩
  rw [Z4z]; simpa using hfin
/-- What is made is frozen. -/
theorem AlS.fz (h : AlS S S00 id km b4 b5 n most ss nx en v vN vE rs [] []) {g : Nat → Option Blk} (hg : ∀ i, S00.n ≤ i → i ≠ b4 → g i = S.g i) : Fz g vN (encIss nx) ∧ Fz g vE (encBs en) := by
  have hrows := h.rows.frame (g' := g) (n' := S.n) (Nat.le_refl _) (fun w hw i hi => hg i (h.new w hw i hi) (fun e => (h.rows.out w hw i hi).2 (by simp [e])))
  obtain ⟨_, _, _, hr⟩ := hrows.head
  obtain ⟨hN, _, _, hr2⟩ := hr.head
  obtain ⟨hE, _, _, hr3⟩ := hr2.head
  simp only [List.append_nil] at hr3
  refine ⟨?_, ?_⟩
  · have hl : nx.length = rs.length := by have := hr3.len; simpa [rowsA] using this.symm
    refine hN.fzL (by simpa using hl) (fun i h1 h2 => ?_)
    have h3 := hr3.row i h1 (by simpa [rowsA, hl] using h1)
    simp only [rowsA, List.getElem_map] at h3 ⊢
    exact h3.fz Z32
  · exact hE.fz Z2z
theorem Vec.fzNL {g : Nat → Option Blk} {v : AV} {es : Nat} {xs zs : List AV} (h : Vec g v es xs) (hl : zs.length = xs.length) (hz : ∀ i (h1 : i < xs.length) (h2 : i < zs.length), FzN g (xs[i]) (zs[i])) : FzN g v (.sl false zs) := by
  rcases h with ⟨rfl, h0⟩ | ⟨id, off, ys, rfl, h1, h2, h3⟩
  · subst h0
    have : zs = [] := List.eq_nil_of_length_eq_zero hl
    subst this; exact .nil true false (by simp)
  · have hle : off + xs.length = ys.length := by rw [← h3]; simp; omega
    have ht : (ys.drop off).take xs.length = xs := by rw [h3, List.take_length]
    refine .own id off _ es ys zs h1 (by omega) hl (fun i k1 k2 => ?_)
    simp only [ht] at k1 ⊢
    exact hz i k1 k2
theorem FzN.mono {g g' : Nat → Option Blk} {x y : AV} (h : FzN g x y) (hg : ∀ i k, g i = some k → g' i = some k) : FzN g' x y := by
  induction h with
  | v x => exact .v x
  | nil t u h => exact .nil t u h
  | own id off len es xs zs hi hl hz h ih => exact .own id off len es xs zs (hg _ _ hi) hl hz ih
  | agg cs ds hl h ih => exact .agg cs ds hl ih
  | tup cs ds hl h ih => exact .tup cs ds hl ih
theorem AlS.fzN (h : AlS S S00 id km b4 b5 n most ss nx en v vN vE rs [] []) {g : Nat → Option Blk} (hg : ∀ i, S00.n ≤ i → i ≠ b4 → i < S.n → g i = S.g i) : FzN g vN (encIss nx) ∧ FzN g vE (encBs en) := by
  have hrows := h.rows.frame (g' := g) (n' := S.n) (Nat.le_refl _) (fun w hw i hi => hg i (h.new w hw i hi) (fun e => (h.rows.out w hw i hi).2 (by simp [e])) (h.rows.out w hw i hi).1)
  obtain ⟨_, _, _, hr⟩ := hrows.head
  obtain ⟨hN, _, _, hr2⟩ := hr.head
  obtain ⟨hE, _, _, hr3⟩ := hr2.head
  simp only [List.append_nil] at hr3
  refine ⟨?_, ?_⟩
  · have hl : nx.length = rs.length := by have := hr3.len; simpa [rowsA] using this.symm
    refine hN.fzNL (by simpa using hl) (fun i h1 h2 => ?_)
    have h3 := hr3.row i h1 (by simpa [rowsA, hl] using h1)
    simp only [rowsA, List.getElem_map] at h3 ⊢
    exact h3.fzN
  · refine hE.fzNL (by simp) (fun i h1 h2 => ?_)
    simp only [List.getElem_map]
    exact .v _
end
end Go.Rf


/- Own work: (*det.maker).all. -/
set_option linter.unusedVariables false
set_option linter.unusedSimpArgs false
namespace Go.Rf
open Go.RowKit
def c_da_in (f_det_maker_number : FuncId) : AC :=
  (.block 2 (.loop (.seq (.reg none [
        ⟨(some 36), .bin .lss (.t 35) (.t 34), none, none⟩])
       (.seq (.cond (.t 36) .skip (.exit 2))
       (.seq (.block 3 (.seq (.reg none [
         ⟨(some 37), .mv (.t 35), none, none⟩,
         ⟨(some 8), .mv (.t 37), none, none⟩])
        (.regX [
         ⟨(some 38), .mv (.t 7), none, none⟩,
         ⟨(some 39), .mv (.t 8), none, none⟩,
         ⟨(some 40), .mv (.t 0), none, none⟩,
         ⟨(some 41), .mv (.t 1), none, none⟩,
         ⟨(some 42), .mv (.t 0), none, none⟩,
         ⟨(some 43), .nilc (.t 42), none, none⟩,
         ⟨(some 44), .fieldA 6 (.t 43), none, none⟩,
         ⟨(some 45), .load none (.t 44), none, none⟩,
         ⟨(some 46), .mv (.t 6), none, none⟩,
         ⟨(some 47), .idxA 1 (.t 45) (.t 46), none, none⟩,
         ⟨(some 48), .load none (.t 47), none, none⟩,
         ⟨(some 49), .mv (.t 8), none, none⟩,
         ⟨(some 50), .mv (.c .junk), none, (some ((.t 41), [(.t 48), (.t 49)]))⟩,
         ⟨(some 51), .mv (.c .junk), none, (some ((.c (.clo f_det_maker_number [] [])), [(.t 40), (.t 50)]))⟩,
         ⟨(some 52), .idxA 1 (.t 38) (.t 39), none, none⟩,
         ⟨none, .store 1 (.t 52) (.t 51), none, none⟩] none)))
       (.reg none [
        ⟨(some 53), .bin .add (.t 35) (.c (.v (.int .i64 1))), none, none⟩,
        ⟨(some 35), .mv (.t 53), none, none⟩]))))))
def c_da_last (f_det_maker_ends : FuncId) : AC :=
  (.reg (some [[], [], [], [], [], [true], [false, true], [false, false, true], [false, false, false, true], [false, false, false, false, true], [false, false, false, false, false, true], [false, false, false, false, false, false, true], [false, false, false, false, false, false, false, true], [false, false, false, false, false, false, false, false, true], [false, false, false, false, false, false, false, false, false, true], [], [], [], [true]]) [
      ⟨(some 54), .fieldA 1 (.t 5), none, none⟩,
      ⟨(some 55), .load none (.t 54), none, none⟩,
      ⟨(some 56), .mv (.t 7), none, none⟩,
      ⟨(some 57), .bslice 1 1 (.sl true []) [(0, (.t 56))], none, none⟩,
      ⟨(some 58), .app 1 24 (.t 55) (.t 57), none, none⟩,
      ⟨(some 59), .fieldA 2 (.t 5), none, none⟩,
      ⟨(some 60), .load none (.t 59), none, none⟩,
      ⟨(some 61), .mv (.t 0), none, none⟩,
      ⟨(some 62), .mv (.t 0), none, none⟩,
      ⟨(some 63), .nilc (.t 62), none, none⟩,
      ⟨(some 64), .fieldA 6 (.t 63), none, none⟩,
      ⟨(some 65), .load none (.t 64), none, none⟩,
      ⟨(some 66), .mv (.t 6), none, none⟩,
      ⟨(some 67), .idxA 1 (.t 65) (.t 66), none, none⟩,
      ⟨(some 68), .load none (.t 67), none, none⟩,
      ⟨(some 69), .mv (.c .junk), none, (some ((.c (.clo f_det_maker_ends [] [])), [(.t 61), (.t 68)]))⟩,
      ⟨(some 70), .bslice 1 1 (.v (.bool false)) [(0, (.t 69))], none, none⟩,
      ⟨(some 71), .app 1 1 (.t 60) (.t 70), none, none⟩,
      ⟨(some 72), .fieldA 1 (.t 5), none, none⟩,
      ⟨none, .store 1 (.t 72) (.t 58), none, none⟩,
      ⟨(some 73), .fieldA 2 (.t 5), none, none⟩,
      ⟨none, .store 1 (.t 73) (.t 71), none, none⟩])
def c_da_out (f_det_maker_number f_det_maker_ends : FuncId) : AC :=
  (.block 0 (.loop (.seq (.seq (.reg none [
     ⟨(some 18), .mv (.t 6), none, none⟩,
     ⟨(some 19), .mv (.t 0), none, none⟩,
     ⟨(some 20), .nilc (.t 19), none, none⟩,
     ⟨(some 21), .fieldA 6 (.t 20), none, none⟩,
     ⟨(some 22), .load none (.t 21), none, none⟩,
     ⟨(some 23), .len (.t 22), none, none⟩,
     ⟨(some 24), .bin .lss (.t 18) (.t 23), none, none⟩])
    (.cond (.t 24) .skip (.exit 0)))
    (.seq (.block 1 (.seq (.reg none [
      ⟨(some 27), .mv (.t 0), none, none⟩,
      ⟨(some 28), .nilc (.t 27), none, none⟩,
      ⟨(some 29), .fieldA 0 (.t 28), none, none⟩,
      ⟨(some 30), .fieldA 0 (.t 29), none, none⟩,
      ⟨(some 31), .load none (.t 30), none, none⟩,
      ⟨(some 32), .mks 1 8 (.v (.int .i64 0)) (.t 31) (.t 31), none, none⟩,
      ⟨(some 7), .mv (.t 32), none, none⟩])
     (.seq (.seq (.reg none [
      ⟨(some 33), .mv (.t 7), none, none⟩,
      ⟨(some 34), .len (.t 33), none, none⟩,
      ⟨(some 35), .mv (.c (.v (.int .i64 0))), none, none⟩])
     (c_da_in f_det_maker_number))
     (c_da_last f_det_maker_ends))))
    (.reg none [
     ⟨(some 25), .mv (.t 6), none, none⟩,
     ⟨(some 26), .bin .add (.t 25) (.c (.v (.int .i64 1))), none, none⟩,
     ⟨(some 6), .mv (.t 26), none, none⟩])))))
def c_det_maker_all (f_det_maker_number f_det_maker_ends : FuncId) : AC :=
  (.seq (.reg none [
   ⟨(some 4), .alloc (.agg [(.v (.int .i64 0)), (.sl true []), (.sl true [])]) 3, none, none⟩])
  (.seq (.reg none [
   ⟨(some 9), .mv (.t 0), none, none⟩,
   ⟨(some 10), .nilc (.t 9), none, none⟩,
   ⟨(some 11), .fieldA 0 (.t 10), none, none⟩,
   ⟨(some 12), .fieldA 0 (.t 11), none, none⟩,
   ⟨(some 13), .load none (.t 12), none, none⟩,
   ⟨(some 14), .build (.agg [(.v (.int .i64 0)), (.sl true []), (.sl true [])]) [(0, 1)] [(0, (.t 13))], none, none⟩,
   ⟨(some 5), .alloc (.agg [(.v (.int .i64 0)), (.sl true []), (.sl true [])]) 3, none, none⟩,
   ⟨none, .store 3 (.t 5) (.t 14), none, none⟩])
  (.seq (.regX [
   ⟨(some 15), .mv (.t 0), none, none⟩,
   ⟨(some 16), .bslice 1 1 (.v (.int .i64 0)) [(0, (.c (.v (.int .i64 0))))], none, none⟩,
   ⟨(some 17), .mv (.c .junk), none, (some ((.c (.clo f_det_maker_number [] [])), [(.t 15), (.t 16)]))⟩] none)
  (.seq (.seq (.reg none [
   ⟨(some 6), .mv (.c (.v (.int .i64 0))), none, none⟩])
  (c_da_out f_det_maker_number f_det_maker_ends))
  (.seq (.reg none [
   ⟨(some 74), .load (some 3) (.t 5), none, none⟩,
   ⟨none, .store 3 (.t 4) (.t 74), none, none⟩])
  .ret)))))
def tmV (fT : TypeId) : Value := .iface fT (.agg #[])
def HNum (P : Program) (fnum fT : FuncId) (n : Net) : Prop := ∀ (id km : Nat) (most : Int) (ss : List (List Int)) (v : AV) (set : List Int) (S : St) (K : AV → St → Prop) (X : Value → St → Prop), MkS S id km n most ss v → Val n set → SsOk n most ss → most ≤ 3000 →
  (set ∈ ss → ∀ m, S.n ≤ m → K (encI (ss.idxOf set)) ⟨m, S.g⟩) →
  (set ∉ ss → (ss.length : Int) < most → ∀ S' v', MkS S' id km n most (ss ++ [set]) v' → Frm S S' (id :: km :: v.ids) → (∀ i ∈ v'.ids, S.n ≤ i) → K (encI ss.length) S') →
  (set ∉ ss → (ss.length : Int) = most → ∀ m, S.n ≤ m → X (tmV fT) ⟨m, S.g⟩) → CallX P fnum [.ptr id 0 0, encIs set] S K X
def Old (S00 S : St) (id km : Nat) : Prop := S00.n ≤ S.n ∧ ∀ i, i < S00.n → i ≠ id → i ≠ km → S.g i = S00.g i
def HBeh (P : Program) (cf : FuncId) (cap : List AV) (S00 : St) (id km : Nat) (n : Net) (most : Int) (kd : Kd) : Prop := ∀ (S : St) (ss : List (List Int)) (v : AV) (set : List Int) (s : Int) (K : AV → St → Prop), MkS S id km n most ss v → Old S00 S id km → Val n set →
  (∀ m, S.n ≤ m → K (encIs (bhS kd n set s)) ⟨m, S.g⟩) → CallR P cf ([encIs set, encI s] ++ cap) S K
structure InI (f : AF) (id b4 b5 q L i : Nat) (clo : AV) : Prop where
  e0 : f 0 = .ptr id 0 0
  e1 : f 1 = clo
  e4 : f 4 = .ptr b4 0 0
  e5 : f 5 = .ptr b5 0 0
  e6 : f 6 = encI i
  e7 : f 7 = .own q 0 L
theorem InI.same {f f' : AF} {id b4 b5 q L i : Nat} {clo : AV} (h : InI f id b4 b5 q L i clo) (hf : ∀ j, j = 0 ∨ j = 1 ∨ j = 4 ∨ j = 5 ∨ j = 6 ∨ j = 7 → f' j = f j) : InI f' id b4 b5 q L i clo :=
  ⟨by rw [hf _ (by simp)]; exact h.e0, by rw [hf _ (by simp)]; exact h.e1, by rw [hf _ (by simp)]; exact h.e4, by rw [hf _ (by simp)]; exact h.e5, by rw [hf _ (by simp)]; exact h.e6, by rw [hf _ (by simp)]; exact h.e7⟩
structure DaI (S00 : St) (id km b4 b5 q i L : Nat) (n : Net) (most : Int) (b : Int → List Int) (ss0 nx : List (List Int)) (en : List Bool) (vN vE : AV) (rs : List AV) (clo : AV) (k : Nat) (f : AF) (S : St) (ss : List (List Int)) (r : List Int) (v : AV) : Prop where
  rf : rowF most b k ss0 = some (ss, r)
  A : AlS S S00 id km b4 b5 n most ss nx en v vN vE rs [.own q 0 L] [r.map encI ++ List.replicate (L - k) (encI 0)]
  I : InI f id b4 b5 q L i clo
  e34 : f 34 = encI L
  e35 : f 35 = encI k
  pre : ∀ j (h : j < ss0.length), ss[j]? = some ss0[j]
def DaE (S00 : St) (id km b4 b5 q i L : Nat) (n : Net) (most : Int) (b : Int → List Int) (ss0 nx : List (List Int)) (en : List Bool) (vN vE : AV) (rs : List AV) (clo : AV) (k : Nat) (f : AF) (S : St) : Prop :=
  ∃ ss r v, DaI S00 id km b4 b5 q i L n most b ss0 nx en vN vE rs clo k f S ss r v
theorem da_in_ok {P : Program} {fnum fT cf : FuncId} {cap : List AV} {S00 : St} {id km b4 b5 q i : Nat} {n : Net} {most : Int} {kd : Kd} {ss0 nx : List (List Int)} {en : List Bool} {vN vE : AV} {rs : List AV} {v0 : AV} {set : List Int}
    (R : RightN n) (hnum : HNum P fnum fT n) (hbeh : HBeh P cf cap S00 id km n most kd) (hm3 : most ≤ 3000) {L : Nat} (hLe : n.signs.toNat = L) (hss : SsOk n most ss0) (hset : ss0[i]? = some set) {f : AF} {S : St} {Q : Exit → AF → St → Prop}
    (A : AlS S S00 id km b4 b5 n most ss0 nx en v0 vN vE rs [.own q 0 L] [List.replicate L (encI 0)]) (I : InI f id b4 b5 q L i (.clo cf [] cap)) (e34 : f 34 = encI L) (e35 : f 35 = encI 0)
    (hk : ∀ f' S' ss' r v', rowF most (bhS kd n set) L ss0 = some (ss', r) → AlS S' S00 id km b4 b5 n most ss' nx en v' vN vE rs [.own q 0 L] [r.map encI] → InI f' id b4 b5 q L i (.clo cf [] cap) → (∀ j (h : j < ss0.length), ss'[j]? = some ss0[j]) → Q .normal f' S')
    (hp : rowF most (bhS kd n set) L ss0 = none → ∀ f' S', Old S00 S' id km → Q (pn (tmV fT)) f' S') : AW P (c_da_in fnum) Q f S := by
  obtain ⟨hil, hse⟩ := List.getElem?_eq_some_iff.mp hset
  have hL4 : L ≤ 400 := by have := R.s2; omega
  have hvs : Val n set := hss.v set (by rw [← hse]; exact List.getElem_mem hil)
  simp [Z0j, Z0e, Z0f, Z0b, Z0c, Z0k, Z0d, Z0h, Z0i, Z3a, Z39, Z08, Z0a, Z07, Z01, Z03, Z00, Z05, Z06, Z04, Z26, Z25, Z4q, Z4s, Z4r, Z4p, Z1u, Z1v, Z1t, Z40, Z3x, Z3z, Z3y, Z41, Z1s, Z2j, Z3d, Z4f, Z1k, Z1l, Z1m, Z4d, Z4e, Z1i, Z2i, Z1j, Z3v, Z3s, Z3u, Z3t, Z3w, Z4l, Z4k, Z0v, Z0w, Z0x, Z0u, Z1h, Z4w, Z4v, Z4x, Z4u, Z4t, ex, Z4n, Z4m, ev_t, ev_c, Z2h, Z2g, Z4y, Z4z, Z2x, Z2w, Z2q, Z2u, Z2v, Z2r, Z2s, Z2t, putc, exBslice, lfill, exField, exIdxV, exIdxP, exBox, exAlloc, exLoad, exStore, exFieldA, exIdxA, exLen, exPick, exUn, exBeq, exMM, exSeq, seqGo, exExt, binV, intOp, subc, AV.solid, S0, encI, encB, Z1o, Z45, Z42, Z46, Z44, Z43, Z0g, Z1p, Z1r, Z3f, Z1q, Z4g, Z1n, Z2k, Z3e, Z4j, Z09, Z02, Z2a, Z2b, Z29, exMki, plainV, plainVs, c_da_in]
  refine AW_for L (DaE S00 id km b4 b5 q i L n most (bhS kd n set) ss0 nx en vN vE rs (.clo cf [] cap)) ?_ ?_
  · exact ⟨ss0, [], v0, rfl, by simpa using A, I, e34, e35, fun j hj => List.getElem?_eq_getElem hj⟩
  · rintro k f S hk' ⟨ss, r, v, D⟩
    obtain ⟨hok, hle, hrl⟩ := rowF_ok (n := n) (fun s => bh_val R hvs s) hss k D.rf
    simp only at hok hle hrl
    have e0 := D.I.e0
    have e1 := D.I.e1
    have e6 := D.I.e6
    have e7 := D.I.e7
    have e34 := D.e34
    have e35 := D.e35
    have hmg := D.A.mg
    by_cases hlt : k < L
    · -- one more
      have hpi := D.pre i hil
      rw [hse] at hpi
      obtain ⟨hvec, hvo, _⟩ := D.A.rows.head
      have hown : ∃ vid off ys, v = .own vid off ss.length ∧ S.g vid = some (.arr 1 ys) ∧ off + ss.length ≤ ys.length ∧ ys[off + i]? = some (encIs set) := by
        rcases hvec with ⟨_, h0⟩ | ⟨vid, off, ys, h1, h2, h3, h4⟩
        · simp at h0; subst h0; simp at hpi
        · refine ⟨vid, off, ys, by rw [h1]; simp, h2, ?_, ?_⟩
          · have := congrArg List.length h4
            simp at this; omega
          · have : (ys.drop off)[i]? = some (encIs set) := by rw [h4, List.getElem?_map, hpi]; rfl
            simpa using this
      obtain ⟨vid, off, ys, hv, hgv, hol, hyi⟩ := hown
      have hi2 : i < ss.length := by omega
      have hilt : (i : Int) < ss.length := by omega
      subst hv
      have hce : (encIs set).cells = [encIs set] := rfl
      have A := D.A
      simp [Z0j, Z0e, Z0f, Z0b, Z0c, Z0k, Z0d, Z0h, Z0i, Z3a, Z39, Z08, Z0a, Z07, Z01, Z03, Z00, Z05, Z06, Z04, Z26, Z25, Z4q, Z4s, Z4r, Z4p, Z1u, Z1v, Z1t, Z40, Z3x, Z3z, Z3y, Z41, Z1s, Z2j, Z3d, Z4f, Z1k, Z1l, Z1m, Z4d, Z4e, Z1i, Z2i, Z1j, Z3v, Z3s, Z3u, Z3t, Z3w, Z4l, Z4k, Z0v, Z0w, Z0x, Z0u, Z1h, Z4w, Z4v, Z4x, Z4u, Z4t, ex, Z4n, Z4m, ev_t, ev_c, Z2h, Z2g, Z4y, Z4z, Z2x, Z2w, Z2q, Z2u, Z2v, Z2r, Z2s, Z2t, putc, exBslice, lfill, exField, exIdxV, exIdxP, exBox, exAlloc, exLoad, exStore, exFieldA, exIdxA, exLen, exPick, exUn, exBeq, exMM, exSeq, seqGo, exExt, binV, intOp, subc, AV.solid, S0, encI, encB, Z1o, Z45, Z42, Z46, Z44, Z43, Z0g, Z1p, Z1r, Z3f, Z1q, Z4g, Z1n, Z2k, Z3e, Z4j, Z09, Z02, Z2a, Z2b, Z29, exMki, plainV, plainVs, e0, e1, e6, e7, e34, e35, hlt, hmg, exNil, hgv, hilt, hol, hyi, hce]
      refine CallX.ofR (hbeh _ ss _ set k _ (A.up (m := S.n + 1 + 2 + 16) (by omega)).mk' ⟨by have := A.nle; show S00.n ≤ S.n + 1 + 2 + 16; omega, A.old⟩ hvs fun m hm => ?_)
      simp [Z0j, Z0e, Z0f, Z0b, Z0c, Z0k, Z0d, Z0h, Z0i, Z3a, Z39, Z08, Z0a, Z07, Z01, Z03, Z00, Z05, Z06, Z04, Z26, Z25, Z4q, Z4s, Z4r, Z4p, Z1u, Z1v, Z1t, Z40, Z3x, Z3z, Z3y, Z41, Z1s, Z2j, Z3d, Z4f, Z1k, Z1l, Z1m, Z4d, Z4e, Z1i, Z2i, Z1j, Z3v, Z3s, Z3u, Z3t, Z3w, Z4l, Z4k, Z0v, Z0w, Z0x, Z0u, Z1h, Z4w, Z4v, Z4x, Z4u, Z4t, ex, Z4n, Z4m, ev_t, ev_c, Z2h, Z2g, Z4y, Z4z, Z2x, Z2w, Z2q, Z2u, Z2v, Z2r, Z2s, Z2t, putc, exBslice, lfill, exField, exIdxV, exIdxP, exBox, exAlloc, exLoad, exStore, exFieldA, exIdxA, exLen, exPick, exUn, exBeq, exMM, exSeq, seqGo, exExt, binV, intOp, subc, AV.solid, S0, encI, encB, Z1o, Z45, Z42, Z46, Z44, Z43, Z0g, Z1p, Z1r, Z3f, Z1q, Z4g, Z1n, Z2k, Z3e, Z4j, Z09, Z02, Z2a, Z2b, Z29, exMki, plainV, plainVs]
      have hvb := bh_val (kd := kd) R hvs (k : Int)
      have hzk : ∃ zs, zs = r.map encI ++ List.replicate (L - k) (encI 0) ∧ zs.length = L ∧ zs[k]? = some (encI 0) ∧ ∀ j : Int, zs.set k (encI j) = (r ++ [j]).map encI ++ List.replicate (L - (k + 1)) (encI 0) := by
        refine ⟨_, rfl, by simp [hrl]; omega, ?_, fun j => ?_⟩
        · rw [List.getElem?_append_right (by simp [hrl]), List.length_map, hrl, Nat.sub_self, List.getElem?_replicate, if_pos (by omega)]
        · rw [List.set_append_right _ _ (by simp [hrl]), List.length_map, hrl, Nat.sub_self, show L - k = (L - (k + 1)) + 1 by omega, List.replicate_succ, List.set_cons_zero]
          simp
      obtain ⟨zs, hz1, hz2, hz3, hz4⟩ := hzk
      have hkL : (k : Int) < L := by omega
      have hze : (encI 0) = .v (.int .i64 0) := rfl
      rw [hze] at hz3
      have hrec1 : numF most ss (bhS kd n set k) = none → rowF most (bhS kd n set) (k + 1) ss0 = none := fun h => by simp only [rowF, D.rf, h]
      have hrec2 : ∀ s2 j, numF most ss (bhS kd n set k) = some (s2, j) → rowF most (bhS kd n set) (k + 1) ss0 = some (s2, r ++ [j]) := fun s2 j h => by simp only [rowF, D.rf, h]
      have A0 := A
      rw [← hz1] at A0
      refine hnum id km most ss _ (bhS kd n set k) ⟨m, S.g⟩ _ _ (A.up (m := m) (by simp only at hm; omega)).mk' hvb hok hm3 (fun hin m2 hm2 => ?_) (fun hin hlt2 S' v' M' F' hv' => ?_) (fun hin hfull m2 hm2 => ?_)
      · have hnf : numF most ss (bhS kd n set k) = some (ss, (ss.idxOf (bhS kd n set k) : Int)) := by unfold numF; rw [if_pos hin]
        have A2 := A0.up (m := m2) (by simp only at hm hm2; omega)
        obtain ⟨g7, _, hqn⟩ := A2.b7
        try simp only at g7
        simp [Z0j, Z0e, Z0f, Z0b, Z0c, Z0k, Z0d, Z0h, Z0i, Z3a, Z39, Z08, Z0a, Z07, Z01, Z03, Z00, Z05, Z06, Z04, Z26, Z25, Z4q, Z4s, Z4r, Z4p, Z1u, Z1v, Z1t, Z40, Z3x, Z3z, Z3y, Z41, Z1s, Z2j, Z3d, Z4f, Z1k, Z1l, Z1m, Z4d, Z4e, Z1i, Z2i, Z1j, Z3v, Z3s, Z3u, Z3t, Z3w, Z4l, Z4k, Z0v, Z0w, Z0x, Z0u, Z1h, Z4w, Z4v, Z4x, Z4u, Z4t, ex, Z4n, Z4m, ev_t, ev_c, Z2h, Z2g, Z4y, Z4z, Z2x, Z2w, Z2q, Z2u, Z2v, Z2r, Z2s, Z2t, putc, exBslice, lfill, exField, exIdxV, exIdxP, exBox, exAlloc, exLoad, exStore, exFieldA, exIdxA, exLen, exPick, exUn, exBeq, exMM, exSeq, seqGo, exExt, binV, intOp, subc, AV.solid, S0, encI, encB, Z1o, Z45, Z42, Z46, Z44, Z43, Z0g, Z1p, Z1r, Z3f, Z1q, Z4g, Z1n, Z2k, Z3e, Z4j, Z09, Z02, Z2a, Z2b, Z29, exMki, plainV, plainVs, g7, hkL, hz2, hz3, hze, e35]
        rw [wrap_in _ (by omega)]
        refine ⟨hlt, ss, r ++ [(ss.idxOf (bhS kd n set k) : Int)], (.own vid off ss.length), ⟨hrec2 _ _ hnf, ?_, ?_, ?_, ?_, ?_⟩⟩
        · have A3 := A2.put (zs' := zs.set k (encI (ss.idxOf (bhS kd n set k) : Int))) (by simp) (Nat.le_refl _)
          rw [← hz4]
          refine A3.up ?_
          simp [Z4z]
        · refine D.I.same fun j hj => ?_
          rcases hj with rfl | rfl | rfl | rfl | rfl | rfl <;> simp [Z4n]
        · simp [Z4n, e34, encI]
        · simp [Z4n, encI]
        · first
            | exact D.pre
            | (intro j hj
               have := D.pre j hj
               have hjl := (List.getElem?_eq_some_iff.mp this).1
               rw [List.getElem?_append_left hjl]; exact this)
      · have hnf : numF most ss (bhS kd n set k) = some (ss ++ [bhS kd n set k], (ss.length : Int)) := by unfold numF; rw [if_neg hin, if_neg (by omega)]
        have A2 := (A0.up (m := m) (by simp only at hm; omega)).num M' F' hv'
        obtain ⟨g7, _, hqn⟩ := A2.b7
        try simp only at g7
        simp [Z0j, Z0e, Z0f, Z0b, Z0c, Z0k, Z0d, Z0h, Z0i, Z3a, Z39, Z08, Z0a, Z07, Z01, Z03, Z00, Z05, Z06, Z04, Z26, Z25, Z4q, Z4s, Z4r, Z4p, Z1u, Z1v, Z1t, Z40, Z3x, Z3z, Z3y, Z41, Z1s, Z2j, Z3d, Z4f, Z1k, Z1l, Z1m, Z4d, Z4e, Z1i, Z2i, Z1j, Z3v, Z3s, Z3u, Z3t, Z3w, Z4l, Z4k, Z0v, Z0w, Z0x, Z0u, Z1h, Z4w, Z4v, Z4x, Z4u, Z4t, ex, Z4n, Z4m, ev_t, ev_c, Z2h, Z2g, Z4y, Z4z, Z2x, Z2w, Z2q, Z2u, Z2v, Z2r, Z2s, Z2t, putc, exBslice, lfill, exField, exIdxV, exIdxP, exBox, exAlloc, exLoad, exStore, exFieldA, exIdxA, exLen, exPick, exUn, exBeq, exMM, exSeq, seqGo, exExt, binV, intOp, subc, AV.solid, S0, encI, encB, Z1o, Z45, Z42, Z46, Z44, Z43, Z0g, Z1p, Z1r, Z3f, Z1q, Z4g, Z1n, Z2k, Z3e, Z4j, Z09, Z02, Z2a, Z2b, Z29, exMki, plainV, plainVs, g7, hkL, hz2, hz3, hze, e35]
        rw [wrap_in _ (by omega)]
        refine ⟨hlt, (ss ++ [bhS kd n set k]), r ++ [(ss.length : Int)], v', ⟨hrec2 _ _ hnf, ?_, ?_, ?_, ?_, ?_⟩⟩
        · have A3 := A2.put (zs' := zs.set k (encI (ss.length : Int))) (by simp) (Nat.le_refl _)
          rw [← hz4]
          refine A3.up ?_
          simp [Z4z]
        · refine D.I.same fun j hj => ?_
          rcases hj with rfl | rfl | rfl | rfl | rfl | rfl <;> simp [Z4n]
        · simp [Z4n, e34, encI]
        · simp [Z4n, encI]
        · first
            | exact D.pre
            | (intro j hj
               have := D.pre j hj
               have hjl := (List.getElem?_eq_some_iff.mp this).1
               rw [List.getElem?_append_left hjl]; exact this)
      · have hnf : numF most ss (bhS kd n set k) = none := by unfold numF; rw [if_neg hin, if_pos hfull]
        rw [Z4j, Z02, Z09, Z09, Z02]
        refine hp (rowF_none (hrec1 hnf) L (by omega)) _ _ ⟨by have := A.nle; show S00.n ≤ m2; simp only at hm hm2; omega, A.old⟩
    · have hkL : k = L := by omega
      subst hkL
      have hnlt : ¬ ((k : Int) < k) := by omega
      simp [Z0j, Z0e, Z0f, Z0b, Z0c, Z0k, Z0d, Z0h, Z0i, Z3a, Z39, Z08, Z0a, Z07, Z01, Z03, Z00, Z05, Z06, Z04, Z26, Z25, Z4q, Z4s, Z4r, Z4p, Z1u, Z1v, Z1t, Z40, Z3x, Z3z, Z3y, Z41, Z1s, Z2j, Z3d, Z4f, Z1k, Z1l, Z1m, Z4d, Z4e, Z1i, Z2i, Z1j, Z3v, Z3s, Z3u, Z3t, Z3w, Z4l, Z4k, Z0v, Z0w, Z0x, Z0u, Z1h, Z4w, Z4v, Z4x, Z4u, Z4t, ex, Z4n, Z4m, ev_t, ev_c, Z2h, Z2g, Z4y, Z4z, Z2x, Z2w, Z2q, Z2u, Z2v, Z2r, Z2s, Z2t, putc, exBslice, lfill, exField, exIdxV, exIdxP, exBox, exAlloc, exLoad, exStore, exFieldA, exIdxA, exLen, exPick, exUn, exBeq, exMM, exSeq, seqGo, exExt, binV, intOp, subc, AV.solid, S0, encI, encB, Z1o, Z45, Z42, Z46, Z44, Z43, Z0g, Z1p, Z1r, Z3f, Z1q, Z4g, Z1n, Z2k, Z3e, Z4j, Z09, Z02, Z2a, Z2b, Z29, exMki, plainV, plainVs, e0, e1, e6, e7, e34, e35, hnlt]
      refine hk _ _ ss r v D.rf (by simpa using D.A.up (m := S.n + 1) (by omega)) (D.I.same fun j hj => ?_) D.pre
      rcases hj with rfl | rfl | rfl | rfl | rfl | rfl <;> simp [Z4n]
theorem da_last_ok {P : Program} {fe : FuncId} {S00 : St} {id km b4 b5 q i L : Nat} {n : Net} {most : Int} {ss nx : List (List Int)} {en : List Bool} {v vN vE clo : AV} {rs : List AV} {r set : List Int} (hm3 : most ≤ 3000) (hss : SsOk n most ss) (hset : ss[i]? = some set)
    (hend : PureC P fe [pNet n, encIs set] (encB (endsB n set))) {f : AF} {S : St} {Q : Exit → AF → St → Prop} (hnx : nx.length = i) (hen : en.length = i)
    (A : AlS S S00 id km b4 b5 n most ss nx en v vN vE rs [.own q 0 L] [r.map encI]) (I : InI f id b4 b5 q L i clo)
    (hk : ∀ f' S' vN' vE', AlS S' S00 id km b4 b5 n most ss (nx ++ [r]) (en ++ [endsB n set]) v vN' vE' (rs ++ [.own q 0 L]) [] [] → (∀ j, j ≤ 6 → f' j = f j) → Q .normal f' S') : AW P (c_da_last fe) Q f S := by
  obtain ⟨hil, hse⟩ := List.getElem?_eq_some_iff.mp hset
  obtain ⟨hvec, hvo, hvs, hr1⟩ := A.rows.head
  obtain ⟨hN, hNo, hNs, hr2⟩ := hr1.head
  obtain ⟨hE, hEo, hEs, hr3⟩ := hr2.head
  have e0 := I.e0
  have e5 := I.e5
  have e6 := I.e6
  have e7 := I.e7
  have hmg := A.mg
  have hg5 := A.g5
  have hown : ∃ vid off ys, v = .own vid off ss.length ∧ S.g vid = some (.arr 1 ys) ∧ off + ss.length ≤ ys.length ∧ ys[off + i]? = some (encIs set) := by
    rcases hvec with ⟨_, h0⟩ | ⟨vid, off, ys, h1, h2, h3, h4⟩
    · simp at h0; subst h0; simp at hil
    · refine ⟨vid, off, ys, by rw [h1]; simp, h2, ?_, ?_⟩
      · have := congrArg List.length h4
        simp at this; omega
      · have : (ys.drop off)[i]? = some (encIs set) := by rw [h4, List.getElem?_map, hset]; rfl
        simpa using this
  obtain ⟨vid, off, ys, hv, hgv, hol, hyi⟩ := hown
  have hilt : (i : Int) < ss.length := by omega
  subst hv
  have hce : (encIs set).cells = [encIs set] := rfl
  simp [Z0j, Z0e, Z0f, Z0b, Z0c, Z0k, Z0d, Z0h, Z0i, Z3a, Z39, Z08, Z0a, Z07, Z01, Z03, Z00, Z05, Z06, Z04, Z26, Z25, Z4q, Z4s, Z4r, Z4p, Z1u, Z1v, Z1t, Z40, Z3x, Z3z, Z3y, Z41, Z1s, Z2j, Z3d, Z4f, Z1k, Z1l, Z1m, Z4d, Z4e, Z1i, Z2i, Z1j, Z3v, Z3s, Z3u, Z3t, Z3w, Z4l, Z4k, Z0v, Z0w, Z0x, Z0u, Z1h, Z4w, Z4v, Z4x, Z4u, Z4t, ex, Z4n, Z4m, ev_t, ev_c, Z2h, Z2g, Z4y, Z4z, Z2x, Z2w, Z2q, Z2u, Z2v, Z2r, Z2s, Z2t, putc, exBslice, lfill, exField, exIdxV, exIdxP, exBox, exAlloc, exLoad, exStore, exFieldA, exIdxA, exLen, exPick, exUn, exBeq, exMM, exSeq, seqGo, exExt, binV, intOp, subc, AV.solid, S0, encI, encB, c_da_last, e0, e5, e6, e7, hmg, hg5, exNil, hgv, hilt, hol, hyi, hce]
  have hrl : rs.length = nx.length := by have := hr3.len; simpa [rowsA] using this
  have hi3 : i ≤ 3000 := by have := hss.l; omega
  have hrc : ∀ z ∈ rs, z.cells.length = 1 := by
    intro z hz
    obtain ⟨t, ht, rfl⟩ := List.mem_iff_getElem.mp hz
    have := hr3.row t (by simp; omega) (by simp [rowsA]; omega)
    rw [List.getElem_append_left ht] at this
    rcases this with ⟨e, _⟩ | ⟨_, _, _, e, _⟩ <;> rw [e] <;> rfl
  rw [Vec.appT (by_ := 24) (hN.frame fun _ _ => rfl) hrc rfl (by unfold appOk; omega)]
  have hb5N : b5 ∉ vN.ids := fun h => (hNo b5 h).2 (by simp)
  have hidN : id ∉ vN.ids := fun h => (hNo id h).2 (by simp)
  have hviN : vid ∉ vN.ids := fun h => hvs vN (by simp) vid (by simp [AV.ids]) h
  have hlid := A.lid
  have hnle := A.nle
  have hlt5 := A.t5
  have q1 : b5 ≠ S.n + 4 := by omega
  have q2 : id ≠ S.n + 4 := by omega
  have hvil : vid < S.n := (hvo vid (by simp [AV.ids])).1
  have q3 : vid ≠ S.n + 4 := by omega
  simp [Z0j, Z0e, Z0f, Z0b, Z0c, Z0k, Z0d, Z0h, Z0i, Z3a, Z39, Z08, Z0a, Z07, Z01, Z03, Z00, Z05, Z06, Z04, Z26, Z25, Z4q, Z4s, Z4r, Z4p, Z1u, Z1v, Z1t, Z40, Z3x, Z3z, Z3y, Z41, Z1s, Z2j, Z3d, Z4f, Z1k, Z1l, Z1m, Z4d, Z4e, Z1i, Z2i, Z1j, Z3v, Z3s, Z3u, Z3t, Z3w, Z4l, Z4k, Z0v, Z0w, Z0x, Z0u, Z1h, Z4w, Z4v, Z4x, Z4u, Z4t, ex, Z4n, Z4m, ev_t, ev_c, Z2h, Z2g, Z4y, Z4z, Z2x, Z2w, Z2q, Z2u, Z2v, Z2r, Z2s, Z2t, putc, exBslice, lfill, exField, exIdxV, exIdxP, exBox, exAlloc, exLoad, exStore, exFieldA, exIdxA, exLen, exPick, exUn, exBeq, exMM, exSeq, seqGo, exExt, binV, intOp, subc, AV.solid, S0, encI, encB, e0, e5, e6, e7, hmg, hg5, exNil, hgv, hilt, hol, hyi, hce, without_g b5 hb5N, without_g id hidN, without_g vid hviN, without_n, q1, q2, q3]
  have hfz : ∀ S' : St, S'.g id = S.g id → CallD P fe [.ptr id 0 0, encIs set] S' [id] (encB (endsB n set)) := fun S' h => by
    have hz : FzL (only [id] S'.g) [.ptr id 0 0, encIs set] [pNet n, encIs set] :=
      FzL.cons (.pre id 7 [encI n.signs, encIss n.by_, encIss n.follow, encIs n.last] [encI most, .mp km, .own vid off ss.length] (by rw [only_g, if_pos (by simp), h]; exact A.mg) (by
        intro y hy
        simp only [List.mem_cons, List.not_mem_nil, or_false] at hy
        rcases hy with rfl | rfl | rfl | rfl
        · exact Z32 _
        · exact Z34 _
        · exact Z34 _
        · exact Z33 _)) (FzL.cons (.closed _ (Z33 _)) FzL.nil)
    exact ⟨_, hend, hz.1, hz.2, .inl (plain_B _)⟩
  have nN : ∀ j, j ∈ vN.ids ∨ j = S.n + 4 → ¬j = b5 := by
    rintro j (h | rfl) rfl
    · exact hb5N h
    · exact q1 rfl
  have nI : ∀ j, j ∈ vN.ids ∨ j = S.n + 4 → ¬j = id := by
    rintro j (h | rfl) rfl
    · exact hidN h
    · exact q2 rfl
  have nV : ∀ j, j ∈ vN.ids ∨ j = S.n + 4 → ¬j = vid := by
    rintro j (h | rfl) rfl
    · exact hviN h
    · exact q3 rfl
  refine ⟨nN, nI, nV, encB (endsB n set), [id], hfz _ (by rw [Z4y, if_neg q2, without_g id hidN]), ?_⟩
  simp [Z0j, Z0e, Z0f, Z0b, Z0c, Z0k, Z0d, Z0h, Z0i, Z3a, Z39, Z08, Z0a, Z07, Z01, Z03, Z00, Z05, Z06, Z04, Z26, Z25, Z4q, Z4s, Z4r, Z4p, Z1u, Z1v, Z1t, Z40, Z3x, Z3z, Z3y, Z41, Z1s, Z2j, Z3d, Z4f, Z1k, Z1l, Z1m, Z4d, Z4e, Z1i, Z2i, Z1j, Z3v, Z3s, Z3u, Z3t, Z3w, Z4l, Z4k, Z0v, Z0w, Z0x, Z0u, Z1h, Z4w, Z4v, Z4x, Z4u, Z4t, ex, Z4n, Z4m, ev_t, ev_c, Z2h, Z2g, Z4y, Z4z, Z2x, Z2w, Z2q, Z2u, Z2v, Z2r, Z2s, Z2t, putc, exBslice, lfill, exField, exIdxV, exIdxP, exBox, exAlloc, exLoad, exStore, exFieldA, exIdxA, exLen, exPick, exUn, exBeq, exMM, exSeq, seqGo, exExt, binV, intOp, subc, AV.solid, S0, encI, encB, e0, e5, e6, e7, hmg, hg5, without_g b5 hb5N, without_g id hidN, without_n, q1, q2, q3]
  have k1 : ∀ i, i ∉ vN.ids → i ≠ S.n + 4 → (((⟨S.n + 22, S.g⟩ : St).without vN).set (S.n + 4) (some (.arr 1 (rs ++ [.own q 0 L])))).g i = S.g i := fun i h1 h2 => by rw [Z4y, if_neg h2, without_g i h1]
  have k2 : (((⟨S.n + 22, S.g⟩ : St).without vN).set (S.n + 4) (some (.arr 1 (rs ++ [.own q 0 L])))).g (S.n + 4) = some (.arr 1 (rs ++ [.own q 0 L])) := by rw [Z4y, if_pos rfl]
  have k3 : (((⟨S.n + 22, S.g⟩ : St).without vN).set (S.n + 4) (some (.arr 1 (rs ++ [.own q 0 L])))).n = S.n + 22 := by simp [Z4z, without_n]
  generalize (((⟨S.n + 22, S.g⟩ : St).without vN).set (S.n + 4) (some (.arr 1 (rs ++ [.own q 0 L])))) = S1 at *
  obtain ⟨n1, g1⟩ := S1
  simp only at k1 k2 k3
  have hEN : ∀ i ∈ vE.ids, i ∉ vN.ids := fun i h1 h2 => hNs vE (by simp) i h2 h1
  have hEl : ∀ i ∈ vE.ids, i < S.n := fun i hi => (hEo i hi).1
  have hE1 : Vec g1 vE 1 (en.map encB) := hE.frame fun i hi => k1 i (hEN i hi) (by have := hEl i hi; omega)
  have hec : ∀ z ∈ en.map encB, z.cells.length = 1 := by
    intro z hz
    obtain ⟨b, _, rfl⟩ := List.mem_map.mp hz
    rfl
  have happ := Vec.appT (n := n1) (nid := S.n + 17) (x := encB (endsB n set)) (by_ := 1) hE1 hec rfl (by rw [List.length_map, hen]; unfold appOk; omega)
  simp only [encB] at happ
  rw [happ]
  have hb5E : b5 ∉ vE.ids := fun h => (hEo b5 h).2 (by simp)
  have q5 : b5 ≠ S.n + 17 := by omega
  have g15 := (k1 b5 hb5N q1).trans hg5
  simp [Z0j, Z0e, Z0f, Z0b, Z0c, Z0k, Z0d, Z0h, Z0i, Z3a, Z39, Z08, Z0a, Z07, Z01, Z03, Z00, Z05, Z06, Z04, Z26, Z25, Z4q, Z4s, Z4r, Z4p, Z1u, Z1v, Z1t, Z40, Z3x, Z3z, Z3y, Z41, Z1s, Z2j, Z3d, Z4f, Z1k, Z1l, Z1m, Z4d, Z4e, Z1i, Z2i, Z1j, Z3v, Z3s, Z3u, Z3t, Z3w, Z4l, Z4k, Z0v, Z0w, Z0x, Z0u, Z1h, Z4w, Z4v, Z4x, Z4u, Z4t, ex, Z4n, Z4m, ev_t, ev_c, Z2h, Z2g, Z4y, Z4z, Z2x, Z2w, Z2q, Z2u, Z2v, Z2r, Z2s, Z2t, putc, exBslice, lfill, exField, exIdxV, exIdxP, exBox, exAlloc, exLoad, exStore, exFieldA, exIdxA, exLen, exPick, exUn, exBeq, exMM, exSeq, seqGo, exExt, binV, intOp, subc, AV.solid, S0, encI, encB, e0, e5, e6, e7, g15, without_g b5 hb5E, without_n, q5]
  refine hk _ _ (.own (S.n + 4) 0 (rs.length + 1)) (.own (S.n + 17) 0 (en.length + 1)) ?_ (fun j hj => ?_)
  · have key : ∀ i, i ∉ vN.ids → i ∉ vE.ids → i < S.n → i ≠ b5 → ∀ b b2 b3, (((((⟨n1, g1⟩ : St).without vE).set (S.n + 17) b).set b5 b2).set b5 b3).g i = S.g i := fun i h1 h2 h3 h4 b b2 b3 => by
      rw [Z4y, if_neg h4, Z4y, if_neg h4, Z4y, if_neg (by omega), without_g i h2]
      exact k1 i h1 (by omega)
    have hidE : id ∉ vE.ids := fun h => (hEo id h).2 (by simp)
    have hkmN : km ∉ vN.ids := fun h => (hNo km h).2 (by simp)
    have hkmE : km ∉ vE.ids := fun h => (hEo km h).2 (by simp)
    have h4N : b4 ∉ vN.ids := fun h => (hNo b4 h).2 (by simp)
    have h4E : b4 ∉ vE.ids := fun h => (hEo b4 h).2 (by simp)
    have hlkm := A.lkm
    have hl5 := A.l5
    have hl4 := A.l4
    have hlt4 := A.t4
    have hn45 := A.n45
    have q4E : S.n + 4 ∉ vE.ids := fun h => by have := hEl _ h; omega
    have hr3' := hr3
    refine ⟨?_, ?_, ?_, ?_, ?_, A.ne, A.lid, A.lkm, A.l4, A.l5, A.n45, ?_, ?_, fun w hw i hi => ?_, fun i h1 h2 h3 => ?_, ?_⟩
    · rw [key id hidN hidE (by omega) (by omega)]; exact A.mg
    · rw [key km hkmN hkmE (by omega) (by omega)]; exact A.mm
    · rw [key b4 h4N h4E hlt4 hn45]; exact A.g4
    · simp [Z4y, encI]
    · have hr4 : ARows (((((⟨n1, g1⟩ : St).without vE).set (S.n + 17) (some (.arr 1 (en.map encB ++ [.v (.bool (endsB n set))])))).set b5 (some (.arr 3 [.agg [.v (.int .i64 n.signs), .own (S.n + 4) 0 (rs.length + 1), vE]]))).set b5 (some (.arr 3 [.agg [.v (.int .i64 n.signs), .own (S.n + 4) 0 (rs.length + 1), .own (S.n + 17) 0 (en.length + 1)]]))).g (S.n + 22) [id, km, b4, b5] (rs ++ [.own q 0 L]) (rowsA nx ++ [r.map encI]) := by
        refine hr3.frame (by omega) (fun w hw i hi => ?_)
        have ho := hr3.out w hw i hi
        have ho2 := ho.2
        simp only [List.mem_cons, List.not_mem_nil, or_false, not_or] at ho2
        exact key i (fun h => hNs w (by simp at hw ⊢; exact .inr hw) i h hi) (fun h => hEs w hw i h hi) ho.1 ho2.2.2.2 _ _ _
      have hrw : rowsA (nx ++ [r]) = rowsA nx ++ [r.map encI] := by simp [rowsA]
      have henb : (en ++ [endsB n set]).map encB = en.map encB ++ [.v (.bool (endsB n set))] := by simp [encB]
      rw [List.append_nil, List.append_nil, hrw, henb]
      have hnn : (((((⟨n1, g1⟩ : St).without vE).set (S.n + 17) (some (.arr 1 (en.map encB ++ [.v (.bool (endsB n set))])))).set b5 (some (.arr 3 [.agg [.v (.int .i64 n.signs), .own (S.n + 4) 0 (rs.length + 1), vE]]))).set b5 (some (.arr 3 [.agg [.v (.int .i64 n.signs), .own (S.n + 4) 0 (rs.length + 1), .own (S.n + 17) 0 (en.length + 1)]]))).n = S.n + 22 := by simp [Z4z, without_n, k3]
      rw [hnn]
      refine ARows.cons ?_ (fun i hi => ?_) (fun w hw i hi hi2 => ?_) (ARows.cons ?_ (fun i hi => ?_) (fun w hw i hi hi2 => ?_) (ARows.cons ?_ (fun i hi => ?_) (fun w hw i hi hi2 => ?_) hr4))
      · refine hvec.frame fun i hi => ?_
        have ho := hvo i hi
        have ho2 := ho.2
        simp only [List.mem_cons, List.not_mem_nil, or_false, not_or] at ho2
        exact key i (fun h => hvs vN (by simp) i hi h) (fun h => hvs vE (by simp) i hi h) ho.1 ho2.2.2.2 _ _ _
      · exact ⟨by have := (hvo i hi).1; omega, (hvo i hi).2⟩
      · have hvl := (hvo i hi).1
        simp only [List.mem_cons, List.mem_append, List.not_mem_nil, or_false] at hw
        rcases hw with rfl | rfl | hw
        · simp only [AV.ids, List.mem_singleton] at hi2; omega
        · simp only [AV.ids, List.mem_singleton] at hi2; omega
        · exact hvs w (by simp; exact .inr (.inr hw)) i hi hi2
      · refine .mk' ?_ (by simp)
        rw [Z4y, if_neg (by omega), Z4y, if_neg (by omega), Z4y, if_neg (by omega), without_g _ q4E]
        exact k2
      · simp only [AV.ids, List.mem_singleton] at hi
        subst hi
        refine ⟨by omega, ?_⟩
        simp only [List.mem_cons, List.not_mem_nil, or_false, not_or]
        omega
      · simp only [AV.ids, List.mem_singleton] at hi
        subst hi
        simp only [List.mem_cons] at hw
        rcases hw with rfl | hw
        · simp only [AV.ids, List.mem_singleton] at hi2; omega
        · have := (hr3.out w hw _ hi2).1; omega
      · refine .mk' ?_ (by simp)
        rw [Z4y, if_neg (by omega), Z4y, if_neg (by omega), Z4y, if_pos rfl]
      · simp only [AV.ids, List.mem_singleton] at hi
        subst hi
        refine ⟨by omega, ?_⟩
        simp only [List.mem_cons, List.not_mem_nil, or_false, not_or]
        omega
      · simp only [AV.ids, List.mem_singleton] at hi
        subst hi
        have := (hr3.out w hw _ hi2).1; omega
    · simp [Z4z, without_n, k3]; omega
    · simp [Z4z, without_n, k3]; omega
    · have hnew := A.new
      simp only [List.append_nil, List.mem_cons, List.mem_append, List.not_mem_nil, or_false] at hw
      rcases hw with rfl | rfl | rfl | hw | rfl
      · exact hnew _ (by simp) i hi
      · simp only [AV.ids, List.mem_singleton] at hi; omega
      · simp only [AV.ids, List.mem_singleton] at hi; omega
      · exact hnew w (by simp [hw]) i hi
      · exact hnew _ (by simp) i hi
    · have hnew := A.new
      rw [key i (fun h => by have := hnew vN (by simp) i h; omega) (fun h => by have := hnew vE (by simp) i h; omega) (by omega) (by omega)]
      exact A.old i h1 h2 h3
    · simp [Z4z, without_n, k3]; omega
  · have : ∀ x : Nat, x ≥ 54 → j ≠ x := fun x hx => by omega
    simp [Z4n, this]
end Go.Rf


/- Own work: (*det.maker).all, whole. -/
set_option linter.unusedVariables false
set_option linter.unusedSimpArgs false
namespace Go.Rf
open Go.RowKit
structure OuI (S00 : St) (id km b4 b5 : Nat) (n : Net) (most : Int) (kd : Kd) (clo : AV) (i : Nat) (f : AF) (S : St) (st : Sts) (v vN vE : AV) (rs : List AV) : Prop where
  eq : stF kd n most i = some st
  A : AlS S S00 id km b4 b5 n most st.1 st.2.1 st.2.2 v vN vE rs [] []
  e0 : f 0 = .ptr id 0 0
  e1 : f 1 = clo
  e4 : f 4 = .ptr b4 0 0
  e5 : f 5 = .ptr b5 0 0
  e6 : f 6 = encI i
  min : ∀ m, m < i → ∀ stm, stF kd n most m = some stm → m ≠ stm.1.length
def OuE (S00 : St) (id km b4 b5 : Nat) (n : Net) (most : Int) (kd : Kd) (clo : AV) (i : Nat) (f : AF) (S : St) : Prop := ∃ st v vN vE rs, OuI S00 id km b4 b5 n most kd clo i f S st v vN vE rs
theorem da_out_ok {P : Program} {fnum fT cf fe : FuncId} {cap : List AV} {S00 : St} {id km b4 b5 : Nat} {n : Net} {most : Int} {kd : Kd} (R : RightN n) (hnum : HNum P fnum fT n) (hbeh : HBeh P cf cap S00 id km n most kd)
    (hend : ∀ set, Val n set → PureC P fe [pNet n, encIs set] (encB (endsB n set))) (hm1 : 1 ≤ most) (hm3 : most ≤ 3000) {f : AF} {S : St} {Q : Exit → AF → St → Prop}
    (h0 : OuE S00 id km b4 b5 n most kd (.clo cf [] cap) 0 f S)
    (hk : ∀ f' S' st v vN vE rs, dmakeF kd n most = some st → AlS S' S00 id km b4 b5 n most st.1 st.2.1 st.2.2 v vN vE rs [] [] → f' 4 = .ptr b4 0 0 → f' 5 = .ptr b5 0 0 → Q .normal f' S')
    (hp : dmakeF kd n most = none → ∀ f' S', Old S00 S' id km → Q (pn (tmV fT)) f' S') : AW P (c_da_out fnum fe) Q f S := by
  simp [Z0j, Z0e, Z0f, Z0b, Z0c, Z0k, Z0d, Z0h, Z0i, Z3a, Z39, Z08, Z0a, Z07, Z01, Z03, Z00, Z05, Z06, Z04, Z26, Z25, Z4q, Z4s, Z4r, Z4p, Z1u, Z1v, Z1t, Z40, Z3x, Z3z, Z3y, Z41, Z1s, Z2j, Z3d, Z4f, Z1k, Z1l, Z1m, Z4d, Z4e, Z1i, Z2i, Z1j, Z3v, Z3s, Z3u, Z3t, Z3w, Z4l, Z4k, Z0v, Z0w, Z0x, Z0u, Z1h, Z4w, Z4v, Z4x, Z4u, Z4t, ex, Z4n, Z4m, ev_t, ev_c, Z2h, Z2g, Z4y, Z4z, Z2x, Z2w, Z2q, Z2u, Z2v, Z2r, Z2s, Z2t, putc, exBslice, lfill, exField, exIdxV, exIdxP, exBox, exAlloc, exLoad, exStore, exFieldA, exIdxA, exLen, exPick, exUn, exBeq, exMM, exSeq, seqGo, exExt, binV, intOp, subc, AV.solid, S0, encI, encB, Z1o, Z45, Z42, Z46, Z44, Z43, Z0g, Z1p, Z1r, Z3f, Z1q, Z4g, Z1n, Z2k, Z3e, Z4j, Z09, Z02, Z2a, Z2b, Z29, exMki, plainV, plainVs, c_da_out]
  refine AW_for most.toNat (OuE S00 id km b4 b5 n most kd (.clo cf [] cap)) h0 ?_
  rintro i f S hi ⟨st, v, vN, vE, rs, O⟩
  have o := stF_ok R hm1 i O.eq
  have e0 := O.e0
  have e1 := O.e1
  have e6 := O.e6
  have hmg := O.A.mg
  obtain ⟨hvec, _⟩ := O.A.rows.head
  have hlv := hvec.len
  rw [List.length_map] at hlv
  simp only [exLen] at hlv
  have hle := o.le
  have hsl := o.ss.l
  by_cases hlt : i < st.1.length
  · have hltI : (i : Int) < st.1.length := by omega
    have hs0 : (0 : Int) ≤ n.signs := by have := R.s1; omega
    have hs4 : n.signs ≤ 400 := R.s2
    have hmk1 : 8 * n.signs ≤ 281474976710656 := by omega
    have hmk2 : n.signs ≤ 9223372036854775807 := by omega
    obtain ⟨set, hset⟩ : ∃ set, st.1[i]? = some set := ⟨_, List.getElem?_eq_getElem hlt⟩
    have hvs : Val n set := o.ss.v set (by obtain ⟨h1, h2⟩ := List.getElem?_eq_some_iff.mp hset; rw [← h2]; exact List.getElem_mem h1)
    have hnxt : stF kd n most (i + 1) = nxF kd n most i st := by simp only [stF, O.eq]
    simp [Z0j, Z0e, Z0f, Z0b, Z0c, Z0k, Z0d, Z0h, Z0i, Z3a, Z39, Z08, Z0a, Z07, Z01, Z03, Z00, Z05, Z06, Z04, Z26, Z25, Z4q, Z4s, Z4r, Z4p, Z1u, Z1v, Z1t, Z40, Z3x, Z3z, Z3y, Z41, Z1s, Z2j, Z3d, Z4f, Z1k, Z1l, Z1m, Z4d, Z4e, Z1i, Z2i, Z1j, Z3v, Z3s, Z3u, Z3t, Z3w, Z4l, Z4k, Z0v, Z0w, Z0x, Z0u, Z1h, Z4w, Z4v, Z4x, Z4u, Z4t, ex, Z4n, Z4m, ev_t, ev_c, Z2h, Z2g, Z4y, Z4z, Z2x, Z2w, Z2q, Z2u, Z2v, Z2r, Z2s, Z2t, putc, exBslice, lfill, exField, exIdxV, exIdxP, exBox, exAlloc, exLoad, exStore, exFieldA, exIdxA, exLen, exPick, exUn, exBeq, exMM, exSeq, seqGo, exExt, binV, intOp, subc, AV.solid, S0, encI, encB, Z1o, Z45, Z42, Z46, Z44, Z43, Z0g, Z1p, Z1r, Z3f, Z1q, Z4g, Z1n, Z2k, Z3e, Z4j, Z09, Z02, Z2a, Z2b, Z29, exMki, plainV, plainVs, e0, e1, e6, hmg, exNil, hlv, hlt, exMks, hs0, hmk1, hmk2]
    refine da_in_ok (set := set) R hnum hbeh hm3 rfl o.ss hset (AlS.row O.A (by omega) (by omega) (by simp)) ⟨?_, ?_, ?_, ?_, ?_, ?_⟩ ?_ ?_ (fun f1 S1 ss1 r v1 hrow A1 I1 hpre => ?_) (fun hrow f1 S1 hold => ?_)
    · simp [Z4n, e0]
    · simp [Z4n, e1]
    · simp [Z4n, O.e4]
    · simp [Z4n, O.e5]
    · simp [Z4n, e6]
    · simp [Z4n]
    · simp [Z4n, encI]
    · simp [Z4n, encI]
    · have hsr : nxF kd n most i st = some (ss1, st.2.1 ++ [r], st.2.2 ++ [endsB n set]) := by simp only [nxF, hset, hrow]
      obtain ⟨hok1, _, _⟩ := rowF_ok (n := n) (fun s => bh_val R hvs s) o.ss _ hrow
      have hset1 : ss1[i]? = some set := by
        rw [hpre i hlt, ← hset, List.getElem?_eq_getElem hlt]
      simp [Z0j, Z0e, Z0f, Z0b, Z0c, Z0k, Z0d, Z0h, Z0i, Z3a, Z39, Z08, Z0a, Z07, Z01, Z03, Z00, Z05, Z06, Z04, Z26, Z25, Z4q, Z4s, Z4r, Z4p, Z1u, Z1v, Z1t, Z40, Z3x, Z3z, Z3y, Z41, Z1s, Z2j, Z3d, Z4f, Z1k, Z1l, Z1m, Z4d, Z4e, Z1i, Z2i, Z1j, Z3v, Z3s, Z3u, Z3t, Z3w, Z4l, Z4k, Z0v, Z0w, Z0x, Z0u, Z1h, Z4w, Z4v, Z4x, Z4u, Z4t, ex, Z4n, Z4m, ev_t, ev_c, Z2h, Z2g, Z4y, Z4z, Z2x, Z2w, Z2q, Z2u, Z2v, Z2r, Z2s, Z2t, putc, exBslice, lfill, exField, exIdxV, exIdxP, exBox, exAlloc, exLoad, exStore, exFieldA, exIdxA, exLen, exPick, exUn, exBeq, exMM, exSeq, seqGo, exExt, binV, intOp, subc, AV.solid, S0, encI, encB, Z1o, Z45, Z42, Z46, Z44, Z43, Z0g, Z1p, Z1r, Z3f, Z1q, Z4g, Z1n, Z2k, Z3e, Z4j, Z09, Z02, Z2a, Z2b, Z29, exMki, plainV, plainVs]
      refine da_last_ok hm3 hok1 hset1 (hend set hvs) o.nx o.en A1 I1 (fun f2 S2 vN' vE' A2 hf2 => ?_)
      have e6' : f2 6 = encI i := by rw [hf2 6 (by omega)]; exact I1.e6
      simp [Z0j, Z0e, Z0f, Z0b, Z0c, Z0k, Z0d, Z0h, Z0i, Z3a, Z39, Z08, Z0a, Z07, Z01, Z03, Z00, Z05, Z06, Z04, Z26, Z25, Z4q, Z4s, Z4r, Z4p, Z1u, Z1v, Z1t, Z40, Z3x, Z3z, Z3y, Z41, Z1s, Z2j, Z3d, Z4f, Z1k, Z1l, Z1m, Z4d, Z4e, Z1i, Z2i, Z1j, Z3v, Z3s, Z3u, Z3t, Z3w, Z4l, Z4k, Z0v, Z0w, Z0x, Z0u, Z1h, Z4w, Z4v, Z4x, Z4u, Z4t, ex, Z4n, Z4m, ev_t, ev_c, Z2h, Z2g, Z4y, Z4z, Z2x, Z2w, Z2q, Z2u, Z2v, Z2r, Z2s, Z2t, putc, exBslice, lfill, exField, exIdxV, exIdxP, exBox, exAlloc, exLoad, exStore, exFieldA, exIdxA, exLen, exPick, exUn, exBeq, exMM, exSeq, seqGo, exExt, binV, intOp, subc, AV.solid, S0, encI, encB, Z1o, Z45, Z42, Z46, Z44, Z43, Z0g, Z1p, Z1r, Z3f, Z1q, Z4g, Z1n, Z2k, Z3e, Z4j, Z09, Z02, Z2a, Z2b, Z29, exMki, plainV, plainVs, e6']
      rw [wrap_in _ (by omega)]
      refine ⟨by omega, (ss1, st.2.1 ++ [r], st.2.2 ++ [endsB n set]), v1, vN', vE', rs ++ [.own _ 0 n.signs.toNat], ⟨by rw [hnxt, hsr], A2.up (by simp), ?_, ?_, ?_, ?_, ?_, ?_⟩⟩
      · simp [Z4n, hf2, I1.e0]
      · simp [Z4n, hf2, I1.e1]
      · simp [Z4n, hf2, I1.e4]
      · simp [Z4n, hf2, I1.e5]
      · simp [Z4n, encI]
      · intro m hm' stm hstm
        by_cases hmi : m = i
        · subst hmi
          rw [O.eq] at hstm
          cases hstm
          omega
        · exact O.min m (by omega) stm hstm
    · rw [Z09, Z02, Z09, Z09, Z02]
      refine hp ?_ _ _ hold
      have hsr : nxF kd n most i st = none := by simp only [nxF, hset, hrow]
      refine goF_none R (most.toNat + 1) 0 rfl i (Nat.zero_le _) (by rw [hnxt, hsr]) (fun m _ h2 stm hstm => ?_)
      by_cases hmi : m = i
      · subst hmi
        rw [O.eq] at hstm
        cases hstm
        omega
      · exact O.min m (by omega) stm hstm
  · have hieq : i = st.1.length := by omega
    have hltI : ¬ ((i : Int) < st.1.length) := by omega
    simp [Z0j, Z0e, Z0f, Z0b, Z0c, Z0k, Z0d, Z0h, Z0i, Z3a, Z39, Z08, Z0a, Z07, Z01, Z03, Z00, Z05, Z06, Z04, Z26, Z25, Z4q, Z4s, Z4r, Z4p, Z1u, Z1v, Z1t, Z40, Z3x, Z3z, Z3y, Z41, Z1s, Z2j, Z3d, Z4f, Z1k, Z1l, Z1m, Z4d, Z4e, Z1i, Z2i, Z1j, Z3v, Z3s, Z3u, Z3t, Z3w, Z4l, Z4k, Z0v, Z0w, Z0x, Z0u, Z1h, Z4w, Z4v, Z4x, Z4u, Z4t, ex, Z4n, Z4m, ev_t, ev_c, Z2h, Z2g, Z4y, Z4z, Z2x, Z2w, Z2q, Z2u, Z2v, Z2r, Z2s, Z2t, putc, exBslice, lfill, exField, exIdxV, exIdxP, exBox, exAlloc, exLoad, exStore, exFieldA, exIdxA, exLen, exPick, exUn, exBeq, exMM, exSeq, seqGo, exExt, binV, intOp, subc, AV.solid, S0, encI, encB, Z1o, Z45, Z42, Z46, Z44, Z43, Z0g, Z1p, Z1r, Z3f, Z1q, Z4g, Z1n, Z2k, Z3e, Z4j, Z09, Z02, Z2a, Z2b, Z29, exMki, plainV, plainVs, e0, e1, e6, hmg, exNil, hlv, hlt]
    refine hk _ _ st v vN vE rs ?_ (O.A.up (by omega)) (by simp [Z4n, O.e4]) (by simp [Z4n, O.e5])
    exact goF_end R hm1 (most.toNat + 1) 0 rfl (by omega) i st (Nat.zero_le _) O.eq hieq (fun m _ h2 => O.min m h2)
theorem all_ok2 {P : Program} (hmix : P.follows .mixedOrders = true) {fall fnum fT cf fe : FuncId} (hall : IsX P fall (c_det_maker_all fnum fe) [.c 4 (some 3)] 2) {cap : List AV} {S00 : St} {id km : Nat} {n : Net} {most : Int} {kd : Kd} (R : RightN n) (hnum : HNum P fnum fT n) (hbeh : HBeh P cf cap S00 id km n most kd)
    (hend : ∀ set, Val n set → PureC P fe [pNet n, encIs set] (encB (endsB n set))) (hm1 : 1 ≤ most) (hm3 : most ≤ 3000) (M : MkS S00 id km n most [] (.sl true [])) {K : AV → St → Prop} {X : Value → St → Prop}
    (hK : ∀ st S' vN vE g, dmakeF kd n most = some st → Old S00 S' id km → (∀ i k, g i = some k → S'.g i = some k ∧ S00.n ≤ i ∧ i < S'.n) → FzN g vN (encIss st.2.1) → FzN g vE (encBs st.2.2) → K (.agg [encI n.signs, vN, vE]) S') (hX : dmakeF kd n most = none → ∀ S', Old S00 S' id km → X (tmV fT) S') : CallX P fall [.ptr id 0 0, .clo cf [] cap] S00 K X := by
  refine hall.callX hmix rfl ?_
  have hmg := M.g
  have hv0 : Val n [0] := ⟨fun x hx => by simp at hx; subst hx; have := R.n1; have := R.len; omega, by simp⟩
  have hidn : id ≠ S00.n := by have := M.lid; omega
  simp [Z0j, Z0e, Z0f, Z0b, Z0c, Z0k, Z0d, Z0h, Z0i, Z3a, Z39, Z08, Z0a, Z07, Z01, Z03, Z00, Z05, Z06, Z04, Z26, Z25, Z4q, Z4s, Z4r, Z4p, Z1u, Z1v, Z1t, Z40, Z3x, Z3z, Z3y, Z41, Z1s, Z2j, Z3d, Z4f, Z1k, Z1l, Z1m, Z4d, Z4e, Z1i, Z2i, Z1j, Z3v, Z3s, Z3u, Z3t, Z3w, Z4l, Z4k, Z0v, Z0w, Z0x, Z0u, Z1h, Z4w, Z4v, Z4x, Z4u, Z4t, ex, Z4n, Z4m, ev_t, ev_c, Z2h, Z2g, Z4y, Z4z, Z2x, Z2w, Z2q, Z2u, Z2v, Z2r, Z2s, Z2t, putc, exBslice, lfill, exField, exIdxV, exIdxP, exBox, exAlloc, exLoad, exStore, exFieldA, exIdxA, exLen, exPick, exUn, exBeq, exMM, exSeq, seqGo, exExt, binV, intOp, subc, AV.solid, S0, encI, encB, Z1o, Z45, Z42, Z46, Z44, Z43, Z0g, Z1p, Z1r, Z3f, Z1q, Z4g, Z1n, Z2k, Z3e, Z4j, Z09, Z02, Z2a, Z2b, Z29, exMki, plainV, plainVs, c_det_maker_all, hmg, exNil, exBuild, afill, hidn]
  refine CallX.weak (args' := [.ptr id 0 0, encIs [0]]) ?_ rfl (fun j h1 h2 E v hv => ?_)
  · have A0 : AlS ⟨S00.n + 1 + 8 + 3, ((((⟨S00.n + 1 + 8, ((⟨S00.n + 1, S00.g⟩ : St).set S00.n (some (.arr 3 [.agg [.v (.int .i64 0), .sl true [], .sl true []]]))).g⟩ : St).set (S00.n + 1 + 6) (some (.arr 3 [.agg [.v (.int .i64 0), .sl true [], .sl true []]]))).set (S00.n + 1 + 6) (some (.arr 3 [.agg [.v (.int .i64 n.signs), .sl true [], .sl true []]])))).g⟩ S00 id km S00.n (S00.n + 1 + 6) n most [] [] [] (.sl true []) (.sl true []) (.sl true []) [] [] [] := by
      have hlid := M.lid
      have hlkm := M.lkm
      refine ⟨?_, ?_, ?_, ?_, ?_, M.ne, M.lid, M.lkm, Nat.le_refl _, by omega, by omega, by show S00.n < S00.n + 1 + 8 + 3; omega, by show S00.n + 1 + 6 < S00.n + 1 + 8 + 3; omega, ?_, fun i h1 h2 h3 => ?_, by show S00.n ≤ S00.n + 1 + 8 + 3; omega⟩
      · rw [Z4y, if_neg (by omega), Z4y, if_neg (by omega), Z4y, if_neg (by omega)]; exact M.g
      · rw [Z4y, if_neg (by omega), Z4y, if_neg (by omega), Z4y, if_neg (by omega)]; exact M.m
      · rw [Z4y, if_neg (by omega), Z4y, if_neg (by omega), Z4y, if_pos rfl]; rfl
      · rw [Z4y, if_pos rfl]; rfl
      · refine ARows.cons .nil (by simp [AV.ids]) (by simp [AV.ids]) (ARows.cons .nil (by simp [AV.ids]) (by simp [AV.ids]) (ARows.cons .nil (by simp [AV.ids]) (by simp [AV.ids]) .nil))
      · intro w hw i hi
        simp only [List.append_nil, List.mem_cons, List.not_mem_nil, or_false, or_self] at hw
        subst hw
        simp [AV.ids] at hi
      · rw [Z4y, if_neg (by omega), Z4y, if_neg (by omega), Z4y, if_neg (by omega)]
    refine hnum id km most [] _ [0] _ _ _ A0.mk' hv0 ⟨by simp, by simp; omega⟩ hm3 (fun h => by simp at h) (fun _ _ S1 v1 M1 F1 hv1 => ?_) (fun _ h => by simp at h; omega)
    have A1 := A0.num M1 F1 hv1
    simp [Z0j, Z0e, Z0f, Z0b, Z0c, Z0k, Z0d, Z0h, Z0i, Z3a, Z39, Z08, Z0a, Z07, Z01, Z03, Z00, Z05, Z06, Z04, Z26, Z25, Z4q, Z4s, Z4r, Z4p, Z1u, Z1v, Z1t, Z40, Z3x, Z3z, Z3y, Z41, Z1s, Z2j, Z3d, Z4f, Z1k, Z1l, Z1m, Z4d, Z4e, Z1i, Z2i, Z1j, Z3v, Z3s, Z3u, Z3t, Z3w, Z4l, Z4k, Z0v, Z0w, Z0x, Z0u, Z1h, Z4w, Z4v, Z4x, Z4u, Z4t, ex, Z4n, Z4m, ev_t, ev_c, Z2h, Z2g, Z4y, Z4z, Z2x, Z2w, Z2q, Z2u, Z2v, Z2r, Z2s, Z2t, putc, exBslice, lfill, exField, exIdxV, exIdxP, exBox, exAlloc, exLoad, exStore, exFieldA, exIdxA, exLen, exPick, exUn, exBeq, exMM, exSeq, seqGo, exExt, binV, intOp, subc, AV.solid, S0, encI, encB, Z1o, Z45, Z42, Z46, Z44, Z43, Z0g, Z1p, Z1r, Z3f, Z1q, Z4g, Z1n, Z2k, Z3e, Z4j, Z09, Z02, Z2a, Z2b, Z29, exMki, plainV, plainVs]
    refine da_out_ok R hnum hbeh hend hm1 hm3 ⟨([[0]], [], []), v1, .sl true [], .sl true [], [], ⟨rfl, A1.up (by simp), ?_, ?_, ?_, ?_, ?_, fun m hm => by omega⟩⟩ (fun f' S' st v vN vE rs hmade A e4 e5 => ?_) (fun hmade f' S' hold => ?_)
    · simp [Z4n, Z2h]
    · simp [Z4n, Z2h, Z2g]
    · simp [Z4n]
    · simp [Z4n]
    · simp [Z4n, encI]
    · have g4 := A.g4
      have g5 := A.g5
      have h45 := A.n45
      simp only [zDet] at g4
      simp [Z0j, Z0e, Z0f, Z0b, Z0c, Z0k, Z0d, Z0h, Z0i, Z3a, Z39, Z08, Z0a, Z07, Z01, Z03, Z00, Z05, Z06, Z04, Z26, Z25, Z4q, Z4s, Z4r, Z4p, Z1u, Z1v, Z1t, Z40, Z3x, Z3z, Z3y, Z41, Z1s, Z2j, Z3d, Z4f, Z1k, Z1l, Z1m, Z4d, Z4e, Z1i, Z2i, Z1j, Z3v, Z3s, Z3u, Z3t, Z3w, Z4l, Z4k, Z0v, Z0w, Z0x, Z0u, Z1h, Z4w, Z4v, Z4x, Z4u, Z4t, ex, Z4n, Z4m, ev_t, ev_c, Z2h, Z2g, Z4y, Z4z, Z2x, Z2w, Z2q, Z2u, Z2v, Z2r, Z2s, Z2t, putc, exBslice, lfill, exField, exIdxV, exIdxP, exBox, exAlloc, exLoad, exStore, exFieldA, exIdxA, exLen, exPick, exUn, exBeq, exMM, exSeq, seqGo, exExt, binV, intOp, subc, AV.solid, S0, encI, encB, Z1o, Z45, Z42, Z46, Z44, Z43, Z0g, Z1p, Z1r, Z3f, Z1q, Z4g, Z1n, Z2k, Z3e, Z4j, Z09, Z02, Z2a, Z2b, Z29, exMki, plainV, plainVs, e4, e5, g4, g5, h45, RetC, evC, RV.ev, ldC, packC]
      have hold := A.old
      have hnle := A.nle
      obtain ⟨z1, z2⟩ := A.fzN (g := fun i => if S00.n ≤ i ∧ i ≠ S00.n ∧ i < S'.n then S'.g i else none) (fun i h1 h2 h3 => if_pos ⟨h1, h2, h3⟩)
      refine hK st _ vN vE _ hmade ⟨by simp only [Z4z]; omega, fun i h1 h2 h3 => ?_⟩ (fun i k e => ?_) z1 z2
      · rw [Z4y, if_neg (by omega)]; exact hold i h1 h2 h3
      · have e : (if S00.n ≤ i ∧ i ≠ S00.n ∧ i < S'.n then S'.g i else none) = some k := e
        split at e
        · rename_i h; exact ⟨by rw [Z4y, if_neg h.2.1]; exact e, h.1, by rw [Z4z]; show i < S'.n + 2; omega⟩
        · cases e
    · simp [Z0j, Z0e, Z0f, Z0b, Z0c, Z0k, Z0d, Z0h, Z0i, Z3a, Z39, Z08, Z0a, Z07, Z01, Z03, Z00, Z05, Z06, Z04, Z26, Z25, Z4q, Z4s, Z4r, Z4p, Z1u, Z1v, Z1t, Z40, Z3x, Z3z, Z3y, Z41, Z1s, Z2j, Z3d, Z4f, Z1k, Z1l, Z1m, Z4d, Z4e, Z1i, Z2i, Z1j, Z3v, Z3s, Z3u, Z3t, Z3w, Z4l, Z4k, Z0v, Z0w, Z0x, Z0u, Z1h, Z4w, Z4v, Z4x, Z4u, Z4t, ex, Z4n, Z4m, ev_t, ev_c, Z2h, Z2g, Z4y, Z4z, Z2x, Z2w, Z2q, Z2u, Z2v, Z2r, Z2s, Z2t, putc, exBslice, lfill, exField, exIdxV, exIdxP, exBox, exAlloc, exLoad, exStore, exFieldA, exIdxA, exLen, exPick, exUn, exBeq, exMM, exSeq, seqGo, exExt, binV, intOp, subc, AV.solid, S0, encI, encB, Z1o, Z45, Z42, Z46, Z44, Z43, Z0g, Z1p, Z1r, Z3f, Z1q, Z4g, Z1n, Z2k, Z3e, Z4j, Z09, Z02, Z2a, Z2b, Z29, exMki, plainV, plainVs]
      exact hX hmade _ hold
  · match j with
    | 0 => exact hv
    | 1 => exact hv.loose
    | j + 2 => simp at h1; omega
end Go.Rf

