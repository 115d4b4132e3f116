import Derived.Test.YtgehkmifnjldfaaRfQC
import Derived.Test.YtgehkmifnjldfaaRfR1
import Derived.Test.YtgehkmifnjldfaaRfN1
import Derived.Test.YtgehkmifnjldfaaRfNew
import Derived.Test.YtgehkmifnjldfaaRfSimp
import Derived.Test.YtgehkmifnjldfaaRfCell
import Derived.Lib.FrozenHead
import Derived.Lib.ItoaNum
import Derived.Test.YtgehkmifnjldfaaRfN4
import Derived.Test.YtgehkmifnjldfaaRfWk
import Derived.Test.YtgehkmifnjldfaaRfL10
/- Own work: the lists of a net that is being laid are short (plain law). -/
set_option linter.unusedVariables false
set_option linter.unusedSimpArgs false
namespace Go.Rf
open Go.RowKit
def UpN (N : Nat) (l : List Int) : Prop := Up l ∧ ∀ x ∈ l, x < (N : Int)
theorem UpN.len {N : Nat} {l : List Int} (h : UpN N l) : l.length ≤ N :=
  nodup_len N (h.1.1.imp fun h => by omega) fun x hx => ⟨h.1.2 x hx, h.2 x hx⟩
theorem UpN.mono {N M : Nat} {l : List Int} (h : UpN N l) (hm : N ≤ M) : UpN M l := ⟨h.1, fun x hx => by have := h.2 x hx; omega⟩
theorem UpN.nil {N : Nat} : UpN N [] := ⟨up_nil, by simp⟩
theorem UpN.one {N k : Nat} (h : k < N) : UpN N [(k : Int)] := ⟨up_one k, fun x hx => by simp at hx; omega⟩
theorem UpN.app {N : Nat} {a b : List Int} (ha : UpN N a) (hb : UpN N b) : UpN N (setF (a ++ b)) :=
  ⟨up_set ha.1.2 hb.1.2, fun x hx => (List.mem_append.mp (mem_setF.mp hx)).elim (ha.2 x) (hb.2 x)⟩
structure StN (st : Gs) : Prop where
  len : st.fo.length = st.by_.length
  rows : ∀ r ∈ st.fo, UpN st.by_.length r
structure EdN (N : Nat) (e : Ed) : Prop where
  f : UpN N e.fst
  l : UpN N e.lst
theorem EdN.mono {N M : Nat} {e : Ed} (h : EdN N e) (hm : N ≤ M) : EdN M e := ⟨h.f.mono hm, h.l.mono hm⟩
theorem getD_UpN {N : Nat} {fo : List (List Int)} (h : ∀ r ∈ fo, UpN N r) (i : Nat) : UpN N (fo.getD i []) := by
  rw [List.getD_eq_getElem?_getD]
  cases e : fo[i]? with
  | none => exact UpN.nil
  | some r => exact h r (List.mem_of_getElem? e)
theorem folF_N {N : Nat} : ∀ (ss : List Int) (fo : List (List Int)) (be : List Int), (∀ r ∈ fo, UpN N r) → UpN N be → ∀ r ∈ folF fo ss be, UpN N r
  | [], fo, be, h, _ => h
  | x :: ss, fo, be, h, hb => by
    refine folF_N ss _ be (fun r hr => ?_) hb
    rcases List.mem_or_eq_of_mem_set hr with hr | rfl
    · exact h r hr
    · exact (getD_UpN h _).app hb
theorem folF_snoc : ∀ (ss : List Int) (fo : List (List Int)) (s : Int) (be : List Int), folF fo (ss ++ [s]) be = (folF fo ss be).set s.toNat (setF ((folF fo ss be).getD s.toNat [] ++ be))
  | [], fo, s, be => rfl
  | x :: ss, fo, s, be => by rw [List.cons_append, folF, folF_snoc ss]; rfl
theorem StN.fol {st : Gs} (h : StN st) {a b : List Int} (hb : UpN st.by_.length b) : StN ⟨st.by_, folF st.fo a b⟩ := ⟨(folF_len _ _ _).trans h.len, folF_N _ _ _ h.rows hb⟩
theorem gjoin_N : ∀ (es : List Ed) (all : Ed) (st : Gs), StN st → EdN st.by_.length all → (∀ e ∈ es, EdN st.by_.length e) → StN (gjoin es all st).2 ∧ EdN st.by_.length (gjoin es all st).1
  | [], all, st, h, ha, _ => ⟨h, ha⟩
  | e :: es, all, st, h, ha, he => by
    have h1 := he e (by simp)
    rw [gjoin]
    refine gjoin_N es _ ⟨st.by_, folF st.fo all.lst e.fst⟩ (h.fol h1.f) ⟨?_, ?_⟩ (fun e' h' => he e' (by simp [h']))
    · simp only
      split
      · exact ha.f.app h1.f
      · exact ha.f
    · simp only
      split
      · exact ha.l.app h1.l
      · exact UpN.nil.app h1.l
theorem geither_N {N : Nat} : ∀ (es : List Ed) (all : Ed), EdN N all → (∀ e ∈ es, EdN N e) → EdN N (geither es all)
  | [], all, ha, _ => ha
  | e :: es, all, ha, he => by
    have h1 := he e (by simp)
    rw [geither]
    exact geither_N es _ ⟨ha.f.app h1.f, ha.l.app h1.l⟩ (fun e' h' => he e' (by simp [h']))
theorem gone_N (es : List Ed) (k : Int) (st : Gs) (h : StN st) (he : ∀ e ∈ es, EdN st.by_.length e) : StN (gone es k st).2 ∧ (gone es k st).2.by_ = st.by_ ∧ EdN st.by_.length (gone es k st).1 := by
  have no : EdN st.by_.length ⟨false, [], []⟩ := ⟨UpN.nil, UpN.nil⟩
  match es, he with
  | [], _ => exact ⟨h, rfl, no⟩
  | [e], he =>
    have h1 := he e (by simp)
    simp only [gone]
    split
    · refine ⟨?_, ?_, ⟨h1.f, h1.l⟩⟩
      · split
        · exact h
        · exact h.fol h1.f
      · split <;> rfl
    · exact ⟨h, rfl, no⟩
  | _ :: _ :: _, _ => exact ⟨h, rfl, no⟩
mutual
theorem gform_N (sg : Int) : ∀ (p : Pat) (st : Gs), StN st → StN (gform sg p st).2 ∧ EdN (gform sg p st).2.by_.length (gform sg p st).1 ∧ (gform sg p st).2.by_.length = st.by_.length + cntP p
  | .mk k s g ks, st, h => by
    simp only [gform, cntP]
    split
    · exact ⟨h, ⟨UpN.nil, UpN.nil⟩, rfl⟩
    · split
      · refine ⟨⟨by simp [h.len], fun r hr => ?_⟩, ⟨UpN.one (by simp), UpN.one (by simp)⟩, by simp⟩
        simp only at hr ⊢
        rcases List.mem_append.mp hr with hr | hr
        · exact (h.rows r hr).mono (by simp)
        · rw [List.mem_singleton] at hr; subst hr; exact UpN.nil
      · obtain ⟨i1, i2, i3⟩ := geach_N sg ks st h
        split
        · obtain ⟨j1, j2⟩ := gjoin_N (geach sg ks st).1 ⟨true, [], []⟩ (geach sg ks st).2 i1 ⟨UpN.nil, UpN.nil⟩ i2
          have hb := (gjoin_by (geach sg ks st).1 ⟨true, [], []⟩ (geach sg ks st).2).1
          exact ⟨j1, by rw [hb]; exact j2, by rw [hb]; exact i3⟩
        · split
          · exact ⟨i1, geither_N _ _ ⟨UpN.nil, UpN.nil⟩ i2, i3⟩
          · obtain ⟨j1, j2, j3⟩ := gone_N (geach sg ks st).1 k (geach sg ks st).2 i1 i2
            exact ⟨j1, by rw [j2]; exact j3, by rw [j2]; exact i3⟩
theorem geach_N (sg : Int) : ∀ (ks : List Pat) (st : Gs), StN st → StN (geach sg ks st).2 ∧ (∀ e ∈ (geach sg ks st).1, EdN (geach sg ks st).2.by_.length e) ∧ (geach sg ks st).2.by_.length = st.by_.length + cntL ks
  | [], st, h => by simp only [geach, cntL]; exact ⟨h, by simp, rfl⟩
  | q :: qs, st, h => by
    obtain ⟨i1, i2, i3⟩ := gform_N sg q st h
    obtain ⟨j1, j2, j3⟩ := geach_N sg qs (gform sg q st).2 i1
    simp only [geach, cntL]
    refine ⟨j1, fun e he => ?_, by omega⟩
    rcases List.mem_cons.mp he with rfl | he
    · exact i2.mono (by omega)
    · exact j2 e he
end
theorem cntL_append : ∀ (a b : List Pat), cntL (a ++ b) = cntL a + cntL b
  | [], b => by simp [cntL]
  | p :: a, b => by simp only [List.cons_append, cntL]; rw [cntL_append a b]; omega
end Go.Rf


/- Own work: functions that work on a net that is being laid (its cell, and two lists of its own), wherever it lies. -/
set_option linter.unusedVariables false
set_option linter.unusedSimpArgs false
namespace Go.Rf
open Go.RowKit
def mCell (sg : Int) (v w : AV) : AV := .agg [encI sg, v, w, .sl true []]
def mG (sg : Int) (o : Bool) (st : Gs) (a b c : Nat) : List (Nat × Option Blk) :=
  [(a, some (.arr 4 [mCell sg (vV o b (st.by_.map encIs)) (vV o c (st.fo.map encIs))])), (b, vB o 1 (st.by_.map encIs)), (c, vB o 1 (st.fo.map encIs))]
/-- How it lies at the end. -/
def MOut (sg : Int) (st : Gs) (S : St) : Prop := S.n = 10 ∧ S.g 0 = some (.arr 4 [mCell sg (.own 3 0 st.by_.length) (.own 4 0 st.fo.length)]) ∧ S.g 3 = some (.arr 1 (st.by_.map encIs)) ∧ S.g 4 = some (.arr 1 (st.fo.map encIs))
theorem MOut.of {sg : Int} {st : Gs} {G : List (Nat × Option Blk)} : MOut sg st ⟨10, gOf (mG sg true st 0 3 4 ++ G)⟩ := ⟨rfl, by simp [mG, gOf, vV_t], by simp [mG, gOf, vB_t], by simp [mG, gOf, vB_t]⟩
def CallM (P : Program) (f : FuncId) (args : List AV) (sg : Int) (o : Bool) (st st' : Gs) (r : AV) : Prop :=
  CallR P f (.ptr 0 0 0 :: args) ⟨3, gOf (mG sg o st 0 1 2)⟩ fun r' S' => r' = r ∧ MOut sg st' S'
def mOut (sg : Int) (st : Gs) (id b c : Nat) (S : St) : St :=
  ((((((St.mk (S.n + 7) S.g).set id (some (.arr 4 [mCell sg (.own S.n 0 st.by_.length) (.own (S.n + 1) 0 st.fo.length)]))).set b none).set c none).set S.n (some (.arr 1 (st.by_.map encIs)))).set (S.n + 1) (some (.arr 1 (st.fo.map encIs))))
theorem CallM.useW {P : Program} {f : FuncId} {args args0 : List AV} {sg : Int} {o : Bool} {st st' : Gs} {r : AV} (h : CallM P f args sg o st st' r) (ha : ∀ R, RenL noG R args0 args) (hr : Closed r) {S : St} {K : AV → St → Prop} {id b c : Nat}
    (h1 : S.g id = some (.arr 4 [mCell sg (vV o b (st.by_.map encIs)) (vV o c (st.fo.map encIs))])) (h2 : ∀ R, RenO noG R (S.g b) (vB o 1 (st.by_.map encIs))) (h3 : ∀ R, RenO noG R (S.g c) (vB o 1 (st.fo.map encIs)))
    (hd : id ≠ b ∧ id ≠ c ∧ b ≠ c) (hl : id < S.n ∧ b < S.n ∧ c < S.n) (hk : K r (mOut sg st' id b c S)) : CallR P f (.ptr id 0 0 :: args0) S K := by
  refine CallR.frame 3 [(0, id), (1, b), (2, c)] (mG sg o st 0 1 2) (.ptr 0 0 0 :: args) _ (by simp; omega) (by simp; omega) ?_ ?_ h ?_
  · intro p hp
    simp only [mG, List.mem_cons, List.not_mem_nil, or_false] at hp
    rcases hp with rfl | rfl | rfl
    · refine .inr ⟨id, by simp, ?_⟩
      rw [h1, Z1r]
      refine ⟨rfl, ?_⟩
      simp only [mCell, Z1p, Z1q, and_true, Z1t]
      exact ⟨.cl (Z2r _), Z52 (by simp) (Z1a _), Z52 (by simp) (Z1a _), .cl (Z2w _)⟩
    · exact .inr ⟨b, by simp, h2 _⟩
    · exact .inr ⟨c, by simp, h3 _⟩
  · exact .cons (.ptr _ _ _ _ (by simp)) (ha _)
  · rintro r1 S1 hn ⟨rfl, q1, q2, q3, q4⟩
    refine ⟨r1, _, hk, .cl hr, by simp [mOut, Z4f, q1], fun i k hi => ?_⟩
    simp only [mOut, Z4e] at hi
    by_cases e5 : i = S.n + 1
    · rw [if_pos e5] at hi
      refine .inr ⟨4, .inr ⟨by omega, by omega⟩, ?_⟩
      rw [← hi, q4, Z1r]; exact ⟨rfl, .cl (Z1a _)⟩
    rw [if_neg e5] at hi
    by_cases e4 : i = S.n
    · rw [if_pos e4] at hi
      refine .inr ⟨3, .inr ⟨by omega, by omega⟩, ?_⟩
      rw [← hi, q3, Z1r]; exact ⟨rfl, .cl (Z1a _)⟩
    rw [if_neg e4] at hi
    by_cases ec : i = c
    · rw [if_pos ec] at hi; cases hi
    rw [if_neg ec] at hi
    by_cases eb : i = b
    · rw [if_pos eb] at hi; cases hi
    rw [if_neg eb] at hi
    by_cases ea : i = id
    · rw [if_pos ea] at hi
      refine .inr ⟨0, .inl ⟨by omega, by simp [ea]⟩, ?_⟩
      rw [← hi, q2, Z1r]
      refine ⟨rfl, ?_⟩
      simp only [mCell, Z1p, Z1q, and_true, Z1t, Z1v]
      exact ⟨.cl (Z2r _), (.inr ⟨by omega, by omega⟩), (.inr ⟨by omega, by omega⟩), .cl (Z2w _)⟩
    · rw [if_neg ea] at hi
      refine .inl ⟨?_, hi⟩
      simp; omega
theorem CallM.use {P : Program} {f : FuncId} {args args0 : List AV} {sg : Int} {o : Bool} {st st' : Gs} {r : AV} (h : CallM P f args sg o st st' r) (ha : ∀ R, RenL noG R args0 args) (hr : Closed r) {S : St} {K : AV → St → Prop} {id b c : Nat}
    (h1 : S.g id = some (.arr 4 [mCell sg (vV o b (st.by_.map encIs)) (vV o c (st.fo.map encIs))])) (h2 : S.g b = vB o 1 (st.by_.map encIs)) (h3 : S.g c = vB o 1 (st.fo.map encIs))
    (hd : id ≠ b ∧ id ≠ c ∧ b ≠ c) (hl : id < S.n ∧ b < S.n ∧ c < S.n) (hk : K r (mOut sg st' id b c S)) : CallR P f (.ptr id 0 0 :: args0) S K :=
  CallM.useW h ha hr h1 (fun _ => by rw [h2]; exact Z4v (Z1a _)) (fun _ => by rw [h3]; exact Z4v (Z1a _)) hd hl hk
end Go.Rf


/- Own work: slices.Grow from nothing, slices.Concat, at lists of whatever elements. -/
set_option linter.unusedVariables false
set_option linter.unusedSimpArgs false
namespace Go.Rf
open Go.RowKit

/-- As Vec; the block may go on behind the list. -/
def VecP (g : Nat → Option Blk) (v : AV) (es : Nat) (xs : List AV) : Prop :=
  (v = .sl true [] ∧ xs = []) ∨ ∃ id off ys, v = .own id off xs.length ∧ g id = some (.arr es ys) ∧ off + xs.length ≤ ys.length ∧ (ys.take (off + xs.length)).drop off = xs
theorem VecP.frame {g g' : Nat → Option Blk} {v : AV} {es : Nat} {xs : List AV} (h : VecP g v es xs) (hs : ∀ i ∈ v.ids, g' i = g i) : VecP g' v es xs := by
  rcases h with h | ⟨id, off, ys, rfl, h1, h2, h3⟩
  · exact .inl h
  · exact .inr ⟨id, off, ys, rfl, by rw [hs id (by simp [AV.ids])]; exact h1, h2, h3⟩
theorem VecP.fz {X : Type} {enc : X → AV} {g : Nat → Option Blk} {v : AV} {es : Nat} {l : List X} (h : VecP g v es (l.map enc)) (hc : ∀ x, Closed (enc x)) : Fz g v (.sl false (l.map enc)) := by
  rcases h with ⟨rfl, hn⟩ | ⟨id, off, ys, rfl, h1, h2, h3⟩
  · rw [hn]; exact .loose true [] (.sl _ _ (by simp))
  · rw [List.length_map] at h2 h3 ⊢
    refine .own id off l.length es ys (l.map enc) h1 h2 (by simp) (fun i a b => ?_)
    have e : (ys.drop off).take l.length = l.map enc := by rw [← h3, List.drop_take]; congr 1; omega
    simp only [e]
    exact .closed _ (by simp only [List.getElem_map]; exact hc _)
/-- A list is put behind. -/
theorem VecP.app {n nid by_ es : Nat} {g : Nat → Option Blk} {v : AV} {xs : List AV} (h : VecP g v es xs) (t : Bool) (ys : List AV) (hx : ∀ z ∈ xs, z.cells.length = es) (hy : ∀ z ∈ ys, z.cells.length = es) (hok : appOk by_ xs.length ys.length) :
    ∃ v' S', (exApp es by_ v (.sl t ys)).run ⟨n, g⟩ nid = some (v', S') ∧ S'.n = n ∧ (nid ∉ v.ids → VecP S'.g v' es (xs ++ ys)) ∧ (∀ i, i ∉ v.ids → i ≠ nid → S'.g i = g i) ∧ (∀ i ∈ v'.ids, i ∈ v.ids ∨ i = nid) := by
  have hl : lstE es [] (.sl t ys) = some ys := by simp only [lstE]; rw [if_pos hy]
  rcases h with ⟨rfl, rfl⟩ | ⟨id, off, zs, rfl, h1, h2, h3⟩
  · simp only [List.length_nil] at hok
    by_cases h0 : ys.length = 0
    · have : ys = [] := List.eq_nil_of_length_eq_zero h0
      subst this
      refine ⟨.sl true [], ⟨n, g⟩, ?_, rfl, fun _ => .inl ⟨rfl, rfl⟩, fun _ _ _ => rfl, by simp [AV.ids]⟩
      simp [exApp, AV.oid, Eff.run, hl, St.setL, St.setO, appOk]
    · refine ⟨.own nid 0 ys.length, (⟨n, g⟩ : St).set nid (some (.arr es ys)), ?_, by simp [Z4f], fun _ => .inr ⟨nid, 0, ys, by simp, by simp [Z4e], by simp, by simp⟩, fun i _ hi => by simp [Z4e, hi], by simp [AV.ids]⟩
      simp only [exApp, AV.oid, Eff.run, List.mapM_nil, Option.pure_def, hl, Option.bind_some, List.length_nil, Nat.zero_add, hok, and_true]
      rw [if_pos (by simp), if_neg h0]
      simp [St.setL, St.setO]
  · refine ⟨.own nid 0 (xs.length + ys.length), ((⟨n, g⟩ : St).set id none).set nid (some (.arr es (xs ++ ys))), ?_, by simp [Z4f], fun hn => .inr ⟨nid, 0, xs ++ ys, by simp, by simp [Z4e], by simp, by simp [← List.length_append]⟩, fun i hi hn => ?_, by simp [AV.ids]⟩
    · have ho : (AV.sl t ys).oid = [] := rfl
      have hne : ([] : List Nat) ≠ [id] := by simp
      simp only [exApp, Eff.run, ho, List.mapM_cons, List.mapM_nil, h1, Option.pure_def, Option.bind_eq_bind, Option.bind_some, hl]
      by_cases he : off + xs.length = zs.length
      · rw [if_pos ⟨trivial, he, hok, hne⟩]
        have e : zs.drop off = xs := by rw [← h3, he, List.take_length]
        simp [St.setL, St.setO, e]
      · rw [if_neg (fun hh => he hh.2.1), if_pos ⟨trivial, by omega, hok, hne⟩]
        simp [St.setL, St.setO, h3]
    · simp only [AV.ids, List.mem_cons, List.not_mem_nil, or_false] at hi
      simp [Z4e, hi, hn]
end Go.Rf


/- Own work: codes that change nothing of their own, told of worlds: for calls whose contracts speak of worlds. -/
set_option linter.unusedVariables false
set_option linter.unusedSimpArgs false
namespace Go.Rf
open Go.RowKit

structure EOk (E : Env) (w : World) : Prop where
  hH : HOk E.H w
  fresh : ∀ id, 1 ≤ id → E.ρ id = none
def CallW (P : Program) (E : Env) (f : FuncId) (args : List AV) (w : World) (K : AV → World → Prop) : Prop :=
  Callable P f ∧ ∀ vals, Reps E args vals → Calls P f vals w fun e w' => ∃ v r, e = .returned v ∧ Rep E r v ∧ HOk E.H w' ∧ K r w'
end Go.Rf


/- Own work: a set's text (det.text). -/
set_option linter.unusedVariables false
set_option linter.unusedSimpArgs false
namespace Go.Rf
open Go.RowKit

/-! ### what is asked of the builder and of Itoa -/
structure BldK (P : Program) (fw fb fs : FuncId) (T e : TypeId) : Prop where
  cw : Callable P fw
  cb : Callable P fb
  cs : Callable P fs
  w : ∀ (B b : Nat) (bs : List Value) (s : ByteArray) (w : World), Lib.IsBuilderF T e B b bs w → bs.length + s.size ≤ 140737488355328 → B ≤ w.heap.size →
    Calls P fw #[.pointer (some ⟨b, 0, none⟩), .string s] w fun en w' => en = .returned (.tuple #[.int .i64 s.size, .nilIface]) ∧ Lib.IsBuilderF T e B b (bs ++ Lib.strCells s) w' ∧ Below B w w'
  b : ∀ (B b : Nat) (bs : List Value) (c : Int) (w : World), Lib.IsBuilderF T e B b bs w → bs.length + 1 ≤ 140737488355328 → B ≤ w.heap.size →
    Calls P fb #[.pointer (some ⟨b, 0, none⟩), .int .u8 c] w fun en w' => en = .returned .nilIface ∧ Lib.IsBuilderF T e B b (bs ++ [.int .u8 c]) w' ∧ Below B w w'
  s : ∀ (B b : Nat) (l : List UInt8) (w : World), Lib.IsBuilderF T e B b (Lib.byteCells l) w → B ≤ w.heap.size →
    Calls P fs #[.pointer (some ⟨b, 0, none⟩)] w fun en w' => en = .returned (.string ⟨l.toArray⟩) ∧ Below B w w'
/-- Itoa of what is good. -/
structure ItK (P : Program) (fi : FuncId) (good : Int → Prop) : Prop where
  c : Callable P fi
  h : ∀ (H : Nat → Option (Array Value)) (n : Int) (w : World), Gam P H → HOk H w → good n → Calls P fi #[.int .i64 n] w fun en w' => en = .returned (.string ⟨(Lib.itoa n).toArray⟩) ∧ Below w.heap.size w w'
def strAV (l : List UInt8) : AV := .v (.string ⟨l.toArray⟩)
theorem size_list (l : List UInt8) : (⟨l.toArray⟩ : ByteArray).size = l.length := rfl
theorem byteCells_append (l m : List UInt8) : Lib.byteCells (l ++ m) = Lib.byteCells l ++ Lib.byteCells m := by simp [Lib.byteCells]
theorem byteCells_len (l : List UInt8) : (Lib.byteCells l).length = l.length := by simp [Lib.byteCells]
/-- The builder's number is 0: it lies at b. -/
structure BE (E : Env) (B b : Nat) : Prop where
  ρ : E.ρ 0 = some ⟨b, 0, 2, 1⟩
  H : ∀ c cs, E.H c = some cs → c < B
theorem BE.ptr {E : Env} {B b : Nat} (h : BE E B b) {v : Value} (r : Rep E (.ptr 0 0 0) v) : v = .pointer (some ⟨b, 0, none⟩) := by
  cases r with
  | ptr _ _ _ l hl =>
    rw [h.ρ] at hl
    cases hl
    rfl
theorem BE.keep {E : Env} {B b : Nat} (h : BE E B b) {w w' : World} (hH : HOk E.H w) (hb : Below B w w') : HOk E.H w' := by
  intro c cs e
  obtain ⟨el, fz, hw⟩ := hH c cs e
  exact ⟨el, fz, by rw [hb.block c (h.H c cs e)]; exact hw⟩
theorem of_reps_one {E : Env} {x : AV} {vals : Array Value} (h : Reps E [x] vals) : ∃ v, vals = #[v] ∧ Rep E x v := by
  obtain ⟨h1, h2⟩ := h
  refine ⟨vals.getD 0 undef, ?_, h2 0 (by simp)⟩
  apply Array.ext
  · simpa using h1
  · intro i h3 h4
    have : i = 0 := by simp at h4; omega
    subst this
    simp [Array.getD_eq_getD_getElem?, Array.getElem?_eq_getElem h3]
theorem of_reps_two {E : Env} {x y : AV} {vals : Array Value} (h : Reps E [x, y] vals) : ∃ v u, vals = #[v, u] ∧ Rep E x v ∧ Rep E y u := by
  obtain ⟨h1, h2⟩ := h
  refine ⟨vals.getD 0 undef, vals.getD 1 undef, ?_, h2 0 (by simp), h2 1 (by simp)⟩
  apply Array.ext
  · simpa using h1
  · intro i h3 h4
    have hi : i < 2 := by simpa using h4
    match i, hi with
    | 0, _ => simp [Array.getD_eq_getD_getElem?, Array.getElem?_eq_getElem h3]
    | 1, _ => simp [Array.getD_eq_getD_getElem?, Array.getElem?_eq_getElem h3]
/-- The builder holds these bytes. -/
structure Bld (T e B b : Nat) (w0 : World) (l : List UInt8) (w : World) : Prop where
  is : Lib.IsBuilderF T e B b (Lib.byteCells l) w
  below : Below B w0 w
  room : B ≤ w.heap.size
theorem Bld.kept {T e B b : Nat} {w0 w w' : World} {l : List UInt8} (h : Bld T e B b w0 l w) (hb : Below w.heap.size w w') : Bld T e B b w0 l w' := by
  have hbB : Below B w w' := ⟨hb.os, hb.tape, hb.output, hb.size, fun k hk => hb.block k (Nat.lt_of_lt_of_le hk h.room)⟩
  have hgr : w.grownBy w' none := ⟨hb.os, hb.tape, hb.output, hb.size, fun k hk _ => hb.block k hk⟩
  have key : ∀ p, Lib.BuilderAtF T e B b p (Lib.byteCells l) w → Lib.BuilderAtF T e B b p (Lib.byteCells l) w' := by
    rintro p ⟨h1, v, h2, h3, h4⟩
    refine ⟨h1, v, ?_, h3.kept hgr (by cases hv : v.ownBlock <;> simp), h4⟩
    rw [hb.block b (Array.getElem?_eq_some_iff.mp h2).1]; exact h2
  exact ⟨h.is.elim (fun x => .inl (key _ x)) (fun x => .inr (key _ x)), h.below.trans hbB, Nat.le_trans h.room hb.size⟩
theorem CallW.str {P : Program} {fw fb fs : FuncId} {T e : TypeId} (k : BldK P fw fb fs T e) {E : Env} {B b : Nat} (hE : BE E B b) {w0 w : World} {l m : List UInt8} (h : Bld T e B b w0 l w) (hH : HOk E.H w) (hl : l.length + m.length ≤ 140737488355328)
    {K : AV → World → Prop} (hK : ∀ w', Bld T e B b w0 (l ++ m) w' → HOk E.H w' → K .junk w') : CallW P E fw [.ptr 0 0 0, strAV m] w K := by
  refine ⟨k.cw, fun vals hv => ?_⟩
  obtain ⟨v, u, rfl, r1, r2⟩ := of_reps_two hv
  have e1 := hE.ptr r1
  have e2 := r2.v_inv
  subst e1; subst e2
  refine (k.w B b _ ⟨m.toArray⟩ w h.is (by rw [byteCells_len, size_list]; exact hl) h.room).mono ?_
  rintro en w' ⟨rfl, h1, h2⟩
  exact ⟨_, .junk, rfl, .junk _, hE.keep hH h2, hK w' ⟨by rw [byteCells_append]; exact h1, h.below.trans h2, Nat.le_trans h.room h2.size⟩ (hE.keep hH h2)⟩
theorem CallW.string {P : Program} {fw fb fs : FuncId} {T e : TypeId} (k : BldK P fw fb fs T e) {E : Env} {B b : Nat} (hE : BE E B b) {w0 w : World} {l : List UInt8} (h : Bld T e B b w0 l w) (hH : HOk E.H w)
    {K : AV → World → Prop} (hK : ∀ w', Below B w0 w' → K (strAV l) w') : CallW P E fs [.ptr 0 0 0] w K := by
  refine ⟨k.cs, fun vals hv => ?_⟩
  obtain ⟨v, rfl, r1⟩ := of_reps_one hv
  have e1 := hE.ptr r1
  subst e1
  refine (k.s B b l w h.is h.room).mono ?_
  rintro en w' ⟨rfl, h2⟩
  exact ⟨_, strAV l, rfl, .v _ rfl, hE.keep hH h2, hK w' (h.below.trans h2)⟩
theorem CallW.itoa {P : Program} {fi : FuncId} {good : Int → Prop} (k : ItK P fi good) {E : Env} {T e B b : Nat} (hE : BE E B b) {w0 w : World} {l : List UInt8} (h : Bld T e B b w0 l w) {n : Int} (hn : good n) (hG : Gam P E.H) (hH : HOk E.H w)
    {K : AV → World → Prop} (hK : ∀ w', Bld T e B b w0 l w' → HOk E.H w' → K (strAV (Lib.itoa n)) w') : CallW P E fi [encI n] w K := by
  refine ⟨k.c, fun vals hv => ?_⟩
  obtain ⟨v, rfl, r1⟩ := of_reps_one hv
  have e1 := r1.v_inv
  subst e1
  refine (k.h E.H n w hG hH hn).mono ?_
  rintro en w' ⟨rfl, hb⟩
  have hbB : Below B w w' := ⟨hb.os, hb.tape, hb.output, hb.size, fun k hk => hb.block k (Nat.lt_of_lt_of_le hk h.room)⟩
  exact ⟨_, strAV (Lib.itoa n), rfl, .v _ rfl, hE.keep hH hbB, hK w' (h.kept hb) (hE.keep hH hbB)⟩
end Go.Rf


/- Own work: a set's text (det.text). -/
set_option linter.unusedVariables false
set_option linter.unusedSimpArgs false
namespace Go.Rf
open Go.RowKit
def textL (l : List Int) : List UInt8 := l.flatMap fun n => Lib.itoa n ++ [32]
structure TxI (T e B : Nat) (w0 : World) (l : List Int) (m : Nat) (a : AF) (w : World) (j : Nat) : Prop where
  hj : j ≤ l.length
  hm : m = l.length - j
  e3 : a 3 = .ptr 0 0 0
  e6 : a 6 = encIs l
  e7 : a 7 = encI l.length
  e8 : a 8 = encI j
  bl : Bld T e B B w0 (textL (l.take j)) w
  ok : True
end Go.Rf


/- Own work: sets' texts tell sets apart; numbers of sets (plain laws). -/
set_option linter.unusedVariables false
set_option linter.unusedSimpArgs false
namespace Go.Rf
open Go.RowKit

def NonNeg (l : List Int) : Prop := ∀ n ∈ l, 0 ≤ n
/-! ### the map of sets -/
def entsF : Nat → List (List Int) → List (AV × AV)
  | _, [] => []
  | k, s :: ss => (strAV (textL s), encI k) :: entsF (k + 1) ss
end Go.Rf


/- Own work: (*det.maker).number. -/
set_option linter.unusedVariables false
set_option linter.unusedSimpArgs false
namespace Go.Rf
open Go.RowKit
/-- A maker lies at id, its map at km; it has these sets. -/
structure MkS (S : St) (id km : Nat) (n : Net) (most : Int) (ss : List (List Int)) (v : AV) : Prop where
  g : S.g id = some (.arr 7 [.agg [encI n.signs, encIss n.by_, encIss n.follow, encIs n.last, encI most, .mp km, v]])
  m : S.g km = some (.map (entsF 0 ss))
  vec : Vec S.g v 1 (ss.map encIs)
  ne : id ≠ km
  hv : ∀ i ∈ v.ids, i ≠ id ∧ i ≠ km
  lid : id < S.n
  lkm : km < S.n
  lv : ∀ i ∈ v.ids, i < S.n
/-- All but these blocks is as it was. -/
structure Frm (S S' : St) (R : List Nat) : Prop where
  n : S.n ≤ S'.n
  g : ∀ i, i < S.n → i ∉ R → S'.g i = S.g i
section
variable {g : Nat → Option Blk} {km m nid : Nat} {ss : List (List Int)} {x : List Int}
end
end Go.Rf


/- Own work: (*det.maker).step and .ends. -/
set_option linter.unusedVariables false
set_option linter.unusedSimpArgs false
namespace Go.Rf
open Go.RowKit
def pNet (n : Net) : AV := .eptr (encNet n) 0
structure DsS (n : Net) (at_ : List Int) (sign : Int) (i : Nat) (cur : List Int) (f : AF) (S : St) : Prop where
  e12 : f 12 = encIs at_
  e13 : f 13 = encI at_.length
  e14 : f 14 = encI i
  e2 : f 2 = encI sign
  e0 : f 0 = pNet n
  vec : Vec S.g (f 7) 1 (cur.map encI)
  nil : cur = [] → f 7 = .sl true []
theorem DsS.same {n : Net} {at_ : List Int} {sign : Int} {i : Nat} {cur : List Int} {f f' : AF} {S S' : St} (h : DsS n at_ sign i cur f S) (hf : ∀ j, j = 12 ∨ j = 13 ∨ j = 14 ∨ j = 2 ∨ j = 0 ∨ j = 7 → f' j = f j) (hg : S'.g = S.g) : DsS n at_ sign i cur f' S' :=
  ⟨by rw [hf _ (by simp)]; exact h.e12, by rw [hf _ (by simp)]; exact h.e13, by rw [hf _ (by simp)]; exact h.e14, by rw [hf _ (by simp)]; exact h.e2, by rw [hf _ (by simp)]; exact h.e0, by rw [hg, hf _ (by simp)]; exact h.vec, fun e => by rw [hf _ (by simp)]; exact h.nil e⟩
structure HStep (P : Program) (fc fs fm : FuncId) : Prop where
  cont : ∀ (l : List Int) x, Len l → PureC P fc [encIs l, encI x] (encB (l.contains x))
  sort : HSort P fs
  comp : HComp P fm
  sort0 : PureC P fs [.sl true []] (.tup [])
  comp0 : PureC P fm [.sl true []] (.sl true [])
def endsB (n : Net) (set : List Int) : Bool := set.any fun s => n.last.contains s
end Go.Rf

