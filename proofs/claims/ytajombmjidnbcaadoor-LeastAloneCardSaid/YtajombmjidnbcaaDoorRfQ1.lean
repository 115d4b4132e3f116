import Derived.Test.YtajombmjidnbcaaDoorRfNb
import Derived.Test.YtajombmjidnbcaaDoorRfWk
import Derived.Test.YtajombmjidnbcaaDoorRfTx2
import Derived.Test.YtajombmjidnbcaaDoorRfRows
import Derived.Test.YtajombmjidnbcaaDoorRfCell
/- Own work: nets and automata as values, for the rules. -/
set_option linter.unusedVariables false
set_option linter.unusedSimpArgs false
namespace Go.Rf
open Go.RowKit
theorem Z4k (n : Net) : (encNet n).solid = true := rfl
theorem Z2e (n : Net) : (encNet n).cells = [.v (.int .i64 n.signs), encIss n.by_, encIss n.follow, encIs n.last] := rfl
theorem Z25 (n : Net) : AV.agg [.v (.int .i64 n.signs), encIss n.by_, encIss n.follow, encIs n.last] = encNet n := rfl
theorem Z4h (d : Det) : (encDet d).solid = true := rfl
theorem Z2b (d : Det) : (encDet d).cells = [.v (.int .i64 d.signs), encIss d.next, encBs d.fin] := rfl
theorem Z24 (d : Det) : AV.agg [.v (.int .i64 d.signs), encIss d.next, encBs d.fin] = encDet d := rfl
theorem Z36 (l : List Int) : exLen (encIs l) = some (.v (.int .i64 l.length)) := by simp [encIs, exLen]
theorem Z37 (l : List (List Int)) : exLen (encIss l) = some (.v (.int .i64 l.length)) := by simp [encIss, exLen]
theorem Z35 (l : List Bool) : exLen (encBs l) = some (.v (.int .i64 l.length)) := by simp [encBs, exLen]
theorem Z3s {S : St} {nid : Nat} {l : List Int} {k : IntKind} {n : Int} (hn : 0 ≤ n) (hlt : n < l.length) : (exIdxA 1 (encIs l) (.v (.int k n))).run S nid = some (.eptr (encI (l.getD n.toNat 0)) 0, S) := by
  have hl : n.toNat < l.length := by omega
  simp [encIs, exIdxA, hn, List.getElem?_eq_getElem hl, List.getD_eq_getElem?_getD, AV.cells, encI]
theorem Z3t {S : St} {nid : Nat} {l : List (List Int)} {k : IntKind} {n : Int} (hn : 0 ≤ n) (hlt : n < l.length) : (exIdxA 1 (encIss l) (.v (.int k n))).run S nid = some (.eptr (encIs (l.getD n.toNat [])) 0, S) := by
  have hl : n.toNat < l.length := by omega
  simp [encIss, exIdxA, hn, List.getElem?_eq_getElem hl, List.getD_eq_getElem?_getD, AV.cells, encIs]
theorem Z3r {S : St} {nid : Nat} {l : List Bool} {k : IntKind} {n : Int} (hn : 0 ≤ n) (hlt : n < l.length) : (exIdxA 1 (encBs l) (.v (.int k n))).run S nid = some (.eptr (encB (l.getD n.toNat false)) 0, S) := by
  have hl : n.toNat < l.length := by omega
  simp [encBs, exIdxA, hn, List.getElem?_eq_getElem hl, List.getD_eq_getElem?_getD, AV.cells, encB]
theorem Z3p {S : St} {nid : Nat} {l : List Int} {k : IntKind} {n : Int} (hn : 0 ≤ n) (hlt : n < l.length) : (exIdxA 1 (encIs l) (.v (.int k n))).runT S nid = some (.eptr (encI (l.getD n.toNat 0)) 0, S, [], []) := by
  have hl : n.toNat < l.length := by omega
  simp [encIs, exIdxA, hn, List.getElem?_eq_getElem hl, List.getD_eq_getElem?_getD, AV.cells, encI, Z4c]
theorem Z3q {S : St} {nid : Nat} {l : List (List Int)} {k : IntKind} {n : Int} (hn : 0 ≤ n) (hlt : n < l.length) : (exIdxA 1 (encIss l) (.v (.int k n))).runT S nid = some (.eptr (encIs (l.getD n.toNat [])) 0, S, [], []) := by
  have hl : n.toNat < l.length := by omega
  simp [encIss, exIdxA, hn, List.getElem?_eq_getElem hl, List.getD_eq_getElem?_getD, AV.cells, encIs, Z4c]
theorem idxT_Bs {S : St} {nid : Nat} {l : List Bool} {k : IntKind} {n : Int} (hn : 0 ≤ n) (hlt : n < l.length) : (exIdxA 1 (encBs l) (.v (.int k n))).runT S nid = some (.eptr (encB (l.getD n.toNat false)) 0, S, [], []) := by
  have hl : n.toNat < l.length := by omega
  simp [encBs, exIdxA, hn, List.getElem?_eq_getElem hl, List.getD_eq_getElem?_getD, AV.cells, encB, Z4c]
end Go.Rf


/- Own work: functions that write into a builder of their own, behind a region that boxes. -/
set_option linter.unusedVariables false
set_option linter.unusedSectionVars false
set_option linter.unusedSimpArgs false
namespace Go.Rf
open Go.RowKit

/-- As PureC.of_bld; the first region may make memory, that is frozen. -/
theorem PureC.of_bld2 {P : Program} (hm : P.follows .mixedOrders = true) {f : FuncId} {fn : Func} {c : Code} {X : AC} {d : Nat} {Y : AC} {t : Nat} {T e : TypeId} (hf : P.funcs[f]? = some fn) (hnm : (fn.name == "runtime.NumGoroutine") = false) (hb : fn.body = some c)
    (hc : comp P fn.ntmps c = some (.seq X (.seq (.reg none [⟨some d, .alloc bld0 2, none, none⟩]) Y))) (hT : allocT c = some T) (hr : fn.results = ([t].map ResultVar.tmp).toArray) {args : List AV} (hn : args.length ≤ fn.ntmps) {r : Value} (hrs : scalar r = true) {A : List (Nat × AV)}
    (h0 : AWb P 0 X (fun e a S => e = .normal ∧ Abs 0 a S (afOf A) ⟨0, gOf []⟩) (argF args) S0)
    (h1 : ∀ E B w w0, BE E B B → Gam P E.H → HOk E.H w → Bld T e B B w0 [] w → AWW P E Y (fun ex a w' => (ex = .ret ∨ ex = .normal) ∧ a t = .v r ∧ Below B w0 w') ((afOf A).put (some d) (.ptr 0 0 0)) w) : PureC P f args (.v r) := by
  refine ⟨callable_of hf hnm hb, fun H w vals hG hH hv => ?_⟩
  obtain ⟨c0, c1, rfl, hc0, hc1⟩ := comp_seq_inv hc
  obtain ⟨c2, c3, rfl, hc2, hc3⟩ := comp_seq_inv hc1
  have hF := repF_args hv hn
  refine calls_of_wp hf hb (wp_seq (wp_mono (aw_soundB (b := 0) (regC_ok hm) leaf_regC c0 _ hc0 _ _ _ h0 ⟨noρ, H⟩ w _ hG (Nat.zero_le _) (sim0 hH) hF) fun ex act1 w1 hp => ?_))
  obtain ⟨a0, S1, E0', ⟨rfl, habs⟩, hS1, hF0, ev0⟩ := hp
  obtain ⟨E1, hS2, hF1, ev1⟩ := habs E0' w1 act1 _ (Nat.zero_le _) hS1 hF0
  have ev := ev0.trans ev1
  have hE1 : EOk E1 w1 := ⟨fun b cs e => hS2.hH b cs e, fun id _ => hS2.fresh id (Nat.zero_le _)⟩
  have hρ1 : ∀ id, E1.ρ id = none := fun id => hS2.fresh id (Nat.zero_le _)
  have hbel1 : Below w.heap.size w w1 := ⟨ev.os, ev.tape, ev.output, ev.size, fun k hk => ev.keep k hk (fun id l B hB => by simp [S0] at hB)⟩
  have hsub : ∀ b cs, E1.H b = some cs → H b = some cs ∨ w.heap.size ≤ b := by
    intro b cs e
    rcases ev.hsub b cs e with h2 | h2 | ⟨id0, l0, k0, h2, _⟩
    · exact .inl h2
    · exact .inr h2
    · simp [S0] at h2
  refine wp_seq (wp_mono (alloc_bld (e := e) hc2 hF1 hρ1 hE1.hH (T := T) (fun id ops e => ?_)) fun ex act2 w2 hp => ?_)
  · subst e
    simp only [allocT] at hT
    split at hT
    · rename_i o ho
      refine ⟨o, ho, ?_⟩
      split at hT
      · rename_i t' ht
        cases hT; exact ht
      · cases hT
    · cases hT
  obtain ⟨rfl, rfl, hE2, hF2, hB⟩ := hp
  have hbe : BE ⟨fun i => if i = 0 then some ⟨w1.heap.size, 0, 2, 1⟩ else none, E1.H⟩ w1.heap.size w1.heap.size := ⟨rfl, fun c cs e => by obtain ⟨el, fz, hw⟩ := hE1.hH c cs e; exact (Array.getElem?_eq_some_iff.mp hw).1⟩
  refine wp_mono (aww_sound c3 _ hc3 _ _ _ (h1 _ _ _ w1 hbe (hG.sub ev.leH) hE2.hH hB) _ hE2 hF2) fun ex act3 w3 hp => ?_
  obtain ⟨a3, ⟨hex, hat, hbel⟩, hF3, hE3⟩ := hp
  have hres := run_results (P := P) hr act3.tmps w3
  have hrep := retAV_rep hF3 [t]
  simp only [retAV, hat] at hrep
  have hval := hrep.v_inv
  have hbel3 : Below w.heap.size w w3 := hbel1.trans ⟨hbel.os, hbel.tape, hbel.output, hbel.size, fun k hk => hbel.block k (Nat.lt_of_lt_of_le hk hbel1.size)⟩
  have fin : bodyPost P fn (fun e w' => ∃ v H', e = .returned v ∧ (∀ b cs, H b = some cs → H' b = some cs) ∧ (∀ b cs, H' b = some cs → H b = some cs ∨ w.heap.size ≤ b) ∧ HOk H' w' ∧ Rep ⟨noρ, H'⟩ (.v r) v ∧ Below w.heap.size w w') .ret act3 w3 :=
    ⟨hF3.defers, _, hres, _, E1.H, rfl, ev.leH, hsub, hE3.hH, by rw [hval]; exact .v _ hrs, hbel3⟩
  rcases hex with rfl | rfl
  · exact fin
  · exact fin
/-! ### maps of keys, numbered as they came -/
structure KeyOk {K : Type} [DecidableEq K] (d : KK) (good : K → Prop) (enc : K → AV) : Prop where
  k : ∀ x, isK d (enc x) = true
  eq : ∀ x y, good x → good y → keyEq (enc x) (enc y) = decide (x = y)
def entsG {K : Type} (enc : K → AV) : Nat → List K → List (AV × AV)
  | _, [] => []
  | k, x :: xs => (enc x, encI k) :: entsG enc (k + 1) xs
theorem entsG_len {K : Type} (enc : K → AV) : ∀ (k : Nat) (ks : List K), (entsG enc k ks).length = ks.length
  | _, [] => rfl
  | k, x :: xs => by simp [entsG, entsG_len enc (k + 1) xs]
section
variable {K : Type} [DecidableEq K] {d : KK} {good : K → Prop} {enc : K → AV}
theorem entsG_keys (h : KeyOk d good enc) : ∀ (ks : List K) (k : Nat), ∀ e ∈ entsG enc k ks, isK d e.1 = true
  | [], k => by simp [entsG]
  | x :: xs, k => fun e he => by
    simp only [entsG, List.mem_cons] at he
    rcases he with rfl | he
    · exact h.k x
    · exact entsG_keys h xs (k + 1) e he
theorem findG (h : KeyOk d good enc) {x : K} (hx : good x) : ∀ (ks : List K) (k : Nat), (∀ s ∈ ks, good s) → findE (enc x) (entsG enc k ks) = if x ∈ ks then some (encI (k + ks.idxOf x : Nat)) else none
  | [], k, _ => by simp [entsG, findE]
  | s :: ss, k, hs => by
    simp only [entsG, findE]
    rw [h.eq x s hx (hs s (by simp)), findG h hx ss (k + 1) (fun z hz => hs z (by simp [hz]))]
    by_cases e : x = s
    · subst e; simp
    · have e' : s ≠ x := fun e2 => e e2.symm
      simp only [e, decide_false, Bool.false_eq_true, if_false, List.mem_cons, false_or]
      by_cases hm : x ∈ ss
      · rw [if_pos hm, if_pos hm, List.idxOf_cons, show (s == x) = false by simpa using e', cond_false]
        congr 2; omega
      · rw [if_neg hm, if_neg hm]
theorem setG (h : KeyOk d good enc) {x : K} (hx : good x) : ∀ (ks : List K) (k : Nat), (∀ s ∈ ks, good s) → x ∉ ks → setE (enc x) (encI (k + ks.length : Nat)) (entsG enc k ks) = entsG enc k (ks ++ [x])
  | [], k, _, _ => by simp [entsG, setE]
  | s :: ss, k, hs, hn => by
    simp only [List.mem_cons, not_or] at hn
    simp only [entsG, setE, List.cons_append]
    rw [h.eq x s hx (hs s (by simp)), if_neg (by simpa using hn.1)]
    have := setG h hx ss (k + 1) (fun z hz => hs z (by simp [hz])) hn.2
    rw [← this]
    congr 3; simp only [List.length_cons]; omega
theorem lookG (h : KeyOk d good enc) {ks : List K} {x : K} (hx : good x) (hs : ∀ s ∈ ks, good s) {km nid : Nat} {S : St} (hg : S.g km = some (.map (entsG enc 0 ks))) :
    (exLook d (.v (.int .i64 0)) true (.mp km) (enc x)).run S nid = some (.tup [.v (.int .i64 (if x ∈ ks then (ks.idxOf x : Int) else 0)), .v (.bool (decide (x ∈ ks)))], S) := by
  have hk := entsG_keys h ks 0
  simp only [exLook, Eff.run_rd, hg, Option.bind_some, if_pos (show isK d (enc x) = true ∧ ∀ e ∈ entsG enc 0 ks, isK d e.1 = true from ⟨h.k x, hk⟩), findG h hx ks 0 hs]
  by_cases hin : x ∈ ks
  · simp [hin, encI]
  · simp [hin, encI]
theorem msetG (h : KeyOk d good enc) {ks : List K} {x : K} (hx : good x) (hs : ∀ s ∈ ks, good s) (hn : x ∉ ks) {km nid : Nat} {S : St} (hg : S.g km = some (.map (entsG enc 0 ks))) :
    (exMset d (.mp km) (enc x) (.v (.int .i64 ks.length))).run S nid = some (.junk, S.set km (some (.map (entsG enc 0 (ks ++ [x]))))) := by
  have hk := entsG_keys h ks 0
  have h2 := setG h hx ks 0 hs hn
  rw [Nat.zero_add] at h2
  have h' : setE (enc x) (.v (.int .i64 ks.length)) (entsG enc 0 ks) = entsG enc 0 (ks ++ [x]) := h2
  simp only [exMset, Eff.run_wr, hg, Option.bind_some, if_pos (show isK d (enc x) = true ∧ ∀ e ∈ entsG enc 0 ks, isK d e.1 = true from ⟨h.k x, hk⟩), h', Option.map_some]
theorem lenG {ks : List K} {km nid : Nat} {S : St} (hg : S.g km = some (.map (entsG enc 0 ks))) : (exLenM (.mp km)).run S nid = some (.v (.int .i64 ks.length), S) := by
  simp [exLenM, hg, entsG_len]
end
def CloM (es : List (AV × AV)) : Prop := ∀ e ∈ es, Closed e.1 ∧ Closed e.2
theorem CloM_G {K : Type} {enc : K → AV} (h : ∀ x, Closed (enc x)) : ∀ (ks : List K) (k : Nat), CloM (entsG enc k ks)
  | [], k => by simp [CloM, entsG]
  | x :: xs, k => fun e he => by
    simp only [entsG, List.mem_cons] at he
    rcases he with rfl | he
    · exact ⟨h x, Z2r _⟩
    · exact CloM_G h xs (k + 1) e he
theorem map_ren {gF : Nat → Option Blk} {R : Nat → Nat → Prop} {es : List (AV × AV)} (h : CloM es) : RenO gF R (some (.map es)) (some (.map es)) := by
  intro b hb
  cases hb
  exact ⟨_, rfl, .map _ _ rfl (fun i h1 _ => ⟨.cl (h _ (List.getElem_mem h1)).1, .cl (h _ (List.getElem_mem h1)).2⟩)⟩
end Go.Rf


/- Own work: classes of states (plain laws): numbers by first occurrence; which states are told apart. -/
set_option linter.unusedVariables false
set_option linter.unusedSectionVars false
namespace Go.Rf

/-! ### numbers by first occurrence -/
section
variable {K : Type} [BEq K]
def numStep (s : List K × List Int) (k : K) : List K × List Int := if s.1.contains k then (s.1, s.2 ++ [(s.1.idxOf k : Int)]) else (s.1 ++ [k], s.2 ++ [(s.1.length : Int)])
def numF1 (l : List K) : List K × List Int := l.foldl numStep ([], [])
theorem numF1_snoc (l : List K) (k : K) : numF1 (l ++ [k]) = numStep (numF1 l) k := by simp [numF1]
end
theorem snocInd {X : Type} {p : List X → Prop} (h0 : p []) (h1 : ∀ l x, p l → p (l ++ [x])) (l : List X) : p l := by
  have : ∀ r : List X, p r.reverse := by
    intro r
    induction r with
    | nil => exact h0
    | cons x r ih => rw [List.reverse_cons]; exact h1 _ _ ih
  rw [← List.reverse_reverse l]; exact this _
section
variable {K : Type} [BEq K] [LawfulBEq K]
structure NumOk (l : List K) (s : List K × List Int) : Prop where
  len : s.2.length = l.length
  nd : s.1.Nodup
  mem : ∀ k, k ∈ s.1 ↔ k ∈ l
  at_ : ∀ i (h : i < l.length), s.2[i]? = some ((s.1.idxOf l[i] : Nat) : Int)
theorem numF1_ok (l : List K) : NumOk l (numF1 l) := by
  refine snocInd (p := fun l => NumOk l (numF1 l)) ?_ ?_ l
  · exact ⟨rfl, List.nodup_nil, by simp [numF1], by simp⟩
  · intro l k ih
    rw [numF1_snoc]
    unfold numStep
    split
    · rename_i hc
      have hin : k ∈ (numF1 l).1 := by simpa using hc
      refine ⟨by simp [ih.len], ih.nd, fun x => ?_, fun i hi => ?_⟩
      · simp only [List.mem_append, List.mem_singleton]
        rw [ih.mem]
        constructor
        · exact .inl
        · rintro (h | rfl)
          · exact h
          · exact (ih.mem _).mp hin
      · simp only
        by_cases hl : i < l.length
        · rw [List.getElem?_append_left (by rw [ih.len]; exact hl), List.getElem_append_left hl]; exact ih.at_ i hl
        · have : i = l.length := by simp at hi; omega
          subst this
          rw [List.getElem?_append_right (by rw [ih.len]; omega), ih.len]
          simp
    · rename_i hc
      have hin : k ∉ (numF1 l).1 := by simpa using hc
      refine ⟨by simp [ih.len], ?_, fun x => ?_, fun i hi => ?_⟩
      · rw [List.nodup_append]
        exact ⟨ih.nd, by simp, fun a ha b hb => by simp at hb; subst hb; rintro rfl; exact hin ha⟩
      · simp only [List.mem_append, List.mem_singleton]
        rw [ih.mem]
      · simp only
        by_cases hl : i < l.length
        · rw [List.getElem?_append_left (by rw [ih.len]; exact hl), List.getElem_append_left hl]
          have hm : l[i] ∈ (numF1 l).1 := (ih.mem _).mpr (List.getElem_mem hl)
          rw [List.idxOf_append, if_pos hm]
          exact ih.at_ i hl
        · have : i = l.length := by simp at hi; omega
          subst this
          rw [List.getElem?_append_right (by rw [ih.len]; omega), ih.len]
          simp only [List.getElem_concat_length, Nat.sub_self, List.getElem?_cons_zero]
          rw [List.idxOf_append, if_neg hin]
          simp
end
/-- The numbers hang on which are the same alone. -/
theorem num_congr {K M : Type} [BEq K] [LawfulBEq K] [BEq M] [LawfulBEq M] {l : List K} {m : List M} (hl : l.length = m.length) (h : ∀ i j (h1 : i < l.length) (h2 : j < l.length), l[i] = l[j] ↔ m[i]'(by omega) = m[j]'(by omega)) :
    (numF1 l).2 = (numF1 m).2 ∧ (numF1 l).1.length = (numF1 m).1.length := by
  have key : ∀ n, n ≤ l.length → (numF1 (l.take n)).2 = (numF1 (m.take n)).2 ∧ (numF1 (l.take n)).1.length = (numF1 (m.take n)).1.length ∧
      ∀ i (h1 : i < n) (h2 : i < l.length), ((numF1 (l.take n)).1.idxOf l[i]) = ((numF1 (m.take n)).1.idxOf (m[i]'(by omega))) := by
    intro n
    induction n with
    | zero => intro _; simp [numF1]
    | succ n ih =>
      intro hn
      have hnl : n < l.length := by omega
      have hnm : n < m.length := by omega
      obtain ⟨i1, i2, i3⟩ := ih (by omega)
      have e1 : l.take (n + 1) = l.take n ++ [l[n]] := by rw [List.take_add_one, List.getElem?_eq_getElem hnl]; rfl
      have e2 : m.take (n + 1) = m.take n ++ [m[n]] := by rw [List.take_add_one, List.getElem?_eq_getElem hnm]; rfl
      have o1 := numF1_ok (l.take n)
      have o2 := numF1_ok (m.take n)
      have hmem : l[n] ∈ (numF1 (l.take n)).1 ↔ m[n] ∈ (numF1 (m.take n)).1 := by
        rw [o1.mem, o2.mem, List.mem_take_iff_getElem, List.mem_take_iff_getElem]
        constructor
        · rintro ⟨i, hi, e⟩
          exact ⟨i, by omega, (h i n (by omega) hnl).mp e⟩
        · rintro ⟨i, hi, e⟩
          exact ⟨i, by omega, (h i n (by omega) hnl).mpr e⟩
      rw [e1, e2, numF1_snoc, numF1_snoc]
      by_cases hin : l[n] ∈ (numF1 (l.take n)).1
      · have hin2 := hmem.mp hin
        obtain ⟨i, hi, ei⟩ : ∃ i, ∃ hi : i < n, l[i] = l[n] := by
          have := (o1.mem _).mp hin
          rw [List.mem_take_iff_getElem] at this
          obtain ⟨i, hi, e⟩ := this
          exact ⟨i, by omega, e⟩
        have em := (h i n (by omega) hnl).mp ei
        have hidx := i3 i hi (by omega)
        rw [ei, em] at hidx
        have c1 : (numF1 (l.take n)).1.contains l[n] = true := by simpa using hin
        have c2 : (numF1 (m.take n)).1.contains m[n] = true := by simpa using hin2
        simp only [numStep, c1, c2, if_true]
        refine ⟨by rw [i1, hidx], i2, fun j hj hjl => ?_⟩
        by_cases hjn : j < n
        · exact i3 j hjn hjl
        · have : j = n := by omega
          subst this; exact hidx
      · have hin2 := fun h2 => hin (hmem.mpr h2)
        have c1 : (numF1 (l.take n)).1.contains l[n] = false := by simpa using hin
        have c2 : (numF1 (m.take n)).1.contains m[n] = false := by simpa using hin2
        simp only [numStep, c1, c2, Bool.false_eq_true, if_false]
        refine ⟨by rw [i1, i2], by simp [i2], fun j hj hjl => ?_⟩
        by_cases hjn : j < n
        · have m1 : l[j] ∈ (numF1 (l.take n)).1 := (o1.mem _).mpr (List.mem_take_iff_getElem.mpr ⟨j, by omega, rfl⟩)
          have m2 : m[j]'(by omega) ∈ (numF1 (m.take n)).1 := (o2.mem _).mpr (List.mem_take_iff_getElem.mpr ⟨j, by omega, rfl⟩)
          rw [List.idxOf_append, if_pos m1, List.idxOf_append, if_pos m2]
          exact i3 j hjn hjl
        · have : j = n := by omega
          subst this
          rw [List.idxOf_append, if_neg hin, List.idxOf_append, if_neg hin2, i2]
          simp
  obtain ⟨a, b, _⟩ := key l.length (Nat.le_refl _)
  rw [List.take_length, hl, List.take_length] at *
  exact ⟨a, b⟩
end Go.Rf

