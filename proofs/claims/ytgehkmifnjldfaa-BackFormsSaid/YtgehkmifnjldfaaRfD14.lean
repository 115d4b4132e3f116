import Derived.Test.YtgehkmifnjldfaaRfC14
/- Own work: the contracts of layer 14 at its seat. -/
set_option linter.unusedVariables false
set_option linter.unusedSimpArgs false
namespace Go.Proofs.Ytgehkmifnjldfaa
open Go.ChangeShapes Go.WideShapes Go.ChangeAt Go.RowKit Go.Rf

structure Small (n : Net) : Prop where
  rows : ∀ l ∈ n.rows, l.length ≤ 1000
  by_ : n.by_.length ≤ 1000
  follow : n.follow.length ≤ 1000
theorem Small.ok {n : Net} (h : Small n) : NetOk n := by
  have h1 := h.by_
  have h2 := h.follow
  have h3 := fun l hl => h.rows l hl
  refine ⟨by unfold Len; omega, by unfold Len; omega, ?_, fun r hr => ?_, fun r hr => ?_⟩
  · have := h3 n.last (by simp [Net.rows]); unfold Len; omega
  · have := h3 r (by simp [Net.rows, hr]); unfold Len; omega
  · have := h3 r (by simp [Net.rows, hr]); unfold Len; omega
theorem sumL_mem {l : List (List Int)} {r : List Int} (h : r ∈ l) : r.length ≤ sumL l l.length := by
  obtain ⟨i, hi, rfl⟩ := List.getElem_of_mem h
  have h1 := sumL_succ hi
  have h2 := sumL_le l (i + 1)
  omega
theorem small_great {n : Net} (h : greatN n 400 = false) : Small n := by
  have h1 : ¬ (400 : Int) < totN n := by simpa [greatN] using h
  unfold totN at h1
  refine ⟨fun l hl => ?_, by omega, by omega⟩
  simp only [Net.rows, List.mem_cons, List.mem_append] at hl
  rcases hl with rfl | hl | hl
  · omega
  · have := sumL_mem hl; omega
  · have := sumL_mem hl; omega
theorem small_right {n : Net} (R : RightN n) : Small n := by
  have h1 := R.n2
  have h2 := R.len
  have h3 := R.s2
  refine ⟨fun l hl => ?_, by omega, by omega⟩
  simp only [Net.rows, List.mem_cons, List.mem_append] at hl
  rcases hl with rfl | hl | hl
  · have := pw_len R.last.1 R.last.2; omega
  · obtain ⟨i, hi, rfl⟩ := List.getElem_of_mem hl
    have := pw_len (R.by_ i hi).1 (R.by_ i hi).2; omega
  · obtain ⟨i, hi, rfl⟩ := List.getElem_of_mem hl
    have := follow_len R hi; omega
theorem small_turn (n : Net) : Small (turnD n) := by
  cases h : rightN n with
  | true =>
    have hD : turnD n = turnN n := by simp [turnD, h]
    rw [hD]; exact small_right (turn_right ((rightN_iff n).mp h))
  | false =>
    have hD : turnD n = ⟨0, [], [], []⟩ := by simp [turnD, h]
    rw [hD]; exact ⟨by simp [Net.rows], by simp, by simp⟩
theorem len_small {l : List Int} {k : Nat} (h : l.length ≤ k) (hk : k ≤ 140737488351232) : Len l := by unfold Len; omega
theorem cIndex (l : List Int) (x : Int) (hl : Len l) : PureC Try.prog 51 [encIs l, Rf.encI x] (Rf.encI (idxF (fun y => x == y) l)) := is51.pure hmix rfl (slices_Index_body l x hl)
theorem cContains (l : List Int) (x : Int) (hl : Len l) : PureC Try.prog 41 [encIs l, Rf.encI x] (encB (l.contains x)) := is41.pure hmix rfl (slices_Contains_body l x (cIndex l x hl))
theorem cHas13 (l : List Int) (x : Int) (hl : Len l) : PureC Try.prog 39 [encIs l, Rf.encI x] (encB (l.contains x)) := is39.pure hmix rfl (has13_body l x hl)
theorem cHas14 (l : List Int) (x : Int) (hl : Len l) : PureC Try.prog 26 [encIs l, Rf.encI x] (encB (l.contains x)) := is26.pure hmix rfl (has13_body l x hl)
theorem cEqual (a b : List Int) (ha : Len a) (hb : Len b) : PureC Try.prog 49 [encIs a, encIs b] (encB (a == b)) := is49.pure hmix rfl (slices_Equal_body a b ha hb)
theorem cInts (a b : List Int) (ha : Len a) (hb : Len b) : PureC Try.prog 14 [encIs a, encIs b] (encB (a == b)) := is14.pure hmix rfl (caesuraref01_Ints_body _ a b ha hb)
theorem cSort0 : PureC Try.prog 54 [.sl true []] (.tup []) := .runX hmix tabOk 500 sort0
theorem cComp0 : PureC Try.prog 55 [.sl true []] (.sl true []) := .runX hmix tabOk 500 comp0
theorem cRev0 : PureC Try.prog 45 [.sl true []] (.tup []) := .runX hmix tabOk 500 rev0
theorem hSet : HSet Try.prog 44 54 55 := ⟨byClone, hSort, hComp, cSort0, cComp0⟩
theorem cSet (l : List Int) (hl : l.length ≤ 1000000) : PureC Try.prog 50 [encIs l] (encIs (setF l)) := is50.pure hmix rfl (net_set_body hSet l hl)
theorem cLies (l : List Int) (a b : Int) (hl : l.length ≤ 1000000) : PureC Try.prog 37 [encIs l, Rf.encI a, Rf.encI b] (encB (risesB l a b)) := is37.pure hmix rfl (net_lies_body l a b hl (cSet l hl) cEqual)
theorem cRising (l : List Int) (a b : Int) (hl : Len l) : PureC Try.prog 33 [encIs l, Rf.encI a, Rf.encI b] (encB (risesB l a b)) := is33.pure hmix rfl (rising13_body l a b hl)
theorem cNetRight (n : Net) (h : Small n) : PureC Try.prog 25 [encNet n] (encB (rightN n)) := is25.pure hmix rfl (net_Right_body n h.ok (fun l hl a b => cLies l a b (by have := h.rows l hl; omega)))
theorem cRight (n : Net) (h : Small n) : PureC Try.prog 19 [encNet n] (encB (rightN n)) := is19.pure hmix rfl (Right13_body n h.ok (fun l hl a b => cRising l a b (len_small (h.rows l hl) (by omega))))
theorem cPut (l : List Int) (x : Int) (hl : l.length ≤ 100000) : PureC Try.prog 36 [encIs l, Rf.encI x] (encIs (putF l x)) := is36.pure hmix rfl (caesuraref01_put_body l x hl)
theorem cStep53 (n : Net) (R : RightN n) (a : List Int) (s : Int) (ha : a.length ≤ 3000) : PureC Try.prog 53 [encNet n, encIs a, Rf.encI s] (encIs (stepN n a s)) :=
  is53.pure hmix rfl (net_step_body R (fun l hl x => cContains l x (len_small ((small_right R).rows l (by simp [Net.rows, hl])) (by omega))) cSet a ha s)
theorem cNetStep (n : Net) (h : Small n) (a : List Int) (s : Int) (ha : a.length ≤ 3000) : PureC Try.prog 43 [encNet n, encIs a, Rf.encI s] (encIs (if rightN n = true then stepN n a s else [])) :=
  is43.pure hmix rfl (net_Step_body n a s (cNetRight n h) (fun R => cStep53 n R a s ha))
theorem cStep13 (n : Net) (h : Small n) (a : List Int) (s : Int) (ha : a.length ≤ 301) : PureC Try.prog 38 [encNet n, encIs a, Rf.encI s] (encIs (stpN n a s)) :=
  is38.pure hmix rfl (Step13_body n h.ok (cRight n h) (fun l hl x => cHas13 l x (len_small (h.rows l (by simp [Net.rows, hl])) (by omega))) cPut a (len_small ha (by omega)) s)
theorem cAcc27 (n : Net) (h : Small n) (l : List Int) (hl : Len l) : PureC Try.prog 27 [encNet n, encIs l] (encB (accN n l)) :=
  is27.pure hmix rfl (Accepts13_body n l hl (cRight n h) (cStep13 n h) (fun x => cHas13 n.last x h.ok.last))
theorem cAcc21 (n : Net) (h : Small n) (l : List Int) (hl : Len l) : PureC Try.prog 21 [encNet n, encIs l] (encB (accN n l)) := is21.pure hmix rfl (accepts14_body n l _ (cAcc27 n h l hl))
theorem cTurn9 (n : Net) (h : Small n) : PureC Try.prog 9 [encNet n] (.tup [encNet (turnD n), Rf.encI (turnE n)]) := isc9.pure hmix rfl (back_Turn_body n (rightN_iff n).mp (cNetRight n h))
theorem cTurn10 (n : Net) (h : Small n) : PureC Try.prog 10 [encNet n] (.tup [encNet (turnD n), Rf.encI (turnE n)]) :=
  isc10.pure hmix rfl (Turn14_body n (rightN_iff n).mp (cRight n h) (fun _ l hl x => cHas14 l x (len_small (h.rows l hl) (by omega))))
theorem cHeads11 (n : Net) (h : Small n) (l : List Int) (hl : l.length ≤ 1000) : PureC Try.prog 11 [encNet n, encIs l] (encIs (filtL (hdP n l) (l.length + 1))) :=
  is11.pure hmix rfl (Heads14_body n l (by omega) (fun m hm => cAcc27 n h m (len_small hm (by omega))))
theorem cTails12 (n : Net) (h : Small n) (l : List Int) (hl : l.length ≤ 1000) : PureC Try.prog 12 [encNet n, encIs l] (encIs (filtL (tlP n l) (l.length + 1))) :=
  is12.pure hmix rfl (Tails14_body n l (by omega) (fun m hm => cAcc27 n h m (len_small hm (by omega))))
theorem cLists (a b : List (List Int)) (ha : a.length ≤ 1000) (hb : b.length ≤ 1000) (h1 : ∀ x ∈ a, Len x) (h2 : ∀ x ∈ b, Len x) : PureC Try.prog 28 [encIss a, encIss b] (encB (a == b)) :=
  is28.pure hmix rfl (Lists13_body a b (by unfold Len; omega) (by unfold Len; omega) (fun x hx y hy => cInts x y (h1 x hx) (h2 y hy)))
theorem cSame (a : Net) (h : Small a) : PureC Try.prog 13 [encNet a, encNet a] (encB true) := by
  have h2 := is13.pure hmix rfl (Same13_body (fq := 28) (fe := 14) a a (fun x y hxy => ?_) (cInts a.last a.last h.ok.last h.ok.last))
  · rw [decide_eq_true rfl] at h2; exact h2
  · rcases hxy with ⟨rfl, rfl⟩ | ⟨rfl, rfl⟩
    · exact cLists _ _ h.by_ h.by_ h.ok.byr h.ok.byr
    · exact cLists _ _ h.follow h.follow h.ok.followr h.ok.followr
theorem cOne (n : Net) (h : Small n) (s : Int) : PureC Try.prog 40 [Rf.encI s, .eptr (encNet n) 0] (encB (n.last.contains s)) := is40.pure hmix rfl (net_Accepts_1_body n s (cContains n.last s h.ok.last))
theorem closed_one (n : Net) : ∀ y ∈ [AV.eptr (encNet n) 0], Closed y := cl_cons (.eptr _ _ (closed_Net n)) cl_nil
theorem cIdxF (n : Net) (h : Small n) (a : List Int) (ha : Len a) : PureC Try.prog 52 [encIs a, .clo 40 [] [.eptr (encNet n) 0]] (Rf.encI (idxF (fun s => n.last.contains s) a)) :=
  is52.pure hmix rfl (slices_IndexFunc_body (enc := Rf.encI) ha (fun _ => rfl) Z2r (closed_one n) (fun x _ => cOne n h x))
theorem cAny (n : Net) (h : Small n) (a : List Int) (ha : Len a) : PureC Try.prog 42 [encIs a, .clo 40 [] [.eptr (encNet n) 0]] (encB (a.any fun s => n.last.contains s)) :=
  is42.pure hmix rfl (slices_ContainsFunc_body (enc := Rf.encI) Z2r (closed_one n) (cIdxF n h a ha))
theorem hHd (n : Net) (h : Small n) : HHd Try.prog n 25 40 42 43 := ⟨cNetRight n h, cAny n h, fun R a s ha => by
  have := cNetStep n h a s ha
  rw [if_pos ((rightN_iff n).mpr R)] at this; exact this⟩
theorem cHeads15 (n : Net) (h : Small n) (l : List Int) (hl : l.length ≤ 1000) : PureC Try.prog 15 [encNet n, encIs l] (encIs (headsN n l)) := is15.pure hmix rfl (back_Heads_body hmix is29 (hHd n h) (HTold_of hmix is30) (by omega))
theorem cHead17 (n : Net) (h : Small n) (l : List Int) (hl : l.length ≤ 1000) : PureC Try.prog 17 [encNet n, encIs l] (encB (decide (headsN n l ≠ []))) := is17.pure hmix rfl (back_Head_body hmix is29 (hHd n h) (HTold2_of hmix is32) (by omega))
theorem cTurned (n : Net) (h : Small n) (l : List Int) (hl : l.length ≤ 1000) : PureC Try.prog 31 [encNet n, encIs l] (.tup [encNet (turnD n), encIs l.reverse]) :=
  isc31.pure hmix rfl (back_turned_body n (turnD n) (turnE n) l (by omega) (cTurn9 n h) byClone (HRev_of hmix is45) cRev0)
theorem cTails16 (n : Net) (h : Small n) (l : List Int) (hl : l.length ≤ 1000) : PureC Try.prog 16 [encNet n, encIs l] (encIs (headsN (turnD n) l.reverse)) :=
  is16.pure hmix rfl (back_Tails_body n (turnD n) l _ (cTurned n h l hl) (cHeads15 _ (small_turn n) _ (by simpa using hl)))
theorem cTail18 (n : Net) (h : Small n) (l : List Int) (hl : l.length ≤ 1000) : PureC Try.prog 18 [encNet n, encIs l] (encB (decide (headsN (turnD n) l.reverse ≠ []))) :=
  is18.pure hmix rfl (back_Tail_body n (turnD n) l _ (cTurned n h l hl) (cHead17 _ (small_turn n) _ (by simpa using hl)))
theorem cBack (l : List Int) (hl : l.length ≤ 1000000) : PureC Try.prog 20 [encIs l] (encIs l.reverse) := is20.pure hmix rfl (Back11_body l hl)
theorem cGreat (n : Net) (ok : NetOk n) (m : Int) (hm : m ≤ 3000) : PureC Try.prog 8 [encNet n, Rf.encI m] (encB (greatN n m)) := is8.pure hmix rfl (Great13_body n ok m hm)
end Go.Proofs.Ytgehkmifnjldfaa

