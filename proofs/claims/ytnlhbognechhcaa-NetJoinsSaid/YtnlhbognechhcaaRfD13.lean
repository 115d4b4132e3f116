import Derived.Test.YtnlhbognechhcaaRfC13
/- Own work: the contracts of layer 13 at its seat. -/
set_option linter.unusedVariables false
set_option linter.unusedSimpArgs false
namespace Go.Proofs.Ytnlhbognechhcaa
open Go.ChangeShapes Go.WideShapes Go.ChangeAt Go.RowKit Go.Rf

def In64 (n : Int) : Prop := IntKind.i64.min ≤ n ∧ n ≤ IntKind.i64.max
def lenOk {X : Type} (l : List X) : Prop := l.length ≤ 140737488351232
def goodIs (l : List Int) : Prop := lenOk l ∧ ∀ x ∈ l, In64 x
def goodIss (l : List (List Int)) : Prop := lenOk l ∧ ∀ x ∈ l, goodIs x
def goodNet (n : Net) : Prop := In64 n.signs ∧ goodIss n.by_ ∧ goodIss n.follow ∧ goodIs n.last
theorem goodNet.ok {n : Net} (h : goodNet n) : NetOk n :=
  ⟨h.2.1.1, h.2.2.1.1, h.2.2.2.1, fun r hr => (h.2.1.2 r hr).1, fun r hr => (h.2.2.1.2 r hr).1⟩
theorem dec3 (n : Nat) : DecF Try.prog n 3 Rf.encI In64 := DecF.int (by kernel_rfl) (by kernel_rfl) n
theorem dec23 : ∀ n, DecF Try.prog n 23 encIs goodIs
  | 0 => .zero (fun _ _ => by simp [encIs, AV.cells]; kernel_rfl) (fun _ _ => by simp [encIs, AV.cells, AV.atom])
  | n + 1 => DecF.slice (e := 3) (by kernel_rfl) (by kernel_rfl) (of_decide_eq_true (by kernel_rfl)) (of_decide_eq_true (by kernel_rfl)) (dec3 n)
theorem dec22 : ∀ n, DecF Try.prog n 22 encIss goodIss
  | 0 => .zero (fun _ _ => by simp [encIss, AV.cells]; kernel_rfl) (fun _ _ => by simp [encIss, AV.cells, AV.atom])
  | n + 1 => DecF.slice (e := 23) (by kernel_rfl) (by kernel_rfl) (of_decide_eq_true (by kernel_rfl)) (of_decide_eq_true (by kernel_rfl)) (dec23 n)
noncomputable def fs25 : Array Field := (match Try.prog.underlying 25 with | some (.struct fs) => fs | _ => #[])
theorem under25 : Try.prog.underlying 25 = some (.struct fs25) := by kernel_rfl
theorem fs25_eq : fs25.toList = [fs25[0]!, fs25[1]!, fs25[2]!, fs25[3]!] := by kernel_rfl
theorem ty0 : (fs25[0]!).type = 3 := by kernel_rfl
theorem ty1 : (fs25[1]!).type = 22 := by kernel_rfl
theorem ty2 : (fs25[2]!).type = 22 := by kernel_rfl
theorem ty3 : (fs25[3]!).type = 23 := by kernel_rfl
theorem dec25 : ∀ n, DecF Try.prog n 25 encNet goodNet
  | 0 => .zero (fun _ _ => by simp [encNet, AV.cells]; kernel_rfl) (fun _ _ => by simp [encNet, AV.cells, AV.atom, Rf.encI, encIss, encIs])
  | n + 1 => by
    have hR : DecR Try.prog n 0 fs25.toList (fun p : Int × List (List Int) × List (List Int) × List Int × Unit => (Rf.encI p.1).cells ++ ((encIss p.2.1).cells ++ ((encIss p.2.2.1).cells ++ ((encIs p.2.2.2.1).cells ++ [])))) (fun p => In64 p.1 ∧ goodIss p.2.1 ∧ goodIss p.2.2.1 ∧ goodIs p.2.2.2.1 ∧ True) := by
      rw [fs25_eq]
      refine DecR.cons (by kernel_rfl) (by rw [ty0]; exact dec3 n) (DecR.cons (by kernel_rfl) (by rw [ty1]; exact dec22 n) (DecR.cons (by kernel_rfl) (by rw [ty2]; exact dec22 n) (DecR.cons (by kernel_rfl) (by rw [ty3]; exact dec23 n) DecR.nil)))
    have h := DecF.struct (fuel := n) under25 (by kernel_rfl) hR
    exact h.map encNet goodNet (fun p => ⟨p.1, p.2.1, p.2.2.1, p.2.2.2.1⟩) (fun d => (d.signs, d.by_, d.follow, d.last, ())) (fun x => by simp [encNet, Rf.encI, encIss, encIs, AV.cells]) (fun x hx => ⟨hx.1, hx.2.1, hx.2.2.1, hx.2.2.2.1⟩)
      (fun y hy => ⟨⟨hy.1, hy.2.1, hy.2.2.1, hy.2.2.2, trivial⟩, by simp [encNet, Rf.encI, encIss, encIs, AV.cells]⟩)
structure Small (n : Net) : Prop where
  rows : ∀ l ∈ n.rows, l.length ≤ 1000
  by_ : n.by_.length ≤ 1000
  follow : n.follow.length ≤ 1000
theorem Small.ok {n : Net} (h : Small n) : NetOk n := by
  have h1 := h.by_
  have h2 := h.follow
  have h3 := fun l hl => h.rows l hl
  refine ⟨by unfold Len; omega, by unfold Len; omega, ?_, fun r hr => ?_, fun r hr => ?_⟩
  · have := h3 n.last (by simp [Net.rows]); unfold Len; omega
  · have := h3 r (by simp [Net.rows, hr]); unfold Len; omega
  · have := h3 r (by simp [Net.rows, hr]); unfold Len; omega
theorem sumL_mem {l : List (List Int)} {r : List Int} (h : r ∈ l) : r.length ≤ sumL l l.length := by
  obtain ⟨i, hi, rfl⟩ := List.getElem_of_mem h
  have h1 := sumL_succ hi
  have h2 := sumL_le l (i + 1)
  omega
theorem small_great {n : Net} (h : greatN n 500 = false) : Small n := by
  have h1 : ¬ (500 : Int) < totN n := by simpa [greatN] using h
  unfold totN at h1
  refine ⟨fun l hl => ?_, by omega, by omega⟩
  simp only [Net.rows, List.mem_cons, List.mem_append] at hl
  rcases hl with rfl | hl | hl
  · omega
  · have := sumL_mem hl; omega
  · have := sumL_mem hl; omega
theorem small_right {n : Net} (R : RightN n) : Small n := by
  have h1 := R.n2
  have h2 := R.len
  have h3 := R.s2
  refine ⟨fun l hl => ?_, by omega, by omega⟩
  simp only [Net.rows, List.mem_cons, List.mem_append] at hl
  rcases hl with rfl | hl | hl
  · have := pw_len R.last.1 R.last.2; omega
  · obtain ⟨i, hi, rfl⟩ := List.getElem_of_mem hl
    have := pw_len (R.by_ i hi).1 (R.by_ i hi).2; omega
  · obtain ⟨i, hi, rfl⟩ := List.getElem_of_mem hl
    have := follow_len R hi; omega
theorem len_small {X : Type} {l : List X} {k : Nat} (h : l.length ≤ k) (hk : k ≤ 140737488351232) : Len l := by unfold Len; omega
theorem cIndex (l : List Int) (x : Int) (hl : Len l) : PureC Try.prog 36 [encIs l, Rf.encI x] (Rf.encI (idxF (fun y => x == y) l)) := is36.pure hmix rfl (slices_Index_body l x hl)
theorem cContains (l : List Int) (x : Int) (hl : Len l) : PureC Try.prog 26 [encIs l, Rf.encI x] (encB (l.contains x)) := is26.pure hmix rfl (slices_Contains_body l x (cIndex l x hl))
theorem cHas13 (l : List Int) (x : Int) (hl : Len l) : PureC Try.prog 20 [encIs l, Rf.encI x] (encB (l.contains x)) := is20.pure hmix rfl (has13_body l x hl)
theorem cEqual (a b : List Int) (ha : Len a) (hb : Len b) : PureC Try.prog 28 [encIs a, encIs b] (encB (a == b)) := is28.pure hmix rfl (slices_Equal_body a b ha hb)
theorem cInts (a b : List Int) (ha : Len a) (hb : Len b) : PureC Try.prog 7 [encIs a, encIs b] (encB (a == b)) := is7.pure hmix rfl (caesuraref01_Ints_body _ a b ha hb)
theorem cSort0 : PureC Try.prog 43 [.sl true []] (.tup []) := .runX hmix tabOk 500 sort0
theorem cComp0 : PureC Try.prog 44 [.sl true []] (.sl true []) := .runX hmix tabOk 500 comp0
theorem hSet : HSet Try.prog 34 43 44 := ⟨byClone, hSort, hComp, cSort0, cComp0⟩
theorem cSet (l : List Int) (hl : l.length ≤ 1000000) : PureC Try.prog 33 [encIs l] (encIs (setF l)) := is33.pure hmix rfl (net_set_body hSet l hl)
theorem cLies (l : List Int) (a b : Int) (hl : l.length ≤ 1000000) : PureC Try.prog 22 [encIs l, Rf.encI a, Rf.encI b] (encB (risesB l a b)) := is22.pure hmix rfl (net_lies_body l a b hl (cSet l hl) cEqual)
theorem cRising (l : List Int) (a b : Int) (hl : Len l) : PureC Try.prog 23 [encIs l, Rf.encI a, Rf.encI b] (encB (risesB l a b)) := is23.pure hmix rfl (rising13_body l a b hl)
theorem cNetRight (n : Net) (h : Small n) : PureC Try.prog 10 [encNet n] (encB (rightN n)) := is10.pure hmix rfl (net_Right_body n h.ok (fun l hl a b => cLies l a b (by have := h.rows l hl; omega)))
theorem cRight (n : Net) (h : Small n) : PureC Try.prog 11 [encNet n] (encB (rightN n)) := is11.pure hmix rfl (Right13_body n h.ok (fun l hl a b => cRising l a b (len_small (h.rows l hl) (by omega))))
theorem cPut (l : List Int) (x : Int) (hl : l.length ≤ 100000) : PureC Try.prog 21 [encIs l, Rf.encI x] (encIs (putF l x)) := is21.pure hmix rfl (caesuraref01_put_body l x hl)
theorem cStep19 (n : Net) (R : RightN n) (a : List Int) (s : Int) (ha : a.length ≤ 3000) : PureC Try.prog 19 [encNet n, encIs a, Rf.encI s] (encIs (stepN n a s)) :=
  is19.pure hmix rfl (net_step_body R (fun l hl x => cContains l x (len_small ((small_right R).rows l (by simp [Net.rows, hl])) (by omega))) cSet a ha s)
theorem cNetStep (n : Net) (h : Small n) (a : List Int) (s : Int) (ha : a.length ≤ 3000) : PureC Try.prog 8 [encNet n, encIs a, Rf.encI s] (encIs (if rightN n = true then stepN n a s else [])) :=
  is8.pure hmix rfl (net_Step_body n a s (cNetRight n h) (fun R => cStep19 n R a s ha))
theorem cStep13 (n : Net) (h : Small n) (a : List Int) (s : Int) (ha : a.length ≤ 301) : PureC Try.prog 9 [encNet n, encIs a, Rf.encI s] (encIs (stpN n a s)) :=
  is9.pure hmix rfl (Step13_body n h.ok (cRight n h) (fun l hl x => cHas13 l x (len_small (h.rows l (by simp [Net.rows, hl])) (by omega))) cPut a (len_small ha (by omega)) s)
theorem cAcc13 (n : Net) (h : Small n) (l : List Int) (hl : Len l) : PureC Try.prog 13 [encNet n, encIs l] (encB (accN n l)) :=
  is13.pure hmix rfl (Accepts13_body n l hl (cRight n h) (cStep13 n h) (fun x => cHas13 n.last x h.ok.last))
theorem cOne (n : Net) (h : Small n) (s : Int) : PureC Try.prog 25 [Rf.encI s, .eptr (encNet n) 0] (encB (n.last.contains s)) := is25.pure hmix rfl (net_Accepts_1_body n s (cContains n.last s h.ok.last))
theorem closed_one (n : Net) : ∀ y ∈ [AV.eptr (encNet n) 0], Closed y := cl_cons (.eptr _ _ (closed_Net n)) cl_nil
theorem cIdxF (n : Net) (h : Small n) (a : List Int) (ha : Len a) : PureC Try.prog 35 [encIs a, .clo 25 [] [.eptr (encNet n) 0]] (Rf.encI (idxF (fun s => n.last.contains s) a)) :=
  is35.pure hmix rfl (slices_IndexFunc_body (enc := Rf.encI) ha (fun _ => rfl) Z2r (closed_one n) (fun x _ => cOne n h x))
theorem cAny (n : Net) (h : Small n) (a : List Int) (ha : Len a) : PureC Try.prog 24 [encIs a, .clo 25 [] [.eptr (encNet n) 0]] (encB (a.any fun s => n.last.contains s)) :=
  is24.pure hmix rfl (slices_ContainsFunc_body (enc := Rf.encI) Z2r (closed_one n) (cIdxF n h a ha))
theorem cAcc12 (n : Net) (h : Small n) (l : List Int) (hl : Len l) : PureC Try.prog 12 [encNet n, encIs l] (encB (accN n l)) :=
  is12.pure hmix rfl (net_Accepts_body n l hl (cNetRight n h) (fun R a s ha => cStep19 n R a s ha) (cAny n h))
theorem cLists (a b : List (List Int)) (ha : Len a) (hb : Len b) (h1 : ∀ x ∈ a, Len x) (h2 : ∀ x ∈ b, Len x) : PureC Try.prog 29 [encIss a, encIss b] (encB (a == b)) :=
  is29.pure hmix rfl (Lists13_body a b ha hb (fun x hx y hy => cInts x y (h1 x hx) (h2 y hy)))
theorem cEqualF (a b : List (List Int)) (ha : Len a) (hb : Len b) (h1 : ∀ x ∈ a, Len x) (h2 : ∀ x ∈ b, Len x) : PureC Try.prog 27 [encIss a, encIss b, .clo 28 [] []] (encB (a == b)) :=
  is27.pure hmix rfl (slices_EqualFunc_body a b ha hb (fun x hx y hy => cEqual x y (h1 x hx) (h2 y hy)))
theorem cSame14 (a b : Net) (h : NetOk a) (k : NetOk b) : PureC Try.prog 14 [encNet a, encNet b] (encB (decide (a = b))) := by
  refine is14.pure hmix rfl (net_Same_body (fq := 27) (fe := 28) a b (fun x y hxy => ?_) (cEqual a.last b.last h.last k.last))
  rcases hxy with ⟨rfl, rfl⟩ | ⟨rfl, rfl⟩
  · exact cEqualF _ _ h.by_ k.by_ h.byr k.byr
  · exact cEqualF _ _ h.follow k.follow h.followr k.followr
theorem cSame15 (a b : Net) (h : NetOk a) (k : NetOk b) : PureC Try.prog 15 [encNet a, encNet b] (encB (decide (a = b))) := by
  refine is15.pure hmix rfl (Same13_body (fq := 29) (fe := 7) a b (fun x y hxy => ?_) (cInts a.last b.last h.last k.last))
  rcases hxy with ⟨rfl, rfl⟩ | ⟨rfl, rfl⟩
  · exact cLists _ _ h.by_ k.by_ h.byr k.byr
  · exact cLists _ _ h.follow k.follow h.followr k.followr
theorem cGreat (n : Net) (ok : NetOk n) (m : Int) (hm : m ≤ 3000) : PureC Try.prog 6 [encNet n, Rf.encI m] (encB (greatN n m)) := is6.pure hmix rfl (Great13_body n ok m hm)
end Go.Proofs.Ytnlhbognechhcaa

