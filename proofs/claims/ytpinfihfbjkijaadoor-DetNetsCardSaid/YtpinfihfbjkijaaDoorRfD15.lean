import Derived.Test.YtpinfihfbjkijaaDoorRfC15
import Derived.Test.YtpinfihfbjkijaaDoorRfN2
import Derived.Test.YtpinfihfbjkijaaDoorRfCatP
/- Own work: the contracts of layer 15 at its seat. -/
set_option linter.unusedVariables false
set_option linter.unusedSimpArgs false
namespace Go.Proofs.YtpinfihfbjkijaaDoor
open Go.ChangeShapes Go.WideShapes Go.ChangeAt Go.RowKit Go.Rf

/-- What the runner knows before any set is made. -/
noncomputable def tab0 : Tab := tabS Tryd.prog (fun f => bif Nat.beq f 82 then some (c_cloneOv 1 8 (.v (.int .i64 0)), [.t 2], 1) else none) (fun _ => none)
theorem tab0Ok : TabOk Tryd.prog tab0 := by
  refine tabS_ok hmix (fun f p h => ?_) (fun f g args v h => by cases h)
  cases hb : Nat.beq f 82 with
  | true =>
    rw [hb] at h
    have : f = 82 := Nat.eq_of_beq_eq_true hb
    subst this
    cases h; exact @byClone
  | false => rw [hb] at h; cases h
theorem sort0 : fnK tab0 (runF tab0 500) 52 [.sl true []] = some (.tup [], true) := by kernel_rfl
theorem comp0 : fnK tab0 (runF tab0 500) 53 [.sl true []] = some (.sl true [], true) := by kernel_rfl
theorem cSort0 : PureC Tryd.prog 52 [.sl true []] (.tup []) := .runX hmix tab0Ok 500 sort0
theorem cComp0 : PureC Tryd.prog 53 [.sl true []] (.sl true []) := .runX hmix tab0Ok 500 comp0
structure Small (n : Net) : Prop where
  rows : ∀ l ∈ n.rows, l.length ≤ 1000
  by_ : n.by_.length ≤ 1000
  follow : n.follow.length ≤ 1000
theorem Small.ok {n : Net} (h : Small n) : NetOk n := by
  have h1 := h.by_
  have h2 := h.follow
  have h3 := fun l hl => h.rows l hl
  refine ⟨by unfold Len; omega, by unfold Len; omega, ?_, fun r hr => ?_, fun r hr => ?_⟩
  · have := h3 n.last (by simp [Net.rows]); unfold Len; omega
  · have := h3 r (by simp [Net.rows, hr]); unfold Len; omega
  · have := h3 r (by simp [Net.rows, hr]); unfold Len; omega
theorem len_small {l : List Int} {k : Nat} (h : l.length ≤ k) (hk : k ≤ 140737488351232) : Len l := by unfold Len; omega
theorem cIndex (l : List Int) (x : Int) (hl : Len l) : PureC Tryd.prog 64 [encIs l, Rf.encI x] (Rf.encI (idxF (fun y => x == y) l)) := is64.pure hmix rfl (slices_Index_body l x hl)
theorem cContains (l : List Int) (x : Int) (hl : Len l) : PureC Tryd.prog 51 [encIs l, Rf.encI x] (encB (l.contains x)) := is51.pure hmix rfl (slices_Contains_body l x (cIndex l x hl))
theorem cEqual (a b : List Int) (ha : Len a) (hb : Len b) : PureC Tryd.prog 42 [encIs a, encIs b] (encB (a == b)) := is42.pure hmix rfl (slices_Equal_body a b ha hb)
theorem cInts (a b : List Int) (ha : Len a) (hb : Len b) : PureC Tryd.prog 55 [encIs a, encIs b] (encB (a == b)) := is55.pure hmix rfl (caesuraref01_Ints_body _ a b ha hb)
theorem hSet : HSet Tryd.prog 82 52 53 := ⟨byClone, hSort, hComp, cSort0, cComp0⟩
theorem cSet (l : List Int) (hl : l.length ≤ 1000000) : PureC Tryd.prog 69 [encIs l] (encIs (setF l)) := is69.pure hmix rfl (net_set_body hSet l hl)
theorem cLies (l : List Int) (a b : Int) (hl : l.length ≤ 1000000) : PureC Tryd.prog 62 [encIs l, Rf.encI a, Rf.encI b] (encB (risesB l a b)) := is62.pure hmix rfl (net_lies_body l a b hl (cSet l hl) cEqual)
theorem cNetRight (n : Net) (h : Small n) : PureC Tryd.prog 47 [encNet n] (encB (rightN n)) := is47.pure hmix rfl (net_Right_body n h.ok (fun l hl a b => cLies l a b (by have := h.rows l hl; omega)))
/-! ### the making of sets -/
theorem dig2 : ∀ k < 100, (Lib.decDigits k).length ≤ 2 := by
  intro k hk
  rw [Lib.decDigits]
  split
  · simp
  · rw [Lib.decDigits, dif_pos (by omega)]; simp
theorem textL_len : ∀ {l : List Int}, (∀ x ∈ l, 0 ≤ x ∧ x < 100) → (textL l).length ≤ 3 * l.length
  | [], _ => by simp [textL]
  | n :: l, h => by
    have h1 := h n (by simp)
    have h2 := dig2 n.toNat (by omega)
    have h3 := textL_len (l := l) (fun x hx => h x (by simp [hx]))
    rw [textL_cons, itoa_of h1.1]
    simp only [List.length_append, List.length_cons]
    omega
theorem cText (l : List Int) (hx : ∀ x ∈ l, 0 ≤ x ∧ x < 100) (hl : l.length ≤ 1000000) : PureC Tryd.prog 70 [encIs l] (strAV (textL l)) := by
  have h1 := textL_len hx
  exact det_text_body hmix is70 al70 hBld hItoa hx (by omega) (by omega)
theorem hNum (n : Net) (h : n.follow.length ≤ 100) : HNum Tryd.prog 63 62 n := by
  intro id km most ss v set S K X M hv hs hm h1 h2 h3
  refine isx63.callX hmix rfl ?_
  exact number_body M (cText set (fun x hx => ⟨(hv.1 x hx).1, by have := (hv.1 x hx).2; omega⟩) (by have := hv.2; omega)) hv.nn (fun s h => (hs.v s h).nn) hs.l hm h1 h2 h3
theorem hStep : HStep Tryd.prog 51 52 53 := ⟨cContains, hSort, hComp, cSort0, cComp0⟩
theorem hStp (n : Net) (R : RightN n) : HStp Tryd.prog 29 n := fun set s hv => is29.pureN hmix rfl (det_step_body R hStep set (by have := hv.2; omega) hv.1 s)
theorem cOne (n : Net) (h : Small n) (s : Int) : PureC Tryd.prog 58 [Rf.encI s, .eptr (pNet n) 0] (encB (n.last.contains s)) := is58.pure hmix rfl (det_ends_1_body n s (cContains n.last s h.ok.last))
theorem closed_pNet (n : Net) : Closed (pNet n) := .eptr _ _ (closed_Net n)
theorem closed_one (n : Net) : ∀ y ∈ [AV.eptr (pNet n) 0], Closed y := cl_cons (.eptr _ _ (closed_pNet n)) cl_nil
theorem cAny (n : Net) (h : Small n) (a : List Int) (ha : Len a) : PureC Tryd.prog 40 [encIs a, .clo 58 [] [.eptr (pNet n) 0]] (encB (a.any fun s => n.last.contains s)) :=
  is40.pure hmix rfl (slices_ContainsFunc_body (enc := Rf.encI) Z32 (closed_one n) (is60.pure hmix rfl (slices_IndexFunc_body (enc := Rf.encI) ha (fun _ => rfl) Z32 (closed_one n) (fun x _ => cOne n h x))))
theorem hEnds (n : Net) (h : Small n) : HEnds Tryd.prog 34 n := fun set hv => is34.pure hmix rfl (det_ends_body n set (cAny n h set (len_small hv.2 (by omega))))
theorem hGrow : HGrow Tryd.prog 57 1 (.v (.int .i64 0)) := HGrow_of hmix (by omega) rfl (by omega) is57
theorem cConcat (l : List Int) (hl : l.length ≤ 1000) : PureC Tryd.prog 32 [.sl true [.sl true [Rf.encI 0], encIs l]] (encIs (0 :: l)) := by
  have := Concat_pure hmix hGrow (by omega) is32 (enc := Rf.encI) Z32 (fun _ => rfl) [(true, [0]), (false, l)] (by simp) (by simp; omega)
  simpa [encIs] using this
theorem c28 (n : Net) (h : Small n) (h100 : RightN n → n.follow.length ≤ 100) (most : Int) (kd : Kd) (fb : FuncId) (hb : RightN n → HB Tryd.prog fb n kd) : PureC Tryd.prog 28 [encNet n, Rf.encI most, .clo fb [] []] (encDE (resD kd n most)) := by
  have := make1_ok hmix m1_28 rec48 isx49 is50 (most := most) (cNetRight n h) (fun R => hNum n (h100 ((rightN_iff n).mp R))) (fun R => hb ((rightN_iff n).mp R)) (fun _ => hEnds n h)
  rw [encRes_eq] at this
  exact this.pure (cl_cons (closed_Net n) (cl_cons (Z32 _) (cl_cons (.clo _ _ _ cl_nil cl_nil) cl_nil))) (closed_DE _)
theorem cWhole (n : Net) (h : Small n) (h100 : RightN n → n.follow.length ≤ 100) (most : Int) : PureC Tryd.prog 9 [encNet n, Rf.encI most] (encDE (resD .whole n most)) :=
  isc9.pure hmix rfl (det_Whole_body (c28 n h h100 most .whole 29 (fun R => .whole (hStp n R))))
theorem cTails (n : Net) (h : Small n) (h100 : RightN n → n.follow.length ≤ 100) (most : Int) : PureC Tryd.prog 11 [encNet n, Rf.encI most] (encDE (resD .tails n most)) :=
  isc11.pure hmix rfl (det_Whole_body (c28 n h h100 most .tails 31 (fun R => .tails hmix R (hStp n R) is31 cConcat)))
theorem cHeads (n : Net) (h : Small n) (h100 : RightN n → n.follow.length ≤ 100) (most : Int) : PureC Tryd.prog 13 [encNet n, Rf.encI most] (encDE (resD .heads n most)) :=
  isc13.pure hmix rfl (det_Whole_body (c28 n h h100 most .heads 33 (fun R => .heads hmix (hStp n R) (hEnds n h) is33)))
/-! ### the fixed fact -/
theorem okN_small {n : Net} (h : okN n = true) : Small n ∧ n.follow.length ≤ 100 := by
  simp only [okN, Bool.and_eq_true, List.all_eq_true, Nat.ble_eq] at h
  obtain ⟨⟨h1, h2⟩, h3⟩ := h
  exact ⟨⟨h1, by omega, by omega⟩, by omega⟩
noncomputable def tab : Tab := tabN Tryd.prog (fun f => bif Nat.beq f 82 then some (c_cloneOv 1 8 (.v (.int .i64 0)), [.t 2], 1) else none) (fun _ => none)
  (fun f => bif Nat.beq f 9 then some (xMk .whole) else bif Nat.beq f 11 then some (xMk .tails) else bif Nat.beq f 13 then some (xMk .heads) else none)
theorem tabOk : TabOk Tryd.prog tab := by
  refine tabN_ok hmix (fun f p h => ?_) (fun f g args v h => by cases h) (fun f g args r h hg => ?_)
  · cases hb : Nat.beq f 82 with
    | true =>
      rw [hb] at h
      have : f = 82 := Nat.eq_of_beq_eq_true hb
      subst this
      cases h; exact @byClone
    | false => rw [hb] at h; cases h
  · cases h1 : Nat.beq f 9 with
    | true =>
      rw [h1] at h
      have : f = 9 := Nat.eq_of_beq_eq_true h1
      subst this
      cases h
      exact xMk_ok (fun n m hk => cWhole n (okN_small hk).1 (fun _ => (okN_small hk).2) m) hg
    | false =>
      rw [h1] at h
      cases h2 : Nat.beq f 11 with
      | true =>
        rw [h2] at h
        have : f = 11 := Nat.eq_of_beq_eq_true h2
        subst this
        cases h
        exact xMk_ok (fun n m hk => cTails n (okN_small hk).1 (fun _ => (okN_small hk).2) m) hg
      | false =>
        rw [h2] at h
        cases h3 : Nat.beq f 13 with
        | true =>
          rw [h3] at h
          have : f = 13 := Nat.eq_of_beq_eq_true h3
          subst this
          cases h
          exact xMk_ok (fun n m hk => cHeads n (okN_small hk).1 (fun _ => (okN_small hk).2) m) hg
        | false => rw [h3] at h; cases h
theorem isAlive : fnK tab (runF tab 500) 7 [] = some (encB true, true) := by kernel_rfl
theorem cAlive : PureC Tryd.prog 7 [] (encB true) := .runX hmix tabOk 500 isAlive
end Go.Proofs.YtpinfihfbjkijaaDoor

