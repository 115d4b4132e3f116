/- WitOrder returns true at every three witnesses, and leaves them as they were; no conditions. -/
import Derived.Test.YtidkjfaeolfcaaaGreatRows
import Derived.Test.YtidkjfaeolfcaaaGreatRfIn
import Derived.Test.YtidkjfaeolfcaaaGreatRfB23
import Derived.Test.YtidkjfaeolfcaaaGreatRfB3
import Derived.Test.YtidkjfaeolfcaaaGreatRfRun
import Derived.WalkKit
import Derived.ProofKit
import Derived.Below
import Derived.SizedLaws
import Derived.KernelRfl
set_option linter.unusedVariables false
set_option linter.unusedSimpArgs false
namespace Go.Proofs.YtidkjfaeolfcaaaGreat
open Go.ChangeShapes Go.WideShapes Go.ChangeAt Go.RowKit Go.Rf

def In64 (n : Int) : Prop := IntKind.i64.min ≤ n ∧ n ≤ IntKind.i64.max
def lenOk {X : Type} (l : List X) : Prop := l.length ≤ 140737488351232
def goodIs (l : List Int) : Prop := lenOk l ∧ ∀ x ∈ l, In64 x
def goodW (w : Wit) : Prop := goodIs w.text ∧ In64 w.place

theorem dec3 (n : Nat) : DecF Tryz.prog n 3 encI In64 := DecF.int (by kernel_rfl) (by kernel_rfl) n
theorem dec32 : ∀ n, DecF Tryz.prog n 32 encIs goodIs
  | 0 => .zero (fun _ _ => by simp [encIs, AV.cells]; kernel_rfl) (fun _ _ => by simp [encIs, AV.cells, AV.atom])
  | n + 1 => DecF.slice (e := 3) (by kernel_rfl) (by kernel_rfl) (of_decide_eq_true (by kernel_rfl)) (of_decide_eq_true (by kernel_rfl)) (dec3 n)
noncomputable def fs34 : Array Field := (match Tryz.prog.underlying 34 with | some (.struct fs) => fs | _ => #[])
theorem under34 : Tryz.prog.underlying 34 = some (.struct fs34) := by kernel_rfl
theorem fs34_eq : fs34.toList = [fs34[0]!, fs34[1]!] := by kernel_rfl
theorem tyw0 : (fs34[0]!).type = 32 := by kernel_rfl
theorem tyw1 : (fs34[1]!).type = 3 := by kernel_rfl
theorem dec34 : ∀ n, DecF Tryz.prog n 34 encW goodW
  | 0 => .zero (fun _ _ => by simp [encW, AV.cells]; kernel_rfl) (fun _ _ => by simp [encW, AV.cells, AV.atom, encI, encIs])
  | n + 1 => by
    have hR : DecR Tryz.prog n 0 fs34.toList (fun p : List Int × Int × Unit => (encIs p.1).cells ++ ((encI p.2.1).cells ++ [])) (fun p => goodIs p.1 ∧ In64 p.2.1 ∧ True) := by
      rw [fs34_eq]
      refine DecR.cons (by kernel_rfl) (by rw [tyw0]; exact dec32 n) (DecR.cons (by kernel_rfl) (by rw [tyw1]; exact dec3 n) DecR.nil)
    have h := DecF.struct (fuel := n) under34 (by kernel_rfl) hR
    exact h.map encW goodW (fun p => ⟨p.1, p.2.1⟩) (fun d => (d.text, d.place, ())) (fun x => by simp [encW, encI, encIs, AV.cells]) (fun x hx => ⟨hx.1, hx.2.1⟩)
      (fun y hy => ⟨⟨hy.1, hy.2, trivial⟩, by simp [encW, encI, encIs, AV.cells]⟩)

theorem hmix : Tryz.prog.follows .mixedOrders = true := by kernel_rfl
theorem is5 : Is Tryz.prog 5 (c_caesuralaw23_WitOrder 7 22 13 17) [6] 3 := ⟨Tryz.f5, Tryz.f5.body.getD .skip, Tryz.func5, by kernel_rfl, by kernel_rfl, by kernel_rfl, by kernel_rfl, by rw [Tryz.ntmps5]; decide⟩
theorem is17 : Is Tryz.prog 17 (c_wit_Before 31) [4] 2 := ⟨Tryz.f17, Tryz.f17.body.getD .skip, Tryz.func17, by kernel_rfl, by kernel_rfl, by kernel_rfl, by kernel_rfl, by rw [Tryz.ntmps17]; decide⟩
theorem is22 : Is Tryz.prog 22 (c_caesuraref01_Ints) [4] 2 := ⟨Tryz.f22, Tryz.f22.body.getD .skip, Tryz.func22, by kernel_rfl, by kernel_rfl, by kernel_rfl, by kernel_rfl, by rw [Tryz.ntmps22]; decide⟩
theorem is31 : Is Tryz.prog 31 (c_wit_compare 51 67 66) [4] 2 := ⟨Tryz.f31, Tryz.f31.body.getD .skip, Tryz.func31, by kernel_rfl, by kernel_rfl, by kernel_rfl, by kernel_rfl, by rw [Tryz.ntmps31]; decide⟩
theorem is51 : Is Tryz.prog 51 (c_cmp_Compare_int_ 79) [4] 2 := ⟨Tryz.f51, Tryz.f51.body.getD .skip, Tryz.func51, by kernel_rfl, by kernel_rfl, by kernel_rfl, by kernel_rfl, by rw [Tryz.ntmps51]; decide⟩
theorem is66 : Is Tryz.prog 66 (c_cmp_Or_int_) [2] 1 := ⟨Tryz.f66, Tryz.f66.body.getD .skip, Tryz.func66, by kernel_rfl, by kernel_rfl, by kernel_rfl, by kernel_rfl, by rw [Tryz.ntmps66]; decide⟩
theorem is67 : Is Tryz.prog 67 (c_slices_Compare_Sint_int_ 51) [4] 2 := ⟨Tryz.f67, Tryz.f67.body.getD .skip, Tryz.func67, by kernel_rfl, by kernel_rfl, by kernel_rfl, by kernel_rfl, by rw [Tryz.ntmps67]; decide⟩
theorem is79 : Is Tryz.prog 79 (c_cmp_isNaN_int_) [2] 1 := ⟨Tryz.f79, Tryz.f79.body.getD .skip, Tryz.func79, by kernel_rfl, by kernel_rfl, by kernel_rfl, by kernel_rfl, by rw [Tryz.ntmps79]; decide⟩
theorem is13 : IsC Tryz.prog 13 (c_wit_Least 30 31) [.c 2 (some 2), .t 3] 1 := ⟨Tryz.f13, Tryz.f13.body.getD .skip, Tryz.func13, by kernel_rfl, by kernel_rfl, by kernel_rfl, by kernel_rfl, by rw [Tryz.ntmps13]; decide⟩
theorem is30 : IsC Tryz.prog 30 (c_slices_MinFunc_Sapi_Wit_api_Wit_) [.c 4 (some 2)] 2 := ⟨Tryz.f30, Tryz.f30.body.getD .skip, Tryz.func30, by kernel_rfl, by kernel_rfl, by kernel_rfl, by kernel_rfl, by rw [Tryz.ntmps30]; decide⟩
theorem isAlive : fnK (tabOf Tryz.prog) (runF (tabOf Tryz.prog) 500) 7 [] = some (encB true, true) := by kernel_rfl
theorem cAlive : PureC Tryz.prog 7 [] (encB true) := .run hmix 500 isAlive
theorem cInts (a b : List Int) (ha : Len a) (hb : Len b) : PureC Tryz.prog 22 [encIs a, encIs b] (encB (a == b)) := is22.pure hmix rfl (caesuraref01_Ints_body _ a b ha hb)
theorem cNaN (n : Int) : PureC Tryz.prog 79 [encI n] (encB false) := is79.pure hmix rfl (cmp_isNaN_body _ n)
theorem cCmp (x y : Int) : PureC Tryz.prog 51 [encI x, encI y] (encI (cmpI x y)) := is51.pure hmix rfl (cmp_Compare_body x y cNaN)
theorem cCompare (a b : List Int) (ha : Len a) (hb : Len b) : PureC Tryz.prog 67 [encIs a, encIs b] (encI (cmpL a b)) := is67.pure hmix rfl (slices_Compare_body a b ha hb cCmp)
theorem cOr (l : List Int) (hl : Len l) : PureC Tryz.prog 66 [.sl true (l.map encI)] (encI (orL l)) := (is66.pure hmix rfl (cmp_Or_body _ l hl)).tight1
theorem cWitCompare (a b : Wit) (ha : Len a.text) (hb : Len b.text) : PureC Tryz.prog 31 [encW a, encW b] (encI (ordW a b)) := is31.pure hmix rfl (wit_compare_body a b cCmp (cCompare _ _ ha hb) cOr)
theorem cBefore (a b : Wit) (ha : Len a.text) (hb : Len b.text) : PureC Tryz.prog 17 [encW a, encW b] (encB (beforeW a b)) := is17.pure hmix rfl (wit_Before_body a b (cWitCompare a b ha hb))
theorem tight2 {P : Program} {f : FuncId} {t : Bool} {xs : List AV} {y r : AV} (h : PureC P f [.sl false xs, y] r) : PureC P f [.sl t xs, y] r :=
  h.weak rfl (fun j h1 h2 E v hv => by
    match j with
    | 0 => exact hv.loose
    | 1 => exact hv
    | j + 2 => simp at h1; omega)
theorem cMin (l : List Wit) (hne : l ≠ []) (hl : l.length ≤ 1000) (hw : ∀ w ∈ l, Len w.text) : PureC Tryz.prog 30 [.sl true (l.map encW), .clo 31 [] []] (encW (minW (l.headD ⟨[], 0⟩) (l.drop 1))) :=
  tight2 (is30.pure hmix rfl (MinFunc_body l hne hl (fun a b ha hb => cWitCompare a b (hw a ha) (hw b hb))))
theorem cLeast (l : List Wit) (hne : l ≠ []) (hl : l.length ≤ 1000) (hw : ∀ w ∈ l, Len w.text) : PureC Tryz.prog 13 [.sl true (l.map encW)] (.tup [encW (minW (l.headD ⟨[], 0⟩) (l.drop 1)), encB true]) :=
  is13.pure hmix rfl (wit_Least_body l hne (cMin l hne hl hw))
theorem contract (a b c : Wit) (_ : goodW a) (_ : goodW b) (_ : goodW c) : PureC Tryz.prog 5 [encW a, encW b, encW c] (encB true) :=
  is5.pure hmix rfl (WitOrder_body a b c cAlive cInts cLeast cBefore)

theorem own : ownKnob Tryz.prog.godebug = none := by kernel_rfl
theorem laidOut : laidOutB Tryz.prog = true := by kernel_rfl
theorem notA34 : ∃ fs, Tryz.prog.underlying 34 = some (.struct fs) ∨ ∃ n e, Tryz.prog.underlying 34 = some (.array n e) := ⟨_, .inl under34⟩
set_option maxRecDepth 100000 in
theorem lifted (os : Os) (started : os.Started) (H : Type) (enc : TypeId × Value → H) :
    ReturnsInHanded {} Tryz.checked os 5 .any (Rows.witOrderSpec.pre6 enc Tryz.prog Tryz.f5 Rows.witOrderRow.domain false) (Rows.witOrderSpec.post enc Tryz.prog Tryz.f5 false true false false) := by
  refine returnsInHanded_of_change_sized (C := Tryz.checked) own started (by kernel_rfl) Tryz.func5
    (ChangeSpec.witness6 (enc := enc) (C := Tryz.checked) false ⟨#[], #[.agg #[.slice none 0 0, .int .i64 0], .agg #[.slice none 0 0, .int .i64 0], .agg #[.slice none 0 0, .int .i64 0]], []⟩ 8 (by kernel_rfl) (by kernel_rfl) (by kernel_rfl) (by kernel_rfl)) ?_
  intro W base args ds gs before hval0 hW hcnd hsz0 _
  have hsz : (DataW.weightsEach Tryz.prog (Tryz.f5.params.toList ++ Rows.witOrderSpec.plain.varTypes Tryz.prog) (ds ++ gs)).all (· ≤ reachBytes) = true := hsz0
  have hval : ∀ (j : Nat) t v, Tryz.f5.params[j]? = some t → args[j]? = some v → Value.okWide Tryz.prog W .any base t v := hval0
  have hW' := hW
  obtain ⟨p, q, hA0, hV, rfl, hfz, hnd⟩ := hW
  have hA : DataW.TrodAll enc Tryz.prog W 0 (fun _ => true) true Tryz.f5.params.toList args.toList ds p := hA0
  rw [Tryz.params5] at hA hval hsz
  obtain ⟨v0, vs0, d0, ds0, p0, q0, ha0, rfl, rfl, h0, r0⟩ := trodAll_cons hA
  obtain ⟨v1, vs1, d1, ds1, p1, q1, ha1, rfl, rfl, h1, r1⟩ := trodAll_cons r0
  obtain ⟨v2, vs2, d2, ds2, p2, q2, ha2, rfl, rfl, h2, r2⟩ := trodAll_cons r1
  obtain ⟨rfl, rfl, rfl⟩ := trodAll_nil r2
  obtain rfl : args = #[v0, v1, v2] := by cases args; simp_all
  obtain ⟨rfl, rfl⟩ := trodVars_none hV
  obtain ⟨x0, g0, rep0⟩ := DecF.val dec34 (hval 0 34 v0 rfl rfl) (.inl ⟨_, fun _ => rfl, notA34⟩) h0 (light_of hsz (j := 0) rfl rfl)
  have lt0 : ∀ x ∈ p0, x.block < W.heap.size := by obtain ⟨m, hm⟩ := h0; exact DataW.trod_lt m _ _ _ hm
  obtain ⟨x1, g1, rep1⟩ := DecF.val dec34 (hval 1 34 v1 rfl rfl) (.inl ⟨_, fun _ => rfl, notA34⟩) h1 (light_of hsz (j := 1) rfl rfl)
  have lt1 : ∀ x ∈ p1, x.block < W.heap.size := by obtain ⟨m, hm⟩ := h1; exact DataW.trod_lt m _ _ _ hm
  obtain ⟨x2, g2, rep2⟩ := DecF.val dec34 (hval 2 34 v2 rfl rfl) (.inl ⟨_, fun _ => rfl, notA34⟩) h2 (light_of hsz (j := 2) rfl rfl)
  have lt2 : ∀ x ∈ p2, x.block < W.heap.size := by obtain ⟨m, hm⟩ := h2; exact DataW.trod_lt m _ _ _ hm
  clear hA0 hval0 hsz0 hsz
  refine ((contract x0 x1 x2 g0 g1 g2).calls W (reps_three rep0 rep1 rep2)).mono fun e W' ⟨he, bel⟩ => ?_
  subst he
  exact ⟨_, rfl, _, _, _, [], _, [], hW', trodAll_mk1 (shut_bool Tryz.underlying4 _), (trod_more (Below.trod laidOut (by kernel_rfl) (of_decide_eq_true (by kernel_rfl)) h0 bel lt0) (trod_more (Below.trod laidOut (by kernel_rfl) (of_decide_eq_true (by kernel_rfl)) h1 bel lt1) (trod_more (Below.trod laidOut (by kernel_rfl) (of_decide_eq_true (by kernel_rfl)) h2 bel lt2) trod_none))), rfl, bel.frame _, fun h => by cases h⟩

theorem over : Rows.witOrderRow.holds Tryz.pinned (OpenSpec.ofChange Rows.witOrderSpec) :=
  OpenClaim.holds_of_wide 5 Tryz.f5 rfl rfl rfl rfl rfl rfl rfl ⟨rfl, rfl, rfl, rfl, rfl⟩ rfl rfl rfl rfl rfl (by kernel_rfl) Tryz.func5 (by kernel_rfl)
    (of_decide_eq_true (by kernel_rfl)) (by unfold Func.isWrapper; first | (rw [if_pos (by decide +kernel)]; kernel_rfl) | (rw [if_neg (by decide +kernel)]; exact ⟨rfl, rfl⟩))
    (fun os started H enc _ => lifted os started H enc)
theorem proved : Rows.WitOrderSaid := over

end Go.Proofs.YtidkjfaeolfcaaaGreat
