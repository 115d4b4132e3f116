import Derived.Test.YtgmbloldekkieaaRows
import Derived.Test.YtgmbloldekkieaaRfIn
import Derived.Test.YtgmbloldekkieaaRfL7
import Derived.Test.YtgmbloldekkieaaRfB3
import Derived.Test.YtgmbloldekkieaaRfRun
import Derived.WalkKit
import Derived.ProofKit
import Derived.Below
import Derived.SizedLaws
import Derived.KernelRfl
set_option linter.unusedVariables false
set_option linter.unusedSimpArgs false
namespace Go.Proofs.Ytgmbloldekkieaa
open Go.ChangeShapes Go.WideShapes Go.ChangeAt Go.RowKit Go.Rf

def In64 (n : Int) : Prop := IntKind.i64.min ≤ n ∧ n ≤ IntKind.i64.max
def lenOk {X : Type} (l : List X) : Prop := l.length ≤ 140737488351232
def goodIs (l : List Int) : Prop := lenOk l ∧ ∀ x ∈ l, In64 x

theorem dec3 (n : Nat) : DecF Try.prog n 3 encI In64 := DecF.int (by kernel_rfl) (by kernel_rfl) n
theorem dec26 : ∀ n, DecF Try.prog n 26 encIs goodIs
  | 0 => .zero (fun _ _ => by simp [encIs, AV.cells]; kernel_rfl) (fun _ _ => by simp [encIs, AV.cells, AV.atom])
  | n + 1 => DecF.slice (e := 3) (by kernel_rfl) (by kernel_rfl) (of_decide_eq_true (by kernel_rfl)) (of_decide_eq_true (by kernel_rfl)) (dec3 n)

theorem hmix : Try.prog.follows .mixedOrders = true := by kernel_rfl
theorem is7 : Is Try.prog 7 (c_caesuralaw18_PathWrites 8 14 17 19) [6] 3 := ⟨Try.f7, Try.f7.body.getD .skip, Try.func7, by kernel_rfl, by kernel_rfl, by kernel_rfl, by kernel_rfl, by rw [Try.ntmps7]; decide⟩
theorem is14 : Is Try.prog 14 (c_caesuraref01_Ints) [4] 2 := ⟨Try.f14, Try.f14.body.getD .skip, Try.func14, by kernel_rfl, by kernel_rfl, by kernel_rfl, by kernel_rfl, by rw [Try.ntmps14]; decide⟩
theorem is17 : Is Try.prog 17 (c_path_Before 34 35 33) [4] 2 := ⟨Try.f17, Try.f17.body.getD .skip, Try.func17, by kernel_rfl, by kernel_rfl, by kernel_rfl, by kernel_rfl, by rw [Try.ntmps17]; decide⟩
theorem is33 : Is Try.prog 33 (c_cmp_Or_int_) [2] 1 := ⟨Try.f33, Try.f33.body.getD .skip, Try.func33, by kernel_rfl, by kernel_rfl, by kernel_rfl, by kernel_rfl, by rw [Try.ntmps33]; decide⟩
theorem is34 : Is Try.prog 34 (c_cmp_Compare_int_ 47) [4] 2 := ⟨Try.f34, Try.f34.body.getD .skip, Try.func34, by kernel_rfl, by kernel_rfl, by kernel_rfl, by kernel_rfl, by rw [Try.ntmps34]; decide⟩
theorem is35 : Is Try.prog 35 (c_slices_Compare_Sint_int_ 34) [4] 2 := ⟨Try.f35, Try.f35.body.getD .skip, Try.func35, by kernel_rfl, by kernel_rfl, by kernel_rfl, by kernel_rfl, by rw [Try.ntmps35]; decide⟩
theorem is47 : Is Try.prog 47 (c_cmp_isNaN_int_) [2] 1 := ⟨Try.f47, Try.f47.body.getD .skip, Try.func47, by kernel_rfl, by kernel_rfl, by kernel_rfl, by kernel_rfl, by rw [Try.ntmps47]; decide⟩
theorem is19 : Is Try.prog 19 (c_path_Write 36 37) [4] 2 := ⟨Try.f19, Try.f19.body.getD .skip, Try.func19, by kernel_rfl, by kernel_rfl, by kernel_rfl, by kernel_rfl, by rw [Try.ntmps19]; decide⟩
theorem is36 : Is Try.prog 36 (c_path_Write_1) [2] 1 := ⟨Try.f36, Try.f36.body.getD .skip, Try.func36, by kernel_rfl, by kernel_rfl, by kernel_rfl, by kernel_rfl, by rw [Try.ntmps36]; decide⟩
theorem is37 : Is Try.prog 37 (c_slices_ContainsFunc 23) [4] 2 := ⟨Try.f37, Try.f37.body.getD .skip, Try.func37, by kernel_rfl, by kernel_rfl, by kernel_rfl, by kernel_rfl, by rw [Try.ntmps37]; decide⟩
theorem is23 : Is Try.prog 23 (c_slices_IndexFunc) [4] 2 := ⟨Try.f23, Try.f23.body.getD .skip, Try.func23, by kernel_rfl, by kernel_rfl, by kernel_rfl, by kernel_rfl, by rw [Try.ntmps23]; decide⟩
theorem isAlive : fnK (tabOf Try.prog) (runF (tabOf Try.prog) 500) 8 [] = some (encB true, true) := by kernel_rfl
theorem cAlive : PureC Try.prog 8 [] (encB true) := .run hmix 500 isAlive
theorem cInts (a b : List Int) (ha : Len a) (hb : Len b) : PureC Try.prog 14 [encIs a, encIs b] (encB (a == b)) := is14.pure hmix rfl (caesuraref01_Ints_body _ a b ha hb)
theorem cNaN (n : Int) : PureC Try.prog 47 [encI n] (encB false) := is47.pure hmix rfl (cmp_isNaN_body _ n)
theorem cCmp (x y : Int) : PureC Try.prog 34 [encI x, encI y] (encI (cmpI x y)) := is34.pure hmix rfl (cmp_Compare_body x y cNaN)
theorem cCompare (a b : List Int) (ha : Len a) (hb : Len b) : PureC Try.prog 35 [encIs a, encIs b] (encI (cmpL a b)) := is35.pure hmix rfl (slices_Compare_body a b ha hb cCmp)
theorem cOr (l : List Int) (hl : Len l) : PureC Try.prog 33 [.sl true (l.map encI)] (encI (orL l)) := (is33.pure hmix rfl (cmp_Or_body _ l hl)).tight1
theorem cBefore (a b : List Int) (ha : Len a) (hb : Len b) : PureC Try.prog 17 [encIs a, encIs b] (encB (beforeS a b)) := is17.pure hmix rfl (path_Before_body a b cCmp (cCompare a b ha hb) cOr)
theorem cOdd (s : Int) : PureC Try.prog 36 [encI s] (encB (oddS s)) := is36.pure hmix rfl (path_Write_1_body _ s)
theorem cIndex (l : List Int) (hl : Len l) : PureC Try.prog 23 [encIs l, .clo 36 [] []] (encI (idxF oddS l)) :=
  is23.pure hmix rfl (slices_IndexFunc_body (enc := encI) hl (fun _ => rfl) closed_I cl_nil (fun x _ => cOdd x))
theorem cContains (l : List Int) (hl : Len l) : PureC Try.prog 37 [encIs l, .clo 36 [] []] (encB (l.any oddS)) :=
  is37.pure hmix rfl (slices_ContainsFunc_body (enc := encI) closed_I cl_nil (cIndex l hl))
theorem cWrite (s : List Int) (p : Int) (hs : s.length ≤ 1000000) : PureC Try.prog 19 [encIs s, encI p] (encIs (writeS s p)) :=
  is19.pure hmix rfl (path_Write_body s p hs (cContains s (by unfold Len; omega)))
theorem contract (a b : List Int) (p : Int) (_ : goodIs a) (_ : goodIs b) (_ : In64 p) : PureC Try.prog 7 [encIs a, encIs b, encI p] (encB true) :=
  is7.pure hmix rfl (caesuralaw18_PathWrites_body cAlive cInts cBefore cWrite a b p)

theorem own : ownKnob Try.prog.godebug = none := by kernel_rfl
theorem laidOut : laidOutB Try.prog = true := by kernel_rfl
theorem isA26 : (match Try.prog.underlying 26 with | some (.struct _) => false | some (.array _ _) => false | _ => true) = true := by kernel_rfl
theorem notA26 : (∀ fs, Try.prog.underlying 26 ≠ some (.struct fs)) ∧ ∀ n e, Try.prog.underlying 26 ≠ some (.array n e) := ⟨fun fs h => (by have := isA26; rw [h] at this; cases this), fun n e h => (by have := isA26; rw [h] at this; cases this)⟩
theorem isA3 : (match Try.prog.underlying 3 with | some (.struct _) => false | some (.array _ _) => false | _ => true) = true := by kernel_rfl
theorem notA3 : (∀ fs, Try.prog.underlying 3 ≠ some (.struct fs)) ∧ ∀ n e, Try.prog.underlying 3 ≠ some (.array n e) := ⟨fun fs h => (by have := isA3; rw [h] at this; cases this), fun n e h => (by have := isA3; rw [h] at this; cases this)⟩
set_option maxRecDepth 100000 in
theorem lifted (os : Os) (started : os.Started) (H : Type) (enc : TypeId × Value → H) :
    ReturnsInHanded {} Try.checked os 7 .any (Rows.pathWritesSpec.pre6 enc Try.prog Try.f7 Rows.pathWritesRow.domain false) (Rows.pathWritesSpec.post enc Try.prog Try.f7 false true false false) := by
  refine returnsInHanded_of_change_sized (C := Try.checked) own started (by kernel_rfl) Try.func7
    (ChangeSpec.witness6 (enc := enc) (C := Try.checked) false ⟨#[], #[.slice none 0 0, .slice none 0 0, .int .i64 0], []⟩ 8 (by kernel_rfl) (by kernel_rfl) (by kernel_rfl) (by kernel_rfl)) ?_
  intro W base args ds gs before hval0 hW hcnd hsz0 _
  have hsz : (DataW.weightsEach Try.prog (Try.f7.params.toList ++ Rows.pathWritesSpec.plain.varTypes Try.prog) (ds ++ gs)).all (· ≤ reachBytes) = true := hsz0
  have hval : ∀ (j : Nat) t v, Try.f7.params[j]? = some t → args[j]? = some v → Value.okWide Try.prog W .any base t v := hval0
  have hW' := hW
  obtain ⟨p, q, hA0, hV, rfl, hfz, hnd⟩ := hW
  have hA : DataW.TrodAll enc Try.prog W 0 (fun _ => true) true Try.f7.params.toList args.toList ds p := hA0
  rw [Try.params7] at hA hval hsz
  obtain ⟨v0, vs0, d0, ds0, p0, q0, ha0, rfl, rfl, h0, r0⟩ := trodAll_cons hA
  obtain ⟨v1, vs1, d1, ds1, p1, q1, ha1, rfl, rfl, h1, r1⟩ := trodAll_cons r0
  obtain ⟨v2, vs2, d2, ds2, p2, q2, ha2, rfl, rfl, h2, r2⟩ := trodAll_cons r1
  obtain ⟨rfl, rfl, rfl⟩ := trodAll_nil r2
  obtain rfl : args = #[v0, v1, v2] := by cases args; simp_all
  obtain ⟨rfl, rfl⟩ := trodVars_none hV
  obtain ⟨x0, g0, rep0⟩ := DecF.val dec26 (hval 0 26 v0 rfl rfl) (.inr ⟨fun _ => rfl, notA26⟩) h0 (light_of hsz (j := 0) rfl rfl)
  have lt0 : ∀ x ∈ p0, x.block < W.heap.size := by obtain ⟨m, hm⟩ := h0; exact DataW.trod_lt m _ _ _ hm
  obtain ⟨x1, g1, rep1⟩ := DecF.val dec26 (hval 1 26 v1 rfl rfl) (.inr ⟨fun _ => rfl, notA26⟩) h1 (light_of hsz (j := 1) rfl rfl)
  have lt1 : ∀ x ∈ p1, x.block < W.heap.size := by obtain ⟨m, hm⟩ := h1; exact DataW.trod_lt m _ _ _ hm
  obtain ⟨x2, g2, rep2⟩ := DecF.val dec3 (hval 2 3 v2 rfl rfl) (.inr ⟨fun _ => rfl, notA3⟩) h2 (light_of hsz (j := 2) rfl rfl)
  have lt2 : ∀ x ∈ p2, x.block < W.heap.size := by obtain ⟨m, hm⟩ := h2; exact DataW.trod_lt m _ _ _ hm
  clear hA0 hval0 hsz0 hsz
  refine ((contract x0 x1 x2 g0 g1 g2).calls W (reps_three rep0 rep1 rep2)).mono fun e W' ⟨he, bel⟩ => ?_
  subst he
  exact ⟨_, rfl, _, _, _, [], _, [], hW', trodAll_mk1 (shut_bool Try.underlying4 _), (trod_more (Below.trod laidOut (by kernel_rfl) (of_decide_eq_true (by kernel_rfl)) h0 bel lt0) (trod_more (Below.trod laidOut (by kernel_rfl) (of_decide_eq_true (by kernel_rfl)) h1 bel lt1) (trod_more (Below.trod laidOut (by kernel_rfl) (of_decide_eq_true (by kernel_rfl)) h2 bel lt2) trod_none))), rfl, bel.frame _, fun h => by cases h⟩

theorem over : Rows.pathWritesRow.holds Try.pinned (OpenSpec.ofChange Rows.pathWritesSpec) :=
  OpenClaim.holds_of_wide 7 Try.f7 rfl rfl rfl rfl rfl rfl rfl ⟨rfl, rfl, rfl, rfl, rfl⟩ rfl rfl rfl rfl rfl (by kernel_rfl) Try.func7 (by kernel_rfl)
    (of_decide_eq_true (by kernel_rfl)) (by unfold Func.isWrapper; first | (rw [if_pos (by decide +kernel)]; kernel_rfl) | (rw [if_neg (by decide +kernel)]; exact ⟨rfl, rfl⟩))
    (fun os started H enc _ => lifted os started H enc)
theorem proved : Rows.PathWritesSaid := over

end Go.Proofs.Ytgmbloldekkieaa
