/- PathAnswers returns true at every automaton and every two lists, and leaves them as they were; no conditions. -/
import Derived.Test.YtgmbloldekkieaaRfC18
import Derived.Test.YtgmbloldekkieaaRfK18
import Derived.Test.YtgmbloldekkieaaRfL9
set_option linter.unusedVariables false
set_option linter.unusedSimpArgs false
namespace Go.Proofs.Ytgmbloldekkieaa
open Go.ChangeShapes Go.WideShapes Go.ChangeAt Go.RowKit Go.Rf
theorem is3 : Is Try.prog 3 (c_caesuralaw18_PathAnswers 8 9 10 11 12 13 14 15 16 17 18 19 20) [6] 3 := ⟨Try.f3, Try.f3.body.getD .skip, Try.func3, by kernel_rfl, by kernel_rfl, by kernel_rfl, by kernel_rfl, by rw [Try.ntmps3]; decide⟩
theorem is11 : Is Try.prog 11 (c_caesuraref18_First 16) [2, 3] 1 := ⟨Try.f11, Try.f11.body.getD .skip, Try.func11, by kernel_rfl, by kernel_rfl, by kernel_rfl, by kernel_rfl, by rw [Try.ntmps11]; decide⟩
theorem is12 : Is Try.prog 12 (c_path_Marked 25 26 27 28 29 19 30) [2, 3, 4] 1 := ⟨Try.f12, Try.f12.body.getD .skip, Try.func12, by kernel_rfl, by kernel_rfl, by kernel_rfl, by kernel_rfl, by rw [Try.ntmps12]; decide⟩
theorem is13 : Is Try.prog 13 (c_caesuraref18_Marked 21 31 32 20 22) [2, 3, 4] 1 := ⟨Try.f13, Try.f13.body.getD .skip, Try.func13, by kernel_rfl, by kernel_rfl, by kernel_rfl, by kernel_rfl, by rw [Try.ntmps13]; decide⟩
theorem is16 : Is Try.prog 16 (c_caesuraref18_Far 21) [2] 1 := ⟨Try.f16, Try.f16.body.getD .skip, Try.func16, by kernel_rfl, by kernel_rfl, by kernel_rfl, by kernel_rfl, by rw [Try.ntmps16]; decide⟩
theorem is31 : Is Try.prog 31 (c_caesuraref18_length 45 46) [4] 2 := ⟨Try.f31, Try.f31.body.getD .skip, Try.func31, by kernel_rfl, by kernel_rfl, by kernel_rfl, by kernel_rfl, by rw [Try.ntmps31]; decide⟩
theorem is32 : Is Try.prog 32 (c_caesuraref18_halves) [6] 3 := ⟨Try.f32, Try.f32.body.getD .skip, Try.func32, by kernel_rfl, by kernel_rfl, by kernel_rfl, by kernel_rfl, by rw [Try.ntmps32]; decide⟩
theorem is45 : Is Try.prog 45 (c_caesuraref18_ends) [4] 2 := ⟨Try.f45, Try.f45.body.getD .skip, Try.func45, by kernel_rfl, by kernel_rfl, by kernel_rfl, by kernel_rfl, by rw [Try.ntmps45]; decide⟩
theorem is46 : Is Try.prog 46 (c_caesuraref18_anyHalf 32) [4] 2 := ⟨Try.f46, Try.f46.body.getD .skip, Try.func46, by kernel_rfl, by kernel_rfl, by kernel_rfl, by kernel_rfl, by rw [Try.ntmps46]; decide⟩
theorem isc26 : IsC Try.prog 26 c_path_phased [.c 2 (some 2)] 1 := ⟨Try.f26, Try.f26.body.getD .skip, Try.func26, by kernel_rfl, by kernel_rfl, by kernel_rfl, by kernel_rfl, by rw [Try.ntmps26]; decide⟩
theorem cPhased (d : Det) (R : RightD d) : PureC Try.prog 26 [encDet d] (encGr (pg d)) := isc26.pure hmix rfl (path_phased_body d R)
theorem cMarked (d : Det) (ok : DetOk d) : PureC Try.prog 12 [encDet d] (.tup [encIs (markS d), Go.Rf.encI (markP d), encB (markOk d)]) :=
  is12.pure hmix rfl (path_Marked_body hSort hComp d (cDetRight d ok) (cPhased d) (fun R => cGraphFar _ (pgOk R)) (fun s p hs => ⟨cWrite s p hs, cWriteN s p hs⟩) (fun l hl => cDetAccepts d ok l hl))
theorem cRefWriteN (s : List Int) (p : Int) (hs : s.length ≤ 1000000) : PureN Try.prog 20 [encIs s, Go.Rf.encI p] (encIs (writeS s p)) := is20.pureN hmix rfl (caesuraref18_Write_bodyN _ s p hs)
theorem cRefFar (d : Det) (ok : DetOk d) : PureC Try.prog 16 [encDet d] (encIs (farD d)) := is16.pure hmix rfl (caesuraref18_Far_body d (cRight d ok))
theorem cRefFirst (d : Det) (ok : DetOk d) : PureC Try.prog 11 [encDet d] (.tup [encIs (firstS d), encB (firstOk d)]) := is11.pure hmix rfl (caesuraref18_First_body d (cRefFar d ok))
theorem cHalvesN {d : Det} (R : RightD d) (T : List Tri) (h : Nat) (hT : T.length = d.next.length) (hh : ((2 * h + 1 : Nat) : Int) < d.signs) : PureN Try.prog 32 [encDet d, encTs T, Go.Rf.encI h] (encTs (halvesF d T h)) := is32.pureN hmix rfl (caesuraref18_halves_body R hT hh)
theorem cHalves {d : Det} (R : RightD d) (T : List Tri) (h : Nat) (hT : T.length = d.next.length) (hh : ((2 * h + 1 : Nat) : Int) < d.signs) : PureC Try.prog 32 [encDet d, encTs T, Go.Rf.encI h] (encTs (halvesF d T h)) :=
  is32.pure hmix rfl (AW_mono _ (fun e a S h => RetK_mono (fun r S h => h.fz) h) (caesuraref18_halves_body R hT hh))
theorem cEnds {d : Det} (R : RightD d) (T : List Tri) (hT : T.length = d.next.length) : PureC Try.prog 45 [encDet d, encTs T] (encB (endsF d T)) := is45.pure hmix rfl (caesuraref18_ends_body R hT)
theorem cAny {d : Det} (R : RightD d) (T : List Tri) (hT : T.length = d.next.length) : PureC Try.prog 46 [encDet d, encTs T] (encTs (anyF d T)) := is46.pure hmix rfl (caesuraref18_anyHalf_body R hT (fun h hh => cHalves R T h hT hh))
theorem cLength {d : Det} (R : RightD d) (T : List Tri) (hT : T.length = d.next.length) : PureC Try.prog 31 [encDet d, encTs T] (Go.Rf.encI (lenF d T)) := is31.pure hmix rfl (caesuraref18_length_body R hT (fun T hT => cEnds R T hT) (fun T hT => cAny R T hT))
theorem cRefMarked (d : Det) (ok : DetOk d) : PureC Try.prog 13 [encDet d] (.tup [encIs (markS d), Go.Rf.encI (markP d), encB (markOk d)]) :=
  is13.pure hmix rfl (caesuraref18_Marked_body d (cRight d ok) (fun R => ⟨fun T hT => cLength R T hT, fun T h hT hh => ⟨cHalves R T h hT hh, cHalvesN R T h hT hh⟩⟩) (fun s p hs => ⟨cRefWrite s p hs, cRefWriteN s p hs⟩) (fun l hl => cAccepts d ok l hl))
theorem cNaN (n : Int) : PureC Try.prog 47 [Go.Rf.encI n] (encB false) := is47.pure hmix rfl (cmp_isNaN_body _ n)
theorem cCmp (x y : Int) : PureC Try.prog 34 [Go.Rf.encI x, Go.Rf.encI y] (Go.Rf.encI (cmpI x y)) := is34.pure hmix rfl (cmp_Compare_body x y cNaN)
theorem cCompare (a b : List Int) (ha : Len a) (hb : Len b) : PureC Try.prog 35 [encIs a, encIs b] (Go.Rf.encI (cmpL a b)) := is35.pure hmix rfl (slices_Compare_body a b ha hb cCmp)
theorem cOr (l : List Int) (hl : Len l) : PureC Try.prog 33 [.sl true (l.map Go.Rf.encI)] (Go.Rf.encI (orL l)) := (is33.pure hmix rfl (cmp_Or_body _ l hl)).tight1
theorem cBefore (a b : List Int) (ha : Len a) (hb : Len b) : PureC Try.prog 17 [encIs a, encIs b] (encB (beforeS a b)) := is17.pure hmix rfl (path_Before_body a b cCmp (cCompare a b ha hb) cOr)
theorem contract (d : Det) (a b : List Int) (hd : goodDet d) (_ : goodIs a) (_ : goodIs b) : PureC Try.prog 3 [encDet d, encIs a, encIs b] (encB true) :=
  is3.pure hmix rfl (caesuralaw18_PathAnswers_body d a b cAlive _ (cGreat d hd.ok 100 (by omega)) (cFirst d hd.ok) (cRefFirst d hd.ok) (cMarked d hd.ok) (cRefMarked d hd.ok) cInts (cFar d hd.ok) (cRefFar d hd.ok) cBefore cRefBefore cWrite cRefWrite)
theorem own : ownKnob Try.prog.godebug = none := by kernel_rfl
theorem laidOut : laidOutB Try.prog = true := by kernel_rfl
theorem notA25 : ∃ fs, Try.prog.underlying 25 = some (.struct fs) ∨ ∃ n e, Try.prog.underlying 25 = some (.array n e) := ⟨_, .inl under25⟩
theorem isA26 : (match Try.prog.underlying 26 with | some (.struct _) => false | some (.array _ _) => false | _ => true) = true := by kernel_rfl
theorem notA26 : (∀ fs, Try.prog.underlying 26 ≠ some (.struct fs)) ∧ ∀ n e, Try.prog.underlying 26 ≠ some (.array n e) := ⟨fun fs h => (by have := isA26; rw [h] at this; cases this), fun n e h => (by have := isA26; rw [h] at this; cases this)⟩
set_option maxRecDepth 100000 in
theorem lifted (os : Os) (started : os.Started) (H : Type) (enc : TypeId × Value → H) :
    ReturnsInHanded {} Try.checked os 3 .any (Rows.pathAnswersSpec.pre6 enc Try.prog Try.f3 Rows.pathAnswersRow.domain false) (Rows.pathAnswersSpec.post enc Try.prog Try.f3 false true false false) := by
  refine returnsInHanded_of_change_sized (C := Try.checked) own started (by kernel_rfl) Try.func3
    (ChangeSpec.witness6 (enc := enc) (C := Try.checked) false ⟨#[], #[.agg #[.int .i64 0, .slice none 0 0, .slice none 0 0], .slice none 0 0, .slice none 0 0], []⟩ 8 (by kernel_rfl) (by kernel_rfl) (by kernel_rfl) (by kernel_rfl)) ?_
  intro W base args ds gs before hval0 hW hcnd hsz0 _
  have hsz : (DataW.weightsEach Try.prog (Try.f3.params.toList ++ Rows.pathAnswersSpec.plain.varTypes Try.prog) (ds ++ gs)).all (· ≤ reachBytes) = true := hsz0
  have hval : ∀ (j : Nat) t v, Try.f3.params[j]? = some t → args[j]? = some v → Value.okWide Try.prog W .any base t v := hval0
  have hW' := hW
  obtain ⟨p, q, hA0, hV, rfl, hfz, hnd⟩ := hW
  have hA : DataW.TrodAll enc Try.prog W 0 (fun _ => true) true Try.f3.params.toList args.toList ds p := hA0
  rw [Try.params3] at hA hval hsz
  obtain ⟨v0, vs0, d0, ds0, p0, q0, ha0, rfl, rfl, h0, r0⟩ := trodAll_cons hA
  obtain ⟨v1, vs1, d1, ds1, p1, q1, ha1, rfl, rfl, h1, r1⟩ := trodAll_cons r0
  obtain ⟨v2, vs2, d2, ds2, p2, q2, ha2, rfl, rfl, h2, r2⟩ := trodAll_cons r1
  obtain ⟨rfl, rfl, rfl⟩ := trodAll_nil r2
  obtain rfl : args = #[v0, v1, v2] := by cases args; simp_all
  obtain ⟨rfl, rfl⟩ := trodVars_none hV
  obtain ⟨x0, g0, rep0⟩ := DecF.val dec25 (hval 0 25 v0 rfl rfl) (.inl ⟨_, fun _ => rfl, notA25⟩) h0 (light_of hsz (j := 0) rfl rfl)
  have lt0 : ∀ x ∈ p0, x.block < W.heap.size := by obtain ⟨m, hm⟩ := h0; exact DataW.trod_lt m _ _ _ hm
  obtain ⟨x1, g1, rep1⟩ := DecF.val dec26 (hval 1 26 v1 rfl rfl) (.inr ⟨fun _ => rfl, notA26⟩) h1 (light_of hsz (j := 1) rfl rfl)
  have lt1 : ∀ x ∈ p1, x.block < W.heap.size := by obtain ⟨m, hm⟩ := h1; exact DataW.trod_lt m _ _ _ hm
  obtain ⟨x2, g2, rep2⟩ := DecF.val dec26 (hval 2 26 v2 rfl rfl) (.inr ⟨fun _ => rfl, notA26⟩) h2 (light_of hsz (j := 2) rfl rfl)
  have lt2 : ∀ x ∈ p2, x.block < W.heap.size := by obtain ⟨m, hm⟩ := h2; exact DataW.trod_lt m _ _ _ hm
  clear hA0 hval0 hsz0 hsz
  refine ((contract x0 x1 x2 g0 g1 g2).calls W (reps_three rep0 rep1 rep2)).mono fun e W' ⟨he, bel⟩ => ?_
  subst he
  exact ⟨_, rfl, _, _, _, [], _, [], hW', trodAll_mk1 (shut_bool Try.underlying4 _), (trod_more (Below.trod laidOut (by kernel_rfl) (of_decide_eq_true (by kernel_rfl)) h0 bel lt0) (trod_more (Below.trod laidOut (by kernel_rfl) (of_decide_eq_true (by kernel_rfl)) h1 bel lt1) (trod_more (Below.trod laidOut (by kernel_rfl) (of_decide_eq_true (by kernel_rfl)) h2 bel lt2) trod_none))), rfl, bel.frame _, fun h => by cases h⟩

theorem over : Rows.pathAnswersRow.holds Try.pinned (OpenSpec.ofChange Rows.pathAnswersSpec) :=
  OpenClaim.holds_of_wide 3 Try.f3 rfl rfl rfl rfl rfl rfl rfl ⟨rfl, rfl, rfl, rfl, rfl⟩ rfl rfl rfl rfl rfl (by kernel_rfl) Try.func3 (by kernel_rfl)
    (of_decide_eq_true (by kernel_rfl)) (by unfold Func.isWrapper; first | (rw [if_pos (by decide +kernel)]; kernel_rfl) | (rw [if_neg (by decide +kernel)]; exact ⟨rfl, rfl⟩))
    (fun os started H enc _ => lifted os started H enc)
theorem proved : Rows.PathAnswersSaid := over

end Go.Proofs.Ytgmbloldekkieaa
