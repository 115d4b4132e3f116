import Derived.Test.YtgmbloldekkieaaRfC18
import Derived.Test.YtgmbloldekkieaaRfK18
import Derived.Test.YtgmbloldekkieaaRfL5
set_option linter.unusedVariables false
set_option linter.unusedSimpArgs false
namespace Go.Proofs.Ytgmbloldekkieaa
open Go.ChangeShapes Go.WideShapes Go.ChangeAt Go.RowKit Go.Rf
theorem is5 : Is Try.prog 5 (c_caesuralaw18_PathMarked 8 9 21 12 20 22 18 14) [6] 3 := ⟨Try.f5, Try.f5.body.getD .skip, Try.func5, by kernel_rfl, by kernel_rfl, by kernel_rfl, by kernel_rfl, by rw [Try.ntmps5]; decide⟩
theorem is12 : Is Try.prog 12 (c_path_Marked 25 26 27 28 29 19 30) [2, 3, 4] 1 := ⟨Try.f12, Try.f12.body.getD .skip, Try.func12, by kernel_rfl, by kernel_rfl, by kernel_rfl, by kernel_rfl, by rw [Try.ntmps12]; decide⟩
theorem isc26 : IsC Try.prog 26 c_path_phased [.c 2 (some 2)] 1 := ⟨Try.f26, Try.f26.body.getD .skip, Try.func26, by kernel_rfl, by kernel_rfl, by kernel_rfl, by kernel_rfl, by rw [Try.ntmps26]; decide⟩
theorem cPhased (d : Det) (R : RightD d) : PureC Try.prog 26 [encDet d] (encGr (pg d)) := isc26.pure hmix rfl (path_phased_body d R)
theorem cMarked (d : Det) (ok : DetOk d) : PureC Try.prog 12 [encDet d] (.tup [encIs (markS d), Go.Rf.encI (markP d), encB (markOk d)]) :=
  is12.pure hmix rfl (path_Marked_body hSort hComp d (cDetRight d ok) (cPhased d) (fun R => cGraphFar _ (pgOk R)) (fun s p hs => ⟨cWrite s p hs, cWriteN s p hs⟩) (fun l hl => cDetAccepts d ok l hl))
def In8 (n : Int) : Prop := IntKind.u8.min ≤ n ∧ n ≤ IntKind.u8.max
theorem contract (d : Det) (l : List Int) (pl : Int) (hd : goodDet d) (_ : goodIs l) (hp : In8 pl) : PureC Try.prog 5 [encDet d, encIs l, .v (.int .u8 pl)] (encB true) := by
  have hp' : 0 ≤ pl ∧ pl ≤ 255 := hp
  obtain ⟨n, rfl⟩ : ∃ n : Nat, pl = n := ⟨pl.toNat, by omega⟩
  exact is5.pure hmix rfl (caesuralaw18_PathMarked_body d l n (by omega) cAlive _ (cGreat d hd.ok 300 (by omega)) (cRight d hd.ok) (cMarked d hd.ok) (fun s p hs => cRefWrite s p hs) (fun l hl => cAccepts d hd.ok l hl) cRefBefore cInts)
theorem dec5 (n : Nat) : DecF Try.prog n 5 (fun n : Int => AV.v (.int .u8 n)) In8 := DecF.int (by kernel_rfl) (by kernel_rfl) n
theorem own : ownKnob Try.prog.godebug = none := by kernel_rfl
theorem laidOut : laidOutB Try.prog = true := by kernel_rfl
theorem notA25 : ∃ fs, Try.prog.underlying 25 = some (.struct fs) ∨ ∃ n e, Try.prog.underlying 25 = some (.array n e) := ⟨_, .inl under25⟩
theorem isA26 : (match Try.prog.underlying 26 with | some (.struct _) => false | some (.array _ _) => false | _ => true) = true := by kernel_rfl
theorem notA26 : (∀ fs, Try.prog.underlying 26 ≠ some (.struct fs)) ∧ ∀ n e, Try.prog.underlying 26 ≠ some (.array n e) := ⟨fun fs h => (by have := isA26; rw [h] at this; cases this), fun n e h => (by have := isA26; rw [h] at this; cases this)⟩
theorem isA5 : (match Try.prog.underlying 5 with | some (.struct _) => false | some (.array _ _) => false | _ => true) = true := by kernel_rfl
theorem notA5 : (∀ fs, Try.prog.underlying 5 ≠ some (.struct fs)) ∧ ∀ n e, Try.prog.underlying 5 ≠ some (.array n e) := ⟨fun fs h => (by have := isA5; rw [h] at this; cases this), fun n e h => (by have := isA5; rw [h] at this; cases this)⟩
set_option maxRecDepth 100000 in
theorem lifted (os : Os) (started : os.Started) (H : Type) (enc : TypeId × Value → H) :
    ReturnsInHanded {} Try.checked os 5 .any (Rows.pathMarkedSpec.pre6 enc Try.prog Try.f5 Rows.pathMarkedRow.domain false) (Rows.pathMarkedSpec.post enc Try.prog Try.f5 false true false false) := by
  refine returnsInHanded_of_change_sized (C := Try.checked) own started (by kernel_rfl) Try.func5
    (ChangeSpec.witness6 (enc := enc) (C := Try.checked) false ⟨#[], #[.agg #[.int .i64 0, .slice none 0 0, .slice none 0 0], .slice none 0 0, .int .u8 0], []⟩ 8 (by kernel_rfl) (by kernel_rfl) (by kernel_rfl) (by kernel_rfl)) ?_
  intro W base args ds gs before hval0 hW hcnd hsz0 _
  have hsz : (DataW.weightsEach Try.prog (Try.f5.params.toList ++ Rows.pathMarkedSpec.plain.varTypes Try.prog) (ds ++ gs)).all (· ≤ reachBytes) = true := hsz0
  have hval : ∀ (j : Nat) t v, Try.f5.params[j]? = some t → args[j]? = some v → Value.okWide Try.prog W .any base t v := hval0
  have hW' := hW
  obtain ⟨p, q, hA0, hV, rfl, hfz, hnd⟩ := hW
  have hA : DataW.TrodAll enc Try.prog W 0 (fun _ => true) true Try.f5.params.toList args.toList ds p := hA0
  rw [Try.params5] at hA hval hsz
  obtain ⟨v0, vs0, d0, ds0, p0, q0, ha0, rfl, rfl, h0, r0⟩ := trodAll_cons hA
  obtain ⟨v1, vs1, d1, ds1, p1, q1, ha1, rfl, rfl, h1, r1⟩ := trodAll_cons r0
  obtain ⟨v2, vs2, d2, ds2, p2, q2, ha2, rfl, rfl, h2, r2⟩ := trodAll_cons r1
  obtain ⟨rfl, rfl, rfl⟩ := trodAll_nil r2
  obtain rfl : args = #[v0, v1, v2] := by cases args; simp_all
  obtain ⟨rfl, rfl⟩ := trodVars_none hV
  obtain ⟨x0, g0, rep0⟩ := DecF.val dec25 (hval 0 25 v0 rfl rfl) (.inl ⟨_, fun _ => rfl, notA25⟩) h0 (light_of hsz (j := 0) rfl rfl)
  have lt0 : ∀ x ∈ p0, x.block < W.heap.size := by obtain ⟨m, hm⟩ := h0; exact DataW.trod_lt m _ _ _ hm
  obtain ⟨x1, g1, rep1⟩ := DecF.val dec26 (hval 1 26 v1 rfl rfl) (.inr ⟨fun _ => rfl, notA26⟩) h1 (light_of hsz (j := 1) rfl rfl)
  have lt1 : ∀ x ∈ p1, x.block < W.heap.size := by obtain ⟨m, hm⟩ := h1; exact DataW.trod_lt m _ _ _ hm
  obtain ⟨x2, g2, rep2⟩ := DecF.val dec5 (hval 2 5 v2 rfl rfl) (.inr ⟨fun _ => rfl, notA5⟩) h2 (light_of hsz (j := 2) rfl rfl)
  have lt2 : ∀ x ∈ p2, x.block < W.heap.size := by obtain ⟨m, hm⟩ := h2; exact DataW.trod_lt m _ _ _ hm
  clear hA0 hval0 hsz0 hsz
  refine ((contract x0 x1 x2 g0 g1 g2).calls W (reps_three rep0 rep1 rep2)).mono fun e W' ⟨he, bel⟩ => ?_
  subst he
  exact ⟨_, rfl, _, _, _, [], _, [], hW', trodAll_mk1 (shut_bool Try.underlying4 _), (trod_more (Below.trod laidOut (by kernel_rfl) (of_decide_eq_true (by kernel_rfl)) h0 bel lt0) (trod_more (Below.trod laidOut (by kernel_rfl) (of_decide_eq_true (by kernel_rfl)) h1 bel lt1) (trod_more (Below.trod laidOut (by kernel_rfl) (of_decide_eq_true (by kernel_rfl)) h2 bel lt2) trod_none))), rfl, bel.frame _, fun h => by cases h⟩

theorem over : Rows.pathMarkedRow.holds Try.pinned (OpenSpec.ofChange Rows.pathMarkedSpec) :=
  OpenClaim.holds_of_wide 5 Try.f5 rfl rfl rfl rfl rfl rfl rfl ⟨rfl, rfl, rfl, rfl, rfl⟩ rfl rfl rfl rfl rfl (by kernel_rfl) Try.func5 (by kernel_rfl)
    (of_decide_eq_true (by kernel_rfl)) (by unfold Func.isWrapper; first | (rw [if_pos (by decide +kernel)]; kernel_rfl) | (rw [if_neg (by decide +kernel)]; exact ⟨rfl, rfl⟩))
    (fun os started H enc _ => lifted os started H enc)
theorem proved : Rows.PathMarkedSaid := over

end Go.Proofs.Ytgmbloldekkieaa
