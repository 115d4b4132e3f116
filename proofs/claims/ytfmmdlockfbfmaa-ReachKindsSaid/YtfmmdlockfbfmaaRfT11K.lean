/- ReachKinds returns true at every two forms and list, and leaves them as they were; no conditions. -/
import Derived.Test.YtfmmdlockfbfmaaRfC11
set_option linter.unusedVariables false
set_option linter.unusedSimpArgs false
namespace Go.Proofs.Ytfmmdlockfbfmaa
open Go.ChangeShapes Go.WideShapes Go.ChangeAt Go.RowKit Go.Rf

theorem is4 : Is Try.prog 4 (c_caesuralaw11_ReachKinds 6 7 12) [6] 3 := ⟨Try.f4, Try.f4.body.getD .skip, Try.func4, by kernel_rfl, by kernel_rfl, by kernel_rfl, by kernel_rfl, by rw [Try.ntmps4]; decide⟩
theorem contract (p q : Pat) (l : List Int) (g : okP p) (gq : okP q) (_ : goodIs l) : PureC Try.prog 4 [encPat p, encPat q, encIs l] (encB true) := by
  refine is4.pure hmix rfl (ReachKinds_body p q l cAlive (wgtP p 0) (wgtP q 0) (cWeight p g.good) (cWeight q gq.good) (fun hw hu hl r hr a b => ?_))
  have hp := small_of g.good (by omega)
  have hq := small_of gq.good (by omega)
  refine cMat r ?_ l (by omega) a b
  simp only [List.mem_cons, List.not_mem_nil, or_false] at hr
  rcases hr with rfl | rfl | rfl | rfl | rfl | rfl | rfl | rfl
  · exact hp
  · exact hq
  all_goals simp [PatS, PatsS, hp, hq]
theorem own : ownKnob Try.prog.godebug = none := by kernel_rfl
theorem laidOut : laidOutB Try.prog = true := by kernel_rfl
theorem notA26 : ∃ fs, Try.prog.underlying 26 = some (.struct fs) ∨ ∃ n e, Try.prog.underlying 26 = some (.array n e) := by first | exact ⟨_, .inl under26⟩ | exact notS26
theorem isA23 : (match Try.prog.underlying 23 with | some (.struct _) => false | some (.array _ _) => false | _ => true) = true := by kernel_rfl
theorem notA23 : (∀ fs, Try.prog.underlying 23 ≠ some (.struct fs)) ∧ ∀ n e, Try.prog.underlying 23 ≠ some (.array n e) := ⟨fun fs h => (by have := isA23; rw [h] at this; cases this), fun n e h => (by have := isA23; rw [h] at this; cases this)⟩
set_option maxRecDepth 100000 in
theorem lifted (os : Os) (started : os.Started) (H : Type) (enc : TypeId × Value → H) :
    ReturnsInHanded {} Try.checked os 4 .any (Rows.reachKindsSpec.pre6 enc Try.prog Try.f4 Rows.reachKindsRow.domain false) (Rows.reachKindsSpec.post enc Try.prog Try.f4 false true false false) := by
  refine returnsInHanded_of_change_sized (C := Try.checked) own started (by kernel_rfl) Try.func4
    (ChangeSpec.witness6 (enc := enc) (C := Try.checked) false ⟨#[], #[.agg #[.int .i64 0, .slice none 0 0, .slice none 0 0, .slice none 0 0], .agg #[.int .i64 0, .slice none 0 0, .slice none 0 0, .slice none 0 0], .slice none 0 0], []⟩ 8 (by kernel_rfl) (by kernel_rfl) (by kernel_rfl) (by kernel_rfl)) ?_
  intro W base args ds gs before hval0 hW hcnd hsz0 _
  have hsz : (DataW.weightsEach Try.prog (Try.f4.params.toList ++ Rows.reachKindsSpec.plain.varTypes Try.prog) (ds ++ gs)).all (· ≤ reachBytes) = true := hsz0
  have hval : ∀ (j : Nat) t v, Try.f4.params[j]? = some t → args[j]? = some v → Value.okWide Try.prog W .any base t v := hval0
  have hW' := hW
  obtain ⟨p, q, hA0, hV, rfl, hfz, hnd⟩ := hW
  have hA : DataW.TrodAll enc Try.prog W 0 (fun _ => true) true Try.f4.params.toList args.toList ds p := hA0
  rw [Try.params4] at hA hval hsz
  obtain ⟨v0, vs0, d0, ds0, p0, q0, ha0, rfl, rfl, h0, r0⟩ := trodAll_cons hA
  obtain ⟨v1, vs1, d1, ds1, p1, q1, ha1, rfl, rfl, h1, r1⟩ := trodAll_cons r0
  obtain ⟨v2, vs2, d2, ds2, p2, q2, ha2, rfl, rfl, h2, r2⟩ := trodAll_cons r1
  obtain ⟨rfl, rfl, rfl⟩ := trodAll_nil r2
  obtain rfl : args = #[v0, v1, v2] := by cases args; simp_all
  obtain ⟨rfl, rfl⟩ := trodVars_none hV
  obtain ⟨x0, g0, rep0⟩ := DecF.val dec26 (hval 0 26 v0 rfl rfl) (.inl (by first | exact ⟨_, fun _ => rfl, notA26⟩ | exact ⟨_, aggE26, notA26⟩)) h0 (light_of hsz (j := 0) rfl rfl)
  have lt0 : ∀ x ∈ p0, x.block < W.heap.size := by obtain ⟨m, hm⟩ := h0; exact DataW.trod_lt m _ _ _ hm
  obtain ⟨x1, g1, rep1⟩ := DecF.val dec26 (hval 1 26 v1 rfl rfl) (.inl (by first | exact ⟨_, fun _ => rfl, notA26⟩ | exact ⟨_, aggE26, notA26⟩)) h1 (light_of hsz (j := 1) rfl rfl)
  have lt1 : ∀ x ∈ p1, x.block < W.heap.size := by obtain ⟨m, hm⟩ := h1; exact DataW.trod_lt m _ _ _ hm
  obtain ⟨x2, g2, rep2⟩ := DecF.val dec23 (hval 2 23 v2 rfl rfl) (.inr ⟨fun _ => rfl, notA23⟩) h2 (light_of hsz (j := 2) rfl rfl)
  have lt2 : ∀ x ∈ p2, x.block < W.heap.size := by obtain ⟨m, hm⟩ := h2; exact DataW.trod_lt m _ _ _ hm
  clear hA0 hval0 hsz0 hsz
  refine ((contract x0 x1 x2 g0 g1 g2).calls W (reps_three rep0 rep1 rep2)).mono fun e W' ⟨he, bel⟩ => ?_
  subst he
  exact ⟨_, rfl, _, _, _, [], _, [], hW', trodAll_mk1 (shut_bool Try.underlying4 _), (trod_more (Below.trod laidOut (by kernel_rfl) (of_decide_eq_true (by kernel_rfl)) h0 bel lt0) (trod_more (Below.trod laidOut (by kernel_rfl) (of_decide_eq_true (by kernel_rfl)) h1 bel lt1) (trod_more (Below.trod laidOut (by kernel_rfl) (of_decide_eq_true (by kernel_rfl)) h2 bel lt2) trod_none))), rfl, bel.frame _, fun h => by cases h⟩
theorem over : Rows.reachKindsRow.holds Try.pinned (OpenSpec.ofChange Rows.reachKindsSpec) :=
  OpenClaim.holds_of_wide 4 Try.f4 rfl rfl rfl rfl rfl rfl rfl ⟨rfl, rfl, rfl, rfl, rfl⟩ rfl rfl rfl rfl rfl (by kernel_rfl) Try.func4 (by kernel_rfl)
    (of_decide_eq_true (by kernel_rfl)) (by unfold Func.isWrapper; first | (rw [if_pos (by decide +kernel)]; kernel_rfl) | (rw [if_neg (by decide +kernel)]; exact ⟨rfl, rfl⟩))
    (fun os started H enc _ => lifted os started H enc)
theorem proved : Rows.ReachKindsSaid := over
end Go.Proofs.Ytfmmdlockfbfmaa

