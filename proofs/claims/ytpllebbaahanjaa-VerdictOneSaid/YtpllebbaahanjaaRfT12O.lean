/- VerdictOne returns true at every book and list, and leaves them as they were; no conditions. -/
import Derived.Test.YtpllebbaahanjaaRfC12
set_option linter.unusedVariables false
set_option linter.unusedSimpArgs false
namespace Go.Proofs.Ytpllebbaahanjaa
open Go.ChangeShapes Go.WideShapes Go.ChangeAt Go.RowKit Go.Rf

theorem is3 : Is Try.prog 3 (c_caesuralaw12_VerdictOne 6 7 8 9 10 11) [4] 2 := ⟨Try.f3, Try.f3.body.getD .skip, Try.func3, by kernel_rfl, by kernel_rfl, by kernel_rfl, by kernel_rfl, by rw [Try.ntmps3]; decide⟩
theorem contract (x : Book) (l : List Int) (g : okBook x) (_ : goodIs l) : PureC Try.prog 3 [encBook x, encIs l] (encB true) := by
  have gd := g.good
  refine is3.pure hmix rfl (VerdictOne_body x.bk x.ok l cAlive (great09 x 300) (cGreat x gd 300 (by omega)) (fun hg hl hx => ?_))
  have hs := small_of (by omega) gd hg
  have hx' : Len x.bk.rules := gd.r.1
  have hl' : l.length ≤ 10000 := by omega
  exact ⟨cCuts x.bk x.ok hs hx' l hl', fun i => cDecides x.bk x.ok hs hx' l hl' i, fun r hr i => cMatches r (hs r hr).1 (hs r hr).2 l hl' i, fun i => cCut x.bk x.ok hs hx' l hl' i⟩
theorem own : ownKnob Try.prog.godebug = none := by kernel_rfl
theorem laidOut : laidOutB Try.prog = true := by kernel_rfl
theorem notA27 : ∃ fs, Try.prog.underlying 27 = some (.struct fs) ∨ ∃ n e, Try.prog.underlying 27 = some (.array n e) := by first | exact ⟨_, .inl under27⟩ | exact notS27
theorem isA28 : (match Try.prog.underlying 28 with | some (.struct _) => false | some (.array _ _) => false | _ => true) = true := by kernel_rfl
theorem notA28 : (∀ fs, Try.prog.underlying 28 ≠ some (.struct fs)) ∧ ∀ n e, Try.prog.underlying 28 ≠ some (.array n e) := ⟨fun fs h => (by have := isA28; rw [h] at this; cases this), fun n e h => (by have := isA28; rw [h] at this; cases this)⟩
set_option maxRecDepth 100000 in
theorem lifted (os : Os) (started : os.Started) (H : Type) (enc : TypeId × Value → H) :
    ReturnsInHanded {} Try.checked os 3 .any (Rows.verdictOneSpec.pre6 enc Try.prog Try.f3 Rows.verdictOneRow.domain false) (Rows.verdictOneSpec.post enc Try.prog Try.f3 false true false false) := by
  refine returnsInHanded_of_change_sized (C := Try.checked) own started (by kernel_rfl) Try.func3
    (ChangeSpec.witness6 (enc := enc) (C := Try.checked) false ⟨#[], #[.agg #[.slice none 0 0, .slice none 0 0, .slice none 0 0, .slice none 0 0], .slice none 0 0], []⟩ 8 (by kernel_rfl) (by kernel_rfl) (by kernel_rfl) (by kernel_rfl)) ?_
  intro W base args ds gs before hval0 hW hcnd hsz0 _
  have hsz : (DataW.weightsEach Try.prog (Try.f3.params.toList ++ Rows.verdictOneSpec.plain.varTypes Try.prog) (ds ++ gs)).all (· ≤ reachBytes) = true := hsz0
  have hval : ∀ (j : Nat) t v, Try.f3.params[j]? = some t → args[j]? = some v → Value.okWide Try.prog W .any base t v := hval0
  have hW' := hW
  obtain ⟨p, q, hA0, hV, rfl, hfz, hnd⟩ := hW
  have hA : DataW.TrodAll enc Try.prog W 0 (fun _ => true) true Try.f3.params.toList args.toList ds p := hA0
  rw [Try.params3] at hA hval hsz
  obtain ⟨v0, vs0, d0, ds0, p0, q0, ha0, rfl, rfl, h0, r0⟩ := trodAll_cons hA
  obtain ⟨v1, vs1, d1, ds1, p1, q1, ha1, rfl, rfl, h1, r1⟩ := trodAll_cons r0
  obtain ⟨rfl, rfl, rfl⟩ := trodAll_nil r1
  obtain rfl : args = #[v0, v1] := by cases args; simp_all
  obtain ⟨rfl, rfl⟩ := trodVars_none hV
  obtain ⟨x0, g0, rep0⟩ := DecF.val dec27 (hval 0 27 v0 rfl rfl) (.inl ⟨_, fun _ => rfl, notA27⟩) h0 (light_of hsz (j := 0) rfl rfl)
  have lt0 : ∀ x ∈ p0, x.block < W.heap.size := by obtain ⟨m, hm⟩ := h0; exact DataW.trod_lt m _ _ _ hm
  obtain ⟨x1, g1, rep1⟩ := DecF.val dec28 (hval 1 28 v1 rfl rfl) (.inr ⟨fun _ => rfl, notA28⟩) h1 (light_of hsz (j := 1) rfl rfl)
  have lt1 : ∀ x ∈ p1, x.block < W.heap.size := by obtain ⟨m, hm⟩ := h1; exact DataW.trod_lt m _ _ _ hm
  clear hA0 hval0 hsz0 hsz
  refine ((contract x0 x1 g0 g1).calls W (reps_two rep0 rep1)).mono fun e W' ⟨he, bel⟩ => ?_
  subst he
  exact ⟨_, rfl, _, _, _, [], _, [], hW', trodAll_mk1 (shut_bool Try.underlying4 _), (trod_more (Below.trod laidOut (by kernel_rfl) (of_decide_eq_true (by kernel_rfl)) h0 bel lt0) (trod_more (Below.trod laidOut (by kernel_rfl) (of_decide_eq_true (by kernel_rfl)) h1 bel lt1) trod_none)), rfl, bel.frame _, fun h => by cases h⟩
theorem over : Rows.verdictOneRow.holds Try.pinned (OpenSpec.ofChange Rows.verdictOneSpec) :=
  OpenClaim.holds_of_wide 3 Try.f3 rfl rfl rfl rfl rfl rfl rfl ⟨rfl, rfl, rfl, rfl, rfl⟩ rfl rfl rfl rfl rfl (by kernel_rfl) Try.func3 (by kernel_rfl)
    (of_decide_eq_true (by kernel_rfl)) (by unfold Func.isWrapper; first | (rw [if_pos (by decide +kernel)]; kernel_rfl) | (rw [if_neg (by decide +kernel)]; exact ⟨rfl, rfl⟩))
    (fun os started H enc _ => lifted os started H enc)
theorem proved : Rows.VerdictOneSaid := over
end Go.Proofs.Ytpllebbaahanjaa

