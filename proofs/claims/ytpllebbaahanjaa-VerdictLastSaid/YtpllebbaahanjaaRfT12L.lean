/- VerdictLast returns true at every book, list and truth value, and leaves them as they were; no conditions. -/
import Derived.Test.YtpllebbaahanjaaRfD12
set_option linter.unusedVariables false
set_option linter.unusedSimpArgs false
namespace Go.Proofs.Ytpllebbaahanjaa
open Go.ChangeShapes Go.WideShapes Go.ChangeAt Go.RowKit Go.Rf

theorem is5 : Is Try.prog 5 (c_caesuralaw12_VerdictLast 6 7 9 11) [6] 3 := ⟨Try.f5, Try.f5.body.getD .skip, Try.func5, by kernel_rfl, by kernel_rfl, by kernel_rfl, by kernel_rfl, by rw [Try.ntmps5]; decide⟩
theorem contract (x : Book) (l : List Int) (c : Bool) (g : okBook x) (_ : goodIs l) (_ : True) : PureC Try.prog 5 [encBook x, encIs l, encB c] (encB true) := by
  have gd := g.good
  refine is5.pure hmix rfl (VerdictLast_body x.bk x.ok l c cAlive (great09 x 300) (cGreat x gd 300 (by omega)) (fun hg hl hx y hy i => ?_))
  have hs := small_of (by omega) gd hg
  have hl' : l.length ≤ 10000 := by omega
  rcases hy with rfl | rfl
  · have hx' : Len x.bk.rules := gd.r.1
    exact ⟨cDecides x.bk x.ok hs hx' l hl' i, cCut x.bk x.ok hs hx' l hl' i⟩
  · have hx' : Len (lastB x.bk c).rules := by unfold Len; simp [lastB]; omega
    exact ⟨cDecides _ (lastB_ok x.ok _) (small_last hs _) hx' l hl' i, cCut _ (lastB_ok x.ok _) (small_last hs _) hx' l hl' i⟩
theorem own : ownKnob Try.prog.godebug = none := by kernel_rfl
theorem laidOut : laidOutB Try.prog = true := by kernel_rfl
theorem notA27 : ∃ fs, Try.prog.underlying 27 = some (.struct fs) ∨ ∃ n e, Try.prog.underlying 27 = some (.array n e) := by first | exact ⟨_, .inl under27⟩ | exact notS27
theorem isA28 : (match Try.prog.underlying 28 with | some (.struct _) => false | some (.array _ _) => false | _ => true) = true := by kernel_rfl
theorem notA28 : (∀ fs, Try.prog.underlying 28 ≠ some (.struct fs)) ∧ ∀ n e, Try.prog.underlying 28 ≠ some (.array n e) := ⟨fun fs h => (by have := isA28; rw [h] at this; cases this), fun n e h => (by have := isA28; rw [h] at this; cases this)⟩
theorem isA4 : (match Try.prog.underlying 4 with | some (.struct _) => false | some (.array _ _) => false | _ => true) = true := by kernel_rfl
theorem notA4 : (∀ fs, Try.prog.underlying 4 ≠ some (.struct fs)) ∧ ∀ n e, Try.prog.underlying 4 ≠ some (.array n e) := ⟨fun fs h => (by have := isA4; rw [h] at this; cases this), fun n e h => (by have := isA4; rw [h] at this; cases this)⟩
set_option maxRecDepth 100000 in
theorem lifted (os : Os) (started : os.Started) (H : Type) (enc : TypeId × Value → H) :
    ReturnsInHanded {} Try.checked os 5 .any (Rows.verdictLastSpec.pre6 enc Try.prog Try.f5 Rows.verdictLastRow.domain false) (Rows.verdictLastSpec.post enc Try.prog Try.f5 false true false false) := by
  refine returnsInHanded_of_change_sized (C := Try.checked) own started (by kernel_rfl) Try.func5
    (ChangeSpec.witness6 (enc := enc) (C := Try.checked) false ⟨#[], #[.agg #[.slice none 0 0, .slice none 0 0, .slice none 0 0, .slice none 0 0], .slice none 0 0, .bool false], []⟩ 8 (by kernel_rfl) (by kernel_rfl) (by kernel_rfl) (by kernel_rfl)) ?_
  intro W base args ds gs before hval0 hW hcnd hsz0 _
  have hsz : (DataW.weightsEach Try.prog (Try.f5.params.toList ++ Rows.verdictLastSpec.plain.varTypes Try.prog) (ds ++ gs)).all (· ≤ reachBytes) = true := hsz0
  have hval : ∀ (j : Nat) t v, Try.f5.params[j]? = some t → args[j]? = some v → Value.okWide Try.prog W .any base t v := hval0
  have hW' := hW
  obtain ⟨p, q, hA0, hV, rfl, hfz, hnd⟩ := hW
  have hA : DataW.TrodAll enc Try.prog W 0 (fun _ => true) true Try.f5.params.toList args.toList ds p := hA0
  rw [Try.params5] at hA hval hsz
  obtain ⟨v0, vs0, d0, ds0, p0, q0, ha0, rfl, rfl, h0, r0⟩ := trodAll_cons hA
  obtain ⟨v1, vs1, d1, ds1, p1, q1, ha1, rfl, rfl, h1, r1⟩ := trodAll_cons r0
  obtain ⟨v2, vs2, d2, ds2, p2, q2, ha2, rfl, rfl, h2, r2⟩ := trodAll_cons r1
  obtain ⟨rfl, rfl, rfl⟩ := trodAll_nil r2
  obtain rfl : args = #[v0, v1, v2] := by cases args; simp_all
  obtain ⟨rfl, rfl⟩ := trodVars_none hV
  obtain ⟨x0, g0, rep0⟩ := DecF.val dec27 (hval 0 27 v0 rfl rfl) (.inl ⟨_, fun _ => rfl, notA27⟩) h0 (light_of hsz (j := 0) rfl rfl)
  have lt0 : ∀ x ∈ p0, x.block < W.heap.size := by obtain ⟨m, hm⟩ := h0; exact DataW.trod_lt m _ _ _ hm
  obtain ⟨x1, g1, rep1⟩ := DecF.val dec28 (hval 1 28 v1 rfl rfl) (.inr ⟨fun _ => rfl, notA28⟩) h1 (light_of hsz (j := 1) rfl rfl)
  have lt1 : ∀ x ∈ p1, x.block < W.heap.size := by obtain ⟨m, hm⟩ := h1; exact DataW.trod_lt m _ _ _ hm
  obtain ⟨x2, g2, rep2⟩ := DecF.val dec4 (hval 2 4 v2 rfl rfl) (.inr ⟨fun _ => rfl, notA4⟩) h2 (light_of hsz (j := 2) rfl rfl)
  have lt2 : ∀ x ∈ p2, x.block < W.heap.size := by obtain ⟨m, hm⟩ := h2; exact DataW.trod_lt m _ _ _ hm
  clear hA0 hval0 hsz0 hsz
  refine ((contract x0 x1 x2 g0 g1 g2).calls W (reps_three rep0 rep1 rep2)).mono fun e W' ⟨he, bel⟩ => ?_
  subst he
  exact ⟨_, rfl, _, _, _, [], _, [], hW', trodAll_mk1 (shut_bool Try.underlying4 _), (trod_more (Below.trod laidOut (by kernel_rfl) (of_decide_eq_true (by kernel_rfl)) h0 bel lt0) (trod_more (Below.trod laidOut (by kernel_rfl) (of_decide_eq_true (by kernel_rfl)) h1 bel lt1) (trod_more (Below.trod laidOut (by kernel_rfl) (of_decide_eq_true (by kernel_rfl)) h2 bel lt2) trod_none))), rfl, bel.frame _, fun h => by cases h⟩
theorem over : Rows.verdictLastRow.holds Try.pinned (OpenSpec.ofChange Rows.verdictLastSpec) :=
  OpenClaim.holds_of_wide 5 Try.f5 rfl rfl rfl rfl rfl rfl rfl ⟨rfl, rfl, rfl, rfl, rfl⟩ rfl rfl rfl rfl rfl (by kernel_rfl) Try.func5 (by kernel_rfl)
    (of_decide_eq_true (by kernel_rfl)) (by unfold Func.isWrapper; first | (rw [if_pos (by decide +kernel)]; kernel_rfl) | (rw [if_neg (by decide +kernel)]; exact ⟨rfl, rfl⟩))
    (fun os started H enc _ => lifted os started H enc)
theorem proved : Rows.VerdictLastSaid := over
end Go.Proofs.Ytpllebbaahanjaa

