/- DetMakes returns true at every net and every number, and leaves them as they were; no conditions. -/
import Derived.Test.YtpinfihfbjkijaaDoorRfH15
set_option linter.unusedVariables false
set_option linter.unusedSimpArgs false
namespace Go.Proofs.YtpinfihfbjkijaaDoor
open Go.ChangeShapes Go.WideShapes Go.ChangeAt Go.WideMaps Go.WideElems Go.RowKit Go.Rf
theorem is3 : Is Tryd.prog 3 (c_caesuralaw15_DetMakes 7 8 9 10 11 12 13 14 15) [4] 2 := ⟨Tryd.f3, Tryd.f3.body.getD .skip, Tryd.func3, by kernel_rfl, by kernel_rfl, by kernel_rfl, by kernel_rfl, by rw [Tryd.ntmps3]; decide⟩
theorem contract (n : Net) (most : Int) (g : goodNet n) (_ : In64 most) : PureC Tryd.prog 3 [encNet n, Rf.encI most] (encB true) := by
  refine is3.pureB hmix rfl (DetMakes_body n most (resD .whole n most).1 (resD .tails n most).1 (resD .heads n most).1 (resD .whole n most).2 (resD .tails n most).2 (resD .heads n most).2 cAlive (greatN n 300) (cGreatN n g.ok 300 (by omega)) (fun hg hb => ?_))
  have h := small_great (m := 300) (by omega) hg
  have h100 : RightN n → n.follow.length ≤ 100 := fun R => by have := R.len; omega
  have s : ∀ kd, PureC Tryd.prog 15 [encDet (resD kd n most).1, encDet (resD kd n most).1] (encB true) := fun kd => by
    have ok := resD_ok kd n most
    have := cSame _ _ ok ok
    rwa [sameD_refl] at this
  exact ⟨cWhole n h h100 most, cRWhole n h most, cTails n h h100 most, cRTails n h most, cHeads n h h100 most, cRHeads n h most, s _, s _, s _⟩
theorem own : ownKnob Tryd.prog.godebug = none := by kernel_rfl
theorem laidOut : laidOutB Tryd.prog = true := by kernel_rfl
theorem notA25 : ∃ fs, Tryd.prog.underlying 25 = some (.struct fs) ∨ ∃ n e, Tryd.prog.underlying 25 = some (.array n e) := by first | exact ⟨_, .inl under25⟩ | exact notS25
theorem isA3 : (match Tryd.prog.underlying 3 with | some (.struct _) => false | some (.array _ _) => false | _ => true) = true := by kernel_rfl
theorem notA3 : (∀ fs, Tryd.prog.underlying 3 ≠ some (.struct fs)) ∧ ∀ n e, Tryd.prog.underlying 3 ≠ some (.array n e) := ⟨fun fs h => (by have := isA3; rw [h] at this; cases this), fun n e h => (by have := isA3; rw [h] at this; cases this)⟩
set_option maxRecDepth 100000 in
theorem lifted (os : Os) (started : os.Started) (H : Type) (enc : TypeId × Value → H) :
    ReturnsInHanded {} Tryd.checked os 3 .any (fun w args => (Rows.detMakesSpec.pre enc Tryd.prog Tryd.f3 [] false w args ∧ laidMetH Tryd.prog laidL w) ∧ sizedMet enc Tryd.prog Tryd.f3 (OpenSpec.ofChange Rows.detMakesSpec) false w args) (Rows.detMakesSpec.post enc Tryd.prog Tryd.f3 false true false false) := by
  refine returnsInHanded_of_change_and (C := Tryd.checked) (X := fun w _ => laidMetH Tryd.prog laidL w) (fun _ _ _ hh h => h.of_heap hh) own started (by kernel_rfl) Tryd.func3
    (ChangeSpec.witness_shaped (enc := enc) (C := Tryd.checked) (os := os) (X := fun w _ => laidMetH Tryd.prog laidL w) false (World.doorLaid Tryd.prog 400 os) #[.agg #[.int .i64 0, .slice none 0 0, .slice none 0 0, .slice none 0 0], .int .i64 0] 8 rfl (World.shaped_of_RefB (by kernel_rfl) (by kernel_rfl)) (by kernel_rfl) (by kernel_rfl) (by kernel_rfl) (door_met os _)) ?_
  intro W base args ds gs before hval0 hW hcnd hsz0 _ _
  have hsz : (DataW.weightsEach Tryd.prog (Tryd.f3.params.toList ++ Rows.detMakesSpec.plain.varTypes Tryd.prog) (ds ++ gs)).all (· ≤ reachBytes) = true := hsz0
  have hval : ∀ (j : Nat) t v, Tryd.f3.params[j]? = some t → args[j]? = some v → Value.okWide Tryd.prog W .any base t v := hval0
  have hW' := hW
  obtain ⟨p, q, hA0, hV, rfl, hfz, hnd⟩ := hW
  have hA : DataW.TrodAll enc Tryd.prog W 0 (fun _ => true) true Tryd.f3.params.toList args.toList ds p := hA0
  rw [Tryd.params3] at hA hval hsz
  obtain ⟨v0, vs0, d0, ds0, p0, q0, ha0, rfl, rfl, h0, r0⟩ := trodAll_cons hA
  obtain ⟨v1, vs1, d1, ds1, p1, q1, ha1, rfl, rfl, h1, r1⟩ := trodAll_cons r0
  obtain ⟨rfl, rfl, rfl⟩ := trodAll_nil r1
  obtain rfl : args = #[v0, v1] := by cases args; simp_all
  obtain ⟨rfl, rfl⟩ := trodVars_none hV
  obtain ⟨x0, g0, rep0⟩ := DecF.val dec25 (hval 0 25 v0 rfl rfl) (.inl (by first | exact ⟨_, fun _ => rfl, notA25⟩ | exact ⟨_, aggE25, notA25⟩)) h0 (light_of hsz (j := 0) rfl rfl)
  have lt0 : ∀ x ∈ p0, x.block < W.heap.size := by obtain ⟨m, hm⟩ := h0; exact DataW.trod_lt m _ _ _ hm
  obtain ⟨x1, g1, rep1⟩ := DecF.val dec3 (hval 1 3 v1 rfl rfl) (.inr ⟨fun _ => rfl, notA3⟩) h1 (light_of hsz (j := 1) rfl rfl)
  have lt1 : ∀ x ∈ p1, x.block < W.heap.size := by obtain ⟨m, hm⟩ := h1; exact DataW.trod_lt m _ _ _ hm
  clear hA0 hval0 hsz0 hsz
  refine ((contract x0 x1 g0 g1).calls W (reps_two rep0 rep1)).mono fun e W' ⟨he, bel⟩ => ?_
  subst he
  exact ⟨_, rfl, _, _, _, [], _, [], hW', trodAll_mk1 (shut_bool Tryd.underlying4 _), (trod_more (Below.trod laidOut (by kernel_rfl) (of_decide_eq_true (by kernel_rfl)) h0 bel lt0) (trod_more (Below.trod laidOut (by kernel_rfl) (of_decide_eq_true (by kernel_rfl)) h1 bel lt1) trod_none)), rfl, bel.frame _, fun h => by cases h⟩
theorem over : Rows.detMakesRow.holds Tryd.pinned (OpenSpec.ofChange Rows.detMakesSpec) :=
  OpenClaim.holds_of_wide 3 Tryd.f3 rfl rfl rfl rfl rfl rfl rfl ⟨rfl, rfl, rfl, rfl, rfl⟩ rfl rfl rfl rfl rfl (by kernel_rfl) Tryd.func3 (by kernel_rfl)
    (of_decide_eq_true (by kernel_rfl)) (by unfold Func.isWrapper; first | (rw [if_pos (by decide +kernel)]; kernel_rfl) | (rw [if_neg (by decide +kernel)]; exact ⟨rfl, rfl⟩))
    (fun os started H enc _ => lifted os started H enc)
theorem proved : Rows.DetMakesSaid := over
theorem card : Rows.DetMakesCardSaid :=
  Claim7.holds_tied_plain_at .later [] [.data, .data, .data] true (true, "2b4b19bb67babe38748917aaafddf6b346a8e9c9196d556732f803335c0c48f8") true
    over (fun _ h => by cases h) (by kernel_rfl) (fun _ h => by cases h) detMakes_row_tie rfl ⟨rfl, rfl⟩ (by kernel_rfl) rfl
    (fun f fn hf hfn => by
      obtain rfl : f = 3 := Option.some.inj ((show Tryd.prog.funcNamed Rows.detMakesRow.func = some 3 by kernel_rfl).symm.trans hf) |>.symm
      obtain rfl : fn = Tryd.f3 := (Option.some.inj (Tryd.func3.symm.trans hfn)).symm
      exact ⟨by kernel_rfl, fun j t ht => by
        rw [Tryd.params3] at ht
        have hm : t ∈ [25, 3] := by simpa using Array.mem_of_getElem? ht
        have hall : ([25, 3].all fun u => !Tryd.prog.wantsStandIn u) = true := by kernel_rfl
        exact (show Tryd.prog.wantsStandIn t = false by simpa using List.all_eq_true.1 hall t hm)⟩)
    (by kernel_rfl)
end Go.Proofs.YtpinfihfbjkijaaDoor

