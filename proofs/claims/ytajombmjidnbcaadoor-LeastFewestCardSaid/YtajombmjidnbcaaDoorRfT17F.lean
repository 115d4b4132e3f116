/- LeastFewest returns true at every automaton and every list, and leaves them as they were; no conditions. -/
import Derived.Test.YtajombmjidnbcaaDoorRfM17
import Derived.Test.YtajombmjidnbcaaDoorRfP8
set_option linter.unusedVariables false
set_option linter.unusedSimpArgs false
namespace Go.Proofs.YtajombmjidnbcaaDoor
open Go.ChangeShapes Go.WideShapes Go.ChangeAt Go.WideMaps Go.WideElems Go.RowKit Go.Rf
theorem is4 : Is Tryd.prog 4 (c_caesuralaw17_LeastFewest 8 9 10 20 12 21 22) [4] 2 := ⟨Tryd.f4, Tryd.f4.body.getD .skip, Tryd.func4, by kernel_rfl, by kernel_rfl, by kernel_rfl, by kernel_rfl, by rw [Tryd.ntmps4]; decide⟩
theorem is39 : Is Tryd.prog 39 (c_caesuraref16_Reached) [2] 1 := ⟨Tryd.f39, Tryd.f39.body.getD .skip, Tryd.func39, by kernel_rfl, by kernel_rfl, by kernel_rfl, by kernel_rfl, by rw [Tryd.ntmps39]; decide⟩
theorem sameD_self (d : Det) : sameD d d = true := by simp [sameD]
theorem cReached {d : Det} (R : RightD d) : PureC Tryd.prog 39 [encDet d] (encBs (reachB d)) := is39.pureB hmix rfl (Reached_body R)
theorem cAll {d : Det} (R : RightD d) : PureC Tryd.prog 36 [encDet d] (encB ((reachB d).all id)) := is36.pureB hmix rfl (reached_body (cReached R) (by rw [reachB_len]; have := R.n2; omega))
theorem contract (d : Det) (l : List Int) (g : goodDet d) (gl : goodIs l) : PureC Tryd.prog 4 [encDet d, encIs l] (encB true) := by
  refine is4.pureB hmix rfl (LeastFewest_body d l _ cAlive (cGreat d g.ok 250 (by omega)) (cOf d g.ok) (fun _ hb => ?_) (fun hl R => ?_))
  · have := cRight d g.ok
    rwa [hb] at this
  · have D := (leastD_ok R).1
    have oL := rightD_ok D
    have hL : Len l := by unfold Len; omega
    have n2 := D.n2
    have n1 := D.n1
    have rL : rightD (leastD d) = true := (right_iff _).mpr D
    refine ⟨?_, ?_, ?_, ?_, _, cAccepts _ oL l hL, ?_⟩
    · have := cOf (leastD d) oL
      rwa [show lstZ (leastD d) = (leastD d, 0) by rw [lstZ, if_pos rL, least_idem R]] at this
    · have := cRight _ oL
      rwa [rL] at this
    · have := cSame _ _ oL oL
      rwa [sameD_self] at this
    · have hc := cClasses17 (leastD d) oL
      rw [if_pos rL, least_cls R] at hc
      have hf := is21.pureB hmix rfl (Fewest_body (r := true) hc (by rw [idL_len]; omega) (fun _ _ => by
        have := cAll D
        rwa [least_reachB R] at this))
      have hfe : fewD (idL (leastD d).next.length) true = true := by
        unfold fewD
        rw [idL_len, decide_eq_true rfl, decide_eq_true (by omega)]; rfl
      rwa [hfe] at hf
    · have := cAccepts d g.ok l hL
      rwa [← least_acc R l] at this
theorem own : ownKnob Tryd.prog.godebug = none := by kernel_rfl
theorem laidOut : laidOutB Tryd.prog = true := by kernel_rfl
theorem notA25 : ∃ fs, Tryd.prog.underlying 25 = some (.struct fs) ∨ ∃ n e, Tryd.prog.underlying 25 = some (.array n e) := by first | exact ⟨_, .inl under25⟩ | exact notS25
theorem isA34 : (match Tryd.prog.underlying 34 with | some (.struct _) => false | some (.array _ _) => false | _ => true) = true := by kernel_rfl
theorem notA34 : (∀ fs, Tryd.prog.underlying 34 ≠ some (.struct fs)) ∧ ∀ n e, Tryd.prog.underlying 34 ≠ some (.array n e) := ⟨fun fs h => (by have := isA34; rw [h] at this; cases this), fun n e h => (by have := isA34; rw [h] at this; cases this)⟩
set_option maxRecDepth 100000 in
theorem lifted (os : Os) (started : os.Started) (H : Type) (enc : TypeId × Value → H) :
    ReturnsInHanded {} Tryd.checked os 4 .any (fun w args => (Rows.leastFewestSpec.pre enc Tryd.prog Tryd.f4 [] false w args ∧ laidMetH Tryd.prog laidL w) ∧ sizedMet enc Tryd.prog Tryd.f4 (OpenSpec.ofChange Rows.leastFewestSpec) false w args) (Rows.leastFewestSpec.post enc Tryd.prog Tryd.f4 false true false false) := by
  refine returnsInHanded_of_change_and (C := Tryd.checked) (X := fun w _ => laidMetH Tryd.prog laidL w) (fun _ _ _ hh h => h.of_heap hh) own started (by kernel_rfl) Tryd.func4
    (ChangeSpec.witness_shaped (enc := enc) (C := Tryd.checked) (os := os) (X := fun w _ => laidMetH Tryd.prog laidL w) false (World.doorLaid Tryd.prog 400 os) #[.agg #[.int .i64 0, .slice none 0 0, .slice none 0 0], .slice none 0 0] 8 rfl (World.shaped_of_RefB (by kernel_rfl) (by kernel_rfl)) (by kernel_rfl) (by kernel_rfl) (by kernel_rfl) (door_met os _)) ?_
  intro W base args ds gs before hval0 hW hcnd hsz0 hlaid _
  have hsz : (DataW.weightsEach Tryd.prog (Tryd.f4.params.toList ++ Rows.leastFewestSpec.plain.varTypes Tryd.prog) (ds ++ gs)).all (· ≤ reachBytes) = true := hsz0
  have hval : ∀ (j : Nat) t v, Tryd.f4.params[j]? = some t → args[j]? = some v → Value.okWide Tryd.prog W .any base t v := hval0
  have hW' := hW
  obtain ⟨p, q, hA0, hV, rfl, hfz, hnd⟩ := hW
  have hA : DataW.TrodAll enc Tryd.prog W 0 (fun _ => true) true Tryd.f4.params.toList args.toList ds p := hA0
  rw [Tryd.params4] at hA hval hsz
  obtain ⟨v0, vs0, d0, ds0, p0, q0, ha0, rfl, rfl, h0, r0⟩ := trodAll_cons hA
  obtain ⟨v1, vs1, d1, ds1, p1, q1, ha1, rfl, rfl, h1, r1⟩ := trodAll_cons r0
  obtain ⟨rfl, rfl, rfl⟩ := trodAll_nil r1
  obtain rfl : args = #[v0, v1] := by cases args; simp_all
  obtain ⟨rfl, rfl⟩ := trodVars_none hV
  obtain ⟨x0, g0, rep0⟩ := DecF.val dec25 (hval 0 25 v0 rfl rfl) (.inl (by first | exact ⟨_, fun _ => rfl, notA25⟩ | exact ⟨_, aggE25, notA25⟩)) h0 (light_of hsz (j := 0) rfl rfl)
  have lt0 : ∀ x ∈ p0, x.block < W.heap.size := by obtain ⟨m, hm⟩ := h0; exact DataW.trod_lt m _ _ _ hm
  obtain ⟨x1, g1, rep1⟩ := DecF.val dec34 (hval 1 34 v1 rfl rfl) (.inr ⟨fun _ => rfl, notA34⟩) h1 (light_of hsz (j := 1) rfl rfl)
  have lt1 : ∀ x ∈ p1, x.block < W.heap.size := by obtain ⟨m, hm⟩ := h1; exact DataW.trod_lt m _ _ _ hm
  clear hA0 hval0 hsz0 hsz
  refine ((contract x0 x1 g0 g1).calls W (gamL W hlaid) (reps_two rep0 rep1)).mono fun e W' ⟨he, bel⟩ => ?_
  subst he
  exact ⟨_, rfl, _, _, _, [], _, [], hW', trodAll_mk1 (shut_bool Tryd.underlying4 _), (trod_more (Below.trod laidOut (by kernel_rfl) (of_decide_eq_true (by kernel_rfl)) h0 bel lt0) (trod_more (Below.trod laidOut (by kernel_rfl) (of_decide_eq_true (by kernel_rfl)) h1 bel lt1) trod_none)), rfl, bel.frame _, fun h => by cases h⟩
theorem over : Rows.leastFewestRow.holds Tryd.pinned (OpenSpec.ofChange Rows.leastFewestSpec) :=
  OpenClaim.holds_of_wide 4 Tryd.f4 rfl rfl rfl rfl rfl rfl rfl ⟨rfl, rfl, rfl, rfl, rfl⟩ rfl rfl rfl rfl rfl (by kernel_rfl) Tryd.func4 (by kernel_rfl)
    (of_decide_eq_true (by kernel_rfl)) (by unfold Func.isWrapper; first | (rw [if_pos (by decide +kernel)]; kernel_rfl) | (rw [if_neg (by decide +kernel)]; exact ⟨rfl, rfl⟩))
    (fun os started H enc _ => lifted os started H enc)
theorem proved : Rows.LeastFewestSaid := over
theorem card : Rows.LeastFewestCardSaid :=
  Claim7.holds_tied_plain_at .later [] [.data, .data, .data] true (true, "ae66535208fa19ffdd18fac6c6788e4672e48aa895e2d776df91a5a39125b4ce") false
    over (fun _ h => by cases h) (by kernel_rfl) (fun _ h => by cases h) leastFewest_row_tie rfl ⟨rfl, rfl⟩ (by kernel_rfl) rfl
    (fun f fn hf hfn => by
      obtain rfl : f = 4 := Option.some.inj ((show Tryd.prog.funcNamed Rows.leastFewestRow.func = some 4 by kernel_rfl).symm.trans hf) |>.symm
      obtain rfl : fn = Tryd.f4 := (Option.some.inj (Tryd.func4.symm.trans hfn)).symm
      exact ⟨by kernel_rfl, fun j t ht => by
        rw [Tryd.params4] at ht
        have hm : t ∈ [25, 34] := by simpa using Array.mem_of_getElem? ht
        have hall : ([25, 34].all fun u => !Tryd.prog.wantsStandIn u) = true := by kernel_rfl
        exact (show Tryd.prog.wantsStandIn t = false by simpa using List.all_eq_true.1 hall t hm)⟩)
    (by kernel_rfl)
end Go.Proofs.YtajombmjidnbcaaDoor

