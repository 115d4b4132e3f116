/- LeastAlone returns true at every two automata, and leaves them as they were; no conditions. -/
import Derived.Test.YtajombmjidnbcaaDoorRfN17
set_option linter.unusedVariables false
set_option linter.unusedSimpArgs false
namespace Go.Proofs.YtajombmjidnbcaaDoor
open Go.ChangeShapes Go.WideShapes Go.ChangeAt Go.WideMaps Go.WideElems Go.RowKit Go.Rf
theorem is5 : Is Tryd.prog 5 (c_caesuralaw17_LeastAlone 8 9 20 23 10 24 12 15) [4] 2 := ⟨Tryd.f5, Tryd.f5.body.getD .skip, Tryd.func5, by kernel_rfl, by kernel_rfl, by kernel_rfl, by kernel_rfl, by rw [Tryd.ntmps5]; decide⟩
theorem contract (a b : Det) (ga : goodDet a) (gb : goodDet b) : PureC Tryd.prog 5 [encDet a, encDet b] (encB true) := by
  refine is5.pureB hmix rfl (LeastAlone_body a b (prodD a b (kindM 3)) (leastD a) (leastD b) _ _ (emptyD (prodD a b (kindM 3))) cAlive (cGreat a ga.ok 200 (by omega)) (cGreat b gb.ok 200 (by omega)) (cRight a ga.ok) (cRight b gb.ok) (fun Ra Rb hs hl => ?_))
  obtain ⟨D, _⟩ := prod_ok (mk := kindM 3) Ra Rb hs (by omega)
  have hA := alone_same Ra Rb hs (by omega)
  refine ⟨cXor Ra Rb hs (by omega), cOfR Ra, cOfR Rb, cEmpty _ (rightD_ok D), ?_, ?_⟩
  · have := cSame _ _ (rightD_ok (leastD_ok Ra).1) (rightD_ok (leastD_ok Rb).1)
    rwa [hA] at this
  · have := cEqualL a b ga.ok gb.ok
    rwa [equalL, (right_iff _).mpr Ra, (right_iff _).mpr Rb, hA, Bool.true_and, Bool.true_and] at this
theorem own : ownKnob Tryd.prog.godebug = none := by kernel_rfl
theorem laidOut : laidOutB Tryd.prog = true := by kernel_rfl
theorem notA25 : ∃ fs, Tryd.prog.underlying 25 = some (.struct fs) ∨ ∃ n e, Tryd.prog.underlying 25 = some (.array n e) := by first | exact ⟨_, .inl under25⟩ | exact notS25
set_option maxRecDepth 100000 in
theorem lifted (os : Os) (started : os.Started) (H : Type) (enc : TypeId × Value → H) :
    ReturnsInHanded {} Tryd.checked os 5 .any (fun w args => (Rows.leastAloneSpec.pre enc Tryd.prog Tryd.f5 [] false w args ∧ laidMetH Tryd.prog laidL w) ∧ sizedMet enc Tryd.prog Tryd.f5 (OpenSpec.ofChange Rows.leastAloneSpec) false w args) (Rows.leastAloneSpec.post enc Tryd.prog Tryd.f5 false true false false) := by
  refine returnsInHanded_of_change_and (C := Tryd.checked) (X := fun w _ => laidMetH Tryd.prog laidL w) (fun _ _ _ hh h => h.of_heap hh) own started (by kernel_rfl) Tryd.func5
    (ChangeSpec.witness_shaped (enc := enc) (C := Tryd.checked) (os := os) (X := fun w _ => laidMetH Tryd.prog laidL w) false (World.doorLaid Tryd.prog 400 os) #[.agg #[.int .i64 0, .slice none 0 0, .slice none 0 0], .agg #[.int .i64 0, .slice none 0 0, .slice none 0 0]] 8 rfl (World.shaped_of_RefB (by kernel_rfl) (by kernel_rfl)) (by kernel_rfl) (by kernel_rfl) (by kernel_rfl) (door_met os _)) ?_
  intro W base args ds gs before hval0 hW hcnd hsz0 hlaid _
  have hsz : (DataW.weightsEach Tryd.prog (Tryd.f5.params.toList ++ Rows.leastAloneSpec.plain.varTypes Tryd.prog) (ds ++ gs)).all (· ≤ reachBytes) = true := hsz0
  have hval : ∀ (j : Nat) t v, Tryd.f5.params[j]? = some t → args[j]? = some v → Value.okWide Tryd.prog W .any base t v := hval0
  have hW' := hW
  obtain ⟨p, q, hA0, hV, rfl, hfz, hnd⟩ := hW
  have hA : DataW.TrodAll enc Tryd.prog W 0 (fun _ => true) true Tryd.f5.params.toList args.toList ds p := hA0
  rw [Tryd.params5] at hA hval hsz
  obtain ⟨v0, vs0, d0, ds0, p0, q0, ha0, rfl, rfl, h0, r0⟩ := trodAll_cons hA
  obtain ⟨v1, vs1, d1, ds1, p1, q1, ha1, rfl, rfl, h1, r1⟩ := trodAll_cons r0
  obtain ⟨rfl, rfl, rfl⟩ := trodAll_nil r1
  obtain rfl : args = #[v0, v1] := by cases args; simp_all
  obtain ⟨rfl, rfl⟩ := trodVars_none hV
  obtain ⟨x0, g0, rep0⟩ := DecF.val dec25 (hval 0 25 v0 rfl rfl) (.inl (by first | exact ⟨_, fun _ => rfl, notA25⟩ | exact ⟨_, aggE25, notA25⟩)) h0 (light_of hsz (j := 0) rfl rfl)
  have lt0 : ∀ x ∈ p0, x.block < W.heap.size := by obtain ⟨m, hm⟩ := h0; exact DataW.trod_lt m _ _ _ hm
  obtain ⟨x1, g1, rep1⟩ := DecF.val dec25 (hval 1 25 v1 rfl rfl) (.inl (by first | exact ⟨_, fun _ => rfl, notA25⟩ | exact ⟨_, aggE25, notA25⟩)) h1 (light_of hsz (j := 1) rfl rfl)
  have lt1 : ∀ x ∈ p1, x.block < W.heap.size := by obtain ⟨m, hm⟩ := h1; exact DataW.trod_lt m _ _ _ hm
  clear hA0 hval0 hsz0 hsz
  refine ((contract x0 x1 g0 g1).calls W (gamL W hlaid) (reps_two rep0 rep1)).mono fun e W' ⟨he, bel⟩ => ?_
  subst he
  exact ⟨_, rfl, _, _, _, [], _, [], hW', trodAll_mk1 (shut_bool Tryd.underlying4 _), (trod_more (Below.trod laidOut (by kernel_rfl) (of_decide_eq_true (by kernel_rfl)) h0 bel lt0) (trod_more (Below.trod laidOut (by kernel_rfl) (of_decide_eq_true (by kernel_rfl)) h1 bel lt1) trod_none)), rfl, bel.frame _, fun h => by cases h⟩
theorem over : Rows.leastAloneRow.holds Tryd.pinned (OpenSpec.ofChange Rows.leastAloneSpec) :=
  OpenClaim.holds_of_wide 5 Tryd.f5 rfl rfl rfl rfl rfl rfl rfl ⟨rfl, rfl, rfl, rfl, rfl⟩ rfl rfl rfl rfl rfl (by kernel_rfl) Tryd.func5 (by kernel_rfl)
    (of_decide_eq_true (by kernel_rfl)) (by unfold Func.isWrapper; first | (rw [if_pos (by decide +kernel)]; kernel_rfl) | (rw [if_neg (by decide +kernel)]; exact ⟨rfl, rfl⟩))
    (fun os started H enc _ => lifted os started H enc)
theorem proved : Rows.LeastAloneSaid := over
theorem card : Rows.LeastAloneCardSaid :=
  Claim7.holds_tied_plain_at .later [] [.data, .data, .data] true (true, "ae66535208fa19ffdd18fac6c6788e4672e48aa895e2d776df91a5a39125b4ce") false
    over (fun _ h => by cases h) (by kernel_rfl) (fun _ h => by cases h) leastAlone_row_tie rfl ⟨rfl, rfl⟩ (by kernel_rfl) rfl
    (fun f fn hf hfn => by
      obtain rfl : f = 5 := Option.some.inj ((show Tryd.prog.funcNamed Rows.leastAloneRow.func = some 5 by kernel_rfl).symm.trans hf) |>.symm
      obtain rfl : fn = Tryd.f5 := (Option.some.inj (Tryd.func5.symm.trans hfn)).symm
      exact ⟨by kernel_rfl, fun j t ht => by
        rw [Tryd.params5] at ht
        have hm : t ∈ [25, 25] := by simpa using Array.mem_of_getElem? ht
        have hall : ([25, 25].all fun u => !Tryd.prog.wantsStandIn u) = true := by kernel_rfl
        exact (show Tryd.prog.wantsStandIn t = false by simpa using List.all_eq_true.1 hall t hm)⟩)
    (by kernel_rfl)
end Go.Proofs.YtajombmjidnbcaaDoor

