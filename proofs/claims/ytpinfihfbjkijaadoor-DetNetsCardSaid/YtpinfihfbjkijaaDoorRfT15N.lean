/- DetNets returns true at every net and every list, and leaves them as they were; no conditions. -/
import Derived.Test.YtpinfihfbjkijaaDoorRfH15
import Derived.Test.YtpinfihfbjkijaaDoorRfG4
set_option linter.unusedVariables false
set_option linter.unusedSimpArgs false
namespace Go.Proofs.YtpinfihfbjkijaaDoor
open Go.ChangeShapes Go.WideShapes Go.ChangeAt Go.WideMaps Go.WideElems Go.RowKit Go.Rf
theorem is5 : Is Tryd.prog 5 (c_caesuralaw15_DetNets 7 8 24 9 11 13 17 21 25 26 27) [4] 2 := ⟨Tryd.f5, Tryd.f5.body.getD .skip, Tryd.func5, by kernel_rfl, by kernel_rfl, by kernel_rfl, by kernel_rfl, by rw [Tryd.ntmps5]; decide⟩
theorem is26 : Is Tryd.prog 26 (c_caesuraref14_Tails 25) [4] 2 := ⟨Tryd.f26, Tryd.f26.body.getD .skip, Tryd.func26, by kernel_rfl, by kernel_rfl, by kernel_rfl, by kernel_rfl, by rw [Tryd.ntmps26]; decide⟩
theorem is27 : Is Tryd.prog 27 (c_caesuraref14_Heads 25) [4] 2 := ⟨Tryd.f27, Tryd.f27.body.getD .skip, Tryd.func27, by kernel_rfl, by kernel_rfl, by kernel_rfl, by kernel_rfl, by rw [Tryd.ntmps27]; decide⟩
theorem is25 : Is Tryd.prog 25 (c_caesuraref13_Accepts 45 24 46) [4] 2 := ⟨Tryd.f25, Tryd.f25.body.getD .skip, Tryd.func25, by kernel_rfl, by kernel_rfl, by kernel_rfl, by kernel_rfl, by rw [Tryd.ntmps25]; decide⟩
theorem cAcc13 (n : Net) (h : Small n) (l : List Int) (hl : Len l) : PureC Tryd.prog 25 [encNet n, encIs l] (encB (accN n l)) :=
  is25.pure hmix rfl (Accepts13_body n l hl (cRight13 n h) (fun a s ha => cStep13 n h a s (len_small ha (by omega))) (fun x => cHas13 n.last x h.ok.last))
theorem contract (n : Net) (l : List Int) (g : goodNet n) (_ : goodIs l) : PureC Tryd.prog 5 [encNet n, encIs l] (encB true) := by
  refine is5.pureB hmix rfl (DetNets_body n l (resD .whole n 3000).1 (resD .tails n 3000).1 (resD .heads n 3000).1 (resD .whole n 3000).2 (resD .tails n 3000).2 (resD .heads n 3000).2 cAlive (greatN n 300) (cGreatN n g.ok 300 (by omega)) (fun hg => cRight13 n (small_great (m := 300) (by omega) hg)) (fun hg hb hl hR => ?_))
  have h := small_great (m := 300) (by omega) hg
  have R := (rightN_iff n).mp hR
  have h100 : RightN n → n.follow.length ≤ 100 := fun R => by have := R.len; omega
  have hL : Len l := len_small hl (by omega)
  have hres : ∀ kd, (∃ st, dmakeF kd n 3000 = some st ∧ resD kd n 3000 = (⟨n.signs, st.2.1, st.2.2⟩, 0)) ∨ (resD kd n 3000).2 = 13 := fun kd => by
    have : resD kd n 3000 = (match dmakeF kd n 3000 with | some st => (⟨n.signs, st.2.1, st.2.2⟩, 0) | none => (⟨0, [], []⟩, 13)) := by rw [resD, if_pos ⟨hR, by omega, by omega⟩]; cases dmakeF kd n 3000 <;> rfl
    cases hm : dmakeF kd n 3000 with
    | none => right; rw [this, hm]
    | some st => left; exact ⟨st, rfl, by rw [this, hm]⟩
  refine ⟨cWhole n h h100 3000, cTails n h h100 3000, cHeads n h h100 3000, ?_, fun hall h1 h2 h3 => ?_⟩
  · rcases hres .whole with ⟨_, _, e1⟩ | e1
    · rcases hres .tails with ⟨_, _, e2⟩ | e2
      · rcases hres .heads with ⟨_, _, e3⟩ | e3
        · left; rw [e1, e2, e3]; exact ⟨rfl, rfl, rfl⟩
        · exact .inr (.inr (.inr e3))
      · exact .inr (.inr (.inl e2))
    · exact .inr (.inl e1)
  · have key : ∀ kd, (resD kd n 3000).2 = 0 → RightD (resD kd n 3000).1 ∧ accD (resD kd n 3000).1 l = endsB n (setAt kd n [0] l) := fun kd h0 => by
      rcases hres kd with ⟨st, hm, e⟩ | e
      · obtain ⟨a, b⟩ := dmake_det R (by omega) (by omega) hm
        rw [e]; exact ⟨a, b l hall⟩
      · omega
    obtain ⟨a1, a2⟩ := key .whole h1
    obtain ⟨b1, b2⟩ := key .tails h2
    obtain ⟨c1, c2⟩ := key .heads h3
    refine ⟨fun d hd => ?_, fun e he => ?_, cAcc13 n h l hL, ?_, is26.pure hmix rfl (Tails14_body n l (by omega) (fun m hm => cAcc13 n h m (len_small (by omega) (by omega : (100 : Nat) ≤ _)))), ?_, is27.pure hmix rfl (Heads14_body n l (by omega) (fun m hm => cAcc13 n h m (len_small (by omega) (by omega : (100 : Nat) ≤ _))))⟩
    · have k : ∀ kd, RightD (resD kd n 3000).1 → PureC Tryd.prog 17 [encDet (resD kd n 3000).1] (encB true) := fun kd D => by
        have := cDetRight _ (resD_ok kd n 3000)
        rwa [(right_iff _).mpr D] at this
      rcases hd with rfl | rfl | rfl
      · exact k _ a1
      · exact k _ b1
      · exact k _ c1
    · have := cDetAccepts _ (resD_ok .whole n 3000) l hL
      rwa [a2, whole_acc hR, ← he] at this
    · have := cDetAccepts _ (resD_ok .tails n 3000) l hL
      rwa [b2, tails_acc hR] at this
    · have := cDetAccepts _ (resD_ok .heads n 3000) l hL
      rwa [c2, heads_acc hR] at this
theorem own : ownKnob Tryd.prog.godebug = none := by kernel_rfl
theorem laidOut : laidOutB Tryd.prog = true := by kernel_rfl
theorem notA25 : ∃ fs, Tryd.prog.underlying 25 = some (.struct fs) ∨ ∃ n e, Tryd.prog.underlying 25 = some (.array n e) := by first | exact ⟨_, .inl under25⟩ | exact notS25
theorem isA23 : (match Tryd.prog.underlying 23 with | some (.struct _) => false | some (.array _ _) => false | _ => true) = true := by kernel_rfl
theorem notA23 : (∀ fs, Tryd.prog.underlying 23 ≠ some (.struct fs)) ∧ ∀ n e, Tryd.prog.underlying 23 ≠ some (.array n e) := ⟨fun fs h => (by have := isA23; rw [h] at this; cases this), fun n e h => (by have := isA23; rw [h] at this; cases this)⟩
set_option maxRecDepth 100000 in
theorem lifted (os : Os) (started : os.Started) (H : Type) (enc : TypeId × Value → H) :
    ReturnsInHanded {} Tryd.checked os 5 .any (fun w args => (Rows.detNetsSpec.pre enc Tryd.prog Tryd.f5 [] false w args ∧ laidMetH Tryd.prog laidL w) ∧ sizedMet enc Tryd.prog Tryd.f5 (OpenSpec.ofChange Rows.detNetsSpec) false w args) (Rows.detNetsSpec.post enc Tryd.prog Tryd.f5 false true false false) := by
  refine returnsInHanded_of_change_and (C := Tryd.checked) (X := fun w _ => laidMetH Tryd.prog laidL w) (fun _ _ _ hh h => h.of_heap hh) own started (by kernel_rfl) Tryd.func5
    (ChangeSpec.witness_shaped (enc := enc) (C := Tryd.checked) (os := os) (X := fun w _ => laidMetH Tryd.prog laidL w) false (World.doorLaid Tryd.prog 400 os) #[.agg #[.int .i64 0, .slice none 0 0, .slice none 0 0, .slice none 0 0], .slice none 0 0] 8 rfl (World.shaped_of_RefB (by kernel_rfl) (by kernel_rfl)) (by kernel_rfl) (by kernel_rfl) (by kernel_rfl) (door_met os _)) ?_
  intro W base args ds gs before hval0 hW hcnd hsz0 hlaid _
  have hsz : (DataW.weightsEach Tryd.prog (Tryd.f5.params.toList ++ Rows.detNetsSpec.plain.varTypes Tryd.prog) (ds ++ gs)).all (· ≤ reachBytes) = true := hsz0
  have hval : ∀ (j : Nat) t v, Tryd.f5.params[j]? = some t → args[j]? = some v → Value.okWide Tryd.prog W .any base t v := hval0
  have hW' := hW
  obtain ⟨p, q, hA0, hV, rfl, hfz, hnd⟩ := hW
  have hA : DataW.TrodAll enc Tryd.prog W 0 (fun _ => true) true Tryd.f5.params.toList args.toList ds p := hA0
  rw [Tryd.params5] at hA hval hsz
  obtain ⟨v0, vs0, d0, ds0, p0, q0, ha0, rfl, rfl, h0, r0⟩ := trodAll_cons hA
  obtain ⟨v1, vs1, d1, ds1, p1, q1, ha1, rfl, rfl, h1, r1⟩ := trodAll_cons r0
  obtain ⟨rfl, rfl, rfl⟩ := trodAll_nil r1
  obtain rfl : args = #[v0, v1] := by cases args; simp_all
  obtain ⟨rfl, rfl⟩ := trodVars_none hV
  obtain ⟨x0, g0, rep0⟩ := DecF.val dec25 (hval 0 25 v0 rfl rfl) (.inl (by first | exact ⟨_, fun _ => rfl, notA25⟩ | exact ⟨_, aggE25, notA25⟩)) h0 (light_of hsz (j := 0) rfl rfl)
  have lt0 : ∀ x ∈ p0, x.block < W.heap.size := by obtain ⟨m, hm⟩ := h0; exact DataW.trod_lt m _ _ _ hm
  obtain ⟨x1, g1, rep1⟩ := DecF.val dec23 (hval 1 23 v1 rfl rfl) (.inr ⟨fun _ => rfl, notA23⟩) h1 (light_of hsz (j := 1) rfl rfl)
  have lt1 : ∀ x ∈ p1, x.block < W.heap.size := by obtain ⟨m, hm⟩ := h1; exact DataW.trod_lt m _ _ _ hm
  clear hA0 hval0 hsz0 hsz
  refine ((contract x0 x1 g0 g1).calls W (gamL W hlaid) (reps_two rep0 rep1)).mono fun e W' ⟨he, bel⟩ => ?_
  subst he
  exact ⟨_, rfl, _, _, _, [], _, [], hW', trodAll_mk1 (shut_bool Tryd.underlying4 _), (trod_more (Below.trod laidOut (by kernel_rfl) (of_decide_eq_true (by kernel_rfl)) h0 bel lt0) (trod_more (Below.trod laidOut (by kernel_rfl) (of_decide_eq_true (by kernel_rfl)) h1 bel lt1) trod_none)), rfl, bel.frame _, fun h => by cases h⟩
theorem over : Rows.detNetsRow.holds Tryd.pinned (OpenSpec.ofChange Rows.detNetsSpec) :=
  OpenClaim.holds_of_wide 5 Tryd.f5 rfl rfl rfl rfl rfl rfl rfl ⟨rfl, rfl, rfl, rfl, rfl⟩ rfl rfl rfl rfl rfl (by kernel_rfl) Tryd.func5 (by kernel_rfl)
    (of_decide_eq_true (by kernel_rfl)) (by unfold Func.isWrapper; first | (rw [if_pos (by decide +kernel)]; kernel_rfl) | (rw [if_neg (by decide +kernel)]; exact ⟨rfl, rfl⟩))
    (fun os started H enc _ => lifted os started H enc)
theorem proved : Rows.DetNetsSaid := over
theorem card : Rows.DetNetsCardSaid :=
  Claim7.holds_tied_plain_at .later [] [.data, .data, .data] true (true, "2b4b19bb67babe38748917aaafddf6b346a8e9c9196d556732f803335c0c48f8") true
    over (fun _ h => by cases h) (by kernel_rfl) (fun _ h => by cases h) detNets_row_tie rfl ⟨rfl, rfl⟩ (by kernel_rfl) rfl
    (fun f fn hf hfn => by
      obtain rfl : f = 5 := Option.some.inj ((show Tryd.prog.funcNamed Rows.detNetsRow.func = some 5 by kernel_rfl).symm.trans hf) |>.symm
      obtain rfl : fn = Tryd.f5 := (Option.some.inj (Tryd.func5.symm.trans hfn)).symm
      exact ⟨by kernel_rfl, fun j t ht => by
        rw [Tryd.params5] at ht
        have hm : t ∈ [25, 23] := by simpa using Array.mem_of_getElem? ht
        have hall : ([25, 23].all fun u => !Tryd.prog.wantsStandIn u) = true := by kernel_rfl
        exact (show Tryd.prog.wantsStandIn t = false by simpa using List.all_eq_true.1 hall t hm)⟩)
    (by kernel_rfl)
end Go.Proofs.YtpinfihfbjkijaaDoor

