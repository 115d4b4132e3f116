/- NetJoins returns true at every two forms and list, and leaves them as they were; no conditions. -/
import Derived.Test.YtnlhbognechhcaaRfD13
import Derived.Test.YtnlhbognechhcaaRfWA
import Derived.Test.YtnlhbognechhcaaRfGam
set_option linter.unusedVariables false
set_option linter.unusedSimpArgs false
namespace Go.Proofs.Ytnlhbognechhcaa
open Go.ChangeShapes Go.WideShapes Go.ChangeAt Go.RowKit Go.Rf
def tyB : BTy := { i := 3, b := 4, s := 9, is := 23, rg := 110, rgs := 34, p := 37, ps := 35, ru := 0, rus := 0, nd := 0, nds := 0, it := 0, its := 0, vr := 0, vrs := 0, ss := 0, bk := 0 }
theorem gamN (W : World) : Gam Try.prog (E0 W).H := gam_none (by kernel_rfl) _
theorem tyP_ok : chkPat Try.prog tyB = true := by kernel_rfl
theorem dec37 : ∀ n, DecF Try.prog n 37 encPat okP := fun n => (decPat (T := tyB) tyP_ok n).1
theorem aggE37 : ∀ x : Pat, encPat x = .agg ((encPat x).cells) := fun x => by obtain ⟨k, s, g, ks⟩ := x; rw [encPat_eq]; rfl
theorem notS37 : ∃ fs, Try.prog.underlying 37 = some (.struct fs) ∨ ∃ n e, Try.prog.underlying 37 = some (.array n e) := ⟨(match Try.prog.underlying 37 with | some (.struct fs) => fs | _ => #[]), .inl (by kernel_rfl)⟩
theorem is4 : Is Try.prog 4 (c_caesuralaw13_NetJoins 5 16 17 12) [6] 3 := ⟨Try.f4, Try.f4.body.getD .skip, Try.func4, by kernel_rfl, by kernel_rfl, by kernel_rfl, by kernel_rfl, by rw [Try.ntmps4]; decide⟩
theorem is16 : Is Try.prog 16 (c_caesuraref08_Weight 16) [4] 2 := ⟨Try.f16, Try.f16.body.getD .skip, Try.func16, by kernel_rfl, by kernel_rfl, by kernel_rfl, by kernel_rfl, by rw [Try.ntmps16]; decide⟩
theorem is30 : Is Try.prog 30 (c_vars_Size 30) [2] 1 := ⟨Try.f30, Try.f30.body.getD .skip, Try.func30, by kernel_rfl, by kernel_rfl, by kernel_rfl, by kernel_rfl, by rw [Try.ntmps30]; decide⟩
theorem is31 : Is Try.prog 31 (c_net_maker_state) [4] 2 := ⟨Try.f31, Try.f31.body.getD .skip, Try.func31, by kernel_rfl, by kernel_rfl, by kernel_rfl, by kernel_rfl, by rw [Try.ntmps31]; decide⟩
theorem is37 : Is Try.prog 37 (c_slices_DeleteFunc_Sint_int_ 35) [4] 2 := ⟨Try.f37, Try.f37.body.getD .skip, Try.func37, by kernel_rfl, by kernel_rfl, by kernel_rfl, by kernel_rfl, by rw [Try.ntmps37]; decide⟩
theorem is38 : Is Try.prog 38 (c_net_maker_form_1) [3] 2 := ⟨Try.f38, Try.f38.body.getD .skip, Try.func38, by kernel_rfl, by kernel_rfl, by kernel_rfl, by kernel_rfl, by rw [Try.ntmps38]; decide⟩
theorem is40 : Is Try.prog 40 (c_net_maker_each 32) [4] 2 := ⟨Try.f40, Try.f40.body.getD .skip, Try.func40, by kernel_rfl, by kernel_rfl, by kernel_rfl, by kernel_rfl, by rw [Try.ntmps40]; decide⟩
theorem is42 : Is Try.prog 42 (c_net_maker_follow 45 33) [] 3 := ⟨Try.f42, Try.f42.body.getD .skip, Try.func42, by kernel_rfl, by kernel_rfl, by kernel_rfl, by kernel_rfl, by rw [Try.ntmps42]; decide⟩
theorem isc17 : IsC Try.prog 17 (c_net_Of 30 31 32 34 33) [.c 4 (some 4), .t 5] 2 := ⟨Try.f17, Try.f17.body.getD .skip, Try.func17, by kernel_rfl, by kernel_rfl, by kernel_rfl, by kernel_rfl, by rw [Try.ntmps17]; decide⟩
theorem iss32 : IsS Try.prog 32 (c_net_maker_form 34 38 37 33 31 40 39 41 42) [.c 4 (some 3)] 2 := ⟨Try.f32, Try.f32.body.getD .skip, Try.func32, by kernel_rfl, by kernel_rfl, by kernel_rfl, by kernel_rfl, by rw [Try.ntmps32]; decide⟩
theorem isc39 : IsC Try.prog 39 (c_net_maker_join 42 45 33) [.c 4 (some 3)] 2 := ⟨Try.f39, Try.f39.body.getD .skip, Try.func39, by kernel_rfl, by kernel_rfl, by kernel_rfl, by kernel_rfl, by rw [Try.ntmps39]; decide⟩
theorem isc41 : IsC Try.prog 41 (c_net_either 45 33) [.c 2 (some 3)] 1 := ⟨Try.f41, Try.f41.body.getD .skip, Try.func41, by kernel_rfl, by kernel_rfl, by kernel_rfl, by kernel_rfl, by rw [Try.ntmps41]; decide⟩
theorem is45 : Is Try.prog 45 (c_Concat 1 8 48) [2] 1 := ⟨Try.f45, Try.f45.body.getD .skip, Try.func45, by kernel_rfl, by kernel_rfl, by kernel_rfl, by kernel_rfl, by rw [Try.ntmps45]; decide⟩
theorem is48 : Is Try.prog 48 (c_Grow 1 8 (.v (.int .i64 0))) [4] 2 := ⟨Try.f48, Try.f48.body.getD .skip, Try.func48, by kernel_rfl, by kernel_rfl, by kernel_rfl, by kernel_rfl, by rw [Try.ntmps48]; decide⟩
theorem netIs : NetIs Try.prog 17 30 31 32 34 33 40 39 41 42 37 35 38 45 48 := ⟨isc17, is30, is31, iss32, byClone, is37, is35, is38, is40, isc39, isc41, is42, is45, is48, cSet⟩
theorem cNetOf (p : Pat) (hp : PatS p) (sg : Int) : PureC Try.prog 17 [encPat p, Rf.encI sg] (encNE (netRes p sg)) := netIs.ok hmix p hp sg
theorem contract (p q : Pat) (l : List Int) (g : okP p) (gq : okP q) (gl : goodIs l) : PureC Try.prog 4 [encPat p, encPat q, encIs l] (encB true) := by
  refine is4.pureB hmix rfl (NetJoins_body p q g.good gq.good l gl.1 cAlive (fun x hx => weight_ok hmix is16 x 0 hx (by omega) (by omega)) (fun x hx => cNetOf x hx 3) (fun x hx l hl => ?_))
  have R := (netOf_ok (p := x) (sg := 3) (by omega) (by omega) hx).R
  exact cAcc12 _ (small_right R) l (len_small hl (by omega))
theorem own : ownKnob Try.prog.godebug = none := by kernel_rfl
theorem laidOut : laidOutB Try.prog = true := by kernel_rfl
theorem notA37 : ∃ fs, Try.prog.underlying 37 = some (.struct fs) ∨ ∃ n e, Try.prog.underlying 37 = some (.array n e) := by first | exact ⟨_, .inl under37⟩ | exact notS37
theorem isA23 : (match Try.prog.underlying 23 with | some (.struct _) => false | some (.array _ _) => false | _ => true) = true := by kernel_rfl
theorem notA23 : (∀ fs, Try.prog.underlying 23 ≠ some (.struct fs)) ∧ ∀ n e, Try.prog.underlying 23 ≠ some (.array n e) := ⟨fun fs h => (by have := isA23; rw [h] at this; cases this), fun n e h => (by have := isA23; rw [h] at this; cases this)⟩
set_option maxRecDepth 100000 in
theorem lifted (os : Os) (started : os.Started) (H : Type) (enc : TypeId × Value → H) :
    ReturnsInHanded {} Try.checked os 4 .any (Rows.netJoinsSpec.pre6 enc Try.prog Try.f4 Rows.netJoinsRow.domain false) (Rows.netJoinsSpec.post enc Try.prog Try.f4 false true false false) := by
  refine returnsInHanded_of_change_sized (C := Try.checked) own started (by kernel_rfl) Try.func4
    (ChangeSpec.witness6 (enc := enc) (C := Try.checked) false ⟨#[], #[.agg #[.int .i64 0, .slice none 0 0, .slice none 0 0, .slice none 0 0], .agg #[.int .i64 0, .slice none 0 0, .slice none 0 0, .slice none 0 0], .slice none 0 0], []⟩ 8 (by kernel_rfl) (by kernel_rfl) (by kernel_rfl) (by kernel_rfl)) ?_
  intro W base args ds gs before hval0 hW hcnd hsz0 _
  have hsz : (DataW.weightsEach Try.prog (Try.f4.params.toList ++ Rows.netJoinsSpec.plain.varTypes Try.prog) (ds ++ gs)).all (· ≤ reachBytes) = true := hsz0
  have hval : ∀ (j : Nat) t v, Try.f4.params[j]? = some t → args[j]? = some v → Value.okWide Try.prog W .any base t v := hval0
  have hW' := hW
  obtain ⟨p, q, hA0, hV, rfl, hfz, hnd⟩ := hW
  have hA : DataW.TrodAll enc Try.prog W 0 (fun _ => true) true Try.f4.params.toList args.toList ds p := hA0
  rw [Try.params4] at hA hval hsz
  obtain ⟨v0, vs0, d0, ds0, p0, q0, ha0, rfl, rfl, h0, r0⟩ := trodAll_cons hA
  obtain ⟨v1, vs1, d1, ds1, p1, q1, ha1, rfl, rfl, h1, r1⟩ := trodAll_cons r0
  obtain ⟨v2, vs2, d2, ds2, p2, q2, ha2, rfl, rfl, h2, r2⟩ := trodAll_cons r1
  obtain ⟨rfl, rfl, rfl⟩ := trodAll_nil r2
  obtain rfl : args = #[v0, v1, v2] := by cases args; simp_all
  obtain ⟨rfl, rfl⟩ := trodVars_none hV
  obtain ⟨x0, g0, rep0⟩ := DecF.val dec37 (hval 0 37 v0 rfl rfl) (.inl (by first | exact ⟨_, fun _ => rfl, notA37⟩ | exact ⟨_, aggE37, notA37⟩)) h0 (light_of hsz (j := 0) rfl rfl)
  have lt0 : ∀ x ∈ p0, x.block < W.heap.size := by obtain ⟨m, hm⟩ := h0; exact DataW.trod_lt m _ _ _ hm
  obtain ⟨x1, g1, rep1⟩ := DecF.val dec37 (hval 1 37 v1 rfl rfl) (.inl (by first | exact ⟨_, fun _ => rfl, notA37⟩ | exact ⟨_, aggE37, notA37⟩)) h1 (light_of hsz (j := 1) rfl rfl)
  have lt1 : ∀ x ∈ p1, x.block < W.heap.size := by obtain ⟨m, hm⟩ := h1; exact DataW.trod_lt m _ _ _ hm
  obtain ⟨x2, g2, rep2⟩ := DecF.val dec23 (hval 2 23 v2 rfl rfl) (.inr ⟨fun _ => rfl, notA23⟩) h2 (light_of hsz (j := 2) rfl rfl)
  have lt2 : ∀ x ∈ p2, x.block < W.heap.size := by obtain ⟨m, hm⟩ := h2; exact DataW.trod_lt m _ _ _ hm
  clear hA0 hval0 hsz0 hsz
  refine ((contract x0 x1 x2 g0 g1 g2).calls W (gamN W) (reps_three rep0 rep1 rep2)).mono fun e W' ⟨he, bel⟩ => ?_
  subst he
  exact ⟨_, rfl, _, _, _, [], _, [], hW', trodAll_mk1 (shut_bool Try.underlying4 _), (trod_more (Below.trod laidOut (by kernel_rfl) (of_decide_eq_true (by kernel_rfl)) h0 bel lt0) (trod_more (Below.trod laidOut (by kernel_rfl) (of_decide_eq_true (by kernel_rfl)) h1 bel lt1) (trod_more (Below.trod laidOut (by kernel_rfl) (of_decide_eq_true (by kernel_rfl)) h2 bel lt2) trod_none))), rfl, bel.frame _, fun h => by cases h⟩
theorem over : Rows.netJoinsRow.holds Try.pinned (OpenSpec.ofChange Rows.netJoinsSpec) :=
  OpenClaim.holds_of_wide 4 Try.f4 rfl rfl rfl rfl rfl rfl rfl ⟨rfl, rfl, rfl, rfl, rfl⟩ rfl rfl rfl rfl rfl (by kernel_rfl) Try.func4 (by kernel_rfl)
    (of_decide_eq_true (by kernel_rfl)) (by unfold Func.isWrapper; first | (rw [if_pos (by decide +kernel)]; kernel_rfl) | (rw [if_neg (by decide +kernel)]; exact ⟨rfl, rfl⟩))
    (fun os started H enc _ => lifted os started H enc)
theorem proved : Rows.NetJoinsSaid := over
end Go.Proofs.Ytnlhbognechhcaa

