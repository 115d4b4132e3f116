/- BackForms returns true at every form and list, and leaves them as they were; no conditions. -/
import Derived.Test.YtgehkmifnjldfaaRfD14
import Derived.Test.YtgehkmifnjldfaaRfWF
import Derived.Test.YtgehkmifnjldfaaRfGam
set_option linter.unusedVariables false
set_option linter.unusedSimpArgs false
namespace Go.Proofs.Ytgehkmifnjldfaa
open Go.ChangeShapes Go.WideShapes Go.ChangeAt Go.RowKit Go.Rf
def tyB : BTy := { i := 3, b := 4, s := 9, is := 23, rg := 109, rgs := 37, p := 40, ps := 38, ru := 0, rus := 0, nd := 0, nds := 0, it := 0, its := 0, vr := 0, vrs := 0, ss := 0, bk := 0 }
theorem gamN (W : World) : Gam Try.prog (E0 W).H := gam_none (by kernel_rfl) _
theorem tyP_ok : chkPat Try.prog tyB = true := by kernel_rfl
theorem dec40 : ∀ n, DecF Try.prog n 40 encPat okP := fun n => (decPat (T := tyB) tyP_ok n).1
theorem aggE40 : ∀ x : Pat, encPat x = .agg ((encPat x).cells) := fun x => by obtain ⟨k, s, g, ks⟩ := x; rw [encPat_eq]; rfl
theorem notS40 : ∃ fs, Try.prog.underlying 40 = some (.struct fs) ∨ ∃ n e, Try.prog.underlying 40 = some (.array n e) := ⟨(match Try.prog.underlying 40 with | some (.struct fs) => fs | _ => #[]), .inl (by kernel_rfl)⟩
theorem is5 : Is Try.prog 5 (c_caesuralaw14_BackForms 7 22 23 24 8 9 21 15 14) [4] 2 := ⟨Try.f5, Try.f5.body.getD .skip, Try.func5, by kernel_rfl, by kernel_rfl, by kernel_rfl, by kernel_rfl, by rw [Try.ntmps5]; decide⟩
theorem is22 : Is Try.prog 22 (c_caesuraref08_Weight 22) [4] 2 := ⟨Try.f22, Try.f22.body.getD .skip, Try.func22, by kernel_rfl, by kernel_rfl, by kernel_rfl, by kernel_rfl, by rw [Try.ntmps22]; decide⟩
theorem is34 : Is Try.prog 34 (c_caesuraref08_Size 34) [2] 1 := ⟨Try.f34, Try.f34.body.getD .skip, Try.func34, by kernel_rfl, by kernel_rfl, by kernel_rfl, by kernel_rfl, by rw [Try.ntmps34]; decide⟩
theorem is46 : Is Try.prog 46 (c_caesuraref13_grow_behind 47) [] 3 := ⟨Try.f46, Try.f46.body.getD .skip, Try.func46, by kernel_rfl, by kernel_rfl, by kernel_rfl, by kernel_rfl, by rw [Try.ntmps46]; decide⟩
theorem is47 : Is Try.prog 47 (c_caesuraref13_all 36) [4] 2 := ⟨Try.f47, Try.f47.body.getD .skip, Try.func47, by kernel_rfl, by kernel_rfl, by kernel_rfl, by kernel_rfl, by rw [Try.ntmps47]; decide⟩
theorem iso23 : IsO Try.prog 23 (c_caesuraref13_Of 34 35 36) [.c 4 (some 4), .t 5] 2 := ⟨Try.f23, Try.f23.body.getD .skip, Try.func23, by kernel_rfl, by kernel_rfl, by kernel_rfl, by kernel_rfl, by rw [Try.ntmps23]; decide⟩
theorem isc24 : IsC Try.prog 24 (c_caesuraref11_Turn 24) [.c 2 (some 4)] 1 := ⟨Try.f24, Try.f24.body.getD .skip, Try.func24, by kernel_rfl, by kernel_rfl, by kernel_rfl, by kernel_rfl, by rw [Try.ntmps24]; decide⟩
theorem isc35 : IsC Try.prog 35 (c_caesuraref13_grow_form 36 35 46 47 48) [.c 4 (some 3)] 2 := ⟨Try.f35, Try.f35.body.getD .skip, Try.func35, by kernel_rfl, by kernel_rfl, by kernel_rfl, by kernel_rfl, by rw [Try.ntmps35]; decide⟩
theorem isc48 : IsC Try.prog 48 (c_caesuraref13_grow_rest 35) [.c 4 (some 3)] 2 := ⟨Try.f48, Try.f48.body.getD .skip, Try.func48, by kernel_rfl, by kernel_rfl, by kernel_rfl, by kernel_rfl, by rw [Try.ntmps48]; decide⟩
theorem growIs : GrowIs Try.prog 23 34 35 36 46 47 48 := ⟨iso23, is34, isc35, cPut, is46, is47, isc48⟩
theorem contract (p : Pat) (l : List Int) (g : okP p) (gl : goodIs l) : PureC Try.prog 5 [encPat p, encIs l] (encB true) := by
  refine is5.pureB hmix rfl (BackForms_body p g.good l gl.1 cAlive (weight_ok hmix is22 p 0 g.good (by omega) (by omega)) (fun x hx => growIs.ok hmix x hx 3) (fun x hx => turn11_ok hmix isc24 x hx) (greatN (netOf p 3) 400)
    (fun hc => cGreat _ (small_right (netOf_ok (p := p) (sg := 3) (by omega) (by omega) hc).R).ok 400 (by omega)) (fun hc _ hl => ?_))
  have R := (netOf_ok (p := p) (sg := 3) (by omega) (by omega) hc).R
  have R2 := (netOf_ok (p := turnP p) (sg := 3) (by omega) (by omega) (by rw [cnt_turn]; exact hc)).R
  have Rt := turn_right R
  have hr := (rightN_iff _).mpr R
  have hl' : l.length ≤ 1000 := by omega
  have t := cTurn9 _ (small_right R)
  rw [show turnD (netOf p 3) = turnN (netOf p 3) by rw [turnD, if_pos hr], show turnE (netOf p 3) = 0 by rw [turnE, if_pos hr]] at t
  exact ⟨t, cAcc21 _ (small_right Rt) l (len_small hl' (by omega)), cAcc21 _ (small_right R2) l (len_small hl' (by omega)), cHeads15 _ (small_right Rt) l hl', cHeads15 _ (small_right R2) l hl', fun a ha => by
    have := cInts a a (len_small ha (by omega)) (len_small ha (by omega))
    rwa [beq_self_eq_true] at this⟩
theorem own : ownKnob Try.prog.godebug = none := by kernel_rfl
theorem laidOut : laidOutB Try.prog = true := by kernel_rfl
theorem notA40 : ∃ fs, Try.prog.underlying 40 = some (.struct fs) ∨ ∃ n e, Try.prog.underlying 40 = some (.array n e) := by first | exact ⟨_, .inl under40⟩ | exact notS40
theorem isA23 : (match Try.prog.underlying 23 with | some (.struct _) => false | some (.array _ _) => false | _ => true) = true := by kernel_rfl
theorem notA23 : (∀ fs, Try.prog.underlying 23 ≠ some (.struct fs)) ∧ ∀ n e, Try.prog.underlying 23 ≠ some (.array n e) := ⟨fun fs h => (by have := isA23; rw [h] at this; cases this), fun n e h => (by have := isA23; rw [h] at this; cases this)⟩
set_option maxRecDepth 100000 in
theorem lifted (os : Os) (started : os.Started) (H : Type) (enc : TypeId × Value → H) :
    ReturnsInHanded {} Try.checked os 5 .any (Rows.backFormsSpec.pre6 enc Try.prog Try.f5 Rows.backFormsRow.domain false) (Rows.backFormsSpec.post enc Try.prog Try.f5 false true false false) := by
  refine returnsInHanded_of_change_sized (C := Try.checked) own started (by kernel_rfl) Try.func5
    (ChangeSpec.witness6 (enc := enc) (C := Try.checked) false ⟨#[], #[.agg #[.int .i64 0, .slice none 0 0, .slice none 0 0, .slice none 0 0], .slice none 0 0], []⟩ 8 (by kernel_rfl) (by kernel_rfl) (by kernel_rfl) (by kernel_rfl)) ?_
  intro W base args ds gs before hval0 hW hcnd hsz0 _
  have hsz : (DataW.weightsEach Try.prog (Try.f5.params.toList ++ Rows.backFormsSpec.plain.varTypes Try.prog) (ds ++ gs)).all (· ≤ reachBytes) = true := hsz0
  have hval : ∀ (j : Nat) t v, Try.f5.params[j]? = some t → args[j]? = some v → Value.okWide Try.prog W .any base t v := hval0
  have hW' := hW
  obtain ⟨p, q, hA0, hV, rfl, hfz, hnd⟩ := hW
  have hA : DataW.TrodAll enc Try.prog W 0 (fun _ => true) true Try.f5.params.toList args.toList ds p := hA0
  rw [Try.params5] at hA hval hsz
  obtain ⟨v0, vs0, d0, ds0, p0, q0, ha0, rfl, rfl, h0, r0⟩ := trodAll_cons hA
  obtain ⟨v1, vs1, d1, ds1, p1, q1, ha1, rfl, rfl, h1, r1⟩ := trodAll_cons r0
  obtain ⟨rfl, rfl, rfl⟩ := trodAll_nil r1
  obtain rfl : args = #[v0, v1] := by cases args; simp_all
  obtain ⟨rfl, rfl⟩ := trodVars_none hV
  obtain ⟨x0, g0, rep0⟩ := DecF.val dec40 (hval 0 40 v0 rfl rfl) (.inl (by first | exact ⟨_, fun _ => rfl, notA40⟩ | exact ⟨_, aggE40, notA40⟩)) h0 (light_of hsz (j := 0) rfl rfl)
  have lt0 : ∀ x ∈ p0, x.block < W.heap.size := by obtain ⟨m, hm⟩ := h0; exact DataW.trod_lt m _ _ _ hm
  obtain ⟨x1, g1, rep1⟩ := DecF.val dec23 (hval 1 23 v1 rfl rfl) (.inr ⟨fun _ => rfl, notA23⟩) h1 (light_of hsz (j := 1) rfl rfl)
  have lt1 : ∀ x ∈ p1, x.block < W.heap.size := by obtain ⟨m, hm⟩ := h1; exact DataW.trod_lt m _ _ _ hm
  clear hA0 hval0 hsz0 hsz
  refine ((contract x0 x1 g0 g1).calls W (gamN W) (reps_two rep0 rep1)).mono fun e W' ⟨he, bel⟩ => ?_
  subst he
  exact ⟨_, rfl, _, _, _, [], _, [], hW', trodAll_mk1 (shut_bool Try.underlying4 _), (trod_more (Below.trod laidOut (by kernel_rfl) (of_decide_eq_true (by kernel_rfl)) h0 bel lt0) (trod_more (Below.trod laidOut (by kernel_rfl) (of_decide_eq_true (by kernel_rfl)) h1 bel lt1) trod_none)), rfl, bel.frame _, fun h => by cases h⟩
theorem over : Rows.backFormsRow.holds Try.pinned (OpenSpec.ofChange Rows.backFormsSpec) :=
  OpenClaim.holds_of_wide 5 Try.f5 rfl rfl rfl rfl rfl rfl rfl ⟨rfl, rfl, rfl, rfl, rfl⟩ rfl rfl rfl rfl rfl (by kernel_rfl) Try.func5 (by kernel_rfl)
    (of_decide_eq_true (by kernel_rfl)) (by unfold Func.isWrapper; first | (rw [if_pos (by decide +kernel)]; kernel_rfl) | (rw [if_neg (by decide +kernel)]; exact ⟨rfl, rfl⟩))
    (fun os started H enc _ => lifted os started H enc)
theorem proved : Rows.BackFormsSaid := over
end Go.Proofs.Ytgehkmifnjldfaa

