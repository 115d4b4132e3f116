/- BackTurns returns true at every net and list, and leaves them as they were; no conditions. -/
import Derived.Test.YtgehkmifnjldfaaRfD14
set_option linter.unusedVariables false
set_option linter.unusedSimpArgs false
namespace Go.Proofs.Ytgehkmifnjldfaa
open Go.ChangeShapes Go.WideShapes Go.ChangeAt Go.RowKit Go.Rf

theorem is4 : Is Try.prog 4 (c_caesuralaw14_BackTurns 7 8 9 19 20 21 15 16 14) [4] 2 := ⟨Try.f4, Try.f4.body.getD .skip, Try.func4, by kernel_rfl, by kernel_rfl, by kernel_rfl, by kernel_rfl, by rw [Try.ntmps4]; decide⟩
theorem contract (n : Net) (l : List Int) (g : goodNet n) (gl : goodIs l) : PureC Try.prog 4 [encNet n, encIs l] (encB true) := by
  have key : greatN n 400 = false → l.length ≤ 12 → HTurn Try.prog n l 9 19 21 15 16 := by
    intro hg hl
    have h := small_great hg
    have hl' : l.length ≤ 1000 := by omega
    have hlr : l.reverse.length ≤ 1000 := by simpa using hl'
    have hL : Len l := len_small hl' (by omega)
    have hLr : Len l.reverse := len_small hlr (by omega)
    have hD : rightN n = true → turnD n = turnN n := fun hr => by simp [turnD, hr]
    have hs : rightN n = true → Small (turnN n) := fun hr => by have := small_turn n; rw [hD hr] at this; exact this
    have hr2 : rightN n = true → rightN (turnN n) = true := fun hr => (rightN_iff _).mpr (turn_right ((rightN_iff n).mp hr))
    refine ⟨cTurn9 n h, cRight n h, fun hr => ?_, fun hr => ?_, cAcc21 n h l hL, fun hr => ?_, fun hr => cHeads15 _ (hs hr) _ hlr, fun hr => ?_⟩
    · have h1 := cTurn9 (turnN n) (hs hr)
      have e1 : turnD (turnN n) = n := by simp [turnD, hr2 hr]; exact turn_turn ((rightN_iff n).mp hr)
      have e2 : turnE (turnN n) = 0 := by simp [turnE, hr2 hr]
      rw [e1, e2] at h1; exact h1
    · have h1 := cRight (turnN n) (hs hr)
      rw [hr2 hr] at h1; exact h1
    · have h1 := cAcc21 (turnN n) (hs hr) l.reverse hLr
      rw [acc_turn hr l] at h1; exact h1
    · have h1 := cTails16 n h l hl'
      rw [hD hr] at h1; exact h1
  refine is4.pure hmix rfl (BackTurns_body n l cAlive (greatN n 400) (cGreat n g.ok 400 (by omega)) cInts (fun hl => cBack l (by omega)) (fun hg => (small_great hg).ok.last) (fun hg => ?_) key)
  have h := small_great hg
  cases hf : n.follow with
  | nil => simp [Len]
  | cons a t => simpa using h.ok.followr a (by simp [hf])
theorem own : ownKnob Try.prog.godebug = none := by kernel_rfl
theorem laidOut : laidOutB Try.prog = true := by kernel_rfl
theorem notA25 : ∃ fs, Try.prog.underlying 25 = some (.struct fs) ∨ ∃ n e, Try.prog.underlying 25 = some (.array n e) := ⟨_, .inl under25⟩
theorem isA23 : (match Try.prog.underlying 23 with | some (.struct _) => false | some (.array _ _) => false | _ => true) = true := by kernel_rfl
theorem notA23 : (∀ fs, Try.prog.underlying 23 ≠ some (.struct fs)) ∧ ∀ n e, Try.prog.underlying 23 ≠ some (.array n e) := ⟨fun fs h => (by have := isA23; rw [h] at this; cases this), fun n e h => (by have := isA23; rw [h] at this; cases this)⟩
set_option maxRecDepth 100000 in
theorem lifted (os : Os) (started : os.Started) (H : Type) (enc : TypeId × Value → H) :
    ReturnsInHanded {} Try.checked os 4 .any (Rows.backTurnsSpec.pre6 enc Try.prog Try.f4 Rows.backTurnsRow.domain false) (Rows.backTurnsSpec.post enc Try.prog Try.f4 false true false false) := by
  refine returnsInHanded_of_change_sized (C := Try.checked) own started (by kernel_rfl) Try.func4
    (ChangeSpec.witness6 (enc := enc) (C := Try.checked) false ⟨#[], #[.agg #[.int .i64 0, .slice none 0 0, .slice none 0 0, .slice none 0 0], .slice none 0 0], []⟩ 8 (by kernel_rfl) (by kernel_rfl) (by kernel_rfl) (by kernel_rfl)) ?_
  intro W base args ds gs before hval0 hW hcnd hsz0 _
  have hsz : (DataW.weightsEach Try.prog (Try.f4.params.toList ++ Rows.backTurnsSpec.plain.varTypes Try.prog) (ds ++ gs)).all (· ≤ reachBytes) = true := hsz0
  have hval : ∀ (j : Nat) t v, Try.f4.params[j]? = some t → args[j]? = some v → Value.okWide Try.prog W .any base t v := hval0
  have hW' := hW
  obtain ⟨p, q, hA0, hV, rfl, hfz, hnd⟩ := hW
  have hA : DataW.TrodAll enc Try.prog W 0 (fun _ => true) true Try.f4.params.toList args.toList ds p := hA0
  rw [Try.params4] at hA hval hsz
  obtain ⟨v0, vs0, d0, ds0, p0, q0, ha0, rfl, rfl, h0, r0⟩ := trodAll_cons hA
  obtain ⟨v1, vs1, d1, ds1, p1, q1, ha1, rfl, rfl, h1, r1⟩ := trodAll_cons r0
  obtain ⟨rfl, rfl, rfl⟩ := trodAll_nil r1
  obtain rfl : args = #[v0, v1] := by cases args; simp_all
  obtain ⟨rfl, rfl⟩ := trodVars_none hV
  obtain ⟨x0, g0, rep0⟩ := DecF.val dec25 (hval 0 25 v0 rfl rfl) (.inl ⟨_, fun _ => rfl, notA25⟩) h0 (light_of hsz (j := 0) rfl rfl)
  have lt0 : ∀ x ∈ p0, x.block < W.heap.size := by obtain ⟨m, hm⟩ := h0; exact DataW.trod_lt m _ _ _ hm
  obtain ⟨x1, g1, rep1⟩ := DecF.val dec23 (hval 1 23 v1 rfl rfl) (.inr ⟨fun _ => rfl, notA23⟩) h1 (light_of hsz (j := 1) rfl rfl)
  have lt1 : ∀ x ∈ p1, x.block < W.heap.size := by obtain ⟨m, hm⟩ := h1; exact DataW.trod_lt m _ _ _ hm
  clear hA0 hval0 hsz0 hsz
  refine ((contract x0 x1 g0 g1).calls W (reps_two rep0 rep1)).mono fun e W' ⟨he, bel⟩ => ?_
  subst he
  exact ⟨_, rfl, _, _, _, [], _, [], hW', trodAll_mk1 (shut_bool Try.underlying4 _), (trod_more (Below.trod laidOut (by kernel_rfl) (of_decide_eq_true (by kernel_rfl)) h0 bel lt0) (trod_more (Below.trod laidOut (by kernel_rfl) (of_decide_eq_true (by kernel_rfl)) h1 bel lt1) trod_none)), rfl, bel.frame _, fun h => by cases h⟩
theorem over : Rows.backTurnsRow.holds Try.pinned (OpenSpec.ofChange Rows.backTurnsSpec) :=
  OpenClaim.holds_of_wide 4 Try.f4 rfl rfl rfl rfl rfl rfl rfl ⟨rfl, rfl, rfl, rfl, rfl⟩ rfl rfl rfl rfl rfl (by kernel_rfl) Try.func4 (by kernel_rfl)
    (of_decide_eq_true (by kernel_rfl)) (by unfold Func.isWrapper; first | (rw [if_pos (by decide +kernel)]; kernel_rfl) | (rw [if_neg (by decide +kernel)]; exact ⟨rfl, rfl⟩))
    (fun os started H enc _ => lifted os started H enc)
theorem proved : Rows.BackTurnsSaid := over
end Go.Proofs.Ytgehkmifnjldfaa

