import Derived.Test.YtpllebbaahanjaaRows
import Derived.Test.YtpllebbaahanjaaRfDec
import Derived.Test.YtpllebbaahanjaaRfK12
import Derived.Test.YtpllebbaahanjaaRfRun
import Derived.WalkKit
import Derived.ProofKit
import Derived.Below
import Derived.SizedLaws
import Derived.KernelRfl
/- Own work: layer 12 at its seat: its functions' codes, its types, the fixed fact. -/
set_option linter.unusedVariables false
set_option linter.unusedSimpArgs false
namespace Go.Proofs.Ytpllebbaahanjaa
open Go.ChangeShapes Go.WideShapes Go.ChangeAt Go.RowKit Go.Rf

def tyB : BTy := { i := 3, b := 4, s := 9, is := 28, rg := 85, rgs := 34, p := 37, ps := 35, ru := 39, rus := 23, nd := 61, nds := 59, it := 63, its := 24, vr := 56, vrs := 22, ss := 25, bk := 27 }
theorem tyB_ok : chkBook Try.prog tyB = true := by kernel_rfl
theorem tyP_ok : chkPat Try.prog tyB = true := by kernel_rfl
def goodIs (l : List Int) : Prop := Len l ∧ ∀ x ∈ l, In64 x
theorem dec27 : ∀ n, DecF Try.prog n 27 encBook okBook := decBook (T := tyB) tyB_ok
theorem dec28 : ∀ n, DecF Try.prog n 28 encIs goodIs := chkL_ok (t := 28) (e := 3) (by kernel_rfl) (chkI_ok (by kernel_rfl))
theorem dec4 : ∀ n, DecF Try.prog n 4 encB (fun _ => True) := chkB_ok (by kernel_rfl)
theorem notS27 : ∃ fs, Try.prog.underlying 27 = some (.struct fs) ∨ ∃ n e, Try.prog.underlying 27 = some (.array n e) := ⟨(match Try.prog.underlying 27 with | some (.struct fs) => fs | _ => #[]), .inl (by kernel_rfl)⟩
theorem hmix : Try.prog.follows .mixedOrders = true := by kernel_rfl
theorem is7 : Is Try.prog 7 (c_caesuraref09_Great 15 16 17) [4] 2 := ⟨Try.f7, Try.f7.body.getD .skip, Try.func7, by kernel_rfl, by kernel_rfl, by kernel_rfl, by kernel_rfl, by rw [Try.ntmps7]; decide⟩
theorem is8 : Is Try.prog 8 (c_verdict_Cuts 11) [4] 2 := ⟨Try.f8, Try.f8.body.getD .skip, Try.func8, by kernel_rfl, by kernel_rfl, by kernel_rfl, by kernel_rfl, by rw [Try.ntmps8]; decide⟩
theorem is9 : Is Try.prog 9 (c_verdict_Decides 18 20 19) [6] 3 := ⟨Try.f9, Try.f9.body.getD .skip, Try.func9, by kernel_rfl, by kernel_rfl, by kernel_rfl, by kernel_rfl, by rw [Try.ntmps9]; decide⟩
theorem is10 : Is Try.prog 10 (c_verdict_Matches 21 22) [6] 3 := ⟨Try.f10, Try.f10.body.getD .skip, Try.func10, by kernel_rfl, by kernel_rfl, by kernel_rfl, by kernel_rfl, by rw [Try.ntmps10]; decide⟩
theorem is11 : Is Try.prog 11 (c_verdict_Cut 9 18) [6] 3 := ⟨Try.f11, Try.f11.body.getD .skip, Try.func11, by kernel_rfl, by kernel_rfl, by kernel_rfl, by kernel_rfl, by rw [Try.ntmps11]; decide⟩
theorem is14 : Is Try.prog 14 (c_caesuraref01_Ints) [4] 2 := ⟨Try.f14, Try.f14.body.getD .skip, Try.func14, by kernel_rfl, by kernel_rfl, by kernel_rfl, by kernel_rfl, by rw [Try.ntmps14]; decide⟩
theorem is15 : Is Try.prog 15 (c_caesuraref08_Weight 15) [4] 2 := ⟨Try.f15, Try.f15.body.getD .skip, Try.func15, by kernel_rfl, by kernel_rfl, by kernel_rfl, by kernel_rfl, by rw [Try.ntmps15]; decide⟩
theorem is16 : Is Try.prog 16 (c_caesuraref08_Great 15) [4] 2 := ⟨Try.f16, Try.f16.body.getD .skip, Try.func16, by kernel_rfl, by kernel_rfl, by kernel_rfl, by kernel_rfl, by rw [Try.ntmps16]; decide⟩
theorem is17 : Is Try.prog 17 (c_caesuraref06_Great 26) [4] 2 := ⟨Try.f17, Try.f17.body.getD .skip, Try.func17, by kernel_rfl, by kernel_rfl, by kernel_rfl, by kernel_rfl, by rw [Try.ntmps17]; decide⟩
theorem is18 : Is Try.prog 18 (c_verdict_inner) [4] 2 := ⟨Try.f18, Try.f18.body.getD .skip, Try.func18, by kernel_rfl, by kernel_rfl, by kernel_rfl, by kernel_rfl, by rw [Try.ntmps18]; decide⟩
theorem is20 : Is Try.prog 20 (c_verdict_Decides_1 10) [4] 3 := ⟨Try.f20, Try.f20.body.getD .skip, Try.func20, by kernel_rfl, by kernel_rfl, by kernel_rfl, by kernel_rfl, by rw [Try.ntmps20]; decide⟩
theorem is21 : Is Try.prog 21 (c_reach_Ends 28 27 30) [6] 3 := ⟨Try.f21, Try.f21.body.getD .skip, Try.func21, by kernel_rfl, by kernel_rfl, by kernel_rfl, by kernel_rfl, by rw [Try.ntmps21]; decide⟩
theorem is22 : Is Try.prog 22 (c_reach_Begins 31 32 21) [6] 3 := ⟨Try.f22, Try.f22.body.getD .skip, Try.func22, by kernel_rfl, by kernel_rfl, by kernel_rfl, by kernel_rfl, by rw [Try.ntmps22]; decide⟩
theorem is26 : Is Try.prog 26 (c_caesuraref06_Weight 26) [4] 2 := ⟨Try.f26, Try.f26.body.getD .skip, Try.func26, by kernel_rfl, by kernel_rfl, by kernel_rfl, by kernel_rfl, by rw [Try.ntmps26]; decide⟩
theorem is27 : Is Try.prog 27 (c_reach_once 36) [2] 1 := ⟨Try.f27, Try.f27.body.getD .skip, Try.func27, by kernel_rfl, by kernel_rfl, by kernel_rfl, by kernel_rfl, by rw [Try.ntmps27]; decide⟩
theorem is28 : Is Try.prog 28 (c_reach_Ends_1 29) [] 4 := ⟨Try.f28, Try.f28.body.getD .skip, Try.func28, by kernel_rfl, by kernel_rfl, by kernel_rfl, by kernel_rfl, by rw [Try.ntmps28]; decide⟩
theorem is29 : Is Try.prog 29 (c_reach_walker_from 37 38 29 39) [] 4 := ⟨Try.f29, Try.f29.body.getD .skip, Try.func29, by kernel_rfl, by kernel_rfl, by kernel_rfl, by kernel_rfl, by rw [Try.ntmps29]; decide⟩
theorem is32 : Is Try.prog 32 (c_reach_turned_int_ 43 44) [2] 1 := ⟨Try.f32, Try.f32.body.getD .skip, Try.func32, by kernel_rfl, by kernel_rfl, by kernel_rfl, by kernel_rfl, by rw [Try.ntmps32]; decide⟩
theorem is36 : Is Try.prog 36 (c_reach_once_1) [] 3 := ⟨Try.f36, Try.f36.body.getD .skip, Try.func36, by kernel_rfl, by kernel_rfl, by kernel_rfl, by kernel_rfl, by rw [Try.ntmps36]; decide⟩
theorem is37 : Is Try.prog 37 (c_slices_Contains_Sint_int_ 45) [4] 2 := ⟨Try.f37, Try.f37.body.getD .skip, Try.func37, by kernel_rfl, by kernel_rfl, by kernel_rfl, by kernel_rfl, by rw [Try.ntmps37]; decide⟩
theorem is38 : Is Try.prog 38 (c_reach_walker_all 46 27) [] 4 := ⟨Try.f38, Try.f38.body.getD .skip, Try.func38, by kernel_rfl, by kernel_rfl, by kernel_rfl, by kernel_rfl, by rw [Try.ntmps38]; decide⟩
theorem is44 : Is Try.prog 44 (c_slices_Reverse_Sint_int_) [] 1 := ⟨Try.f44, Try.f44.body.getD .skip, Try.func44, by kernel_rfl, by kernel_rfl, by kernel_rfl, by kernel_rfl, by rw [Try.ntmps44]; decide⟩
theorem is45 : Is Try.prog 45 (c_slices_Index_Sint_int_) [4] 2 := ⟨Try.f45, Try.f45.body.getD .skip, Try.func45, by kernel_rfl, by kernel_rfl, by kernel_rfl, by kernel_rfl, by rw [Try.ntmps45]; decide⟩
theorem is46 : Is Try.prog 46 (c_reach_walker_all_1 29) [] 4 := ⟨Try.f46, Try.f46.body.getD .skip, Try.func46, by kernel_rfl, by kernel_rfl, by kernel_rfl, by kernel_rfl, by rw [Try.ntmps46]; decide⟩
theorem is48 : Is Try.prog 48 (c_reach_walker_again_2 37) [] 2 := ⟨Try.f48, Try.f48.body.getD .skip, Try.func48, by kernel_rfl, by kernel_rfl, by kernel_rfl, by kernel_rfl, by rw [Try.ntmps48]; decide⟩
theorem is19 : Is Try.prog 19 c_slices_IndexFunc_Sapi_Rule_api_Rule_ [4] 2 := ⟨Try.f19, Try.f19.body.getD .skip, Try.func19, by kernel_rfl, by kernel_rfl, by kernel_rfl, by kernel_rfl, by rw [Try.ntmps19]; decide⟩
theorem is42 : Is Try.prog 42 c_slices_Reverse_Sapi_Pat_api_Pat_ [] 1 := ⟨Try.f42, Try.f42.body.getD .skip, Try.func42, by kernel_rfl, by kernel_rfl, by kernel_rfl, by kernel_rfl, by rw [Try.ntmps42]; decide⟩
theorem is43 : Is Try.prog 43 (c_slices_Clone 1 8 (.v (.int .i64 0))) [2] 1 := ⟨Try.f43, Try.f43.body.getD .skip, Try.func43, by kernel_rfl, by kernel_rfl, by kernel_rfl, by kernel_rfl, by rw [Try.ntmps43]; decide⟩
theorem isc31 : IsC Try.prog 31 (c_reach_Turn 31 42) [.c 2 (some 4)] 1 := ⟨Try.f31, Try.f31.body.getD .skip, Try.func31, by kernel_rfl, by kernel_rfl, by kernel_rfl, by kernel_rfl, by rw [Try.ntmps31]; decide⟩
theorem iss39 : IsS Try.prog 39 (c_reach_walker_again 47 27 48 29) [] 4 := ⟨Try.f39, Try.f39.body.getD .skip, Try.func39, by kernel_rfl, by kernel_rfl, by kernel_rfl, by kernel_rfl, by rw [Try.ntmps39]; decide⟩
theorem iss47 : IsS Try.prog 47 (c_reach_walker_again_1 29) [] 4 := ⟨Try.f47, Try.f47.body.getD .skip, Try.func47, by kernel_rfl, by kernel_rfl, by kernel_rfl, by kernel_rfl, by rw [Try.ntmps47]; decide⟩
theorem byClone : ByC Try.prog 43 (c_cloneOv 1 8 (.v (.int .i64 0))) [.t 2] 1 := Clone_by hmix is43
noncomputable def tab : Tab := tabS Try.prog (fun f => bif Nat.beq f 43 then some (c_cloneOv 1 8 (.v (.int .i64 0)), [.t 2], 1) else none) (fun _ => none)
theorem tabOk : TabOk Try.prog tab := by
  refine tabS_ok hmix (fun f p h => ?_) (fun f g args v h => by cases h)
  cases hb : Nat.beq f 43 with
  | true =>
    rw [hb] at h
    have : f = 43 := Nat.eq_of_beq_eq_true hb
    subst this
    cases h; exact @byClone
  | false => rw [hb] at h; cases h
theorem isAlive : fnK tab (runF tab 500) 6 [] = some (encB true, true) := by kernel_rfl
theorem cAlive : PureC Try.prog 6 [] (encB true) := .runX hmix tabOk 500 isAlive
theorem sort0 : fnK tab (runF tab 500) 30 [.sl true []] = some (.tup [], true) := by kernel_rfl
theorem rev0 : fnK tab (runF tab 500) 44 [.sl true []] = some (.tup [], true) := by kernel_rfl
theorem revP0 : fnK tab (runF tab 500) 42 [.sl true []] = some (.tup [], true) := by kernel_rfl
/-! ### contracts -/
theorem len_small {X : Type} {l : List X} {k : Nat} (h : l.length ≤ k) (hk : k ≤ 140737488351232) : Len l := by unfold Len; omega
theorem cIndex (l : List Int) (x : Int) (hl : Len l) : PureC Try.prog 45 [encIs l, Rf.encI x] (Rf.encI (idxF (fun y => x == y) l)) := is45.pure hmix rfl (slices_Index_body l x hl)
theorem cContains (l : List Int) (x : Int) (hl : Len l) : PureC Try.prog 37 [encIs l, Rf.encI x] (encB (l.contains x)) := is37.pure hmix rfl (slices_Contains_body l x (cIndex l x hl))
theorem fns : RFns Try.prog 29 38 39 47 27 36 46 48 37 := ⟨is29, is38, is46, iss39, iss47, is48, is27, is36, cContains⟩
theorem cEnds (p : Pat) (h : PatS p) (l : List Int) (hl : l.length ≤ 10000) (i : Int) : PureC Try.prog 21 [encPat p, encIs l, Rf.encI i] (encIs (endsP p l i)) :=
  is21.pure hmix rfl (reach_Ends_body hmix is28 is27 is36 hSort (.runX hmix tabOk 500 sort0) hl (from_ok hmix fns hl p h) i)
theorem cTurned (l : List Int) (hl : l.length ≤ 1000000) : PureC Try.prog 32 [encIs l] (encIs l.reverse) := is32.pure hmix rfl (reach_turned_body l hl byClone (HRev_of hmix is44) (.runX hmix tabOk 500 rev0))
theorem cTurn (p : Pat) (h : PatS p) : PureC Try.prog 31 [encPat p] (encPat (turnP p)) := turn_ok hmix isc31 (HRevP_of hmix is42) (.runX hmix tabOk 500 revP0) p h
theorem cBegins (p : Pat) (h : PatS p) (l : List Int) (hl : l.length ≤ 10000) (i : Int) : PureC Try.prog 22 [encPat p, encIs l, Rf.encI i] (encIs (beginsP (turnP p) l i)) :=
  is22.pure hmix rfl (reach_Begins_body p (turnP p) l i hl (cTurn p h) (fun m hm => cTurned m hm) (cEnds _ (PatS_turn p h) _ (by simpa using hl) _))
theorem cMatches (r : Rul) (hb : PatS r.before) (ha : PatS r.after) (l : List Int) (hl : l.length ≤ 10000) (i : Int) : PureC Try.prog 10 [encRul r, encIs l, Rf.encI i] (encB (verM r l i)) :=
  is10.pure hmix rfl (verdict_Matches_body r l i (cEnds _ ha l hl i) (cBegins _ hb l hl i))
theorem cInner (l : List Int) (i : Int) : PureC Try.prog 18 [encIs l, Rf.encI i] (encB (innerB l i)) := is18.pure hmix rfl (verdict_inner_body l i)
/-- No form of a rule of it is great. -/
def SmallR (x : Bk) : Prop := ∀ r ∈ x.rules, PatS r.before ∧ PatS r.after
theorem cDec1 (r : Rul) (hb : PatS r.before) (ha : PatS r.after) (l : List Int) (hl : l.length ≤ 10000) (i : Int) : PureC Try.prog 20 [encRul r, .eptr (encIs l) 0, .eptr (Rf.encI i) 0] (encB (verM r l i)) :=
  is20.pure hmix rfl (verdict_Decides_1_body r l i (cMatches r hb ha l hl i))
theorem cDecides (x : Bk) (ok : BkOk x) (h : SmallR x) (hx : Len x.rules) (l : List Int) (hl : l.length ≤ 10000) (i : Int) : PureC Try.prog 9 [encBk x, encIs l, Rf.encI i] (Rf.encI (decP x l i)) :=
  is9.pure hmix rfl (verdict_Decides_body x ok l i (cInner l i) (is19.pure hmix rfl (IndexFunc_Rul_body hx (cl_cons (.eptr _ _ (closed_Is l)) (cl_cons (.eptr _ _ (closed_I i)) cl_nil)) (fun r hr => cDec1 r (h r hr).1 (h r hr).2 l hl i))))
theorem cCut (x : Bk) (ok : BkOk x) (h : SmallR x) (hx : Len x.rules) (l : List Int) (hl : l.length ≤ 10000) (i : Int) : PureC Try.prog 11 [encBk x, encIs l, Rf.encI i] (encB (cutB x l i)) :=
  is11.pure hmix rfl (verdict_Cut_body x ok l i (cDecides x ok h hx l hl i) (cInner l i))
theorem cCuts (x : Bk) (ok : BkOk x) (h : SmallR x) (hx : Len x.rules) (l : List Int) (hl : l.length ≤ 10000) : PureC Try.prog 8 [encBk x, encIs l] (encIs (cutsP x l l.length)) :=
  is8.pure hmix rfl (verdict_Cuts_body x ok l (by omega) (fun i => cCut x ok h hx l hl i))
theorem cWeight (p : Pat) (h : goodP p) : PureC Try.prog 15 [encPat p, Rf.encI 0] (Rf.encI (wgtP p 0)) := weight_ok hmix is15 p 0 h (by omega) (by omega)
theorem cWeightN (p : Nod) (h : goodN p) : PureC Try.prog 26 [encNod p, Rf.encI 0] (Rf.encI (wgtN p 0)) := weightN_ok hmix is26 p 0 h (by omega) (by omega)
theorem cGreat (x : Book) (g : goodBook x) (m : Int) (hm : 0 ≤ m ∧ m ≤ 100000) : PureC Try.prog 7 [encBook x, Rf.encI m] (encB (great09 x m)) :=
  is7.pure hmix rfl (Great09_body x m hm g cWeight (is16.pure hmix rfl (Great08_body x.vars m hm g.v.1 g.v.2 (fun v hv => cWeight _ (g.v.2 v hv).2)))
    (is17.pure hmix rfl (Great06_body x.allows m hm g.a.1 g.a.2 (fun v hv => ⟨cWeightN _ (g.a.2 v hv).2.1, cWeightN _ (g.a.2 v hv).2.2⟩))))
theorem small_of {x : Book} {m : Int} (hm : 0 ≤ m ∧ m ≤ 2000) (g : goodBook x) (h : great09 x m = false) : SmallR x.bk := by
  obtain ⟨_, _, h1, _⟩ := great09_small hm g h
  intro r hr
  exact ⟨(wgtP_small _ 0 (g.r.2 r hr).1 (by omega) (by have := (h1 r hr).1; omega)).1, (wgtP_small _ 0 (g.r.2 r hr).2 (by omega) (by have := (h1 r hr).2; omega)).1⟩
end Go.Proofs.Ytpllebbaahanjaa

