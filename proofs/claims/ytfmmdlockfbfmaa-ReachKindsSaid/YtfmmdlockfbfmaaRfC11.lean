import Derived.Test.YtfmmdlockfbfmaaRows
import Derived.Test.YtfmmdlockfbfmaaRfDec
import Derived.Test.YtfmmdlockfbfmaaRfV4
import Derived.Test.YtfmmdlockfbfmaaRfK11
import Derived.Test.YtfmmdlockfbfmaaRfRun
import Derived.WalkKit
import Derived.ProofKit
import Derived.Below
import Derived.SizedLaws
import Derived.KernelRfl
/- Own work: layer 11 at its seat: its functions' codes, its types, the fixed fact, contracts. -/
set_option linter.unusedVariables false
set_option linter.unusedSimpArgs false
namespace Go.Proofs.Ytfmmdlockfbfmaa
open Go.ChangeShapes Go.WideShapes Go.ChangeAt Go.RowKit Go.Rf

def tyB : BTy := { i := 3, b := 4, s := 9, is := 23, rg := 58, rgs := 22, p := 26, ps := 24, ru := 0, rus := 0, nd := 0, nds := 0, it := 0, its := 0, vr := 0, vrs := 0, ss := 0, bk := 0 }
theorem tyP_ok : chkPat Try.prog tyB = true := by kernel_rfl
def goodIs (l : List Int) : Prop := Len l ∧ ∀ x ∈ l, In64 x
def encU8 (n : Int) : AV := .v (.int .u8 n)
def In8 (n : Int) : Prop := IntKind.u8.min ≤ n ∧ n ≤ IntKind.u8.max
theorem dec26 : ∀ n, DecF Try.prog n 26 encPat okP := fun n => (decPat (T := tyB) tyP_ok n).1
theorem dec23 : ∀ n, DecF Try.prog n 23 encIs goodIs := chkL_ok (t := 23) (e := 3) (by kernel_rfl) (chkI_ok (by kernel_rfl))
theorem dec5 (n : Nat) : DecF Try.prog n 5 encU8 In8 := DecF.int (by kernel_rfl) (by kernel_rfl) n
theorem dec37 : ∀ n, DecF Try.prog n 37 (fun l : List Int => .agg (l.map encU8)) (fun l => l.length = 2 ∧ ∀ x ∈ l, In8 x) := chkA_ok (e := 5) (by kernel_rfl) (fun _ => rfl) dec5
theorem aggE26 : ∀ x : Pat, encPat x = .agg ((encPat x).cells) := fun x => by obtain ⟨k, s, g, ks⟩ := x; rw [encPat_eq]; rfl
theorem notS26 : ∃ fs, Try.prog.underlying 26 = some (.struct fs) ∨ ∃ n e, Try.prog.underlying 26 = some (.array n e) := ⟨(match Try.prog.underlying 26 with | some (.struct fs) => fs | _ => #[]), .inl (by kernel_rfl)⟩
theorem notS37 : ∃ fs, Try.prog.underlying 37 = some (.struct fs) ∨ ∃ n e, Try.prog.underlying 37 = some (.array n e) := ⟨#[], .inr ⟨2, 5, by kernel_rfl⟩⟩
theorem hmix : Try.prog.follows .mixedOrders = true := by kernel_rfl
theorem is7 : Is Try.prog 7 (c_caesuraref08_Weight 7) [4] 2 := ⟨Try.f7, Try.f7.body.getD .skip, Try.func7, by kernel_rfl, by kernel_rfl, by kernel_rfl, by kernel_rfl, by rw [Try.ntmps7]; decide⟩
theorem is9 : Is Try.prog 9 (c_caesuraref11_Back) [2] 1 := ⟨Try.f9, Try.f9.body.getD .skip, Try.func9, by kernel_rfl, by kernel_rfl, by kernel_rfl, by kernel_rfl, by rw [Try.ntmps9]; decide⟩
theorem is10 : Is Try.prog 10 (c_reach_Ends 19 18 21) [6] 3 := ⟨Try.f10, Try.f10.body.getD .skip, Try.func10, by kernel_rfl, by kernel_rfl, by kernel_rfl, by kernel_rfl, by rw [Try.ntmps10]; decide⟩
theorem is11 : Is Try.prog 11 (c_reach_Begins 8 22 10) [6] 3 := ⟨Try.f11, Try.f11.body.getD .skip, Try.func11, by kernel_rfl, by kernel_rfl, by kernel_rfl, by kernel_rfl, by rw [Try.ntmps11]; decide⟩
theorem is12 : Is Try.prog 12 (c_reach_Matches 10 23) [8] 4 := ⟨Try.f12, Try.f12.body.getD .skip, Try.func12, by kernel_rfl, by kernel_rfl, by kernel_rfl, by kernel_rfl, by rw [Try.ntmps12]; decide⟩
theorem is13 : Is Try.prog 13 (c_caesuraref08_Same 24 16 13) [4] 2 := ⟨Try.f13, Try.f13.body.getD .skip, Try.func13, by kernel_rfl, by kernel_rfl, by kernel_rfl, by kernel_rfl, by rw [Try.ntmps13]; decide⟩
theorem is14 : Is Try.prog 14 (c_reach_Null 12) [2] 1 := ⟨Try.f14, Try.f14.body.getD .skip, Try.func14, by kernel_rfl, by kernel_rfl, by kernel_rfl, by kernel_rfl, by rw [Try.ntmps14]; decide⟩
theorem is16 : Is Try.prog 16 (c_caesuraref01_Ints) [4] 2 := ⟨Try.f16, Try.f16.body.getD .skip, Try.func16, by kernel_rfl, by kernel_rfl, by kernel_rfl, by kernel_rfl, by rw [Try.ntmps16]; decide⟩
theorem is17 : Is Try.prog 17 (c_slices_Reverse_Sapi_Pat_api_Pat_) [] 1 := ⟨Try.f17, Try.f17.body.getD .skip, Try.func17, by kernel_rfl, by kernel_rfl, by kernel_rfl, by kernel_rfl, by rw [Try.ntmps17]; decide⟩
theorem is18 : Is Try.prog 18 (c_reach_once 25) [2] 1 := ⟨Try.f18, Try.f18.body.getD .skip, Try.func18, by kernel_rfl, by kernel_rfl, by kernel_rfl, by kernel_rfl, by rw [Try.ntmps18]; decide⟩
theorem is19 : Is Try.prog 19 (c_reach_Ends_1 20) [] 4 := ⟨Try.f19, Try.f19.body.getD .skip, Try.func19, by kernel_rfl, by kernel_rfl, by kernel_rfl, by kernel_rfl, by rw [Try.ntmps19]; decide⟩
theorem is20 : Is Try.prog 20 (c_reach_walker_from 23 26 20 27) [] 4 := ⟨Try.f20, Try.f20.body.getD .skip, Try.func20, by kernel_rfl, by kernel_rfl, by kernel_rfl, by kernel_rfl, by rw [Try.ntmps20]; decide⟩
theorem is22 : Is Try.prog 22 (c_reach_turned_int_ 30 31) [2] 1 := ⟨Try.f22, Try.f22.body.getD .skip, Try.func22, by kernel_rfl, by kernel_rfl, by kernel_rfl, by kernel_rfl, by rw [Try.ntmps22]; decide⟩
theorem is23 : Is Try.prog 23 (c_slices_Contains_Sint_int_ 32) [4] 2 := ⟨Try.f23, Try.f23.body.getD .skip, Try.func23, by kernel_rfl, by kernel_rfl, by kernel_rfl, by kernel_rfl, by rw [Try.ntmps23]; decide⟩
theorem is24 : Is Try.prog 24 (c_caesuraref01_Ranges) [4] 2 := ⟨Try.f24, Try.f24.body.getD .skip, Try.func24, by kernel_rfl, by kernel_rfl, by kernel_rfl, by kernel_rfl, by rw [Try.ntmps24]; decide⟩
theorem is25 : Is Try.prog 25 (c_reach_once_1) [] 3 := ⟨Try.f25, Try.f25.body.getD .skip, Try.func25, by kernel_rfl, by kernel_rfl, by kernel_rfl, by kernel_rfl, by rw [Try.ntmps25]; decide⟩
theorem is26 : Is Try.prog 26 (c_reach_walker_all 33 18) [] 4 := ⟨Try.f26, Try.f26.body.getD .skip, Try.func26, by kernel_rfl, by kernel_rfl, by kernel_rfl, by kernel_rfl, by rw [Try.ntmps26]; decide⟩
theorem is31 : Is Try.prog 31 (c_slices_Reverse_Sint_int_) [] 1 := ⟨Try.f31, Try.f31.body.getD .skip, Try.func31, by kernel_rfl, by kernel_rfl, by kernel_rfl, by kernel_rfl, by rw [Try.ntmps31]; decide⟩
theorem is32 : Is Try.prog 32 (c_slices_Index_Sint_int_) [4] 2 := ⟨Try.f32, Try.f32.body.getD .skip, Try.func32, by kernel_rfl, by kernel_rfl, by kernel_rfl, by kernel_rfl, by rw [Try.ntmps32]; decide⟩
theorem is33 : Is Try.prog 33 (c_reach_walker_all_1 20) [] 4 := ⟨Try.f33, Try.f33.body.getD .skip, Try.func33, by kernel_rfl, by kernel_rfl, by kernel_rfl, by kernel_rfl, by rw [Try.ntmps33]; decide⟩
theorem is35 : Is Try.prog 35 (c_reach_walker_again_2 23) [] 2 := ⟨Try.f35, Try.f35.body.getD .skip, Try.func35, by kernel_rfl, by kernel_rfl, by kernel_rfl, by kernel_rfl, by rw [Try.ntmps35]; decide⟩
theorem is30 : Is Try.prog 30 (c_slices_Clone 1 8 (.v (.int .i64 0))) [2] 1 := ⟨Try.f30, Try.f30.body.getD .skip, Try.func30, by kernel_rfl, by kernel_rfl, by kernel_rfl, by kernel_rfl, by rw [Try.ntmps30]; decide⟩
theorem isc8 : IsC Try.prog 8 (c_reach_Turn 8 17) [.c 2 (some 4)] 1 := ⟨Try.f8, Try.f8.body.getD .skip, Try.func8, by kernel_rfl, by kernel_rfl, by kernel_rfl, by kernel_rfl, by rw [Try.ntmps8]; decide⟩
theorem iss27 : IsS Try.prog 27 (c_reach_walker_again 34 18 35 20) [] 4 := ⟨Try.f27, Try.f27.body.getD .skip, Try.func27, by kernel_rfl, by kernel_rfl, by kernel_rfl, by kernel_rfl, by rw [Try.ntmps27]; decide⟩
theorem iss34 : IsS Try.prog 34 (c_reach_walker_again_1 20) [] 4 := ⟨Try.f34, Try.f34.body.getD .skip, Try.func34, by kernel_rfl, by kernel_rfl, by kernel_rfl, by kernel_rfl, by rw [Try.ntmps34]; decide⟩
theorem byClone : ByC Try.prog 30 (c_cloneOv 1 8 (.v (.int .i64 0))) [.t 2] 1 := Clone_by hmix is30
noncomputable def tab : Tab := tabS Try.prog (fun f => bif Nat.beq f 30 then some (c_cloneOv 1 8 (.v (.int .i64 0)), [.t 2], 1) else none) (fun _ => none)
theorem tabOk : TabOk Try.prog tab := by
  refine tabS_ok hmix (fun f p h => ?_) (fun f g args v h => by cases h)
  cases hb : Nat.beq f 30 with
  | true =>
    rw [hb] at h
    have : f = 30 := Nat.eq_of_beq_eq_true hb
    subst this
    cases h; exact @byClone
  | false => rw [hb] at h; cases h
theorem isAlive : fnK tab (runF tab 500) 6 [] = some (encB true, true) := by kernel_rfl
theorem cAlive : PureC Try.prog 6 [] (encB true) := .runX hmix tabOk 500 isAlive
theorem sort0 : fnK tab (runF tab 500) 21 [.sl true []] = some (.tup [], true) := by kernel_rfl
theorem rev0 : fnK tab (runF tab 500) 31 [.sl true []] = some (.tup [], true) := by kernel_rfl
theorem revP0 : fnK tab (runF tab 500) 17 [.sl true []] = some (.tup [], true) := by kernel_rfl
theorem len_small {X : Type} {l : List X} {k : Nat} (h : l.length ≤ k) (hk : k ≤ 140737488351232) : Len l := by unfold Len; omega
theorem cIndex (l : List Int) (x : Int) (hl : Len l) : PureC Try.prog 32 [encIs l, Rf.encI x] (Rf.encI (idxF (fun y => x == y) l)) := is32.pure hmix rfl (slices_Index_body l x hl)
theorem cContains (l : List Int) (x : Int) (hl : Len l) : PureC Try.prog 23 [encIs l, Rf.encI x] (encB (l.contains x)) := is23.pure hmix rfl (slices_Contains_body l x (cIndex l x hl))
theorem fns : RFns Try.prog 20 26 27 34 18 25 33 35 23 := ⟨is20, is26, is33, iss27, iss34, is35, is18, is25, cContains⟩
theorem cEnds (p : Pat) (h : PatS p) (l : List Int) (hl : l.length ≤ 10000) (i : Int) : PureC Try.prog 10 [encPat p, encIs l, Rf.encI i] (encIs (endsP p l i)) :=
  is10.pure hmix rfl (reach_Ends_body hmix is19 is18 is25 hSort (.runX hmix tabOk 500 sort0) hl (from_ok hmix fns hl p h) i)
theorem cMat (p : Pat) (h : PatS p) (l : List Int) (hl : l.length ≤ 10000) (a b : Int) : PureC Try.prog 12 [encPat p, encIs l, Rf.encI a, Rf.encI b] (encB (matP p l a b)) :=
  is12.pure hmix rfl (reach_Matches_body p l a b (cEnds p h l hl a) (cContains _ b (len_small endsP_len (by omega))))
theorem cNull (p : Pat) (h : PatS p) : PureC Try.prog 14 [encPat p] (encB (matP p [] 0 0)) := is14.pure hmix rfl (reach_Null_body p (cMat p h [] (by simp) 0 0))
theorem cTurned (l : List Int) (hl : l.length ≤ 1000000) : PureC Try.prog 22 [encIs l] (encIs l.reverse) := is22.pure hmix rfl (reach_turned_body l hl byClone (HRev_of hmix is31) (.runX hmix tabOk 500 rev0))
theorem cTurn (p : Pat) (h : PatS p) : PureC Try.prog 8 [encPat p] (encPat (turnP p)) := turn_ok hmix isc8 (HRevP_of hmix is17) (.runX hmix tabOk 500 revP0) p h
theorem cBegins (p : Pat) (h : PatS p) (l : List Int) (hl : l.length ≤ 10000) (i : Int) : PureC Try.prog 11 [encPat p, encIs l, Rf.encI i] (encIs (beginsP (turnP p) l i)) :=
  is11.pure hmix rfl (reach_Begins_body p (turnP p) l i hl (cTurn p h) (fun m hm => cTurned m hm) (cEnds _ (PatS_turn p h) _ (by simpa using hl) _))
theorem cBack (l : List Int) (hl : l.length ≤ 1000000) : PureC Try.prog 9 [encIs l] (encIs l.reverse) := is9.pure hmix rfl (Back11_body l hl)
theorem cWeight (p : Pat) (h : goodP p) : PureC Try.prog 7 [encPat p, Rf.encI 0] (Rf.encI (wgtP p 0)) := weight_ok hmix is7 p 0 h (by omega) (by omega)
theorem cSame8 (p : Pat) (h : PatS2 p) : PureC Try.prog 13 [encPat p, encPat p] (encB true) :=
  same08_ok hmix is13 (fun a ha => by have := is24.pure hmix rfl (caesuraref01_Ranges_body a a ha); simpa using this) (fun a ha => by have := is16.pure hmix rfl (caesuraref01_Ints_body _ a a ha ha); simpa using this) p h
theorem small_of {p : Pat} (g : goodP p) (h : wgtP p 0 ≤ 2000) : PatS p := (wgtP_small p 0 g (by omega) h).1
end Go.Proofs.Ytfmmdlockfbfmaa

