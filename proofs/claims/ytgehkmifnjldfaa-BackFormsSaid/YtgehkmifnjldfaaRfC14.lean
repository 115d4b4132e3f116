import Derived.Test.YtgehkmifnjldfaaRows
import Derived.Test.YtgehkmifnjldfaaRfNew
import Derived.Test.YtgehkmifnjldfaaRfK8
import Derived.Test.YtgehkmifnjldfaaRfL10
import Derived.Test.YtgehkmifnjldfaaRfK14
import Derived.Test.YtgehkmifnjldfaaRfRun
import Derived.WalkKit
import Derived.ProofKit
import Derived.Below
import Derived.SizedLaws
import Derived.KernelRfl
set_option linter.unusedVariables false
set_option linter.unusedSimpArgs false
namespace Go.Proofs.Ytgehkmifnjldfaa
open Go.ChangeShapes Go.WideShapes Go.ChangeAt Go.RowKit Go.Rf

def In64 (n : Int) : Prop := IntKind.i64.min ≤ n ∧ n ≤ IntKind.i64.max
def lenOk {X : Type} (l : List X) : Prop := l.length ≤ 140737488351232
def goodIs (l : List Int) : Prop := lenOk l ∧ ∀ x ∈ l, In64 x
def goodIss (l : List (List Int)) : Prop := lenOk l ∧ ∀ x ∈ l, goodIs x
def goodNet (n : Net) : Prop := In64 n.signs ∧ goodIss n.by_ ∧ goodIss n.follow ∧ goodIs n.last
theorem goodNet.ok {n : Net} (h : goodNet n) : NetOk n :=
  ⟨h.2.1.1, h.2.2.1.1, h.2.2.2.1, fun r hr => (h.2.1.2 r hr).1, fun r hr => (h.2.2.1.2 r hr).1⟩
theorem dec3 (n : Nat) : DecF Try.prog n 3 Rf.encI In64 := DecF.int (by kernel_rfl) (by kernel_rfl) n
theorem dec23 : ∀ n, DecF Try.prog n 23 encIs goodIs
  | 0 => .zero (fun _ _ => by simp [encIs, AV.cells]; kernel_rfl) (fun _ _ => by simp [encIs, AV.cells, AV.atom])
  | n + 1 => DecF.slice (e := 3) (by kernel_rfl) (by kernel_rfl) (of_decide_eq_true (by kernel_rfl)) (of_decide_eq_true (by kernel_rfl)) (dec3 n)
theorem dec22 : ∀ n, DecF Try.prog n 22 encIss goodIss
  | 0 => .zero (fun _ _ => by simp [encIss, AV.cells]; kernel_rfl) (fun _ _ => by simp [encIss, AV.cells, AV.atom])
  | n + 1 => DecF.slice (e := 23) (by kernel_rfl) (by kernel_rfl) (of_decide_eq_true (by kernel_rfl)) (of_decide_eq_true (by kernel_rfl)) (dec23 n)
noncomputable def fs25 : Array Field := (match Try.prog.underlying 25 with | some (.struct fs) => fs | _ => #[])
theorem under25 : Try.prog.underlying 25 = some (.struct fs25) := by kernel_rfl
theorem fs25_eq : fs25.toList = [fs25[0]!, fs25[1]!, fs25[2]!, fs25[3]!] := by kernel_rfl
theorem ty0 : (fs25[0]!).type = 3 := by kernel_rfl
theorem ty1 : (fs25[1]!).type = 22 := by kernel_rfl
theorem ty2 : (fs25[2]!).type = 22 := by kernel_rfl
theorem ty3 : (fs25[3]!).type = 23 := by kernel_rfl
theorem dec25 : ∀ n, DecF Try.prog n 25 encNet goodNet
  | 0 => .zero (fun _ _ => by simp [encNet, AV.cells]; kernel_rfl) (fun _ _ => by simp [encNet, AV.cells, AV.atom, Rf.encI, encIss, encIs])
  | n + 1 => by
    have hR : DecR Try.prog n 0 fs25.toList (fun p : Int × List (List Int) × List (List Int) × List Int × Unit => (Rf.encI p.1).cells ++ ((encIss p.2.1).cells ++ ((encIss p.2.2.1).cells ++ ((encIs p.2.2.2.1).cells ++ [])))) (fun p => In64 p.1 ∧ goodIss p.2.1 ∧ goodIss p.2.2.1 ∧ goodIs p.2.2.2.1 ∧ True) := by
      rw [fs25_eq]
      refine DecR.cons (by kernel_rfl) (by rw [ty0]; exact dec3 n) (DecR.cons (by kernel_rfl) (by rw [ty1]; exact dec22 n) (DecR.cons (by kernel_rfl) (by rw [ty2]; exact dec22 n) (DecR.cons (by kernel_rfl) (by rw [ty3]; exact dec23 n) DecR.nil)))
    have h := DecF.struct (fuel := n) under25 (by kernel_rfl) hR
    exact h.map encNet goodNet (fun p => ⟨p.1, p.2.1, p.2.2.1, p.2.2.2.1⟩) (fun d => (d.signs, d.by_, d.follow, d.last, ())) (fun x => by simp [encNet, Rf.encI, encIss, encIs, AV.cells]) (fun x hx => ⟨hx.1, hx.2.1, hx.2.2.1, hx.2.2.2.1⟩)
      (fun y hy => ⟨⟨hy.1, hy.2.1, hy.2.2.1, hy.2.2.2, trivial⟩, by simp [encNet, Rf.encI, encIss, encIs, AV.cells]⟩)
theorem hmix : Try.prog.follows .mixedOrders = true := by kernel_rfl
theorem is8 : Is Try.prog 8 (c_caesuraref13_Great) [4] 2 := ⟨Try.f8, Try.f8.body.getD .skip, Try.func8, by kernel_rfl, by kernel_rfl, by kernel_rfl, by kernel_rfl, by rw [Try.ntmps8]; decide⟩
theorem is11 : Is Try.prog 11 (c_caesuraref14_Heads 27) [4] 2 := ⟨Try.f11, Try.f11.body.getD .skip, Try.func11, by kernel_rfl, by kernel_rfl, by kernel_rfl, by kernel_rfl, by rw [Try.ntmps11]; decide⟩
theorem is12 : Is Try.prog 12 (c_caesuraref14_Tails 27) [4] 2 := ⟨Try.f12, Try.f12.body.getD .skip, Try.func12, by kernel_rfl, by kernel_rfl, by kernel_rfl, by kernel_rfl, by rw [Try.ntmps12]; decide⟩
theorem is13 : Is Try.prog 13 (c_caesuraref13_Same 28 14) [4] 2 := ⟨Try.f13, Try.f13.body.getD .skip, Try.func13, by kernel_rfl, by kernel_rfl, by kernel_rfl, by kernel_rfl, by rw [Try.ntmps13]; decide⟩
theorem is14 : Is Try.prog 14 (c_caesuraref01_Ints) [4] 2 := ⟨Try.f14, Try.f14.body.getD .skip, Try.func14, by kernel_rfl, by kernel_rfl, by kernel_rfl, by kernel_rfl, by rw [Try.ntmps14]; decide⟩
theorem is15 : Is Try.prog 15 (c_back_Heads 30 29) [4] 2 := ⟨Try.f15, Try.f15.body.getD .skip, Try.func15, by kernel_rfl, by kernel_rfl, by kernel_rfl, by kernel_rfl, by rw [Try.ntmps15]; decide⟩
theorem is16 : Is Try.prog 16 (c_back_Tails 31 15) [4] 2 := ⟨Try.f16, Try.f16.body.getD .skip, Try.func16, by kernel_rfl, by kernel_rfl, by kernel_rfl, by kernel_rfl, by rw [Try.ntmps16]; decide⟩
theorem is17 : Is Try.prog 17 (c_back_Head 32 29) [4] 2 := ⟨Try.f17, Try.f17.body.getD .skip, Try.func17, by kernel_rfl, by kernel_rfl, by kernel_rfl, by kernel_rfl, by rw [Try.ntmps17]; decide⟩
theorem is18 : Is Try.prog 18 (c_back_Tail 31 17) [4] 2 := ⟨Try.f18, Try.f18.body.getD .skip, Try.func18, by kernel_rfl, by kernel_rfl, by kernel_rfl, by kernel_rfl, by rw [Try.ntmps18]; decide⟩
theorem is19 : Is Try.prog 19 (c_caesuraref13_Right 33) [2] 1 := ⟨Try.f19, Try.f19.body.getD .skip, Try.func19, by kernel_rfl, by kernel_rfl, by kernel_rfl, by kernel_rfl, by rw [Try.ntmps19]; decide⟩
theorem is20 : Is Try.prog 20 (c_caesuraref11_Back) [2] 1 := ⟨Try.f20, Try.f20.body.getD .skip, Try.func20, by kernel_rfl, by kernel_rfl, by kernel_rfl, by kernel_rfl, by rw [Try.ntmps20]; decide⟩
theorem is21 : Is Try.prog 21 (c_caesuralaw14_accepts 27) [4] 2 := ⟨Try.f21, Try.f21.body.getD .skip, Try.func21, by kernel_rfl, by kernel_rfl, by kernel_rfl, by kernel_rfl, by rw [Try.ntmps21]; decide⟩
theorem is25 : Is Try.prog 25 (c_net_Right 37) [2] 1 := ⟨Try.f25, Try.f25.body.getD .skip, Try.func25, by kernel_rfl, by kernel_rfl, by kernel_rfl, by kernel_rfl, by rw [Try.ntmps25]; decide⟩
theorem is26 : Is Try.prog 26 (c_caesuraref13_has) [4] 2 := ⟨Try.f26, Try.f26.body.getD .skip, Try.func26, by kernel_rfl, by kernel_rfl, by kernel_rfl, by kernel_rfl, by rw [Try.ntmps26]; decide⟩
theorem is27 : Is Try.prog 27 (c_caesuraref13_Accepts 38 19 39) [4] 2 := ⟨Try.f27, Try.f27.body.getD .skip, Try.func27, by kernel_rfl, by kernel_rfl, by kernel_rfl, by kernel_rfl, by rw [Try.ntmps27]; decide⟩
theorem is28 : Is Try.prog 28 (c_caesuraref13_Lists 14) [4] 2 := ⟨Try.f28, Try.f28.body.getD .skip, Try.func28, by kernel_rfl, by kernel_rfl, by kernel_rfl, by kernel_rfl, by rw [Try.ntmps28]; decide⟩
theorem is29 : Is Try.prog 29 (c_back_heads 25 40 42 43) [] 3 := ⟨Try.f29, Try.f29.body.getD .skip, Try.func29, by kernel_rfl, by kernel_rfl, by kernel_rfl, by kernel_rfl, by rw [Try.ntmps29]; decide⟩
theorem is30 : Is Try.prog 30 (c_back_Heads_1) [3] 2 := ⟨Try.f30, Try.f30.body.getD .skip, Try.func30, by kernel_rfl, by kernel_rfl, by kernel_rfl, by kernel_rfl, by rw [Try.ntmps30]; decide⟩
theorem is32 : Is Try.prog 32 (c_back_Head_1) [3] 2 := ⟨Try.f32, Try.f32.body.getD .skip, Try.func32, by kernel_rfl, by kernel_rfl, by kernel_rfl, by kernel_rfl, by rw [Try.ntmps32]; decide⟩
theorem is33 : Is Try.prog 33 (c_caesuraref13_rising) [6] 3 := ⟨Try.f33, Try.f33.body.getD .skip, Try.func33, by kernel_rfl, by kernel_rfl, by kernel_rfl, by kernel_rfl, by rw [Try.ntmps33]; decide⟩
theorem is36 : Is Try.prog 36 (c_caesuraref01_put) [4] 2 := ⟨Try.f36, Try.f36.body.getD .skip, Try.func36, by kernel_rfl, by kernel_rfl, by kernel_rfl, by kernel_rfl, by rw [Try.ntmps36]; decide⟩
theorem is37 : Is Try.prog 37 (c_net_lies 50 49) [6] 3 := ⟨Try.f37, Try.f37.body.getD .skip, Try.func37, by kernel_rfl, by kernel_rfl, by kernel_rfl, by kernel_rfl, by rw [Try.ntmps37]; decide⟩
theorem is38 : Is Try.prog 38 (c_caesuraref13_Step 19 39 36) [6] 3 := ⟨Try.f38, Try.f38.body.getD .skip, Try.func38, by kernel_rfl, by kernel_rfl, by kernel_rfl, by kernel_rfl, by rw [Try.ntmps38]; decide⟩
theorem is39 : Is Try.prog 39 (c_caesuraref13_has) [4] 2 := ⟨Try.f39, Try.f39.body.getD .skip, Try.func39, by kernel_rfl, by kernel_rfl, by kernel_rfl, by kernel_rfl, by rw [Try.ntmps39]; decide⟩
theorem is40 : Is Try.prog 40 (c_net_Accepts_1 41) [3] 2 := ⟨Try.f40, Try.f40.body.getD .skip, Try.func40, by kernel_rfl, by kernel_rfl, by kernel_rfl, by kernel_rfl, by rw [Try.ntmps40]; decide⟩
theorem is41 : Is Try.prog 41 (c_slices_Contains_Sint_int_ 51) [4] 2 := ⟨Try.f41, Try.f41.body.getD .skip, Try.func41, by kernel_rfl, by kernel_rfl, by kernel_rfl, by kernel_rfl, by rw [Try.ntmps41]; decide⟩
theorem is42 : Is Try.prog 42 (c_slices_ContainsFunc 52) [4] 2 := ⟨Try.f42, Try.f42.body.getD .skip, Try.func42, by kernel_rfl, by kernel_rfl, by kernel_rfl, by kernel_rfl, by rw [Try.ntmps42]; decide⟩
theorem is43 : Is Try.prog 43 (c_net_Step 25 53) [6] 3 := ⟨Try.f43, Try.f43.body.getD .skip, Try.func43, by kernel_rfl, by kernel_rfl, by kernel_rfl, by kernel_rfl, by rw [Try.ntmps43]; decide⟩
theorem is45 : Is Try.prog 45 (c_slices_Reverse_Sint_int_) [] 1 := ⟨Try.f45, Try.f45.body.getD .skip, Try.func45, by kernel_rfl, by kernel_rfl, by kernel_rfl, by kernel_rfl, by rw [Try.ntmps45]; decide⟩
theorem is49 : Is Try.prog 49 (c_slices_Equal_Sint_int_) [4] 2 := ⟨Try.f49, Try.f49.body.getD .skip, Try.func49, by kernel_rfl, by kernel_rfl, by kernel_rfl, by kernel_rfl, by rw [Try.ntmps49]; decide⟩
theorem is50 : Is Try.prog 50 (c_net_set 44 54 55) [2] 1 := ⟨Try.f50, Try.f50.body.getD .skip, Try.func50, by kernel_rfl, by kernel_rfl, by kernel_rfl, by kernel_rfl, by rw [Try.ntmps50]; decide⟩
theorem is51 : Is Try.prog 51 (c_slices_Index_Sint_int_) [4] 2 := ⟨Try.f51, Try.f51.body.getD .skip, Try.func51, by kernel_rfl, by kernel_rfl, by kernel_rfl, by kernel_rfl, by rw [Try.ntmps51]; decide⟩
theorem is52 : Is Try.prog 52 (c_slices_IndexFunc) [4] 2 := ⟨Try.f52, Try.f52.body.getD .skip, Try.func52, by kernel_rfl, by kernel_rfl, by kernel_rfl, by kernel_rfl, by rw [Try.ntmps52]; decide⟩
theorem is53 : Is Try.prog 53 (c_net_step 41 50) [6] 3 := ⟨Try.f53, Try.f53.body.getD .skip, Try.func53, by kernel_rfl, by kernel_rfl, by kernel_rfl, by kernel_rfl, by rw [Try.ntmps53]; decide⟩
theorem is44 : Is Try.prog 44 (c_slices_Clone 1 8 (.v (.int .i64 0))) [2] 1 := ⟨Try.f44, Try.f44.body.getD .skip, Try.func44, by kernel_rfl, by kernel_rfl, by kernel_rfl, by kernel_rfl, by rw [Try.ntmps44]; decide⟩
theorem isc9 : IsC Try.prog 9 (c_back_Turn 25) [.c 2 (some 4), .t 3] 1 := ⟨Try.f9, Try.f9.body.getD .skip, Try.func9, by kernel_rfl, by kernel_rfl, by kernel_rfl, by kernel_rfl, by rw [Try.ntmps9]; decide⟩
theorem isc10 : IsC Try.prog 10 (c_caesuraref14_Turn 19 26) [.c 2 (some 4), .t 3] 1 := ⟨Try.f10, Try.f10.body.getD .skip, Try.func10, by kernel_rfl, by kernel_rfl, by kernel_rfl, by kernel_rfl, by rw [Try.ntmps10]; decide⟩
theorem isc31 : IsC Try.prog 31 (c_back_turned 9 44 45) [.c 4 (some 4), .t 5] 2 := ⟨Try.f31, Try.f31.body.getD .skip, Try.func31, by kernel_rfl, by kernel_rfl, by kernel_rfl, by kernel_rfl, by rw [Try.ntmps31]; decide⟩
theorem byClone : ByC Try.prog 44 (c_cloneOv 1 8 (.v (.int .i64 0))) [.t 2] 1 := Clone_by hmix is44
noncomputable def tab : Tab := tabX Try.prog (fun f => bif Nat.beq f 44 then some (c_cloneOv 1 8 (.v (.int .i64 0)), [.t 2], 1) else none) (fun _ => none)
theorem tabOk : TabOk Try.prog tab := by
  refine tabX_ok hmix (fun f p h => ?_) (fun f g args v h => by cases h)
  cases hb : Nat.beq f 44 with
  | true =>
    rw [hb] at h
    have : f = 44 := Nat.eq_of_beq_eq_true hb
    subst this
    cases h; exact @byClone
  | false => rw [hb] at h; cases h
theorem isAlive : fnK tab (runF tab 500) 7 [] = some (encB true, true) := by kernel_rfl
theorem cAlive : PureC Try.prog 7 [] (encB true) := .runX hmix tabOk 500 isAlive
theorem sort0 : fnK tab (runF tab 500) 54 [.sl true []] = some (.tup [], true) := by kernel_rfl
theorem comp0 : fnK tab (runF tab 500) 55 [.sl true []] = some (.sl true [], true) := by kernel_rfl
theorem rev0 : fnK tab (runF tab 500) 45 [.sl true []] = some (.tup [], true) := by kernel_rfl
end Go.Proofs.Ytgehkmifnjldfaa

