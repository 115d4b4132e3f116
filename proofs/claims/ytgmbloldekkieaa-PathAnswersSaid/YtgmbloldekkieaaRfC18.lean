import Derived.Test.YtgmbloldekkieaaRows
import Derived.Test.YtgmbloldekkieaaRfIn
import Derived.Test.YtgmbloldekkieaaRfB2
import Derived.Test.YtgmbloldekkieaaRfB3
import Derived.Test.YtgmbloldekkieaaRfB4
import Derived.Test.YtgmbloldekkieaaRfB5
import Derived.Test.YtgmbloldekkieaaRfB6
import Derived.Test.YtgmbloldekkieaaRfB8
import Derived.Test.YtgmbloldekkieaaRfB10
import Derived.Test.YtgmbloldekkieaaRfL6b
import Derived.Test.YtgmbloldekkieaaRfRun
import Derived.WalkKit
import Derived.ProofKit
import Derived.Below
import Derived.SizedLaws
import Derived.KernelRfl
set_option linter.unusedVariables false
set_option linter.unusedSimpArgs false
namespace Go.Proofs.Ytgmbloldekkieaa
open Go.ChangeShapes Go.WideShapes Go.ChangeAt Go.RowKit Go.Rf

def In64 (n : Int) : Prop := IntKind.i64.min ≤ n ∧ n ≤ IntKind.i64.max
def lenOk {X : Type} (l : List X) : Prop := l.length ≤ 140737488351232
def goodIs (l : List Int) : Prop := lenOk l ∧ ∀ x ∈ l, In64 x
def goodIss (l : List (List Int)) : Prop := lenOk l ∧ ∀ x ∈ l, goodIs x
def goodBs (l : List Bool) : Prop := lenOk l ∧ ∀ x ∈ l, True
def goodDet (d : Det) : Prop := In64 d.signs ∧ goodIss d.next ∧ goodBs d.fin
theorem goodDet.ok {d : Det} (h : goodDet d) : DetOk d :=
  ⟨h.2.1.1, h.2.2.1, fun r hr => (h.2.1.2 r hr).1, by have := h.1; simp [In64, IntKind.min, IntKind.max] at this; first | exact this | (simp [IntKind.bits] at this; omega)⟩

theorem dec3 (n : Nat) : DecF Try.prog n 3 encI In64 := DecF.int (by kernel_rfl) (by kernel_rfl) n
theorem dec4 (n : Nat) : DecF Try.prog n 4 encB (fun _ => True) := DecF.bool (by kernel_rfl) (by kernel_rfl) n
theorem dec26 : ∀ n, DecF Try.prog n 26 encIs goodIs
  | 0 => .zero (fun _ _ => by simp [encIs, AV.cells]; kernel_rfl) (fun _ _ => by simp [encIs, AV.cells, AV.atom])
  | n + 1 => DecF.slice (e := 3) (by kernel_rfl) (by kernel_rfl) (of_decide_eq_true (by kernel_rfl)) (of_decide_eq_true (by kernel_rfl)) (dec3 n)
theorem dec22 : ∀ n, DecF Try.prog n 22 encIss goodIss
  | 0 => .zero (fun _ _ => by simp [encIss, AV.cells]; kernel_rfl) (fun _ _ => by simp [encIss, AV.cells, AV.atom])
  | n + 1 => DecF.slice (e := 26) (by kernel_rfl) (by kernel_rfl) (of_decide_eq_true (by kernel_rfl)) (of_decide_eq_true (by kernel_rfl)) (dec26 n)
theorem dec23 : ∀ n, DecF Try.prog n 23 encBs goodBs
  | 0 => .zero (fun _ _ => by simp [encBs, AV.cells]; kernel_rfl) (fun _ _ => by simp [encBs, AV.cells, AV.atom])
  | n + 1 => DecF.slice (e := 4) (by kernel_rfl) (by kernel_rfl) (of_decide_eq_true (by kernel_rfl)) (of_decide_eq_true (by kernel_rfl)) (dec4 n)
noncomputable def fs25 : Array Field := (match Try.prog.underlying 25 with | some (.struct fs) => fs | _ => #[])
theorem under25 : Try.prog.underlying 25 = some (.struct fs25) := by kernel_rfl
theorem fs25_eq : fs25.toList = [fs25[0]!, fs25[1]!, fs25[2]!] := by kernel_rfl
theorem ty0 : (fs25[0]!).type = 3 := by kernel_rfl
theorem ty1 : (fs25[1]!).type = 22 := by kernel_rfl
theorem ty2 : (fs25[2]!).type = 23 := by kernel_rfl
theorem dec25 : ∀ n, DecF Try.prog n 25 encDet goodDet
  | 0 => .zero (fun _ _ => by simp [encDet, AV.cells]; kernel_rfl) (fun _ _ => by simp [encDet, AV.cells, AV.atom, encI, encIss, encBs])
  | n + 1 => by
    have hR : DecR Try.prog n 0 fs25.toList (fun p : Int × List (List Int) × List Bool × Unit => (encI p.1).cells ++ ((encIss p.2.1).cells ++ ((encBs p.2.2.1).cells ++ []))) (fun p => In64 p.1 ∧ goodIss p.2.1 ∧ goodBs p.2.2.1 ∧ True) := by
      rw [fs25_eq]
      refine DecR.cons (by kernel_rfl) (by rw [ty0]; exact dec3 n) (DecR.cons (by kernel_rfl) (by rw [ty1]; exact dec22 n) (DecR.cons (by kernel_rfl) (by rw [ty2]; exact dec23 n) DecR.nil))
    have h := DecF.struct (fuel := n) under25 (by kernel_rfl) hR
    exact h.map encDet goodDet (fun p => ⟨p.1, p.2.1, p.2.2.1⟩) (fun d => (d.signs, d.next, d.fin, ())) (fun x => by simp [encDet, encI, encIss, encBs, AV.cells]) (fun x hx => ⟨hx.1, hx.2.1, hx.2.2.1⟩)
      (fun y hy => ⟨⟨hy.1, hy.2.1, hy.2.2, trivial⟩, by simp [encDet, encI, encIss, encBs, AV.cells]⟩)

theorem hmix : Try.prog.follows .mixedOrders = true := by kernel_rfl
theorem is4 : Is Try.prog 4 (c_caesuralaw18_PathFirst 8 9 21 10 22 18) [4] 2 := ⟨Try.f4, Try.f4.body.getD .skip, Try.func4, by kernel_rfl, by kernel_rfl, by kernel_rfl, by kernel_rfl, by rw [Try.ntmps4]; decide⟩
theorem is6 : Is Try.prog 6 (c_caesuralaw18_PathFar 8 9 21 15 10) [2] 1 := ⟨Try.f6, Try.f6.body.getD .skip, Try.func6, by kernel_rfl, by kernel_rfl, by kernel_rfl, by kernel_rfl, by rw [Try.ntmps6]; decide⟩
theorem is9 : Is Try.prog 9 (c_caesuraref15_Great) [4] 2 := ⟨Try.f9, Try.f9.body.getD .skip, Try.func9, by kernel_rfl, by kernel_rfl, by kernel_rfl, by kernel_rfl, by rw [Try.ntmps9]; decide⟩
theorem is10 : Is Try.prog 10 (c_path_First 15 24 23) [2, 3] 1 := ⟨Try.f10, Try.f10.body.getD .skip, Try.func10, by kernel_rfl, by kernel_rfl, by kernel_rfl, by kernel_rfl, by rw [Try.ntmps10]; decide⟩
theorem is14 : Is Try.prog 14 (c_caesuraref01_Ints) [4] 2 := ⟨Try.f14, Try.f14.body.getD .skip, Try.func14, by kernel_rfl, by kernel_rfl, by kernel_rfl, by kernel_rfl, by rw [Try.ntmps14]; decide⟩
theorem is15 : Is Try.prog 15 (c_path_Far 25 27) [2] 1 := ⟨Try.f15, Try.f15.body.getD .skip, Try.func15, by kernel_rfl, by kernel_rfl, by kernel_rfl, by kernel_rfl, by rw [Try.ntmps15]; decide⟩
theorem is18 : Is Try.prog 18 (c_caesuraref18_Before) [4] 2 := ⟨Try.f18, Try.f18.body.getD .skip, Try.func18, by kernel_rfl, by kernel_rfl, by kernel_rfl, by kernel_rfl, by rw [Try.ntmps18]; decide⟩
theorem is21 : Is Try.prog 21 (c_caesuraref15_Right) [2] 1 := ⟨Try.f21, Try.f21.body.getD .skip, Try.func21, by kernel_rfl, by kernel_rfl, by kernel_rfl, by kernel_rfl, by rw [Try.ntmps21]; decide⟩
theorem is22 : Is Try.prog 22 (c_caesuraref15_Accepts 38) [4] 2 := ⟨Try.f22, Try.f22.body.getD .skip, Try.func22, by kernel_rfl, by kernel_rfl, by kernel_rfl, by kernel_rfl, by rw [Try.ntmps22]; decide⟩
theorem is23 : Is Try.prog 23 (c_slices_IndexFunc) [4] 2 := ⟨Try.f23, Try.f23.body.getD .skip, Try.func23, by kernel_rfl, by kernel_rfl, by kernel_rfl, by kernel_rfl, by rw [Try.ntmps23]; decide⟩
theorem is24 : Is Try.prog 24 (c_path_First_1) [4] 3 := ⟨Try.f24, Try.f24.body.getD .skip, Try.func24, by kernel_rfl, by kernel_rfl, by kernel_rfl, by kernel_rfl, by rw [Try.ntmps24]; decide⟩
theorem is25 : Is Try.prog 25 (c_det_Right 39 41 40) [2] 1 := ⟨Try.f25, Try.f25.body.getD .skip, Try.func25, by kernel_rfl, by kernel_rfl, by kernel_rfl, by kernel_rfl, by rw [Try.ntmps25]; decide⟩
theorem is27 : Is Try.prog 27 (c_path_graph_far) [2] 1 := ⟨Try.f27, Try.f27.body.getD .skip, Try.func27, by kernel_rfl, by kernel_rfl, by kernel_rfl, by kernel_rfl, by rw [Try.ntmps27]; decide⟩
theorem is33 : Is Try.prog 33 (c_cmp_Or_int_) [2] 1 := ⟨Try.f33, Try.f33.body.getD .skip, Try.func33, by kernel_rfl, by kernel_rfl, by kernel_rfl, by kernel_rfl, by rw [Try.ntmps33]; decide⟩
theorem is34 : Is Try.prog 34 (c_cmp_Compare_int_ 47) [4] 2 := ⟨Try.f34, Try.f34.body.getD .skip, Try.func34, by kernel_rfl, by kernel_rfl, by kernel_rfl, by kernel_rfl, by rw [Try.ntmps34]; decide⟩
theorem is35 : Is Try.prog 35 (c_slices_Compare_Sint_int_ 34) [4] 2 := ⟨Try.f35, Try.f35.body.getD .skip, Try.func35, by kernel_rfl, by kernel_rfl, by kernel_rfl, by kernel_rfl, by rw [Try.ntmps35]; decide⟩
theorem is47 : Is Try.prog 47 (c_cmp_isNaN_int_) [2] 1 := ⟨Try.f47, Try.f47.body.getD .skip, Try.func47, by kernel_rfl, by kernel_rfl, by kernel_rfl, by kernel_rfl, by rw [Try.ntmps47]; decide⟩
theorem is36 : Is Try.prog 36 (c_path_Write_1) [2] 1 := ⟨Try.f36, Try.f36.body.getD .skip, Try.func36, by kernel_rfl, by kernel_rfl, by kernel_rfl, by kernel_rfl, by rw [Try.ntmps36]; decide⟩
theorem is37 : Is Try.prog 37 (c_slices_ContainsFunc 23) [4] 2 := ⟨Try.f37, Try.f37.body.getD .skip, Try.func37, by kernel_rfl, by kernel_rfl, by kernel_rfl, by kernel_rfl, by rw [Try.ntmps37]; decide⟩
theorem is38 : Is Try.prog 38 (c_caesuraref15_Run 21) [4] 2 := ⟨Try.f38, Try.f38.body.getD .skip, Try.func38, by kernel_rfl, by kernel_rfl, by kernel_rfl, by kernel_rfl, by rw [Try.ntmps38]; decide⟩
theorem is39 : Is Try.prog 39 (c_det_Right_1) [3] 2 := ⟨Try.f39, Try.f39.body.getD .skip, Try.func39, by kernel_rfl, by kernel_rfl, by kernel_rfl, by kernel_rfl, by rw [Try.ntmps39]; decide⟩
theorem is40 : Is Try.prog 40 (c_slices_ContainsFunc 48) [4] 2 := ⟨Try.f40, Try.f40.body.getD .skip, Try.func40, by kernel_rfl, by kernel_rfl, by kernel_rfl, by kernel_rfl, by rw [Try.ntmps40]; decide⟩
theorem is41 : Is Try.prog 41 (c_det_Right_2 37) [4] 3 := ⟨Try.f41, Try.f41.body.getD .skip, Try.func41, by kernel_rfl, by kernel_rfl, by kernel_rfl, by kernel_rfl, by rw [Try.ntmps41]; decide⟩
theorem is48 : Is Try.prog 48 (c_slices_IndexFunc) [4] 2 := ⟨Try.f48, Try.f48.body.getD .skip, Try.func48, by kernel_rfl, by kernel_rfl, by kernel_rfl, by kernel_rfl, by rw [Try.ntmps48]; decide⟩
theorem is30 : Is Try.prog 30 (c_caesuraref15_Accepts 44) [4] 2 := ⟨Try.f30, Try.f30.body.getD .skip, Try.func30, by kernel_rfl, by kernel_rfl, by kernel_rfl, by kernel_rfl, by rw [Try.ntmps30]; decide⟩
theorem is44 : Is Try.prog 44 (c_det_Run 25) [4] 2 := ⟨Try.f44, Try.f44.body.getD .skip, Try.func44, by kernel_rfl, by kernel_rfl, by kernel_rfl, by kernel_rfl, by rw [Try.ntmps44]; decide⟩
theorem is19 : Is Try.prog 19 (c_path_Write 36 37) [4] 2 := ⟨Try.f19, Try.f19.body.getD .skip, Try.func19, by kernel_rfl, by kernel_rfl, by kernel_rfl, by kernel_rfl, by rw [Try.ntmps19]; decide⟩
theorem is20 : Is Try.prog 20 (c_caesuraref18_Write) [4] 2 := ⟨Try.f20, Try.f20.body.getD .skip, Try.func20, by kernel_rfl, by kernel_rfl, by kernel_rfl, by kernel_rfl, by rw [Try.ntmps20]; decide⟩
theorem is17 : Is Try.prog 17 (c_path_Before 34 35 33) [4] 2 := ⟨Try.f17, Try.f17.body.getD .skip, Try.func17, by kernel_rfl, by kernel_rfl, by kernel_rfl, by kernel_rfl, by rw [Try.ntmps17]; decide⟩
theorem isAlive : fnK (tabOf Try.prog) (runF (tabOf Try.prog) 500) 8 [] = some (encB true, true) := by kernel_rfl
theorem cAlive : PureC Try.prog 8 [] (encB true) := .run hmix 500 isAlive
theorem cInts (a b : List Int) (ha : Len a) (hb : Len b) : PureC Try.prog 14 [encIs a, encIs b] (encB (a == b)) := is14.pure hmix rfl (caesuraref01_Ints_body _ a b ha hb)
theorem cGreat (d : Det) (ok : DetOk d) (m : Int) (hm : m ≤ 3000) : PureC Try.prog 9 [encDet d, encI m] (encB (greatD d m)) := is9.pure hmix rfl (caesuraref15_Great_body _ d m ok hm)
theorem cRight (d : Det) (ok : DetOk d) : PureC Try.prog 21 [encDet d] (encB (rightD d)) := is21.pure hmix rfl (caesuraref15_Right_body _ d ok)
theorem cRun (d : Det) (ok : DetOk d) (l : List Int) (hl : Len l) : PureC Try.prog 38 [encDet d, encIs l] (encI (numO (runD d l))) := is38.pure hmix rfl (caesuraref15_Run_body d l hl (cRight d ok))
theorem cAccepts (d : Det) (ok : DetOk d) (l : List Int) (hl : Len l) : PureC Try.prog 22 [encDet d, encIs l] (encB (accD d l)) := is22.pure hmix rfl (caesuraref15_Accepts_body d l (cRun d ok l hl))
theorem cRefBefore (a b : List Int) (ha : Len a) (hb : Len b) : PureC Try.prog 18 [encIs a, encIs b] (encB (beforeS a b)) := is18.pure hmix rfl (caesuraref18_Before_body _ a b ha hb)
theorem cRefWrite (s : List Int) (p : Int) (hs : s.length ≤ 1000000) : PureC Try.prog 20 [encIs s, encI p] (encIs (writeS s p)) := is20.pure hmix rfl (caesuraref18_Write_body _ s p hs)
/-- slices.IndexFunc and slices.ContainsFunc at []int. -/
theorem cIndexI (l : List Int) (p : Int → Bool) (g : FuncId) (cap : List AV) (hl : Len l) (hcap : ∀ y ∈ cap, Closed y) (hp : ∀ x ∈ l, PureC Try.prog g (encI x :: cap) (encB (p x))) : PureC Try.prog 23 [encIs l, .clo g [] cap] (encI (idxF p l)) :=
  is23.pure hmix rfl (slices_IndexFunc_body (enc := encI) hl (fun _ => rfl) closed_I hcap hp)
theorem cContainsI (l : List Int) (p : Int → Bool) (g : FuncId) (cap : List AV) (hl : Len l) (hcap : ∀ y ∈ cap, Closed y) (hp : ∀ x ∈ l, PureC Try.prog g (encI x :: cap) (encB (p x))) : PureC Try.prog 37 [encIs l, .clo g [] cap] (encB (l.any p)) :=
  is37.pure hmix rfl (slices_ContainsFunc_body (enc := encI) closed_I hcap (cIndexI l p g cap hl hcap hp))
theorem cIndexL (l : List (List Int)) (p : List Int → Bool) (g : FuncId) (cap : List AV) (hl : Len l) (hcap : ∀ y ∈ cap, Closed y) (hp : ∀ x ∈ l, PureC Try.prog g (encIs x :: cap) (encB (p x))) : PureC Try.prog 48 [encIss l, .clo g [] cap] (encI (idxF p l)) :=
  is48.pure hmix rfl (slices_IndexFunc_body (enc := encIs) hl (fun _ => rfl) closed_Is hcap hp)
theorem cContainsL (l : List (List Int)) (p : List Int → Bool) (g : FuncId) (cap : List AV) (hl : Len l) (hcap : ∀ y ∈ cap, Closed y) (hp : ∀ x ∈ l, PureC Try.prog g (encIs x :: cap) (encB (p x))) : PureC Try.prog 40 [encIss l, .clo g [] cap] (encB (l.any p)) :=
  is40.pure hmix rfl (slices_ContainsFunc_body (enc := encIs) closed_Is hcap (cIndexL l p g cap hl hcap hp))
theorem closed_out (k : Nat) : Closed (.clo 39 [] [.eptr (encI k) 0]) := .clo _ _ _ cl_nil (cl_cons (.eptr _ _ (closed_I _)) cl_nil)
theorem cDetRight (d : Det) (ok : DetOk d) : PureC Try.prog 25 [encDet d] (encB (rightD d)) := by
  refine is25.pure hmix rfl (det_Right_body d ok ?_)
  refine cContainsL d.next (oddRow d) 41 _ ok.next (cl_cons (.eptr _ _ (closed_Det d)) (cl_cons (.eptr _ _ (closed_out _)) cl_nil)) (fun r hr => ?_)
  refine is41.pure hmix rfl (det_Right_2_body d r ?_)
  exact cContainsI r (outB d.next.length) 39 _ (ok.rows r hr) (cl_cons (.eptr _ _ (closed_I _)) cl_nil) (fun t _ => is39.pure hmix rfl (det_Right_1_body _ t _))
theorem cDetRun (d : Det) (ok : DetOk d) (l : List Int) (hl : Len l) : PureC Try.prog 44 [encDet d, encIs l] (encI (numO (runD d l))) := is44.pure hmix rfl (det_Run_body d l hl (cDetRight d ok))
theorem cDetAccepts (d : Det) (ok : DetOk d) (l : List Int) (hl : Len l) : PureC Try.prog 30 [encDet d, encIs l] (encB (accD d l)) := is30.pure hmix rfl (caesuraref15_Accepts_body d l (cDetRun d ok l hl))
theorem cOdd (s : Int) : PureC Try.prog 36 [encI s] (encB (oddS s)) := is36.pure hmix rfl (path_Write_1_body _ s)
theorem cWrite (s : List Int) (p : Int) (hs : s.length ≤ 1000000) : PureC Try.prog 19 [encIs s, encI p] (encIs (writeS s p)) :=
  is19.pure hmix rfl (path_Write_body s p hs (cContainsI s oddS 36 [] (by unfold Len; omega) cl_nil (fun x _ => cOdd x)))
theorem cWriteN (s : List Int) (p : Int) (hs : s.length ≤ 1000000) : PureN Try.prog 19 [encIs s, encI p] (encIs (writeS s p)) :=
  is19.pureN hmix rfl (path_Write_bodyN s p hs (cContainsI s oddS 36 [] (by unfold Len; omega) cl_nil (fun x _ => cOdd x)))
theorem cGraphFar (g : Gr) (ok : GrOk g) : PureC Try.prog 27 [encGr g] (encIs (farS g)) := is27.pure hmix rfl (path_graph_far_body _ g ok)
theorem cFar (d : Det) (ok : DetOk d) : PureC Try.prog 15 [encDet d] (encIs (farD d)) := is15.pure hmix rfl (path_Far_body d (cDetRight d ok) (fun h => cGraphFar _ (RightD.gr ((right_iff d).mp h))))
theorem cFirst (d : Det) (ok : DetOk d) : PureC Try.prog 10 [encDet d] (.tup [encIs (firstS d), encB (firstOk d)]) :=
  is10.pure hmix rfl (path_First_body d (cFar d ok) (fun t a ht ha hv => is24.pure hmix rfl (path_First_1_body _ (farD d) t a ht ha hv)) (fun l p cap hl hcap hp => cIndexI l p 24 cap hl hcap hp))
end Go.Proofs.Ytgmbloldekkieaa
