import Derived.Test.YtpinfihfbjkijaaDoorRfM15
import Derived.Test.YtpinfihfbjkijaaDoorRfG2
import Derived.Test.YtpinfihfbjkijaaDoorRfN4
/- Own work: nets at layer 15's seat; the document's automata. -/
set_option linter.unusedVariables false
set_option linter.unusedSimpArgs false
namespace Go.Proofs.YtpinfihfbjkijaaDoor
open Go.ChangeShapes Go.WideShapes Go.ChangeAt Go.RowKit Go.Rf
def goodNet (n : Net) : Prop := In64 n.signs ∧ goodIss n.by_ ∧ goodIss n.follow ∧ goodIs n.last
theorem goodNet.ok {n : Net} (h : goodNet n) : NetOk n :=
  ⟨h.2.1.1, h.2.2.1.1, h.2.2.2.1, fun r hr => (h.2.1.2 r hr).1, fun r hr => (h.2.2.1.2 r hr).1⟩
noncomputable def fs25 : Array Field := (match Tryd.prog.underlying 25 with | some (.struct fs) => fs | _ => #[])
theorem under25 : Tryd.prog.underlying 25 = some (.struct fs25) := by kernel_rfl
theorem fs25_eq : fs25.toList = [fs25[0]!, fs25[1]!, fs25[2]!, fs25[3]!] := by kernel_rfl
theorem ny0 : (fs25[0]!).type = 3 := by kernel_rfl
theorem ny1 : (fs25[1]!).type = 22 := by kernel_rfl
theorem ny2 : (fs25[2]!).type = 22 := by kernel_rfl
theorem ny3 : (fs25[3]!).type = 23 := by kernel_rfl
theorem dec25 : ∀ n, DecF Tryd.prog n 25 encNet goodNet
  | 0 => .zero (fun _ _ => by simp [encNet, AV.cells]; kernel_rfl) (fun _ _ => by simp [encNet, AV.cells, AV.atom, Rf.encI, encIss, encIs])
  | n + 1 => by
    have hR : DecR Tryd.prog n 0 fs25.toList (fun p : Int × List (List Int) × List (List Int) × List Int × Unit => (Rf.encI p.1).cells ++ ((encIss p.2.1).cells ++ ((encIss p.2.2.1).cells ++ ((encIs p.2.2.2.1).cells ++ [])))) (fun p => In64 p.1 ∧ goodIss p.2.1 ∧ goodIss p.2.2.1 ∧ goodIs p.2.2.2.1 ∧ True) := by
      rw [fs25_eq]
      refine DecR.cons (by kernel_rfl) (by rw [ny0]; exact dec3 n) (DecR.cons (by kernel_rfl) (by rw [ny1]; exact dec22 n) (DecR.cons (by kernel_rfl) (by rw [ny2]; exact dec22 n) (DecR.cons (by kernel_rfl) (by rw [ny3]; exact dec23 n) DecR.nil)))
    have h := DecF.struct (fuel := n) under25 (by kernel_rfl) hR
    exact h.map encNet goodNet (fun p => ⟨p.1, p.2.1, p.2.2.1, p.2.2.2.1⟩) (fun d => (d.signs, d.by_, d.follow, d.last, ())) (fun x => by simp [encNet, Rf.encI, encIss, encIs, AV.cells]) (fun x hx => ⟨hx.1, hx.2.1, hx.2.2.1, hx.2.2.2.1⟩)
      (fun y hy => ⟨⟨hy.1, hy.2.1, hy.2.2.1, hy.2.2.2, trivial⟩, by simp [encNet, Rf.encI, encIss, encIs, AV.cells]⟩)
theorem sumL_mem {l : List (List Int)} {r : List Int} (h : r ∈ l) : r.length ≤ sumL l l.length := by
  obtain ⟨i, hi, rfl⟩ := List.getElem_of_mem h
  have h1 := sumL_succ hi
  have h2 := sumL_le l (i + 1)
  omega
theorem small_great {n : Net} {m : Int} (hm : m ≤ 500) (h : greatN n m = false) : Small n := by
  have h1 : ¬ m < totN n := by simpa [greatN] using h
  unfold totN at h1
  refine ⟨fun l hl => ?_, by omega, by omega⟩
  simp only [Net.rows, List.mem_cons, List.mem_append] at hl
  rcases hl with rfl | hl | hl
  · omega
  · have := sumL_mem hl; omega
  · have := sumL_mem hl; omega
theorem is8 : Is Tryd.prog 8 (c_caesuraref13_Great) [4] 2 := ⟨Tryd.f8, Tryd.f8.body.getD .skip, Tryd.func8, by kernel_rfl, by kernel_rfl, by kernel_rfl, by kernel_rfl, by rw [Tryd.ntmps8]; decide⟩
theorem is44 : Is Tryd.prog 44 (c_caesuraref13_rising) [6] 3 := ⟨Tryd.f44, Tryd.f44.body.getD .skip, Tryd.func44, by kernel_rfl, by kernel_rfl, by kernel_rfl, by kernel_rfl, by rw [Tryd.ntmps44]; decide⟩
theorem is61 : Is Tryd.prog 61 (c_caesuraref01_put) [4] 2 := ⟨Tryd.f61, Tryd.f61.body.getD .skip, Tryd.func61, by kernel_rfl, by kernel_rfl, by kernel_rfl, by kernel_rfl, by rw [Tryd.ntmps61]; decide⟩
theorem is67 : Is Tryd.prog 67 (c_caesuraref01_put) [4] 2 := ⟨Tryd.f67, Tryd.f67.body.getD .skip, Tryd.func67, by kernel_rfl, by kernel_rfl, by kernel_rfl, by kernel_rfl, by rw [Tryd.ntmps67]; decide⟩
theorem is68 : Is Tryd.prog 68 (c_caesuraref13_has) [4] 2 := ⟨Tryd.f68, Tryd.f68.body.getD .skip, Tryd.func68, by kernel_rfl, by kernel_rfl, by kernel_rfl, by kernel_rfl, by rw [Tryd.ntmps68]; decide⟩
theorem is24 : Is Tryd.prog 24 (c_caesuraref13_Right 44) [2] 1 := ⟨Tryd.f24, Tryd.f24.body.getD .skip, Tryd.func24, by kernel_rfl, by kernel_rfl, by kernel_rfl, by kernel_rfl, by rw [Tryd.ntmps24]; decide⟩
theorem is45 : Is Tryd.prog 45 (c_caesuraref13_Step 24 46 61) [6] 3 := ⟨Tryd.f45, Tryd.f45.body.getD .skip, Tryd.func45, by kernel_rfl, by kernel_rfl, by kernel_rfl, by kernel_rfl, by rw [Tryd.ntmps45]; decide⟩
theorem is46 : Is Tryd.prog 46 (c_caesuraref13_has) [4] 2 := ⟨Tryd.f46, Tryd.f46.body.getD .skip, Tryd.func46, by kernel_rfl, by kernel_rfl, by kernel_rfl, by kernel_rfl, by rw [Tryd.ntmps46]; decide⟩
theorem is54 : Is Tryd.prog 54 (c_caesuraref15_behind 56 45 67) [8] 4 := ⟨Tryd.f54, Tryd.f54.body.getD .skip, Tryd.func54, by kernel_rfl, by kernel_rfl, by kernel_rfl, by kernel_rfl, by rw [Tryd.ntmps54]; decide⟩
theorem is56 : Is Tryd.prog 56 (c_caesuraref15_ends 68) [4] 2 := ⟨Tryd.f56, Tryd.f56.body.getD .skip, Tryd.func56, by kernel_rfl, by kernel_rfl, by kernel_rfl, by kernel_rfl, by rw [Tryd.ntmps56]; decide⟩
theorem isc30 : IsC Tryd.prog 30 (c_caesuraref15_made 24 54 55 56) [.c 6 (some 3), .t 7] 3 := ⟨Tryd.f30, Tryd.f30.body.getD .skip, Tryd.func30, by kernel_rfl, by kernel_rfl, by kernel_rfl, by kernel_rfl, by rw [Tryd.ntmps30]; decide⟩
theorem isc10 : IsC Tryd.prog 10 (c_caesuraref15_Whole 30) [.c 4 (some 3), .t 5] 2 := ⟨Tryd.f10, Tryd.f10.body.getD .skip, Tryd.func10, by kernel_rfl, by kernel_rfl, by kernel_rfl, by kernel_rfl, by rw [Tryd.ntmps10]; decide⟩
theorem isc12 : IsC Tryd.prog 12 (c_caesuraref15_Tails 30) [.c 4 (some 3), .t 5] 2 := ⟨Tryd.f12, Tryd.f12.body.getD .skip, Tryd.func12, by kernel_rfl, by kernel_rfl, by kernel_rfl, by kernel_rfl, by rw [Tryd.ntmps12]; decide⟩
theorem isc14 : IsC Tryd.prog 14 (c_caesuraref15_Heads 30) [.c 4 (some 3), .t 5] 2 := ⟨Tryd.f14, Tryd.f14.body.getD .skip, Tryd.func14, by kernel_rfl, by kernel_rfl, by kernel_rfl, by kernel_rfl, by rw [Tryd.ntmps14]; decide⟩
theorem cGreatN (n : Net) (ok : NetOk n) (m : Int) (hm : m ≤ 3000) : PureC Tryd.prog 8 [encNet n, Rf.encI m] (encB (greatN n m)) := is8.pure hmix rfl (Great13_body n ok m hm)
theorem cHas13 (l : List Int) (x : Int) (hl : Len l) : PureC Tryd.prog 46 [encIs l, Rf.encI x] (encB (l.contains x)) := is46.pure hmix rfl (has13_body l x hl)
theorem cHas15 (l : List Int) (x : Int) (hl : Len l) : PureC Tryd.prog 68 [encIs l, Rf.encI x] (encB (l.contains x)) := is68.pure hmix rfl (has13_body l x hl)
theorem cRising (l : List Int) (a b : Int) (hl : Len l) : PureC Tryd.prog 44 [encIs l, Rf.encI a, Rf.encI b] (encB (risesB l a b)) := is44.pure hmix rfl (rising13_body l a b hl)
theorem cRight13 (n : Net) (h : Small n) : PureC Tryd.prog 24 [encNet n] (encB (rightN n)) := is24.pure hmix rfl (Right13_body n h.ok (fun l hl a b => cRising l a b (len_small (h.rows l hl) (by omega))))
theorem cPut13 (l : List Int) (x : Int) (hl : l.length ≤ 100000) : PureC Tryd.prog 61 [encIs l, Rf.encI x] (encIs (putF l x)) := is61.pure hmix rfl (caesuraref01_put_body l x hl)
theorem cPut15 (l : List Int) (x : Int) (hl : l.length ≤ 100000) : PureC Tryd.prog 67 [encIs l, Rf.encI x] (encIs (putF l x)) := is67.pure hmix rfl (caesuraref01_put_body l x hl)
theorem cStep13 (n : Net) (h : Small n) (a : List Int) (s : Int) (ha : Len a) : PureC Tryd.prog 45 [encNet n, encIs a, Rf.encI s] (encIs (stpN n a s)) :=
  is45.pure hmix rfl (Step13_body n h.ok (cRight13 n h) (fun l hl x => cHas13 l x (len_small (h.rows l (by simp [Net.rows, hl])) (by omega))) cPut13 a ha s)
theorem cEnds15 (n : Net) (h : Small n) (set : List Int) (hs : Len set) : PureC Tryd.prog 56 [encNet n, encIs set] (encB (endsB n set)) := is56.pureB hmix rfl (ends15_body n set hs (fun x => cHas15 n.last x h.ok.last))
theorem cBehind15 (kd : Kd) (n : Net) (h : Small n) (R : RightN n) (set : List Int) (s : Int) (hv : Val n set) : PureC Tryd.prog 54 [encNet n, encIs set, Rf.encI s, Rf.encI (kdI kd)] (encIs (bhS kd n set s)) := by
  have hl : Len set := len_small hv.2 (by omega)
  have hst := cStep13 n h set s hl
  rw [stpN, if_pos ((rightN_iff n).mpr R)] at hst
  exact is54.pureB hmix rfl (behind15_body kd R set s (cEnds15 n h set hl) hst (fun l hl => cPut15 l 0 (by omega)))
theorem cMade15 (kd : Kd) (n : Net) (h : Small n) (most : Int) : PureC Tryd.prog 30 [encNet n, Rf.encI most, Rf.encI (kdI kd)] (encDE (resD kd n most)) :=
  isc30.pureB hmix rfl (made15_body kd n most (cRight13 n h) (fun R set s hv => cBehind15 kd n h R set s hv) cInts (fun R set hv => cEnds15 n h set (len_small hv.2 (by omega))))
theorem cRWhole (n : Net) (h : Small n) (most : Int) : PureC Tryd.prog 10 [encNet n, Rf.encI most] (encDE (resD .whole n most)) := isc10.pureB hmix rfl (ref15_Whole_body (cMade15 .whole n h most))
theorem cRTails (n : Net) (h : Small n) (most : Int) : PureC Tryd.prog 12 [encNet n, Rf.encI most] (encDE (resD .tails n most)) := isc12.pureB hmix rfl (ref15_Tails_body (cMade15 .tails n h most))
theorem cRHeads (n : Net) (h : Small n) (most : Int) : PureC Tryd.prog 14 [encNet n, Rf.encI most] (encDE (resD .heads n most)) := isc14.pureB hmix rfl (ref15_Heads_body (cMade15 .heads n h most))
end Go.Proofs.YtpinfihfbjkijaaDoor

