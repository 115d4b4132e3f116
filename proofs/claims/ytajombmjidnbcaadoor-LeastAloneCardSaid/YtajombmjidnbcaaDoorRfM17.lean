import Derived.Test.YtajombmjidnbcaaDoorRfC17
import Derived.Test.YtajombmjidnbcaaDoorRfP6
import Derived.Test.YtajombmjidnbcaaDoorRfGam
import Derived.Test.YtajombmjidnbcaaDoorCards
import Derived.Test.YtajombmjidnbcaaDoorTie
import Derived.LaidMore
import Derived.OpenShut
import Derived.Stop.Joined
import Derived.SevenTiedAt
/- Own work: layer 17's types at its seat; its contracts; the laid variables. -/
set_option linter.unusedVariables false
set_option linter.unusedSimpArgs false
namespace Go.Proofs.YtajombmjidnbcaaDoor
open Go.ChangeShapes Go.WideShapes Go.ChangeAt Go.RowKit Go.Rf

def In64 (n : Int) : Prop := IntKind.i64.min ≤ n ∧ n ≤ IntKind.i64.max
def lenOk {X : Type} (l : List X) : Prop := l.length ≤ 140737488351232
def goodIs (l : List Int) : Prop := lenOk l ∧ ∀ x ∈ l, In64 x
def goodIss (l : List (List Int)) : Prop := lenOk l ∧ ∀ x ∈ l, goodIs x
def goodBs (l : List Bool) : Prop := lenOk l ∧ ∀ x ∈ l, True
def goodDet (d : Det) : Prop := In64 d.signs ∧ goodIss d.next ∧ goodBs d.fin
theorem goodDet.ok {d : Det} (h : goodDet d) : DetOk d :=
  ⟨h.2.1.1, h.2.2.1, fun r hr => (h.2.1.2 r hr).1, by have := h.1; simp [In64, IntKind.min, IntKind.max] at this; first | exact this | (simp [IntKind.bits] at this; omega)⟩
theorem dec3 (n : Nat) : DecF Tryd.prog n 3 Rf.encI In64 := DecF.int (by kernel_rfl) (by kernel_rfl) n
theorem dec4 (n : Nat) : DecF Tryd.prog n 4 encB (fun _ => True) := DecF.bool (by kernel_rfl) (by kernel_rfl) n
theorem dec34 : ∀ n, DecF Tryd.prog n 34 encIs goodIs
  | 0 => .zero (fun _ _ => by simp [encIs, AV.cells]; kernel_rfl) (fun _ _ => by simp [encIs, AV.cells, AV.atom])
  | n + 1 => DecF.slice (e := 3) (by kernel_rfl) (by kernel_rfl) (of_decide_eq_true (by kernel_rfl)) (of_decide_eq_true (by kernel_rfl)) (dec3 n)
theorem dec22 : ∀ n, DecF Tryd.prog n 22 encIss goodIss
  | 0 => .zero (fun _ _ => by simp [encIss, AV.cells]; kernel_rfl) (fun _ _ => by simp [encIss, AV.cells, AV.atom])
  | n + 1 => DecF.slice (e := 34) (by kernel_rfl) (by kernel_rfl) (of_decide_eq_true (by kernel_rfl)) (of_decide_eq_true (by kernel_rfl)) (dec34 n)
theorem dec23 : ∀ n, DecF Tryd.prog n 23 encBs goodBs
  | 0 => .zero (fun _ _ => by simp [encBs, AV.cells]; kernel_rfl) (fun _ _ => by simp [encBs, AV.cells, AV.atom])
  | n + 1 => DecF.slice (e := 4) (by kernel_rfl) (by kernel_rfl) (of_decide_eq_true (by kernel_rfl)) (of_decide_eq_true (by kernel_rfl)) (dec4 n)
noncomputable def fs25 : Array Field := (match Tryd.prog.underlying 25 with | some (.struct fs) => fs | _ => #[])
theorem under25 : Tryd.prog.underlying 25 = some (.struct fs25) := by kernel_rfl
theorem fs25_eq : fs25.toList = [fs25[0]!, fs25[1]!, fs25[2]!] := by kernel_rfl
theorem ty0 : (fs25[0]!).type = 3 := by kernel_rfl
theorem ty1 : (fs25[1]!).type = 22 := by kernel_rfl
theorem ty2 : (fs25[2]!).type = 23 := by kernel_rfl
theorem dec25 : ∀ n, DecF Tryd.prog n 25 encDet goodDet
  | 0 => .zero (fun _ _ => by simp [encDet, AV.cells]; kernel_rfl) (fun _ _ => by simp [encDet, AV.cells, AV.atom, Rf.encI, encIss, encBs])
  | n + 1 => by
    have hR : DecR Tryd.prog n 0 fs25.toList (fun p : Int × List (List Int) × List Bool × Unit => (Rf.encI p.1).cells ++ ((encIss p.2.1).cells ++ ((encBs p.2.2.1).cells ++ []))) (fun p => In64 p.1 ∧ goodIss p.2.1 ∧ goodBs p.2.2.1 ∧ True) := by
      rw [fs25_eq]
      refine DecR.cons (by kernel_rfl) (by rw [ty0]; exact dec3 n) (DecR.cons (by kernel_rfl) (by rw [ty1]; exact dec22 n) (DecR.cons (by kernel_rfl) (by rw [ty2]; exact dec23 n) DecR.nil))
    have h := DecF.struct (fuel := n) under25 (by kernel_rfl) hR
    exact h.map encDet goodDet (fun p => ⟨p.1, p.2.1, p.2.2.1⟩) (fun d => (d.signs, d.next, d.fin, ())) (fun x => by simp [encDet, Rf.encI, encIss, encBs, AV.cells]) (fun x hx => ⟨hx.1, hx.2.1, hx.2.2.1⟩)
      (fun y hy => ⟨⟨hy.1, hy.2.1, hy.2.2, trivial⟩, by simp [encDet, Rf.encI, encIss, encBs, AV.cells]⟩)
abbrev laidL : List (String × DataW Unit) := [("math/bits.deBruijn32tab", Rows.laid_math_bits_deBruijn32tab), ("math/bits.deBruijn64tab", Rows.laid_math_bits_deBruijn64tab), ("internal/strconv.uint64pow10", Rows.laid_internal_strconv_uint64pow10)]
theorem door_met (os : Os) (args : Array Value) : laidMetH Tryd.prog laidL ((World.doorLaid Tryd.prog 400 os).forCall (fun _ _ => 0) ⟨#[], args, []⟩).memory :=
  laidMetH_of_parts3 (fuel := 8) (laidMet_of_run' 8 (by kernel_rfl) (by kernel_rfl)) (by kernel_rfl) (by kernel_rfl)
theorem gamL (W : World) (h : laidMetH Tryd.prog laidL W) : Gam Tryd.prog (E0 W).H :=
  gam_laid h (by kernel_rfl) (List.mem_cons_of_mem _ (List.mem_cons_of_mem _ (List.mem_singleton.mpr (by kernel_rfl)))) (g := 0) (t := 91) (e := 84) (n := 20) (by kernel_rfl) (by kernel_rfl) (by kernel_rfl) (by kernel_rfl) (by kernel_rfl) (by kernel_rfl)
/-! ### automata -/
theorem cGreat (d : Det) (ok : DetOk d) (m : Int) (hm : m ≤ 3000) : PureC Tryd.prog 9 [encDet d, Rf.encI m] (encB (greatD d m)) := is9.pure hmix rfl (caesuraref15_Great_body _ d m ok hm)
theorem cRight (d : Det) (ok : DetOk d) : PureC Tryd.prog 20 [encDet d] (encB (rightD d)) := is20.pure hmix rfl (caesuraref15_Right_body _ d ok)
theorem cInts (a b : List Int) (ha : Len a) (hb : Len b) : PureC Tryd.prog 17 [encIs a, encIs b] (encB (a == b)) := is17.pure hmix rfl (caesuraref01_Ints_body _ a b ha hb)
theorem cEqual (a b : List Int) (ha : Len a) (hb : Len b) : PureC Tryd.prog 47 [encIs a, encIs b] (encB (a == b)) := is47.pure hmix rfl (slices_Equal_body a b ha hb)
theorem cContainsI (l : List Int) (p : Int → Bool) (g : FuncId) (cap : List AV) (hl : Len l) (hcap : ∀ y ∈ cap, Closed y) (hp : ∀ x ∈ l, PureC Tryd.prog g (Rf.encI x :: cap) (encB (p x))) : PureC Tryd.prog 43 [encIs l, .clo g [] cap] (encB (l.any p)) :=
  is43.pure hmix rfl (slices_ContainsFunc_body (enc := Rf.encI) Z2r hcap (is52.pure hmix rfl (slices_IndexFunc_body (enc := Rf.encI) hl (fun _ => rfl) Z2r hcap hp)))
theorem cContainsL (l : List (List Int)) (p : List Int → Bool) (g : FuncId) (cap : List AV) (hl : Len l) (hcap : ∀ y ∈ cap, Closed y) (hp : ∀ x ∈ l, PureC Tryd.prog g (encIs x :: cap) (encB (p x))) : PureC Tryd.prog 41 [encIss l, .clo g [] cap] (encB (l.any p)) :=
  is41.pure hmix rfl (slices_ContainsFunc_body (enc := encIs) Z2s hcap (is51.pure hmix rfl (slices_IndexFunc_body (enc := encIs) hl (fun _ => rfl) Z2s hcap hp)))
theorem closed_out (k : Nat) : Closed (.clo 40 [] [.eptr (Rf.encI k) 0]) := .clo _ _ _ cl_nil (cl_cons (.eptr _ _ (Z2r _)) cl_nil)
theorem cDetRight (d : Det) (ok : DetOk d) : PureC Tryd.prog 28 [encDet d] (encB (rightD d)) := by
  refine is28.pure hmix rfl (det_Right_body d ok ?_)
  refine cContainsL d.next (oddRow d) 42 _ ok.next (cl_cons (.eptr _ _ (closed_Det d)) (cl_cons (.eptr _ _ (closed_out _)) cl_nil)) (fun r hr => ?_)
  refine is42.pure hmix rfl (det_Right_2_body d r ?_)
  exact cContainsI r (outB d.next.length) 40 _ (ok.rows r hr) (cl_cons (.eptr _ _ (Z2r _)) cl_nil) (fun t _ => is40.pure hmix rfl (det_Right_1_body _ t _))
theorem cLists (a b : List (List Int)) (ha : Len a) (hb : Len b) (h1 : ∀ x ∈ a, Len x) (h2 : ∀ x ∈ b, Len x) : PureC Tryd.prog 30 [encIss a, encIss b] (encB (a == b)) :=
  is30.pure hmix rfl (Lists13_body a b ha hb (fun x hx y hy => cInts x y (h1 x hx) (h2 y hy)))
theorem cSame (a b : Det) (oa : DetOk a) (ob : DetOk b) : PureC Tryd.prog 12 [encDet a, encDet b] (encB (sameD a b)) :=
  is12.pure hmix rfl (Same15_body (fe := 0) a b (cLists _ _ oa.next ob.next oa.rows ob.rows) (is31.pure hmix rfl (Bools15_body _ _ oa.fin ob.fin)))
theorem cDetSame (a b : Det) (oa : DetOk a) (ob : DetOk b) : PureC Tryd.prog 32 [encDet a, encDet b] (encB (sameD a b)) :=
  is32.pure hmix rfl (det_Same_body a b (is46.pure hmix rfl (slices_EqualFunc_body a.next b.next oa.next ob.next (fun x hx y hy => cEqual x y (oa.rows x hx) (ob.rows y hy)))) (is48.pure hmix rfl (EqualB_body _ _ oa.fin ob.fin)))
/-! ### the least one -/
theorem cView {d : Det} (R : RightD d) {c : List Int} (hcl : c.length = d.next.length) (hc : ∀ n ∈ c, Goo n) (s : Nat) (hs : s < d.next.length) : PureC Tryd.prog 53 [encDet d, encIs c, Rf.encI s] (encV (viewK d c s)) :=
  view_body hmix is53 al53 hBld hItoa R hcl hc hs
theorem cClasses0 {d : Det} (R : RightD d) : PureC Tryd.prog 29 [encDet d] (encIs (classesD d)) :=
  is29.pureB hmix rfl (classes_body R (is44.pureB hmix rfl (coarse_body d (by have := R.fin; have := R.n2; omega))) (fun c hcl hc => is45.pureB hmix rfl (finer_body R hcl hc (cView R hcl hc))))
theorem cClasses (d : Det) (ok : DetOk d) : PureC Tryd.prog 18 [encDet d] (encIs (if rightD d = true then classesD d else [])) := is18.pureB hmix rfl (Classes17_body (cDetRight d ok) cClasses0)
theorem cOf (d : Det) (ok : DetOk d) : PureC Tryd.prog 10 [encDet d] (encDE (lstZ d)) := isc10.pureB hmix rfl (least_Of_body (cDetRight d ok) cClasses0)
theorem cRightL (d : Det) (ok : DetOk d) : PureC Tryd.prog 13 [encDet d] (encB (rightL d)) :=
  is13.pureB hmix rfl (least_Right_body (cOf d ok) (fun h => cDetSame _ _ (rightD_ok (leastD_ok ((right_iff d).mp h)).1) ok))
theorem cEqualL (a b : Det) (oa : DetOk a) (ob : DetOk b) : PureC Tryd.prog 15 [encDet a, encDet b] (encB (equalL a b)) := by
  refine is15.pureB hmix rfl (least_Equal_body ?_ (cOf a oa) (cOf b ob) (fun h1 h2 => cDetSame _ _ (rightD_ok (leastD_ok ((right_iff a).mp h1)).1) (rightD_ok (leastD_ok ((right_iff b).mp h2)).1)))
  refine is34.pureB hmix rfl (ContainsFunc_Det_body (l := [a, b]) (p := fun d => !rightD d) ?_)
  refine is49.pureB hmix rfl (IndexFunc_Det_body (l := [a, b]) (by simp) (fun x hx => ?_))
  refine is33.pureB hmix rfl (least_Equal1_body (cDetRight x ?_))
  simp only [List.mem_cons, List.not_mem_nil, or_false] at hx
  rcases hx with rfl | rfl
  · exact oa
  · exact ob
/-! ### the fixed fact -/
def dB : AV → Option Bool
  | .v (.bool b) => some b
  | _ => none
def dBL : List AV → Option (List Bool)
  | [] => some []
  | x :: xs => match dB x, dBL xs with
    | some n, some l => some (n :: l)
    | _, _ => none
def dBs : AV → Option (List Bool)
  | .sl _ xs => dBL xs
  | _ => none
def dDet : AV → Option Det
  | .agg [a, b, c] => match dI a, dIss b, dBs c with
    | some a, some b, some c => some ⟨a, b, c⟩
    | _, _, _ => none
  | _ => none
theorem dB_eq {x : AV} {n : Bool} (h : dB x = some n) : x = encB n := by
  unfold dB at h
  split at h
  · cases h; rfl
  · cases h
theorem dBL_eq : ∀ {xs : List AV} {l : List Bool}, dBL xs = some l → xs = l.map encB
  | [], l, h => by cases h; rfl
  | x :: xs, l, h => by
    unfold dBL at h
    split at h
    · rename_i n l' h1 h2
      cases h
      rw [dB_eq h1, dBL_eq h2]; rfl
    · cases h
theorem dBs_wk {x : AV} {l : List Bool} (h : dBs x = some l) : Wk x (encBs l) := by
  unfold dBs at h
  split at h
  · rw [dBL_eq h]; exact Wk.sl' (WkL.refl _)
  · cases h
theorem dDet_wk {x : AV} {n : Det} (h : dDet x = some n) : Wk x (encDet n) := by
  unfold dDet at h
  split at h
  · split at h
    · rename_i h1 h2 h3
      cases h
      refine Wk.agg' (WkL.cons ?_ (WkL.cons (dIss_wk h2) (WkL.cons (dBs_wk h3) WkL.nil)))
      rw [dI_eq h1]; exact .refl _
    · cases h
  · cases h
def okD (d : Det) : Bool := decide (-1000 ≤ d.signs) && decide (d.signs ≤ 1000) && Nat.ble d.next.length 20 && Nat.ble d.fin.length 20 && d.next.all fun l => Nat.ble l.length 20
theorem okD_ok {d : Det} (h : okD d = true) : DetOk d := by
  simp only [okD, Bool.and_eq_true, List.all_eq_true, Nat.ble_eq, decide_eq_true_eq] at h
  obtain ⟨⟨⟨⟨h1, h2⟩, h3⟩, h4⟩, h5⟩ := h
  exact ⟨by unfold Len; omega, by unfold Len; omega, fun r hr => by have := h5 r hr; unfold Len; omega, by omega⟩
def x1 (F : Det → AV) : List AV → Option AV
  | [a] => match dDet a with
    | some d => if okD d = true then some (F d) else none
    | none => none
  | _ => none
def x2 (F : Det → Det → AV) : List AV → Option AV
  | [a, b] => match dDet a, dDet b with
    | some d, some e => if okD d = true ∧ okD e = true then some (F d e) else none
    | _, _ => none
  | _ => none
theorem x1_ok {P : Program} {f : FuncId} {F : Det → AV} (H : ∀ d, DetOk d → PureC P f [encDet d] (F d)) {args : List AV} {r : AV} (h : x1 F args = some r) : PureC P f args r := by
  unfold x1 at h
  split at h
  · split at h
    · rename_i d h1
      split at h
      · rename_i hk
        cases h
        exact (H d (okD_ok hk)).wk (WkL.cons (dDet_wk h1) WkL.nil)
      · cases h
    · cases h
  · cases h
theorem x2_ok {P : Program} {f : FuncId} {F : Det → Det → AV} (H : ∀ d e, DetOk d → DetOk e → PureC P f [encDet d, encDet e] (F d e)) {args : List AV} {r : AV} (h : x2 F args = some r) : PureC P f args r := by
  unfold x2 at h
  split at h
  · split at h
    · rename_i d e h1 h2
      split at h
      · rename_i hk
        cases h
        exact (H d e (okD_ok hk.1) (okD_ok hk.2)).wk (WkL.cons (dDet_wk h1) (WkL.cons (dDet_wk h2) WkL.nil))
      · cases h
    · cases h
  · cases h
def known (f : FuncId) : Option (List AV → Option AV) :=
  bif Nat.beq f 10 then some (x1 fun d => encDE (lstZ d)) else bif Nat.beq f 13 then some (x1 fun d => encB (rightL d)) else bif Nat.beq f 15 then some (x2 fun d e => encB (equalL d e)) else
    bif Nat.beq f 18 then some (x1 fun d => encIs (if rightD d = true then classesD d else [])) else none
noncomputable def tab : Tab := tabN Tryd.prog (fun _ => none) (fun _ => none) known
theorem known_ok {f : FuncId} {g : List AV → Option AV} {args : List AV} {r : AV} (h : known f = some g) (hg : g args = some r) : PureC Tryd.prog f args r := by
  unfold known at h
  cases h1 : Nat.beq f 10 with
  | true =>
    rw [h1] at h
    obtain rfl : f = 10 := Nat.eq_of_beq_eq_true h1
    cases h
    exact x1_ok cOf hg
  | false =>
    rw [h1] at h
    cases h2 : Nat.beq f 13 with
    | true =>
      rw [h2] at h
      obtain rfl : f = 13 := Nat.eq_of_beq_eq_true h2
      cases h
      exact x1_ok cRightL hg
    | false =>
      rw [h2] at h
      cases h3 : Nat.beq f 15 with
      | true =>
        rw [h3] at h
        obtain rfl : f = 15 := Nat.eq_of_beq_eq_true h3
        cases h
        exact x2_ok cEqualL hg
      | false =>
        rw [h3] at h
        cases h4 : Nat.beq f 18 with
        | true =>
          rw [h4] at h
          obtain rfl : f = 18 := Nat.eq_of_beq_eq_true h4
          cases h
          exact x1_ok cClasses hg
        | false => rw [h4] at h; cases h
theorem tabOk : TabOk Tryd.prog tab := tabN_ok hmix (fun f p h => by cases h) (fun f g args v h => by cases h) (fun f g args r h hg => known_ok h hg)
theorem isAlive : fnK tab (runF tab 500) 8 [] = some (encB true, true) := by kernel_rfl
theorem cAlive : PureC Tryd.prog 8 [] (encB true) := .runX hmix tabOk 500 isAlive
end Go.Proofs.YtajombmjidnbcaaDoor

