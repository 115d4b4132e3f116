import Derived.Test.YtpllebbaahanjaaRfC12
import Derived.Test.YtpllebbaahanjaaRfR17
/- Own work: more contracts of layer 12 at its seat. -/
set_option linter.unusedVariables false
set_option linter.unusedSimpArgs false
namespace Go.Proofs.Ytpllebbaahanjaa
open Go.ChangeShapes Go.WideShapes Go.ChangeAt Go.RowKit Go.Rf

def zRul : AV := .agg [.v (.int .i64 0), .v (.bool false), .v (.int .i64 0), .sl true [], .sl true [], .sl true [], .v (.int .i64 0), .sl true [], .sl true [], .sl true [], .v (.int .i64 0)]
theorem is12 : Is Try.prog 12 (c_caesuraref09_Same 23 24) [4] 2 := ⟨Try.f12, Try.f12.body.getD .skip, Try.func12, by kernel_rfl, by kernel_rfl, by kernel_rfl, by kernel_rfl, by rw [Try.ntmps12]; decide⟩
theorem is23 : Is Try.prog 23 (c_caesuraref06_Items 33) [4] 2 := ⟨Try.f23, Try.f23.body.getD .skip, Try.func23, by kernel_rfl, by kernel_rfl, by kernel_rfl, by kernel_rfl, by rw [Try.ntmps23]; decide⟩
theorem is24 : Is Try.prog 24 (c_caesuraref08_Same 34 14 24) [4] 2 := ⟨Try.f24, Try.f24.body.getD .skip, Try.func24, by kernel_rfl, by kernel_rfl, by kernel_rfl, by kernel_rfl, by rw [Try.ntmps24]; decide⟩
theorem is33 : Is Try.prog 33 (c_caesuraref06_Same 33) [4] 2 := ⟨Try.f33, Try.f33.body.getD .skip, Try.func33, by kernel_rfl, by kernel_rfl, by kernel_rfl, by kernel_rfl, by rw [Try.ntmps33]; decide⟩
theorem is34 : Is Try.prog 34 (c_caesuraref01_Ranges) [4] 2 := ⟨Try.f34, Try.f34.body.getD .skip, Try.func34, by kernel_rfl, by kernel_rfl, by kernel_rfl, by kernel_rfl, by rw [Try.ntmps34]; decide⟩
theorem is25 : Is Try.prog 25 (c_Concat 11 184 35) [2] 1 := ⟨Try.f25, Try.f25.body.getD .skip, Try.func25, by kernel_rfl, by kernel_rfl, by kernel_rfl, by kernel_rfl, by rw [Try.ntmps25]; decide⟩
theorem is35 : Is Try.prog 35 (c_Grow 11 184 zRul) [4] 2 := ⟨Try.f35, Try.f35.body.getD .skip, Try.func35, by kernel_rfl, by kernel_rfl, by kernel_rfl, by kernel_rfl, by rw [Try.ntmps35]; decide⟩
theorem isc13 : IsC Try.prog 13 (c_verdict_Without 25) [.c 4 (some 4)] 2 := ⟨Try.f13, Try.f13.body.getD .skip, Try.func13, by kernel_rfl, by kernel_rfl, by kernel_rfl, by kernel_rfl, by rw [Try.ntmps13]; decide⟩
theorem hGrow : HGrow Try.prog 35 11 zRul := HGrow_of hmix (by omega) rfl (by omega) is35
theorem cConcat (a b : List Rul) (h : a.length + b.length ≤ 100000) : PureC Try.prog 25 [.sl true [.sl false (a.map encRul), .sl false (b.map encRul)]] (.sl false ((a ++ b).map encRul)) := by
  have := Concat_pure hmix hGrow (by omega) is25 closed_Rul Rul_len [(false, a), (false, b)] (by simp) (by simp; omega)
  simpa using this
theorem cWithout (x : Bk) (ok : BkOk x) (hx : x.rules.length ≤ 100000) (i : Int) : PureC Try.prog 13 [encBk x, Rf.encI i] (encBk (without x i)) := isc13.pure hmix rfl (verdict_Without_body x ok hx i cConcat)
theorem cSame8 (p : Pat) (h : PatS2 p) : PureC Try.prog 24 [encPat p, encPat p] (encB true) :=
  same08_ok hmix is24 (fun a ha => by have := is34.pure hmix rfl (caesuraref01_Ranges_body a a ha); simpa using this) (fun a ha => by have := is14.pure hmix rfl (caesuraref01_Ints_body _ a a ha ha); simpa using this) p h
theorem cItems (l : List Itm) (hl : Len l) (h : ∀ v ∈ l, goodN v.before ∧ goodN v.after) : PureC Try.prog 23 [.sl false (l.map encItm), .sl false (l.map encItm)] (encB true) :=
  is23.pure hmix rfl (Items_refl l hl (fun v hv => ⟨same06_ok hmix is33 _ (h v hv).1, same06_ok hmix is33 _ (h v hv).2⟩))
theorem cSame (x : Book) (g : goodBook x) (hg : great09 x 300 = false) (hr : x.rules = []) : PureC Try.prog 12 [encBook x, encBook x] (encB true) := by
  obtain ⟨_, _, _, _, _, h6, _, h8⟩ := great09_small (by omega) g hg
  exact is12.pure hmix rfl (Same09_none x g hr (cItems _ g.a.1 (fun v hv => (g.a.2 v hv).2)) (fun v hv => cSame8 _ (wgtP_small2 _ 0 (g.v.2 v hv).2 (by omega) (by have := (h6 v hv).2; omega))))
theorem small_without {x : Bk} (h : SmallR x) (i : Int) : SmallR (without x i) := by
  unfold without
  split
  · intro r hr
    rcases List.mem_append.mp hr with h1 | h1
    · exact h r (List.mem_of_mem_take h1)
    · exact h r (List.mem_of_mem_drop h1)
  · exact h
theorem len_without {x : Bk} (i : Int) : (without x i).rules.length ≤ x.rules.length := by
  unfold without
  split
  · simp; omega
  · exact Nat.le_refl _
theorem small_last {x : Bk} (h : SmallR x) (c : Bool) : SmallR (lastB x c) := by
  intro r hr
  rcases List.mem_append.mp hr with h1 | h1
  · exact h r h1
  · simp only [List.mem_cons, List.not_mem_nil, or_false] at h1
    subst h1
    simp [newR, noP, PatS, PatsS]
end Go.Proofs.Ytpllebbaahanjaa

