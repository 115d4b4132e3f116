import Derived.Test.YtajombmjidnbcaaDoorRfM17
import Derived.Test.YtajombmjidnbcaaDoorRfPA
/- Own work: layer 17's contracts of pairs at its seat. -/
set_option linter.unusedVariables false
set_option linter.unusedSimpArgs false
namespace Go.Proofs.YtajombmjidnbcaaDoor
open Go.ChangeShapes Go.WideShapes Go.ChangeAt Go.RowKit Go.Rf
theorem is24 : Is Tryd.prog 24 (c_caesuraref16_Empty 20 39) [2] 1 := ⟨Tryd.f24, Tryd.f24.body.getD .skip, Tryd.func24, by kernel_rfl, by kernel_rfl, by kernel_rfl, by kernel_rfl, by rw [Tryd.ntmps24]; decide⟩
theorem is39 : Is Tryd.prog 39 (c_caesuraref16_Reached) [2] 1 := ⟨Tryd.f39, Tryd.f39.body.getD .skip, Tryd.func39, by kernel_rfl, by kernel_rfl, by kernel_rfl, by kernel_rfl, by rw [Tryd.ntmps39]; decide⟩
theorem is50 : Is Tryd.prog 50 (c_caesuraref16_marked) [6] 3 := ⟨Tryd.f50, Tryd.f50.body.getD .skip, Tryd.func50, by kernel_rfl, by kernel_rfl, by kernel_rfl, by kernel_rfl, by rw [Tryd.ntmps50]; decide⟩
theorem isc38 : IsC Tryd.prog 38 (c_caesuraref16_made 20 50) [.c 8 (some 3), .t 9] 4 := ⟨Tryd.f38, Tryd.f38.body.getD .skip, Tryd.func38, by kernel_rfl, by kernel_rfl, by kernel_rfl, by kernel_rfl, by rw [Tryd.ntmps38]; decide⟩
theorem isc23 : IsC Tryd.prog 23 (c_caesuraref16_Xor 38) [.c 6 (some 3), .t 7] 3 := ⟨Tryd.f23, Tryd.f23.body.getD .skip, Tryd.func23, by kernel_rfl, by kernel_rfl, by kernel_rfl, by kernel_rfl, by rw [Tryd.ntmps23]; decide⟩
theorem cMade {a b : Det} (Ra : RightD a) (Rb : RightD b) (hs : a.signs = b.signs) (hl : a.next.length * b.next.length < 3000) (kind : Int) : PureC Tryd.prog 38 [encDet a, encDet b, Rf.encI 3000, Rf.encI kind] (encDE (prodD a b (kindM kind), 0)) := by
  have ra := cRight a (rightD_ok Ra)
  rw [(right_iff a).mpr Ra] at ra
  have rb := cRight b (rightD_ok Rb)
  rw [(right_iff b).mpr Rb] at rb
  exact isc38.pureB hmix rfl (made16_body Ra Rb hs (by omega) (by omega) ra rb (fun p q => is50.pureB hmix rfl (marked_body p q kind)))
theorem cXor {a b : Det} (Ra : RightD a) (Rb : RightD b) (hs : a.signs = b.signs) (hl : a.next.length * b.next.length < 3000) : PureC Tryd.prog 23 [encDet a, encDet b, Rf.encI 3000] (encDE (prodD a b (kindM 3), 0)) := isc23.pureB hmix rfl (Xor_body (cMade Ra Rb hs hl 3))
theorem cReached {d : Det} (R : RightD d) : PureC Tryd.prog 39 [encDet d] (encBs (reachB d)) := is39.pureB hmix rfl (Reached_body R)
theorem cEmpty (d : Det) (ok : DetOk d) : PureC Tryd.prog 24 [encDet d] (encB (emptyD d)) := is24.pureB hmix rfl (Empty_body (cRight d ok) cReached)
theorem cOfR {d : Det} (R : RightD d) : PureC Tryd.prog 10 [encDet d] (encDE (leastD d, 0)) := by
  have := cOf d (rightD_ok R)
  rwa [lstZ, if_pos ((right_iff d).mpr R)] at this
end Go.Proofs.YtajombmjidnbcaaDoor

