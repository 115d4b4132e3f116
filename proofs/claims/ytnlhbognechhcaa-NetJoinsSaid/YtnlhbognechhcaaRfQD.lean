import Derived.Test.YtnlhbognechhcaaRfW8
import Derived.Test.YtnlhbognechhcaaRfW2
/- Own work: a form's net (walk of net.Of). -/
set_option linter.unusedVariables false
set_option linter.unusedSimpArgs false
namespace Go.Rf
open Go.RowKit
def c_net_Of (f_vars_Size f_net_maker_state f_net_maker_form f_slices_Clone_Sint_int_ f_net_set : FuncId) : AC :=
  (.seq (.reg none [
   ⟨(some 2), .box 4 (.t 0), none, none⟩,
   ⟨(some 4), .alloc (.agg [(.v (.int .i64 0)), (.sl true []), (.sl true []), (.sl true [])]) 4, none, none⟩,
   ⟨(some 5), .mv (.c (.v (.int .i64 0))), none, none⟩])
  (.seq (.block 0 (.seq (.reg none [
    ⟨(some 9), .mv (.t 1), none, none⟩,
    ⟨(some 10), .bin .lss (.t 9) (.c (.v (.int .i64 1))), none, none⟩,
    ⟨(some 11), .mv (.t 10), none, none⟩,
    ⟨(some 12), .mv (.t 1), (some (11, false)), none⟩,
    ⟨(some 13), .bin .gtr (.t 12) (.c (.v (.int .i64 400))), (some (11, false)), none⟩,
    ⟨(some 14), .pick (.t 11) (.c (.v (.bool true))) (.t 13), none, none⟩,
    ⟨(some 8), .mv (.t 14), none, none⟩])
   (.cond (.t 8) (.seq (.reg none [
     ⟨(some 15), .build (.agg [(.v (.int .i64 0)), (.sl true []), (.sl true []), (.sl true [])]) [] [], none, none⟩,
     ⟨none, .store 4 (.t 4) (.t 15), none, none⟩,
     ⟨(some 5), .mv (.c (.v (.int .i64 1))), none, none⟩])
    .ret) (.seq (.reg none [
     ⟨(some 17), .load (some 4) (.t 2), none, none⟩,
     ⟨(some 18), .mv (.c .junk), none, (some ((.c (.clo f_vars_Size [] [])), [(.t 17)]))⟩,
     ⟨(some 19), .bin .gtr (.t 18) (.c (.v (.int .i64 300))), none, none⟩,
     ⟨(some 16), .mv (.t 19), none, none⟩])
    (.cond (.t 16) (.seq (.reg none [
      ⟨(some 20), .build (.agg [(.v (.int .i64 0)), (.sl true []), (.sl true []), (.sl true [])]) [] [], none, none⟩,
      ⟨none, .store 4 (.t 4) (.t 20), none, none⟩,
      ⟨(some 5), .mv (.c (.v (.int .i64 9))), none, none⟩])
     .ret) .skip)))))
  (.seq (.reg none [
   ⟨(some 21), .mv (.t 1), none, none⟩,
   ⟨(some 22), .build (.agg [(.v (.int .i64 0)), (.sl true []), (.sl true []), (.sl true [])]) [(0, 1)] [(0, (.t 21))], none, none⟩,
   ⟨(some 23), .build (.agg [(.v (.int .i64 0)), (.sl true []), (.sl true []), (.sl true [])]) [(0, 4)] [(0, (.t 22))], none, none⟩,
   ⟨(some 24), .box 4 (.t 23), none, none⟩,
   ⟨(some 6), .mv (.t 24), none, none⟩])
  (.seq (.reg none [
   ⟨(some 25), .mv (.t 6), none, none⟩,
   ⟨(some 26), .mv (.c .junk), none, (some ((.c (.clo f_net_maker_state [] [])), [(.t 25), (.c (.sl true []))]))⟩])
  (.seq (.reg none [
   ⟨(some 27), .mv (.t 6), none, none⟩,
   ⟨(some 28), .load (some 4) (.t 2), none, none⟩,
   ⟨(some 29), .mv (.c .junk), none, (some ((.c (.clo f_net_maker_form [] [])), [(.t 27), (.t 28)]))⟩,
   ⟨(some 7), .alloc (.agg [(.v (.bool false)), (.sl true []), (.sl true [])]) 3, none, none⟩,
   ⟨none, .store 3 (.t 7) (.t 29), none, none⟩])
  (.seq (.reg (some [[], [], [], [], [], [], [], [], [], [], [], [false, true, true, false, false, true]]) [
   ⟨(some 30), .mv (.t 6), none, none⟩,
   ⟨(some 31), .nilc (.t 30), none, none⟩,
   ⟨(some 32), .fieldA 0 (.t 31), none, none⟩,
   ⟨(some 33), .fieldA 2 (.t 32), none, none⟩,
   ⟨(some 34), .load none (.t 33), none, none⟩,
   ⟨(some 35), .mv (.t 6), none, none⟩,
   ⟨(some 36), .fieldA 1 (.t 7), none, none⟩,
   ⟨(some 37), .load none (.t 36), none, none⟩,
   ⟨(some 38), .fieldA 2 (.t 7), none, none⟩,
   ⟨(some 39), .load none (.t 38), none, none⟩,
   ⟨(some 40), .idxA 1 (.t 34) (.c (.v (.int .i64 0))), none, none⟩,
   ⟨none, .store 1 (.t 40) (.t 37), none, none⟩,
   ⟨(some 41), .nilc (.t 35), none, none⟩,
   ⟨(some 42), .fieldA 0 (.t 41), none, none⟩,
   ⟨(some 43), .fieldA 3 (.t 42), none, none⟩,
   ⟨none, .store 1 (.t 43) (.t 39), none, none⟩])
  (.seq (.seq (.reg none [
   ⟨(some 44), .fieldA 0 (.t 7), none, none⟩,
   ⟨(some 45), .load none (.t 44), none, none⟩])
  (.cond (.t 45) (.reg none [
    ⟨(some 46), .mv (.t 6), none, none⟩,
    ⟨(some 47), .fieldA 2 (.t 7), none, none⟩,
    ⟨(some 48), .load none (.t 47), none, none⟩,
    ⟨(some 49), .mv (.c .junk), none, (some ((.c (.clo f_slices_Clone_Sint_int_ [] [])), [(.t 48)]))⟩,
    ⟨(some 50), .bslice 1 1 (.v (.int .i64 0)) [(0, (.c (.v (.int .i64 0))))], none, none⟩,
    ⟨(some 51), .app 1 8 (.t 49) (.t 50), none, none⟩,
    ⟨(some 52), .mv (.c .junk), none, (some ((.c (.clo f_net_set [] [])), [(.t 51)]))⟩,
    ⟨(some 53), .nilc (.t 46), none, none⟩,
    ⟨(some 54), .fieldA 0 (.t 53), none, none⟩,
    ⟨(some 55), .fieldA 3 (.t 54), none, none⟩,
    ⟨none, .store 1 (.t 55) (.t 52), none, none⟩]) .skip))
  (.seq (.reg none [
   ⟨(some 56), .mv (.t 6), none, none⟩,
   ⟨(some 57), .nilc (.t 56), none, none⟩,
   ⟨(some 58), .fieldA 0 (.t 57), none, none⟩,
   ⟨(some 59), .load (some 4) (.t 58), none, none⟩,
   ⟨none, .store 4 (.t 4) (.t 59), none, none⟩,
   ⟨(some 5), .mv (.c (.v (.int .i64 0))), none, none⟩])
  .ret))))))))
def net0 : Net := ⟨0, [], [], []⟩
def netRes (p : Pat) (sg : Int) : Net × Int := if sg < 1 ∨ 400 < sg then (net0, 1) else if 300 < szP p then (net0, 9) else (netOf p sg, 0)
def encNE (r : Net × Int) : AV := .tup [encNet r.1, encI r.2]
theorem fz_net0 (g : Nat → Option Blk) (e : Int) : Fz g (.tup [.agg [.v (.int .i64 0), .sl true [], .sl true [], .sl true []], .v (.int .i64 e)]) (encNE (net0, e)) :=
  .tupL (.cons (.aggL (.cons (.closed _ (.v _)) (.cons fz_nil (.cons fz_nil (.cons fz_nil .nil))))) (.cons (.closed _ (.v _)) .nil))
theorem sz_nd {p : Pat} (h : ¬ 300 < szP p) : cntP p ≤ 300 := by
  have := cnt_nd p
  unfold szP at h
  omega
theorem fz_ownIs {g : Nat → Option Blk} {id n : Nat} {l : List (List Int)} (hg : g id = some (.arr 1 (l.map encIs))) (hn : n = l.length) : Fz g (.own id 0 n) (encIss l) := by
  have := vV_fz (g := g) (o := true) (id := id) (xs := l.map encIs) (by rw [vB_t]; exact hg) (Z1a l)
  rw [vV_t, List.length_map, ← hn] at this
  exact this
theorem fz_ownI {g : Nat → Option Blk} {id n : Nat} {l : List Int} (hg : g id = some (.arr 1 (l.map encI))) (hn : n = l.length) : Fz g (.own id 0 n) (encIs l) := by
  have := vV_fz (g := g) (o := true) (id := id) (xs := l.map encI) (by rw [vB_t]; exact hg) (Z19 l)
  rw [vV_t, List.length_map, ← hn] at this
  exact this
theorem fz_netR {g : Nat → Option Blk} {sg : Int} {b c : Nat} {by_ fo : List (List Int)} {x l : List Int} (h1 : g b = some (.arr 1 (by_.map encIs))) (h2 : g c = some (.arr 1 ((fo.set 0 x).map encIs))) :
    Fz g (.tup [.agg [.v (.int .i64 sg), .own b 0 by_.length, .own c 0 fo.length, encIs l], .v (.int .i64 0)]) (encNE (⟨sg, by_, fo.set 0 x, l⟩, 0)) :=
  .tupL (.cons (.aggL (.cons (.closed _ (.v _)) (.cons (fz_ownIs h1 rfl) (.cons (fz_ownIs h2 (by simp)) (.cons (.closed _ (Z2s _)) .nil))))) (.cons (.closed _ (.v _)) .nil))
theorem of_body {P : Program} {fz fst ff fc fset : FuncId} {p : Pat} {sg : Int} (hz : PureC P fz [encPat p] (encI (szP p))) (hs : CallM P fst [encIs []] sg false ⟨[], []⟩ st0 (encI 0)) (hf : FormOkW P ff sg p)
    (hc : ByC P fc (c_cloneOv 1 8 (.v (.int .i64 0))) [.t 2] 1) (hset : HSetc P fset) :
    AWb P 0 (c_net_Of fz fst ff fc fset) (RetC [.c 4 (some 4), .t 5] (FzK (encNE (netRes p sg)))) (argF [encPat p, encI sg]) S0 := by
  obtain ⟨k, ps, pg, ks⟩ := p
  have hcp := closed_Pat (.mk k ps pg ks)
  by_cases h1 : sg < 1
  · have hr : netRes (.mk k ps pg ks) sg = (net0, 1) := by rw [netRes, if_pos (.inl h1)]
    rw [hr]
    simp [AWb_seq, Z0m, Z0n, Z0j, Z0k, Z0r, Z0l, Z0p, Z0q, Z0o, Z21, Z20, Z22, Z23, Z3d, Z3e, Z3a, vIdx, Z4x, Z4w, Z4y, vApp, Z4u, Z3u, Z11, Z10, Z0z, Z0x, Z0w, Z0y, Z17, Z16, Z15, Z13, Z12, Z14, Z2c, Z2d, Z2a, Z2n, Z31, Z30, Z07, Z08, Z06, Z01, Z02, Z00, Z04, Z05, Z03, Z1z, Z1y, Z46, Z48, Z47, Z45, Z1n, Z1o, Z1m, Z3n, Z3k, Z3m, Z3l, Z3o, Z1l, Z29, Z32, Z3x, Z1i, Z1j, Z1k, Z3v, Z3w, Z1g, Z28, Z1h, Z3i, Z3f, Z3h, Z3g, Z3j, Z41, Z40, Z0t, Z0u, Z0v, Z0s, Z1f, Z4c, Z4b, Z4d, Z4a, Z49, ex, Z43, Z42, ev_t, ev_c, Z27, Z26, Z4e, Z4f, Z2m, Z2l, Z2f, Z2j, Z2k, Z2g, Z2h, Z2i, putc, exBslice, lfill, exField, exIdxV, exIdxP, exBox, exAlloc, Z3b, Z3c, exStore, exFieldA, Z34, Z33, Z39, Z38, exPick, exUn, exBeq, exMM, exSeq, seqGo, exExt, binV, intOp, subc, Z4s, Z4r, Z4p, Z4q, Z4n, Z4l, Z4m, Z4o, Z4i, Z4j, Z4g, Z4t, S0, encI, encB, Z4k, Z2e, Z25, Z4h, Z2b, Z24, Z36, Z37, Z35, Z3s, Z3t, Z3r, Z3p, Z3q, idxT_Bs, c_net_Of, encPat_eq, exAlloc, exBuild, afill, h1, RetC, evC, RV.ev, ldC, packC]
    exact fz_net0 _ 1
  by_cases h2 : 400 < sg
  · have hr : netRes (.mk k ps pg ks) sg = (net0, 1) := by rw [netRes, if_pos (.inr h2)]
    rw [hr]
    simp [AWb_seq, Z0m, Z0n, Z0j, Z0k, Z0r, Z0l, Z0p, Z0q, Z0o, Z21, Z20, Z22, Z23, Z3d, Z3e, Z3a, vIdx, Z4x, Z4w, Z4y, vApp, Z4u, Z3u, Z11, Z10, Z0z, Z0x, Z0w, Z0y, Z17, Z16, Z15, Z13, Z12, Z14, Z2c, Z2d, Z2a, Z2n, Z31, Z30, Z07, Z08, Z06, Z01, Z02, Z00, Z04, Z05, Z03, Z1z, Z1y, Z46, Z48, Z47, Z45, Z1n, Z1o, Z1m, Z3n, Z3k, Z3m, Z3l, Z3o, Z1l, Z29, Z32, Z3x, Z1i, Z1j, Z1k, Z3v, Z3w, Z1g, Z28, Z1h, Z3i, Z3f, Z3h, Z3g, Z3j, Z41, Z40, Z0t, Z0u, Z0v, Z0s, Z1f, Z4c, Z4b, Z4d, Z4a, Z49, ex, Z43, Z42, ev_t, ev_c, Z27, Z26, Z4e, Z4f, Z2m, Z2l, Z2f, Z2j, Z2k, Z2g, Z2h, Z2i, putc, exBslice, lfill, exField, exIdxV, exIdxP, exBox, exAlloc, Z3b, Z3c, exStore, exFieldA, Z34, Z33, Z39, Z38, exPick, exUn, exBeq, exMM, exSeq, seqGo, exExt, binV, intOp, subc, Z4s, Z4r, Z4p, Z4q, Z4n, Z4l, Z4m, Z4o, Z4i, Z4j, Z4g, Z4t, S0, encI, encB, Z4k, Z2e, Z25, Z4h, Z2b, Z24, Z36, Z37, Z35, Z3s, Z3t, Z3r, Z3p, Z3q, idxT_Bs, c_net_Of, encPat_eq, exAlloc, exBuild, afill, h1, h2, RetC, evC, RV.ev, ldC, packC]
    exact fz_net0 _ 1
  have hsz := hz
  simp only [encPat_eq, encI] at hsz hcp
  by_cases h3 : 300 < szP (.mk k ps pg ks)
  · have hr : netRes (.mk k ps pg ks) sg = (net0, 9) := by rw [netRes, if_neg (by omega), if_pos h3]
    rw [hr]
    simp [AWb_seq, Z0m, Z0n, Z0j, Z0k, Z0r, Z0l, Z0p, Z0q, Z0o, Z21, Z20, Z22, Z23, Z3d, Z3e, Z3a, vIdx, Z4x, Z4w, Z4y, vApp, Z4u, Z3u, Z11, Z10, Z0z, Z0x, Z0w, Z0y, Z17, Z16, Z15, Z13, Z12, Z14, Z2c, Z2d, Z2a, Z2n, Z31, Z30, Z07, Z08, Z06, Z01, Z02, Z00, Z04, Z05, Z03, Z1z, Z1y, Z46, Z48, Z47, Z45, Z1n, Z1o, Z1m, Z3n, Z3k, Z3m, Z3l, Z3o, Z1l, Z29, Z32, Z3x, Z1i, Z1j, Z1k, Z3v, Z3w, Z1g, Z28, Z1h, Z3i, Z3f, Z3h, Z3g, Z3j, Z41, Z40, Z0t, Z0u, Z0v, Z0s, Z1f, Z4c, Z4b, Z4d, Z4a, Z49, ex, Z43, Z42, ev_t, ev_c, Z27, Z26, Z4e, Z4f, Z2m, Z2l, Z2f, Z2j, Z2k, Z2g, Z2h, Z2i, putc, exBslice, lfill, exField, exIdxV, exIdxP, exBox, exAlloc, Z3b, Z3c, exStore, exFieldA, Z34, Z33, Z39, Z38, exPick, exUn, exBeq, exMM, exSeq, seqGo, exExt, binV, intOp, subc, Z4s, Z4r, Z4p, Z4q, Z4n, Z4l, Z4m, Z4o, Z4i, Z4j, Z4g, Z4t, S0, encI, encB, Z4k, Z2e, Z25, Z4h, Z2b, Z24, Z36, Z37, Z35, Z3s, Z3t, Z3r, Z3p, Z3q, idxT_Bs, c_net_Of, encPat_eq, exAlloc, exBuild, afill, h1, h2]
    refine CallR.pure hsz (cl_cons hcp cl_nil) (Z2r _) ?_
    simp [AWb_seq, Z0m, Z0n, Z0j, Z0k, Z0r, Z0l, Z0p, Z0q, Z0o, Z21, Z20, Z22, Z23, Z3d, Z3e, Z3a, vIdx, Z4x, Z4w, Z4y, vApp, Z4u, Z3u, Z11, Z10, Z0z, Z0x, Z0w, Z0y, Z17, Z16, Z15, Z13, Z12, Z14, Z2c, Z2d, Z2a, Z2n, Z31, Z30, Z07, Z08, Z06, Z01, Z02, Z00, Z04, Z05, Z03, Z1z, Z1y, Z46, Z48, Z47, Z45, Z1n, Z1o, Z1m, Z3n, Z3k, Z3m, Z3l, Z3o, Z1l, Z29, Z32, Z3x, Z1i, Z1j, Z1k, Z3v, Z3w, Z1g, Z28, Z1h, Z3i, Z3f, Z3h, Z3g, Z3j, Z41, Z40, Z0t, Z0u, Z0v, Z0s, Z1f, Z4c, Z4b, Z4d, Z4a, Z49, ex, Z43, Z42, ev_t, ev_c, Z27, Z26, Z4e, Z4f, Z2m, Z2l, Z2f, Z2j, Z2k, Z2g, Z2h, Z2i, putc, exBslice, lfill, exField, exIdxV, exIdxP, exBox, exAlloc, Z3b, Z3c, exStore, exFieldA, Z34, Z33, Z39, Z38, exPick, exUn, exBeq, exMM, exSeq, seqGo, exExt, binV, intOp, subc, Z4s, Z4r, Z4p, Z4q, Z4n, Z4l, Z4m, Z4o, Z4i, Z4j, Z4g, Z4t, S0, encI, encB, Z4k, Z2e, Z25, Z4h, Z2b, Z24, Z36, Z37, Z35, Z3s, Z3t, Z3r, Z3p, Z3q, idxT_Bs, exBuild, afill, h3, RetC, evC, RV.ev, ldC, packC]
    exact fz_net0 _ 9
  have hr : netRes (.mk k ps pg ks) sg = (netOf (.mk k ps pg ks) sg, 0) := by rw [netRes, if_neg (by omega), if_neg h3]
  rw [hr]
  have hcnt := sz_nd h3
  have hN0 : StN st0 := ⟨rfl, fun r hr => by simp [st0] at hr; subst hr; exact UpN.nil⟩
  have hff := hf st0 hN0 (by show 1 + _ ≤ _; omega)
  obtain ⟨n1, n2, n3⟩ := gform_N sg (.mk k ps pg ks) st0 hN0
  simp only [encPat_eq, encI] at hff
  have hno : netOf (.mk k ps pg ks) sg = ⟨sg, (gform sg (.mk k ps pg ks) st0).2.by_, (gform sg (.mk k ps pg ks) st0).2.fo.set 0 (gform sg (.mk k ps pg ks) st0).1.fst, if (gform sg (.mk k ps pg ks) st0).1.nul = true then setF ((gform sg (.mk k ps pg ks) st0).1.lst ++ [0]) else (gform sg (.mk k ps pg ks) st0).1.lst⟩ := rfl
  rw [hno]
  have hb1 : st0.by_.length = 1 := rfl
  generalize gform sg (.mk k ps pg ks) st0 = ge at *
  obtain ⟨e, st1⟩ := ge
  simp only at n1 n2 n3 hff ⊢
  have hl := n1.len
  have hfl : 0 < st1.fo.length := by omega
  have hll := n2.l.len
  simp [AWb_seq, Z0m, Z0n, Z0j, Z0k, Z0r, Z0l, Z0p, Z0q, Z0o, Z21, Z20, Z22, Z23, Z3d, Z3e, Z3a, vIdx, Z4x, Z4w, Z4y, vApp, Z4u, Z3u, Z11, Z10, Z0z, Z0x, Z0w, Z0y, Z17, Z16, Z15, Z13, Z12, Z14, Z2c, Z2d, Z2a, Z2n, Z31, Z30, Z07, Z08, Z06, Z01, Z02, Z00, Z04, Z05, Z03, Z1z, Z1y, Z46, Z48, Z47, Z45, Z1n, Z1o, Z1m, Z3n, Z3k, Z3m, Z3l, Z3o, Z1l, Z29, Z32, Z3x, Z1i, Z1j, Z1k, Z3v, Z3w, Z1g, Z28, Z1h, Z3i, Z3f, Z3h, Z3g, Z3j, Z41, Z40, Z0t, Z0u, Z0v, Z0s, Z1f, Z4c, Z4b, Z4d, Z4a, Z49, ex, Z43, Z42, ev_t, ev_c, Z27, Z26, Z4e, Z4f, Z2m, Z2l, Z2f, Z2j, Z2k, Z2g, Z2h, Z2i, putc, exBslice, lfill, exField, exIdxV, exIdxP, exBox, exAlloc, Z3b, Z3c, exStore, exFieldA, Z34, Z33, Z39, Z38, exPick, exUn, exBeq, exMM, exSeq, seqGo, exExt, binV, intOp, subc, Z4s, Z4r, Z4p, Z4q, Z4n, Z4l, Z4m, Z4o, Z4i, Z4j, Z4g, Z4t, S0, encI, encB, Z4k, Z2e, Z25, Z4h, Z2b, Z24, Z36, Z37, Z35, Z3s, Z3t, Z3r, Z3p, Z3q, idxT_Bs, c_net_Of, encPat_eq, exAlloc, exBuild, afill, h1, h2]
  refine CallR.pure hsz (cl_cons hcp cl_nil) (Z2r _) ?_
  simp [AWb_seq, Z0m, Z0n, Z0j, Z0k, Z0r, Z0l, Z0p, Z0q, Z0o, Z21, Z20, Z22, Z23, Z3d, Z3e, Z3a, vIdx, Z4x, Z4w, Z4y, vApp, Z4u, Z3u, Z11, Z10, Z0z, Z0x, Z0w, Z0y, Z17, Z16, Z15, Z13, Z12, Z14, Z2c, Z2d, Z2a, Z2n, Z31, Z30, Z07, Z08, Z06, Z01, Z02, Z00, Z04, Z05, Z03, Z1z, Z1y, Z46, Z48, Z47, Z45, Z1n, Z1o, Z1m, Z3n, Z3k, Z3m, Z3l, Z3o, Z1l, Z29, Z32, Z3x, Z1i, Z1j, Z1k, Z3v, Z3w, Z1g, Z28, Z1h, Z3i, Z3f, Z3h, Z3g, Z3j, Z41, Z40, Z0t, Z0u, Z0v, Z0s, Z1f, Z4c, Z4b, Z4d, Z4a, Z49, ex, Z43, Z42, ev_t, ev_c, Z27, Z26, Z4e, Z4f, Z2m, Z2l, Z2f, Z2j, Z2k, Z2g, Z2h, Z2i, putc, exBslice, lfill, exField, exIdxV, exIdxP, exBox, exAlloc, Z3b, Z3c, exStore, exFieldA, Z34, Z33, Z39, Z38, exPick, exUn, exBeq, exMM, exSeq, seqGo, exExt, binV, intOp, subc, Z4s, Z4r, Z4p, Z4q, Z4n, Z4l, Z4m, Z4o, Z4i, Z4j, Z4g, Z4t, S0, encI, encB, Z4k, Z2e, Z25, Z4h, Z2b, Z24, Z36, Z37, Z35, Z3s, Z3t, Z3r, Z3p, Z3q, idxT_Bs, exBuild, afill, h3]
  refine CallM.use hs (fun _ => .cons (.loose (by simp)) .nil) (Z2r _) (id := 17) (b := 2) (c := 3) (by simp [AWb_seq, Z0m, Z0n, Z0j, Z0k, Z0r, Z0l, Z0p, Z0q, Z0o, Z21, Z20, Z22, Z23, Z3d, Z3e, Z3a, vIdx, Z4x, Z4w, Z4y, vApp, Z4u, Z3u, Z11, Z10, Z0z, Z0x, Z0w, Z0y, Z17, Z16, Z15, Z13, Z12, Z14, Z2c, Z2d, Z2a, Z2n, Z31, Z30, Z07, Z08, Z06, Z01, Z02, Z00, Z04, Z05, Z03, Z1z, Z1y, Z46, Z48, Z47, Z45, Z1n, Z1o, Z1m, Z3n, Z3k, Z3m, Z3l, Z3o, Z1l, Z29, Z32, Z3x, Z1i, Z1j, Z1k, Z3v, Z3w, Z1g, Z28, Z1h, Z3i, Z3f, Z3h, Z3g, Z3j, Z41, Z40, Z0t, Z0u, Z0v, Z0s, Z1f, Z4c, Z4b, Z4d, Z4a, Z49, ex, Z43, Z42, ev_t, ev_c, Z27, Z26, Z4e, Z4f, Z2m, Z2l, Z2f, Z2j, Z2k, Z2g, Z2h, Z2i, putc, exBslice, lfill, exField, exIdxV, exIdxP, exBox, exAlloc, Z3b, Z3c, exStore, exFieldA, Z34, Z33, Z39, Z38, exPick, exUn, exBeq, exMM, exSeq, seqGo, exExt, binV, intOp, subc, Z4s, Z4r, Z4p, Z4q, Z4n, Z4l, Z4m, Z4o, Z4i, Z4j, Z4g, Z4t, S0, encI, encB, Z4k, Z2e, Z25, Z4h, Z2b, Z24, Z36, Z37, Z35, Z3s, Z3t, Z3r, Z3p, Z3q, idxT_Bs, mCell, vV_f]) (by simp [AWb_seq, Z0m, Z0n, Z0j, Z0k, Z0r, Z0l, Z0p, Z0q, Z0o, Z21, Z20, Z22, Z23, Z3d, Z3e, Z3a, vIdx, Z4x, Z4w, Z4y, vApp, Z4u, Z3u, Z11, Z10, Z0z, Z0x, Z0w, Z0y, Z17, Z16, Z15, Z13, Z12, Z14, Z2c, Z2d, Z2a, Z2n, Z31, Z30, Z07, Z08, Z06, Z01, Z02, Z00, Z04, Z05, Z03, Z1z, Z1y, Z46, Z48, Z47, Z45, Z1n, Z1o, Z1m, Z3n, Z3k, Z3m, Z3l, Z3o, Z1l, Z29, Z32, Z3x, Z1i, Z1j, Z1k, Z3v, Z3w, Z1g, Z28, Z1h, Z3i, Z3f, Z3h, Z3g, Z3j, Z41, Z40, Z0t, Z0u, Z0v, Z0s, Z1f, Z4c, Z4b, Z4d, Z4a, Z49, ex, Z43, Z42, ev_t, ev_c, Z27, Z26, Z4e, Z4f, Z2m, Z2l, Z2f, Z2j, Z2k, Z2g, Z2h, Z2i, putc, exBslice, lfill, exField, exIdxV, exIdxP, exBox, exAlloc, Z3b, Z3c, exStore, exFieldA, Z34, Z33, Z39, Z38, exPick, exUn, exBeq, exMM, exSeq, seqGo, exExt, binV, intOp, subc, Z4s, Z4r, Z4p, Z4q, Z4n, Z4l, Z4m, Z4o, Z4i, Z4j, Z4g, Z4t, S0, encI, encB, Z4k, Z2e, Z25, Z4h, Z2b, Z24, Z36, Z37, Z35, Z3s, Z3t, Z3r, Z3p, Z3q, idxT_Bs, vB_f]) (by simp [AWb_seq, Z0m, Z0n, Z0j, Z0k, Z0r, Z0l, Z0p, Z0q, Z0o, Z21, Z20, Z22, Z23, Z3d, Z3e, Z3a, vIdx, Z4x, Z4w, Z4y, vApp, Z4u, Z3u, Z11, Z10, Z0z, Z0x, Z0w, Z0y, Z17, Z16, Z15, Z13, Z12, Z14, Z2c, Z2d, Z2a, Z2n, Z31, Z30, Z07, Z08, Z06, Z01, Z02, Z00, Z04, Z05, Z03, Z1z, Z1y, Z46, Z48, Z47, Z45, Z1n, Z1o, Z1m, Z3n, Z3k, Z3m, Z3l, Z3o, Z1l, Z29, Z32, Z3x, Z1i, Z1j, Z1k, Z3v, Z3w, Z1g, Z28, Z1h, Z3i, Z3f, Z3h, Z3g, Z3j, Z41, Z40, Z0t, Z0u, Z0v, Z0s, Z1f, Z4c, Z4b, Z4d, Z4a, Z49, ex, Z43, Z42, ev_t, ev_c, Z27, Z26, Z4e, Z4f, Z2m, Z2l, Z2f, Z2j, Z2k, Z2g, Z2h, Z2i, putc, exBslice, lfill, exField, exIdxV, exIdxP, exBox, exAlloc, Z3b, Z3c, exStore, exFieldA, Z34, Z33, Z39, Z38, exPick, exUn, exBeq, exMM, exSeq, seqGo, exExt, binV, intOp, subc, Z4s, Z4r, Z4p, Z4q, Z4n, Z4l, Z4m, Z4o, Z4i, Z4j, Z4g, Z4t, S0, encI, encB, Z4k, Z2e, Z25, Z4h, Z2b, Z24, Z36, Z37, Z35, Z3s, Z3t, Z3r, Z3p, Z3q, idxT_Bs, vB_f]) (by simp) (by simp) ?_
  simp [AWb_seq, Z0m, Z0n, Z0j, Z0k, Z0r, Z0l, Z0p, Z0q, Z0o, Z21, Z20, Z22, Z23, Z3d, Z3e, Z3a, vIdx, Z4x, Z4w, Z4y, vApp, Z4u, Z3u, Z11, Z10, Z0z, Z0x, Z0w, Z0y, Z17, Z16, Z15, Z13, Z12, Z14, Z2c, Z2d, Z2a, Z2n, Z31, Z30, Z07, Z08, Z06, Z01, Z02, Z00, Z04, Z05, Z03, Z1z, Z1y, Z46, Z48, Z47, Z45, Z1n, Z1o, Z1m, Z3n, Z3k, Z3m, Z3l, Z3o, Z1l, Z29, Z32, Z3x, Z1i, Z1j, Z1k, Z3v, Z3w, Z1g, Z28, Z1h, Z3i, Z3f, Z3h, Z3g, Z3j, Z41, Z40, Z0t, Z0u, Z0v, Z0s, Z1f, Z4c, Z4b, Z4d, Z4a, Z49, ex, Z43, Z42, ev_t, ev_c, Z27, Z26, Z4e, Z4f, Z2m, Z2l, Z2f, Z2j, Z2k, Z2g, Z2h, Z2i, putc, exBslice, lfill, exField, exIdxV, exIdxP, exBox, exAlloc, Z3b, Z3c, exStore, exFieldA, Z34, Z33, Z39, Z38, exPick, exUn, exBeq, exMM, exSeq, seqGo, exExt, binV, intOp, subc, Z4s, Z4r, Z4p, Z4q, Z4n, Z4l, Z4m, Z4o, Z4i, Z4j, Z4g, Z4t, S0, encI, encB, Z4k, Z2e, Z25, Z4h, Z2b, Z24, Z36, Z37, Z35, Z3s, Z3t, Z3r, Z3p, Z3q, idxT_Bs, mOut]
  refine CallM.use hff (fun _ => .cl (cl_cons hcp cl_nil)) (closed_Ed _) (id := 17) (b := 21) (c := 22) (by simp [AWb_seq, Z0m, Z0n, Z0j, Z0k, Z0r, Z0l, Z0p, Z0q, Z0o, Z21, Z20, Z22, Z23, Z3d, Z3e, Z3a, vIdx, Z4x, Z4w, Z4y, vApp, Z4u, Z3u, Z11, Z10, Z0z, Z0x, Z0w, Z0y, Z17, Z16, Z15, Z13, Z12, Z14, Z2c, Z2d, Z2a, Z2n, Z31, Z30, Z07, Z08, Z06, Z01, Z02, Z00, Z04, Z05, Z03, Z1z, Z1y, Z46, Z48, Z47, Z45, Z1n, Z1o, Z1m, Z3n, Z3k, Z3m, Z3l, Z3o, Z1l, Z29, Z32, Z3x, Z1i, Z1j, Z1k, Z3v, Z3w, Z1g, Z28, Z1h, Z3i, Z3f, Z3h, Z3g, Z3j, Z41, Z40, Z0t, Z0u, Z0v, Z0s, Z1f, Z4c, Z4b, Z4d, Z4a, Z49, ex, Z43, Z42, ev_t, ev_c, Z27, Z26, Z4e, Z4f, Z2m, Z2l, Z2f, Z2j, Z2k, Z2g, Z2h, Z2i, putc, exBslice, lfill, exField, exIdxV, exIdxP, exBox, exAlloc, Z3b, Z3c, exStore, exFieldA, Z34, Z33, Z39, Z38, exPick, exUn, exBeq, exMM, exSeq, seqGo, exExt, binV, intOp, subc, Z4s, Z4r, Z4p, Z4q, Z4n, Z4l, Z4m, Z4o, Z4i, Z4j, Z4g, Z4t, S0, encI, encB, Z4k, Z2e, Z25, Z4h, Z2b, Z24, Z36, Z37, Z35, Z3s, Z3t, Z3r, Z3p, Z3q, idxT_Bs, mCell, vV_t]) (by simp [AWb_seq, Z0m, Z0n, Z0j, Z0k, Z0r, Z0l, Z0p, Z0q, Z0o, Z21, Z20, Z22, Z23, Z3d, Z3e, Z3a, vIdx, Z4x, Z4w, Z4y, vApp, Z4u, Z3u, Z11, Z10, Z0z, Z0x, Z0w, Z0y, Z17, Z16, Z15, Z13, Z12, Z14, Z2c, Z2d, Z2a, Z2n, Z31, Z30, Z07, Z08, Z06, Z01, Z02, Z00, Z04, Z05, Z03, Z1z, Z1y, Z46, Z48, Z47, Z45, Z1n, Z1o, Z1m, Z3n, Z3k, Z3m, Z3l, Z3o, Z1l, Z29, Z32, Z3x, Z1i, Z1j, Z1k, Z3v, Z3w, Z1g, Z28, Z1h, Z3i, Z3f, Z3h, Z3g, Z3j, Z41, Z40, Z0t, Z0u, Z0v, Z0s, Z1f, Z4c, Z4b, Z4d, Z4a, Z49, ex, Z43, Z42, ev_t, ev_c, Z27, Z26, Z4e, Z4f, Z2m, Z2l, Z2f, Z2j, Z2k, Z2g, Z2h, Z2i, putc, exBslice, lfill, exField, exIdxV, exIdxP, exBox, exAlloc, Z3b, Z3c, exStore, exFieldA, Z34, Z33, Z39, Z38, exPick, exUn, exBeq, exMM, exSeq, seqGo, exExt, binV, intOp, subc, Z4s, Z4r, Z4p, Z4q, Z4n, Z4l, Z4m, Z4o, Z4i, Z4j, Z4g, Z4t, S0, encI, encB, Z4k, Z2e, Z25, Z4h, Z2b, Z24, Z36, Z37, Z35, Z3s, Z3t, Z3r, Z3p, Z3q, idxT_Bs, vB_t]) (by simp [AWb_seq, Z0m, Z0n, Z0j, Z0k, Z0r, Z0l, Z0p, Z0q, Z0o, Z21, Z20, Z22, Z23, Z3d, Z3e, Z3a, vIdx, Z4x, Z4w, Z4y, vApp, Z4u, Z3u, Z11, Z10, Z0z, Z0x, Z0w, Z0y, Z17, Z16, Z15, Z13, Z12, Z14, Z2c, Z2d, Z2a, Z2n, Z31, Z30, Z07, Z08, Z06, Z01, Z02, Z00, Z04, Z05, Z03, Z1z, Z1y, Z46, Z48, Z47, Z45, Z1n, Z1o, Z1m, Z3n, Z3k, Z3m, Z3l, Z3o, Z1l, Z29, Z32, Z3x, Z1i, Z1j, Z1k, Z3v, Z3w, Z1g, Z28, Z1h, Z3i, Z3f, Z3h, Z3g, Z3j, Z41, Z40, Z0t, Z0u, Z0v, Z0s, Z1f, Z4c, Z4b, Z4d, Z4a, Z49, ex, Z43, Z42, ev_t, ev_c, Z27, Z26, Z4e, Z4f, Z2m, Z2l, Z2f, Z2j, Z2k, Z2g, Z2h, Z2i, putc, exBslice, lfill, exField, exIdxV, exIdxP, exBox, exAlloc, Z3b, Z3c, exStore, exFieldA, Z34, Z33, Z39, Z38, exPick, exUn, exBeq, exMM, exSeq, seqGo, exExt, binV, intOp, subc, Z4s, Z4r, Z4p, Z4q, Z4n, Z4l, Z4m, Z4o, Z4i, Z4j, Z4g, Z4t, S0, encI, encB, Z4k, Z2e, Z25, Z4h, Z2b, Z24, Z36, Z37, Z35, Z3s, Z3t, Z3r, Z3p, Z3q, idxT_Bs, vB_t]) (by simp) (by simp) ?_
  cases hn : e.nul
  · rw [if_neg (by simp)]
    simp [AWb_seq, Z0m, Z0n, Z0j, Z0k, Z0r, Z0l, Z0p, Z0q, Z0o, Z21, Z20, Z22, Z23, Z3d, Z3e, Z3a, vIdx, Z4x, Z4w, Z4y, vApp, Z4u, Z3u, Z11, Z10, Z0z, Z0x, Z0w, Z0y, Z17, Z16, Z15, Z13, Z12, Z14, Z2c, Z2d, Z2a, Z2n, Z31, Z30, Z07, Z08, Z06, Z01, Z02, Z00, Z04, Z05, Z03, Z1z, Z1y, Z46, Z48, Z47, Z45, Z1n, Z1o, Z1m, Z3n, Z3k, Z3m, Z3l, Z3o, Z1l, Z29, Z32, Z3x, Z1i, Z1j, Z1k, Z3v, Z3w, Z1g, Z28, Z1h, Z3i, Z3f, Z3h, Z3g, Z3j, Z41, Z40, Z0t, Z0u, Z0v, Z0s, Z1f, Z4c, Z4b, Z4d, Z4a, Z49, ex, Z43, Z42, ev_t, ev_c, Z27, Z26, Z4e, Z4f, Z2m, Z2l, Z2f, Z2j, Z2k, Z2g, Z2h, Z2i, putc, exBslice, lfill, exField, exIdxV, exIdxP, exBox, exAlloc, Z3b, Z3c, exStore, exFieldA, Z34, Z33, Z39, Z38, exPick, exUn, exBeq, exMM, exSeq, seqGo, exExt, binV, intOp, subc, Z4s, Z4r, Z4p, Z4q, Z4n, Z4l, Z4m, Z4o, Z4i, Z4j, Z4g, Z4t, S0, encI, encB, Z4k, Z2e, Z25, Z4h, Z2b, Z24, Z36, Z37, Z35, Z3s, Z3t, Z3r, Z3p, Z3q, idxT_Bs, mOut, mCell, exAlloc, cells_Ed, solid_Ed, hfl, exNil, hn, RetC, evC, RV.ev, ldC, packC]
    exact fz_netR (by simp [RenL_snoc, RenL.cl, RenV.cl, Z2r, Z2o, Z2s, Z2t, Z2p, Z2v, Z2u, Z2q, Z2w, Z2x, Z1d, Z1c, Z1b, Z19, Z18, Z1a, Z1e, Z52, Z4v, Z4z, Z3y, Z51, Z50, Z3z, Z1p, Z1q, Z1x, Z1v, Z1w, Z1u, Z1t, Z1s, Z1r, Z44, Z43, Z42, Z4e, Z4f, Z22, Z23, Z3d, Z3e, Z27, Z26, vV_t, vV_f, vB_t, vB_f, encI, encB]) (by simp [RenL_snoc, RenL.cl, RenV.cl, Z2r, Z2o, Z2s, Z2t, Z2p, Z2v, Z2u, Z2q, Z2w, Z2x, Z1d, Z1c, Z1b, Z19, Z18, Z1a, Z1e, Z52, Z4v, Z4z, Z3y, Z51, Z50, Z3z, Z1p, Z1q, Z1x, Z1v, Z1w, Z1u, Z1t, Z1s, Z1r, Z44, Z43, Z42, Z4e, Z4f, Z22, Z23, Z3d, Z3e, Z27, Z26, vV_t, vV_f, vB_t, vB_f, encI, encB, List.map_set])
  · rw [if_pos rfl]
    simp [AWb_seq, Z0m, Z0n, Z0j, Z0k, Z0r, Z0l, Z0p, Z0q, Z0o, Z21, Z20, Z22, Z23, Z3d, Z3e, Z3a, vIdx, Z4x, Z4w, Z4y, vApp, Z4u, Z3u, Z11, Z10, Z0z, Z0x, Z0w, Z0y, Z17, Z16, Z15, Z13, Z12, Z14, Z2c, Z2d, Z2a, Z2n, Z31, Z30, Z07, Z08, Z06, Z01, Z02, Z00, Z04, Z05, Z03, Z1z, Z1y, Z46, Z48, Z47, Z45, Z1n, Z1o, Z1m, Z3n, Z3k, Z3m, Z3l, Z3o, Z1l, Z29, Z32, Z3x, Z1i, Z1j, Z1k, Z3v, Z3w, Z1g, Z28, Z1h, Z3i, Z3f, Z3h, Z3g, Z3j, Z41, Z40, Z0t, Z0u, Z0v, Z0s, Z1f, Z4c, Z4b, Z4d, Z4a, Z49, ex, Z43, Z42, ev_t, ev_c, Z27, Z26, Z4e, Z4f, Z2m, Z2l, Z2f, Z2j, Z2k, Z2g, Z2h, Z2i, putc, exBslice, lfill, exField, exIdxV, exIdxP, exBox, exAlloc, Z3b, Z3c, exStore, exFieldA, Z34, Z33, Z39, Z38, exPick, exUn, exBeq, exMM, exSeq, seqGo, exExt, binV, intOp, subc, Z4s, Z4r, Z4p, Z4q, Z4n, Z4l, Z4m, Z4o, Z4i, Z4j, Z4g, Z4t, S0, encI, encB, Z4k, Z2e, Z25, Z4h, Z2b, Z24, Z36, Z37, Z35, Z3s, Z3t, Z3r, Z3p, Z3q, idxT_Bs, mOut, mCell, exAlloc, cells_Ed, solid_Ed, hfl, exNil, hn]
    have hap : appOk 8 e.lst.length 1 := by unfold appOk; omega
    have hst := hset (e.lst ++ [0]) (by rw [List.length_append]; simp; omega)
    refine clone_use hc e.lst (by omega) (by simp [AWb_seq, Z0m, Z0n, Z0j, Z0k, Z0r, Z0l, Z0p, Z0q, Z0o, Z21, Z20, Z22, Z23, Z3d, Z3e, Z3a, vIdx, Z4x, Z4w, Z4y, vApp, Z4u, Z3u, Z11, Z10, Z0z, Z0x, Z0w, Z0y, Z17, Z16, Z15, Z13, Z12, Z14, Z2c, Z2d, Z2a, Z2n, Z31, Z30, Z07, Z08, Z06, Z01, Z02, Z00, Z04, Z05, Z03, Z1z, Z1y, Z46, Z48, Z47, Z45, Z1n, Z1o, Z1m, Z3n, Z3k, Z3m, Z3l, Z3o, Z1l, Z29, Z32, Z3x, Z1i, Z1j, Z1k, Z3v, Z3w, Z1g, Z28, Z1h, Z3i, Z3f, Z3h, Z3g, Z3j, Z41, Z40, Z0t, Z0u, Z0v, Z0s, Z1f, Z4c, Z4b, Z4d, Z4a, Z49, ex, Z43, Z42, ev_t, ev_c, Z27, Z26, Z4e, Z4f, Z2m, Z2l, Z2f, Z2j, Z2k, Z2g, Z2h, Z2i, putc, exBslice, lfill, exField, exIdxV, exIdxP, exBox, exAlloc, Z3b, Z3c, exStore, exFieldA, Z34, Z33, Z39, Z38, exPick, exUn, exBeq, exMM, exSeq, seqGo, exExt, binV, intOp, subc, Z4s, Z4r, Z4p, Z4q, Z4n, Z4l, Z4m, Z4o, Z4i, Z4j, Z4g, Z4t, S0, encI, encB, Z4k, Z2e, Z25, Z4h, Z2b, Z24, Z36, Z37, Z35, Z3s, Z3t, Z3r, Z3p, Z3q, idxT_Bs]) ?_
    simp [AWb_seq, Z0m, Z0n, Z0j, Z0k, Z0r, Z0l, Z0p, Z0q, Z0o, Z21, Z20, Z22, Z23, Z3d, Z3e, Z3a, vIdx, Z4x, Z4w, Z4y, vApp, Z4u, Z3u, Z11, Z10, Z0z, Z0x, Z0w, Z0y, Z17, Z16, Z15, Z13, Z12, Z14, Z2c, Z2d, Z2a, Z2n, Z31, Z30, Z07, Z08, Z06, Z01, Z02, Z00, Z04, Z05, Z03, Z1z, Z1y, Z46, Z48, Z47, Z45, Z1n, Z1o, Z1m, Z3n, Z3k, Z3m, Z3l, Z3o, Z1l, Z29, Z32, Z3x, Z1i, Z1j, Z1k, Z3v, Z3w, Z1g, Z28, Z1h, Z3i, Z3f, Z3h, Z3g, Z3j, Z41, Z40, Z0t, Z0u, Z0v, Z0s, Z1f, Z4c, Z4b, Z4d, Z4a, Z49, ex, Z43, Z42, ev_t, ev_c, Z27, Z26, Z4e, Z4f, Z2m, Z2l, Z2f, Z2j, Z2k, Z2g, Z2h, Z2i, putc, exBslice, lfill, exField, exIdxV, exIdxP, exBox, exAlloc, Z3b, Z3c, exStore, exFieldA, Z34, Z33, Z39, Z38, exPick, exUn, exBeq, exMM, exSeq, seqGo, exExt, binV, intOp, subc, Z4s, Z4r, Z4p, Z4q, Z4n, Z4l, Z4m, Z4o, Z4i, Z4j, Z4g, Z4t, S0, encI, encB, Z4k, Z2e, Z25, Z4h, Z2b, Z24, Z36, Z37, Z35, Z3s, Z3t, Z3r, Z3p, Z3q, idxT_Bs, hap]
    refine CallR.gives [63] hst (FzL.cons ?_ FzL.nil) (Z2s _) ?_
    · exact fz_ownI (l := e.lst ++ [0]) (by simp [only_g, Z4e, encI]) (by simp)
    simp [AWb_seq, Z0m, Z0n, Z0j, Z0k, Z0r, Z0l, Z0p, Z0q, Z0o, Z21, Z20, Z22, Z23, Z3d, Z3e, Z3a, vIdx, Z4x, Z4w, Z4y, vApp, Z4u, Z3u, Z11, Z10, Z0z, Z0x, Z0w, Z0y, Z17, Z16, Z15, Z13, Z12, Z14, Z2c, Z2d, Z2a, Z2n, Z31, Z30, Z07, Z08, Z06, Z01, Z02, Z00, Z04, Z05, Z03, Z1z, Z1y, Z46, Z48, Z47, Z45, Z1n, Z1o, Z1m, Z3n, Z3k, Z3m, Z3l, Z3o, Z1l, Z29, Z32, Z3x, Z1i, Z1j, Z1k, Z3v, Z3w, Z1g, Z28, Z1h, Z3i, Z3f, Z3h, Z3g, Z3j, Z41, Z40, Z0t, Z0u, Z0v, Z0s, Z1f, Z4c, Z4b, Z4d, Z4a, Z49, ex, Z43, Z42, ev_t, ev_c, Z27, Z26, Z4e, Z4f, Z2m, Z2l, Z2f, Z2j, Z2k, Z2g, Z2h, Z2i, putc, exBslice, lfill, exField, exIdxV, exIdxP, exBox, exAlloc, Z3b, Z3c, exStore, exFieldA, Z34, Z33, Z39, Z38, exPick, exUn, exBeq, exMM, exSeq, seqGo, exExt, binV, intOp, subc, Z4s, Z4r, Z4p, Z4q, Z4n, Z4l, Z4m, Z4o, Z4i, Z4j, Z4g, Z4t, S0, encI, encB, Z4k, Z2e, Z25, Z4h, Z2b, Z24, Z36, Z37, Z35, Z3s, Z3t, Z3r, Z3p, Z3q, idxT_Bs, mCell, exNil, lose_g, Z2c, Z4i, RetC, evC, RV.ev, ldC, packC]
    exact fz_netR (by simp [RenL_snoc, RenL.cl, RenV.cl, Z2r, Z2o, Z2s, Z2t, Z2p, Z2v, Z2u, Z2q, Z2w, Z2x, Z1d, Z1c, Z1b, Z19, Z18, Z1a, Z1e, Z52, Z4v, Z4z, Z3y, Z51, Z50, Z3z, Z1p, Z1q, Z1x, Z1v, Z1w, Z1u, Z1t, Z1s, Z1r, Z44, Z43, Z42, Z4e, Z4f, Z22, Z23, Z3d, Z3e, Z27, Z26, vV_t, vV_f, vB_t, vB_f, encI, encB, lose_g]) (by simp [RenL_snoc, RenL.cl, RenV.cl, Z2r, Z2o, Z2s, Z2t, Z2p, Z2v, Z2u, Z2q, Z2w, Z2x, Z1d, Z1c, Z1b, Z19, Z18, Z1a, Z1e, Z52, Z4v, Z4z, Z3y, Z51, Z50, Z3z, Z1p, Z1q, Z1x, Z1v, Z1w, Z1u, Z1t, Z1s, Z1r, Z44, Z43, Z42, Z4e, Z4f, Z22, Z23, Z3d, Z3e, Z27, Z26, vV_t, vV_f, vB_t, vB_f, encI, encB, List.map_set, lose_g])
end Go.Rf


/- Own work: NetJoins (plain law). -/
set_option linter.unusedVariables false
set_option linter.unusedSimpArgs false
namespace Go.Rf
open Go.RowKit
theorem leaf_nil (sg : Int) : leafF sg [] = [] := by
  have : ∀ x, x ∉ leafF sg [] := fun x hx => by have := (mem_leaf.mp hx).1; simp at this
  exact List.eq_nil_iff_forall_not_mem.mpr this
theorem fl_or (sg : Int) (p q : Pat) : flP sg (.mk 4 [] [] [p, q]) = .mk 4 [] [] [flP sg p, flP sg q] := by simp [flP, flL, leaf_nil]
theorem fl_join (sg : Int) (p q : Pat) : flP sg (.mk 3 [] [] [p, q]) = .mk 3 [] [] [flP sg p, flP sg q] := by simp [flP, flL, leaf_nil]
theorem cnt_or (p q : Pat) : cntP (.mk 4 [] [] [p, q]) = cntP p + cntP q := by simp [cntP, cntL]
theorem cnt_join (p q : Pat) : cntP (.mk 3 [] [] [p, q]) = cntP p + cntP q := by simp [cntP, cntL]
theorem net_or {p q : Pat} {sg : Int} (h1 : 1 ≤ sg) (h2 : sg ≤ 400) (hc : cntP p + cntP q ≤ 300) (l : List Int) : accN (netOf (.mk 4 [] [] [p, q]) sg) l = (accN (netOf p sg) l || accN (netOf q sg) l) := by
  rw [net_acc h1 h2 (by rw [cnt_or]; exact hc), net_acc h1 h2 (by omega), net_acc h1 h2 (by omega), fl_or, mat_or]
theorem net_join {p q : Pat} {sg : Int} (h1 : 1 ≤ sg) (h2 : sg ≤ 400) (hc : cntP p + cntP q ≤ 300) (l : List Int) : accN (netOf (.mk 3 [] [] [p, q]) sg) l = (List.range (l.length + 1)).any fun i => accN (netOf p sg) (l.take i) && accN (netOf q sg) (l.drop i) := by
  rw [net_acc h1 h2 (by rw [cnt_join]; exact hc), fl_join]
  have key : matP (.mk 3 [] [] [flP sg p, flP sg q]) l 0 l.length = true ↔ ((List.range (l.length + 1)).any fun i => accN (netOf p sg) (l.take i) && accN (netOf q sg) (l.drop i)) = true := by
    rw [List.any_eq_true, matP_MR]
    have e3 : MR (stp l) (.mk 3 [] [] [flP sg p, flP sg q]) 0 l.length ↔ MA (stp l) [flP sg p, flP sg q] 0 l.length := by simp [MR]
    rw [e3]
    simp only [MA, List.mem_range, Bool.and_eq_true]
    constructor
    · rintro ⟨_, _, m, k1, e, k2, rfl⟩
      have i1 := MR_inc (stp_inc l) _ _ _ k1
      have i2 := MR_inc (stp_inc l) _ _ _ k2
      have em : ((m.toNat : Nat) : Int) = m := by omega
      refine ⟨m.toNat, by omega, ?_, ?_⟩
      · rw [net_acc h1 h2 (by omega), List.length_take, Nat.min_eq_left (by omega), em]
        have := matP_take (flP sg p) l 0 m.toNat (by omega) (by omega)
        rw [em] at this
        rw [show (0 : Int) = ((0 : Nat) : Int) from rfl, this]
        exact matP_MR.mpr ⟨by omega, by omega, k1⟩
      · rw [net_acc h1 h2 (by omega), List.length_drop]
        have := matP_part (flP sg q) l m.toNat l.length (by omega) (Nat.le_refl _)
        rw [List.take_of_length_le (by rw [List.length_drop]; exact Nat.le_refl _), em] at this
        have e2 : ((l.length - m.toNat : Nat) : Int) = (l.length : Int) - m := by omega
        rw [e2, this]
        exact matP_MR.mpr ⟨by omega, by omega, k2⟩
    · rintro ⟨i, hi, k1, k2⟩
      rw [net_acc h1 h2 (by omega), List.length_take, Nat.min_eq_left (by omega)] at k1
      rw [net_acc h1 h2 (by omega), List.length_drop] at k2
      have t1 := matP_take (flP sg p) l 0 i (by omega) (by omega)
      have t2 := matP_part (flP sg q) l i l.length (by omega) (Nat.le_refl _)
      rw [List.take_of_length_le (by rw [List.length_drop]; exact Nat.le_refl _)] at t2
      have e2 : ((l.length - i : Nat) : Int) = (l.length : Int) - i := by omega
      rw [e2, t2] at k2
      rw [show (0 : Int) = ((0 : Nat) : Int) from rfl, t1] at k1
      exact ⟨by omega, by omega, i, (matP_MR.mp k1).2.2, l.length, (matP_MR.mp k2).2.2, rfl⟩
  cases hA : matP (.mk 3 [] [] [flP sg p, flP sg q]) l 0 l.length with
  | true => exact (key.mp hA).symm
  | false =>
    cases hB : (List.range (l.length + 1)).any fun i => accN (netOf p sg) (l.take i) && accN (netOf q sg) (l.drop i) with
    | true => rw [key.mpr hB] at hA; cases hA
    | false => rfl
end Go.Rf

