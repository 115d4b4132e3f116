import Derived.Test.YtgehkmifnjldfaaRfW9
import Derived.Test.YtgehkmifnjldfaaRfOwn
/- Own work: the document's laying of a net: sets that grow, what stands behind states (walk). -/
set_option linter.unusedVariables false
set_option linter.unusedSimpArgs false
namespace Go.Rf
open Go.RowKit
attribute [local simp] AWb_seq Z0m Z0n Z0j Z0k Z0r Z0l Z0p Z0q Z0o Z21 Z20 Z22 Z23 Z3d Z3e Z3a vIdx Z4x Z4w Z4y vApp Z4u Z3u Z11 Z10 Z0z Z0x Z0w Z0y Z17 Z16 Z15 Z13 Z12 Z14 Z2c Z2d Z2a Z2n Z31 Z30 Z07 Z08 Z06 Z01 Z02 Z00 Z04 Z05 Z03 Z1z Z1y Z46 Z48 Z47 Z45 Z1n Z1o Z1m Z3n Z3k Z3m Z3l Z3o Z1l Z29 Z32 Z3x Z1i Z1j Z1k Z3v Z3w Z1g Z28 Z1h Z3i Z3f Z3h Z3g Z3j Z41 Z40 Z0t Z0u Z0v Z0s Z1f Z4c Z4b Z4d Z4a Z49 ex Z43 Z42 ev_t ev_c Z27 Z26 Z4e Z4f Z2m Z2l Z2f Z2j Z2k Z2g Z2h Z2i putc exBslice lfill exField exIdxV exIdxP exBox exAlloc Z3b Z3c exStore exFieldA Z34 Z33 Z39 Z38 exPick exUn exBeq exMM exSeq seqGo exExt binV intOp subc Z4s Z4r Z4p Z4q Z4n Z4l Z4m Z4o Z4i Z4j Z4g Z4t S0 encI encB Z4k Z2e Z25 Z4h Z2b Z24 Z36 Z37 Z35 Z3s Z3t Z3r Z3p Z3q idxT_Bs
def c_al_in (f_caesuraref13_put : FuncId) : AC :=
  (.loop (.seq (.seq (.reg none [
     ⟨(some 6), .mv (.t 5), none, none⟩,
     ⟨(some 7), .mv (.t 1), none, none⟩,
     ⟨(some 8), .len (.t 7), none, none⟩,
     ⟨(some 9), .bin .lss (.t 6) (.t 8), none, none⟩])
    (.cond (.t 9) .skip (.exit 0)))
    (.seq (.block 1 (.reg none [
      ⟨(some 12), .mv (.t 0), none, none⟩,
      ⟨(some 13), .mv (.t 1), none, none⟩,
      ⟨(some 14), .mv (.t 5), none, none⟩,
      ⟨(some 15), .idxA 1 (.t 13) (.t 14), none, none⟩,
      ⟨(some 16), .load none (.t 15), none, none⟩,
      ⟨(some 17), .mv (.c .junk), none, (some ((.c (.clo f_caesuraref13_put [] [])), [(.t 12), (.t 16)]))⟩,
      ⟨(some 0), .mv (.t 17), none, none⟩]))
    (.reg none [
     ⟨(some 10), .mv (.t 5), none, none⟩,
     ⟨(some 11), .bin .add (.t 10) (.c (.v (.int .i64 1))), none, none⟩,
     ⟨(some 5), .mv (.t 11), none, none⟩]))))
def c_caesuraref13_all (f_caesuraref13_put : FuncId) : AC :=
  (.seq (.reg none [
   ⟨(some 4), .mv (.c (.sl true [])), none, none⟩])
  (.seq (.seq (.reg none [
   ⟨(some 5), .mv (.c (.v (.int .i64 0))), none, none⟩])
  (.block 0 (c_al_in f_caesuraref13_put)))
  (.seq (.reg none [
   ⟨(some 18), .mv (.t 0), none, none⟩,
   ⟨(some 4), .mv (.t 18), none, none⟩])
  .ret)))
def c_gb_in (f_caesuraref13_all : FuncId) : AC :=
  (.loop (.seq (.seq (.reg none [
     ⟨(some 7), .mv (.t 6), none, none⟩,
     ⟨(some 8), .mv (.t 1), none, none⟩,
     ⟨(some 9), .len (.t 8), none, none⟩,
     ⟨(some 10), .bin .lss (.t 7) (.t 9), none, none⟩])
    (.cond (.t 10) .skip (.exit 0)))
    (.seq (.block 1 (.reg (some []) [
      ⟨(some 13), .mv (.t 0), none, none⟩,
      ⟨(some 14), .nilc (.t 13), none, none⟩,
      ⟨(some 15), .fieldA 0 (.t 14), none, none⟩,
      ⟨(some 16), .fieldA 2 (.t 15), none, none⟩,
      ⟨(some 17), .load none (.t 16), none, none⟩,
      ⟨(some 18), .mv (.t 1), none, none⟩,
      ⟨(some 19), .mv (.t 6), none, none⟩,
      ⟨(some 20), .idxA 1 (.t 18) (.t 19), none, none⟩,
      ⟨(some 21), .load none (.t 20), none, none⟩,
      ⟨(some 22), .mv (.t 0), none, none⟩,
      ⟨(some 23), .nilc (.t 22), none, none⟩,
      ⟨(some 24), .fieldA 0 (.t 23), none, none⟩,
      ⟨(some 25), .fieldA 2 (.t 24), none, none⟩,
      ⟨(some 26), .load none (.t 25), none, none⟩,
      ⟨(some 27), .mv (.t 1), none, none⟩,
      ⟨(some 28), .mv (.t 6), none, none⟩,
      ⟨(some 29), .idxA 1 (.t 27) (.t 28), none, none⟩,
      ⟨(some 30), .load none (.t 29), none, none⟩,
      ⟨(some 31), .idxA 1 (.t 26) (.t 30), none, none⟩,
      ⟨(some 32), .load none (.t 31), none, none⟩,
      ⟨(some 33), .mv (.t 2), none, none⟩,
      ⟨(some 34), .mv (.c .junk), none, (some ((.c (.clo f_caesuraref13_all [] [])), [(.t 32), (.t 33)]))⟩,
      ⟨(some 35), .idxA 1 (.t 17) (.t 21), none, none⟩,
      ⟨none, .store 1 (.t 35) (.t 34), none, none⟩]))
    (.reg none [
     ⟨(some 11), .mv (.t 6), none, none⟩,
     ⟨(some 12), .bin .add (.t 11) (.c (.v (.int .i64 1))), none, none⟩,
     ⟨(some 6), .mv (.t 12), none, none⟩]))))
def c_caesuraref13_grow_behind (f_caesuraref13_all : FuncId) : AC :=
  (.seq (.reg none [
   ⟨(some 6), .mv (.c (.v (.int .i64 0))), none, none⟩])
  (.block 0 (c_gb_in f_caesuraref13_all)))
def c_gr_in (f_caesuraref13_grow_form : FuncId) : AC :=
  (.loop (.seq (.seq (.reg none [
     ⟨(some 6), .mv (.t 5), none, none⟩,
     ⟨(some 7), .fieldA 3 (.t 3), none, none⟩,
     ⟨(some 8), .load none (.t 7), none, none⟩,
     ⟨(some 9), .len (.t 8), none, none⟩,
     ⟨(some 10), .bin .lss (.t 6) (.t 9), none, none⟩])
    (.cond (.t 10) .skip (.exit 0)))
    (.seq (.block 1 (.reg none [
      ⟨(some 13), .mv (.t 0), none, none⟩,
      ⟨(some 14), .fieldA 3 (.t 3), none, none⟩,
      ⟨(some 15), .load none (.t 14), none, none⟩,
      ⟨(some 16), .mv (.t 5), none, none⟩,
      ⟨(some 17), .idxA 4 (.t 15) (.t 16), none, none⟩,
      ⟨(some 18), .load (some 4) (.t 17), none, none⟩,
      ⟨(some 19), .mv (.c .junk), none, (some ((.c (.clo f_caesuraref13_grow_form [] [])), [(.t 13), (.t 18)]))⟩]))
    (.reg none [
     ⟨(some 11), .mv (.t 5), none, none⟩,
     ⟨(some 12), .bin .add (.t 11) (.c (.v (.int .i64 1))), none, none⟩,
     ⟨(some 5), .mv (.t 12), none, none⟩]))))
def c_caesuraref13_grow_rest (f_caesuraref13_grow_form : FuncId) : AC :=
  (.seq (.reg none [
   ⟨(some 3), .box 4 (.t 1), none, none⟩,
   ⟨(some 4), .alloc (.agg [(.v (.bool false)), (.sl true []), (.sl true [])]) 3, none, none⟩])
  (.seq (.seq (.reg none [
   ⟨(some 5), .mv (.c (.v (.int .i64 0))), none, none⟩])
  (.block 0 (c_gr_in f_caesuraref13_grow_form)))
  (.seq (.reg none [
   ⟨(some 20), .build (.agg [(.v (.bool false)), (.sl true []), (.sl true [])]) [] [], none, none⟩,
   ⟨none, .store 3 (.t 4) (.t 20), none, none⟩])
  .ret)))
def c_sz_in (f_caesuraref08_Size : FuncId) : AC :=
  (.loop (.seq (.seq (.reg none [
     ⟨(some 5), .mv (.t 4), none, none⟩,
     ⟨(some 6), .fieldA 3 (.t 1), none, none⟩,
     ⟨(some 7), .load none (.t 6), none, none⟩,
     ⟨(some 8), .len (.t 7), none, none⟩,
     ⟨(some 9), .bin .lss (.t 5) (.t 8), none, none⟩])
    (.cond (.t 9) .skip (.exit 0)))
    (.seq (.block 1 (.reg none [
      ⟨(some 12), .mv (.t 3), none, none⟩,
      ⟨(some 13), .fieldA 3 (.t 1), none, none⟩,
      ⟨(some 14), .load none (.t 13), none, none⟩,
      ⟨(some 15), .mv (.t 4), none, none⟩,
      ⟨(some 16), .idxA 4 (.t 14) (.t 15), none, none⟩,
      ⟨(some 17), .load (some 4) (.t 16), none, none⟩,
      ⟨(some 18), .mv (.c .junk), none, (some ((.c (.clo f_caesuraref08_Size [] [])), [(.t 17)]))⟩,
      ⟨(some 19), .bin .add (.t 12) (.t 18), none, none⟩,
      ⟨(some 20), .mm false (.c (.v (.int .i64 100000))) (.t 19), none, none⟩,
      ⟨(some 3), .mv (.t 20), none, none⟩]))
    (.reg none [
     ⟨(some 10), .mv (.t 4), none, none⟩,
     ⟨(some 11), .bin .add (.t 10) (.c (.v (.int .i64 1))), none, none⟩,
     ⟨(some 4), .mv (.t 11), none, none⟩]))))
def c_caesuraref08_Size (f_caesuraref08_Size : FuncId) : AC :=
  (.seq (.reg none [
   ⟨(some 1), .box 4 (.t 0), none, none⟩,
   ⟨(some 2), .mv (.c (.v (.int .i64 0))), none, none⟩])
  (.seq (.reg none [
   ⟨(some 3), .mv (.c (.v (.int .i64 1))), none, none⟩])
  (.seq (.seq (.reg none [
   ⟨(some 4), .mv (.c (.v (.int .i64 0))), none, none⟩])
  (.block 0 (c_sz_in f_caesuraref08_Size)))
  (.seq (.reg none [
   ⟨(some 21), .mv (.t 3), none, none⟩,
   ⟨(some 2), .mv (.t 21), none, none⟩])
  .ret))))
abbrev HPut (P : Program) (f : FuncId) : Prop := ∀ (l : List Int) (x : Int), l.length ≤ 100000 → PureC P f [encIs l, encI x] (encIs (putF l x))
abbrev HAll (P : Program) (f : FuncId) : Prop := ∀ (l m : List Int), Up l → l.length + m.length ≤ 100000 → PureC P f [encIs l, encIs m] (encIs (setF (l ++ m)))
theorem putF_len1 : ∀ (l : List Int) (x : Int), (putF l x).length ≤ l.length + 1
  | [], x => by simp [putF]
  | y :: l, x => by
    have := putF_len1 l x
    simp only [putF]
    split
    · simp only [List.length_cons]; omega
    · split <;> simp only [List.length_cons] <;> omega
theorem foldPut_len : ∀ (m l : List Int), (m.foldl putF l).length ≤ l.length + m.length
  | [], l => by simp
  | x :: m, l => by have := foldPut_len m (putF l x); have := putF_len1 l x; simp only [List.foldl_cons, List.length_cons]; omega
def alI (_ : Nat) (_ : Unit) : Prop := True
def alA (l m : List Int) (k : Nat) (_ : Unit) : List (Nat × AV) := [(0, encIs ((m.take k).foldl putF l)), (1, encIs m), (5, encI k)]
def alG (_ : Nat) (_ : Unit) : List (Nat × Option Blk) := []
theorem all_body {P : Program} {fp : FuncId} (hp : HPut P fp) (l m : List Int) (hl : l.length + m.length ≤ 100000) : AWb P 0 (c_caesuraref13_all fp) (RetK [4] (FzK (encIs (m.foldl putF l)))) (argF [encIs l, encIs m]) S0 := by
  simp [c_caesuraref13_all, c_al_in]
  refine AWb_for m.length alI (alA l m) 0 alG () trivial ?_ ?_
  · refine Abs.of [] [] (by omega) ⟨by simp, by simp⟩ ?_ ?_
    · simp [RenL_snoc, RenL.cl, RenV.cl, Z2r, Z2o, Z2s, Z2t, Z2p, Z2v, Z2u, Z2q, Z2w, Z2x, Z1d, Z1c, Z1b, Z19, Z18, Z1a, Z1e, Z52, Z4v, Z4z, Z3y, Z51, Z50, Z3z, Z1p, Z1q, Z1x, Z1v, Z1w, Z1u, Z1t, Z1s, Z1r, Z44, Z43, Z42, Z4e, Z4f, Z22, Z23, Z3d, Z3e, Z27, Z26, vV_t, vV_f, vB_t, vB_f, encI, encB, alG]
    · simp [RenL_snoc, RenL.cl, RenV.cl, Z2r, Z2o, Z2s, Z2t, Z2p, Z2v, Z2u, Z2q, Z2w, Z2x, Z1d, Z1c, Z1b, Z19, Z18, Z1a, Z1e, Z52, Z4v, Z4z, Z3y, Z51, Z50, Z3z, Z1p, Z1q, Z1x, Z1v, Z1w, Z1u, Z1t, Z1s, Z1r, Z44, Z43, Z42, Z4e, Z4f, Z22, Z23, Z3d, Z3e, Z27, Z26, vV_t, vV_f, vB_t, vB_f, encI, encB, alA]
  · rintro k _ hk _
    by_cases hlt : k < m.length
    · have hsk : m[k]? = some m[k] := List.getElem?_eq_getElem hlt
      have hsd : m.getD k 0 = m[k] := getD_I hlt
      have htk : m.take (k + 1) = m.take k ++ [m[k]] := by rw [List.take_add_one, hsk]; rfl
      have hfo : (m.take (k + 1)).foldl putF l = putF ((m.take k).foldl putF l) m[k] := by rw [htk, List.foldl_append]; rfl
      have hfl := foldPut_len (m.take k) l
      have htl : (m.take k).length ≤ m.length := by rw [List.length_take]; omega
      have hx := hp ((m.take k).foldl putF l) m[k] (by omega)
      simp [alA, alG, hlt, hsd]
      refine CallR.pure hx (cl_cons (Z2s _) (cl_cons (Z2r _) cl_nil)) (Z2s _) ?_
      simp
      rw [wrap_in _ (by omega)]
      refine ⟨hlt, (), trivial, Abs.of [] [] (by omega) ⟨by simp, by simp⟩ ?_ ?_⟩
      · simp [RenL_snoc, RenL.cl, RenV.cl, Z2r, Z2o, Z2s, Z2t, Z2p, Z2v, Z2u, Z2q, Z2w, Z2x, Z1d, Z1c, Z1b, Z19, Z18, Z1a, Z1e, Z52, Z4v, Z4z, Z3y, Z51, Z50, Z3z, Z1p, Z1q, Z1x, Z1v, Z1w, Z1u, Z1t, Z1s, Z1r, Z44, Z43, Z42, Z4e, Z4f, Z22, Z23, Z3d, Z3e, Z27, Z26, vV_t, vV_f, vB_t, vB_f, encI, encB, alG]
      · simp [RenL_snoc, RenL.cl, RenV.cl, Z2r, Z2o, Z2s, Z2t, Z2p, Z2v, Z2u, Z2q, Z2w, Z2x, Z1d, Z1c, Z1b, Z19, Z18, Z1a, Z1e, Z52, Z4v, Z4z, Z3y, Z51, Z50, Z3z, Z1p, Z1q, Z1x, Z1v, Z1w, Z1u, Z1t, Z1s, Z1r, Z44, Z43, Z42, Z4e, Z4f, Z22, Z23, Z3d, Z3e, Z27, Z26, vV_t, vV_f, vB_t, vB_f, encI, encB, alA, hfo]
    · have hke : k = m.length := by omega
      subst hke
      simp [alA, alG]
      exact .closed _ (Z2s _)
def gbI (_ : Nat) (_ : Unit) : Prop := True
def gbA (ss be : List Int) (k : Nat) (_ : Unit) : List (Nat × AV) := [(0, .ptr 0 0 0), (1, encIs ss), (2, encIs be), (6, encI k)]
theorem behindD_ok {P : Program} (hm : P.follows .mixedOrders = true) {f fa : FuncId} (h : Is P f (c_caesuraref13_grow_behind fa) [] 3) (ha : HAll P fa) (sg : Int) (ss be : List Int) (st : Gs) (hst : StN st)
    (hss : UpN st.by_.length ss) (hbe : UpN st.by_.length be) (hl : st.by_.length ≤ 10000) : CallM P f [encIs ss, encIs be] sg true st ⟨st.by_, folF st.fo ss be⟩ (.tup []) := by
  refine h.callB hm rfl ?_
  have hsl := hss.len
  have hbl := hbe.len
  simp [c_caesuraref13_grow_behind, mG, mCell, c_gb_in]
  refine AWb_for ss.length gbI (gbA ss be) 3 (nfG sg st ss be) () trivial ?_ ?_
  · refine Abs.of [(0, 0), (1, 1), (2, 2)] [] (by omega) ⟨by simp, by simp⟩ ?_ ?_
    · simp [RenL_snoc, RenL.cl, RenV.cl, Z2r, Z2o, Z2s, Z2t, Z2p, Z2v, Z2u, Z2q, Z2w, Z2x, Z1d, Z1c, Z1b, Z19, Z18, Z1a, Z1e, Z52, Z4v, Z4z, Z3y, Z51, Z50, Z3z, Z1p, Z1q, Z1x, Z1v, Z1w, Z1u, Z1t, Z1s, Z1r, Z44, Z43, Z42, Z4e, Z4f, Z22, Z23, Z3d, Z3e, Z27, Z26, vV_t, vV_f, vB_t, vB_f, encI, encB, nfG, mG, mCell, folF]
    · simp [RenL_snoc, RenL.cl, RenV.cl, Z2r, Z2o, Z2s, Z2t, Z2p, Z2v, Z2u, Z2q, Z2w, Z2x, Z1d, Z1c, Z1b, Z19, Z18, Z1a, Z1e, Z52, Z4v, Z4z, Z3y, Z51, Z50, Z3z, Z1p, Z1q, Z1x, Z1v, Z1w, Z1u, Z1t, Z1s, Z1r, Z44, Z43, Z42, Z4e, Z4f, Z22, Z23, Z3d, Z3e, Z27, Z26, vV_t, vV_f, vB_t, vB_f, encI, encB, gbA]
  · rintro k _ hk _
    by_cases hlt : k < ss.length
    · have hsk : ss[k]? = some ss[k] := List.getElem?_eq_getElem hlt
      have hsd : ss.getD k 0 = ss[k] := by rw [List.getD_eq_getElem?_getD, hsk]; rfl
      have hs0 := hss.1.2 _ (List.getElem_mem hlt)
      have hs1 := hss.2 _ (List.getElem_mem hlt)
      have hfl := folF_len (ss.take k) st.fo be
      have hlen := hst.len
      have hrow := getD_UpN (folF_N (ss.take k) st.fo be hst.rows hbe) (ss[k]).toNat
      have hrl := hrow.len
      have hcc := ha ((folF st.fo (ss.take k) be).getD (ss[k]).toNat []) be hrow.1 (by omega)
      have htk : ss.take (k + 1) = ss.take k ++ [ss[k]] := by rw [List.take_add_one, hsk]; rfl
      have hfs := folF_snoc (ss.take k) st.fo ss[k] be
      rw [← htk] at hfs
      have hxl : (ss[k]).toNat < (folF st.fo (ss.take k) be).length := by omega
      have hxl2 : ss[k] < ((folF st.fo (ss.take k) be).length : Int) := by omega
      have hge : ((folF st.fo (ss.take k) be))[(ss[k]).toNat]? = some ((folF st.fo (ss.take k) be).getD (ss[k]).toNat []) := by
        rw [List.getD_eq_getElem?_getD, List.getElem?_eq_getElem hxl]; rfl
      have hgl : (folF st.fo (ss.take k) be)[(ss[k]).toNat] = (folF st.fo (ss.take k) be).getD (ss[k]).toNat [] := by
        rw [List.getD_eq_getElem?_getD, List.getElem?_eq_getElem hxl]; rfl
      have D1 := fun n' g' => CallD.cd (S := ⟨n', g'⟩) hcc (cl_cons (Z2s _) (cl_cons (Z2s _) cl_nil)) (Z2s _)
      generalize hro : (folF st.fo (ss.take k) be).getD (ss[k]).toNat [] = row at *
      generalize hgx : ss[k] = x at *
      generalize hff : folF st.fo (ss.take k) be = fo at *
      simp [gbA, nfG, mG, mCell, hlt, hgx, hff, exNil, hsd, hxl, hxl2, hs0, hge, hgl, vV_t, vB_t]
      refine ⟨_, ⟨_, D1 _ _⟩, ?_⟩
      simp [vV_t, vB_t, Z2c, hxl]
      rw [wrap_in _ (by omega)]
      refine ⟨hlt, (), trivial, Abs.of [(0, 0), (1, 1), (2, 2)] [] (by omega) ⟨by simp, by simp⟩ ?_ ?_⟩
      · simp [RenL_snoc, RenL.cl, RenV.cl, Z2r, Z2o, Z2s, Z2t, Z2p, Z2v, Z2u, Z2q, Z2w, Z2x, Z1d, Z1c, Z1b, Z19, Z18, Z1a, Z1e, Z52, Z4v, Z4z, Z3y, Z51, Z50, Z3z, Z1p, Z1q, Z1x, Z1v, Z1w, Z1u, Z1t, Z1s, Z1r, Z44, Z43, Z42, Z4e, Z4f, Z22, Z23, Z3d, Z3e, Z27, Z26, vV_t, vV_f, vB_t, vB_f, encI, encB, nfG, mG, mCell, hfs]
        rw [← List.map_set]
        exact .cl (Z1a _)
      · simp [RenL_snoc, RenL.cl, RenV.cl, Z2r, Z2o, Z2s, Z2t, Z2p, Z2v, Z2u, Z2q, Z2w, Z2x, Z1d, Z1c, Z1b, Z19, Z18, Z1a, Z1e, Z52, Z4v, Z4z, Z3y, Z51, Z50, Z3z, Z1p, Z1q, Z1x, Z1v, Z1w, Z1u, Z1t, Z1s, Z1r, Z44, Z43, Z42, Z4e, Z4f, Z22, Z23, Z3d, Z3e, Z27, Z26, vV_t, vV_f, vB_t, vB_f, encI, encB, gbA]
    · have hke : k = ss.length := by omega
      subst hke
      simp [gbA, nfG, mG, mCell]
      refine ⟨afOf [], ⟨10, gOf (mG sg true ⟨st.by_, folF st.fo ss be⟩ 0 3 4 ++ [])⟩, Abs.of [(0, 0), (3, 1), (4, 2)] [] (by omega) ⟨by simp, by simp⟩ ?_ ?_, .of⟩
      · simp [RenL_snoc, RenL.cl, RenV.cl, Z2r, Z2o, Z2s, Z2t, Z2p, Z2v, Z2u, Z2q, Z2w, Z2x, Z1d, Z1c, Z1b, Z19, Z18, Z1a, Z1e, Z52, Z4v, Z4z, Z3y, Z51, Z50, Z3z, Z1p, Z1q, Z1x, Z1v, Z1w, Z1u, Z1t, Z1s, Z1r, Z44, Z43, Z42, Z4e, Z4f, Z22, Z23, Z3d, Z3e, Z27, Z26, vV_t, vV_f, vB_t, vB_f, encI, encB, mG, mCell]
      · simp [RenL_snoc, RenL.cl, RenV.cl, Z2r, Z2o, Z2s, Z2t, Z2p, Z2v, Z2u, Z2q, Z2w, Z2x, Z1d, Z1c, Z1b, Z19, Z18, Z1a, Z1e, Z52, Z4v, Z4z, Z3y, Z51, Z50, Z3z, Z1p, Z1q, Z1x, Z1v, Z1w, Z1u, Z1t, Z1s, Z1r, Z44, Z43, Z42, Z4e, Z4f, Z22, Z23, Z3d, Z3e, Z27, Z26, vV_t, vV_f, vB_t, vB_f, encI, encB]
def FormOkD (P : Program) (f : FuncId) (sg : Int) (q : Pat) : Prop := ∀ st : Gs, StN st → st.by_.length + cntP q ≤ 10000 → CallM P f [encPat q] sg true st (dform sg q st).2 (encEd (dform sg q st).1)
def gzI (_ : Nat) (_ : Unit) : Prop := True
def gzA (k : Nat) (_ : Unit) : List (Nat × AV) := [(0, .ptr 0 0 0), (3, .ptr 5 0 0), (4, .ptr 6 0 0), (5, encI k)]
def gzG (sg : Int) (st : Gs) (p : Pat) (ks : List Pat) (k : Nat) (_ : Unit) : List (Nat × Option Blk) := (5, some (.arr 4 [encPat p])) :: (6, some (.arr 3 [encEd (ed0 false)])) :: mG sg true (deach sg (ks.take k) st).2 0 3 4
theorem closed_Pat' (k : Int) (s : List Rg) (g : List Int) (ks : List Pat) : Closed (.agg [.v (.int .i64 k), encRs s, encIs g, .sl false (ks.map encPat)]) := by
  have := closed_Pat (.mk k s g ks)
  rwa [encPat_eq] at this
theorem restD_ok {P : Program} (hm : P.follows .mixedOrders = true) {f ff : FuncId} (h : IsC P f (c_caesuraref13_grow_rest ff) [.c 4 (some 3)] 2) {sg k0 : Int} {ps : List Rg} {pg : List Int} {ks : List Pat} (hl : ks.length ≤ 100000) (hq : ∀ q ∈ ks, FormOkD P ff sg q)
    (st : Gs) (hst : StN st) (hb : st.by_.length + cntL ks ≤ 10000) : CallM P f [encPat (.mk k0 ps pg ks)] sg true st (deach sg ks st).2 (encEd (ed0 false)) := by
  refine h.callB hm rfl ?_
  have hcp := closed_Pat' k0 ps pg ks
  simp [c_caesuraref13_grow_rest, encPat_eq, mG, mCell, c_gr_in, exAlloc]
  refine AWb_for ks.length gzI gzA 10 (gzG sg st (.mk k0 ps pg ks) ks) () trivial ?_ ?_
  · refine Abs.of [(0, 0), (3, 1), (4, 2), (5, 3), (6, 4)] [] (by omega) ⟨by simp, by simp⟩ ?_ ?_
    · simp [RenL_snoc, RenL.cl, RenV.cl, Z2r, Z2o, Z2s, Z2t, Z2p, Z2v, Z2u, Z2q, Z2w, Z2x, Z1d, Z1c, Z1b, Z19, Z18, Z1a, Z1e, Z52, Z4v, Z4z, Z3y, Z51, Z50, Z3z, Z1p, Z1q, Z1x, Z1v, Z1w, Z1u, Z1t, Z1s, Z1r, Z44, Z43, Z42, Z4e, Z4f, Z22, Z23, Z3d, Z3e, Z27, Z26, vV_t, vV_f, vB_t, vB_f, encI, encB, gzG, mG, mCell, deach, ed0, encEd, encPat_eq, closed_Rs, closed_Patx]
      exact .loose (by simp)
    · simp [RenL_snoc, RenL.cl, RenV.cl, Z2r, Z2o, Z2s, Z2t, Z2p, Z2v, Z2u, Z2q, Z2w, Z2x, Z1d, Z1c, Z1b, Z19, Z18, Z1a, Z1e, Z52, Z4v, Z4z, Z3y, Z51, Z50, Z3z, Z1p, Z1q, Z1x, Z1v, Z1w, Z1u, Z1t, Z1s, Z1r, Z44, Z43, Z42, Z4e, Z4f, Z22, Z23, Z3d, Z3e, Z27, Z26, vV_t, vV_f, vB_t, vB_f, encI, encB, gzA]
  · rintro k _ hk _
    by_cases hlt : k < ks.length
    · have hsk : ks[k]? = some ks[k] := List.getElem?_eq_getElem hlt
      have htk : ks.take (k + 1) = ks.take k ++ [ks[k]] := by rw [List.take_add_one, hsk]; rfl
      have hsn := deach_snoc sg (ks.take k) ks[k] st
      rw [← htk] at hsn
      obtain ⟨n1, n2, n3⟩ := deach_N sg (ks.take k) st hst
      have hcl := cntL_take hlt
      have hqk := hq _ (List.getElem_mem hlt) (deach sg (ks.take k) st).2 n1 (by omega)
      rcases hpq : ks[k] with ⟨pk, qs, qg, pks⟩
      rw [hpq] at hqk hsn
      simp only [encPat_eq, encI] at hqk
      have hck := closed_Pat' pk qs qg pks
      simp [gzA, gzG, mG, mCell, hlt, hsk, hpq, encPat_eq]
      refine CallM.use hqk (fun _ => .cl (cl_cons hck cl_nil)) (closed_Ed _) (id := 0) (b := 3) (c := 4) (by simp [mCell, vV_t]) (by simp [vB_t]) (by simp [vB_t]) (by simp) (by simp) ?_
      simp [mOut]
      rw [wrap_in _ (by omega)]
      refine ⟨hlt, (), trivial, Abs.of [(0, 0), (3, 22), (4, 23), (5, 5), (6, 6)] [] (by omega) ⟨by simp, by simp⟩ ?_ ?_⟩
      · simp [RenL_snoc, RenL.cl, RenV.cl, Z2r, Z2o, Z2s, Z2t, Z2p, Z2v, Z2u, Z2q, Z2w, Z2x, Z1d, Z1c, Z1b, Z19, Z18, Z1a, Z1e, Z52, Z4v, Z4z, Z3y, Z51, Z50, Z3z, Z1p, Z1q, Z1x, Z1v, Z1w, Z1u, Z1t, Z1s, Z1r, Z44, Z43, Z42, Z4e, Z4f, Z22, Z23, Z3d, Z3e, Z27, Z26, vV_t, vV_f, vB_t, vB_f, encI, encB, gzG, mG, mCell, hsn, closed_Ed, encPat_eq, hcp]
      · simp [RenL_snoc, RenL.cl, RenV.cl, Z2r, Z2o, Z2s, Z2t, Z2p, Z2v, Z2u, Z2q, Z2w, Z2x, Z1d, Z1c, Z1b, Z19, Z18, Z1a, Z1e, Z52, Z4v, Z4z, Z3y, Z51, Z50, Z3z, Z1p, Z1q, Z1x, Z1v, Z1w, Z1u, Z1t, Z1s, Z1r, Z44, Z43, Z42, Z4e, Z4f, Z22, Z23, Z3d, Z3e, Z27, Z26, vV_t, vV_f, vB_t, vB_f, encI, encB, gzA]
    · have hke : k = ks.length := by omega
      subst hke
      simp [gzA, gzG, mG, mCell, exBuild, afill, cells_Ed, RetNC, encPat_eq]
      refine ⟨afOf [(4, .ptr 5 0 0)], ⟨10, gOf (mG sg true (deach sg ks st).2 0 3 4 ++ [(5, some (.arr 3 [encEd (ed0 false)]))])⟩, Abs.of [(0, 0), (3, 3), (4, 4), (5, 6)] [] (by omega) ⟨by simp, by simp⟩ ?_ ?_, ?_⟩
      · simp [RenL_snoc, RenL.cl, RenV.cl, Z2r, Z2o, Z2s, Z2t, Z2p, Z2v, Z2u, Z2q, Z2w, Z2x, Z1d, Z1c, Z1b, Z19, Z18, Z1a, Z1e, Z52, Z4v, Z4z, Z3y, Z51, Z50, Z3z, Z1p, Z1q, Z1x, Z1v, Z1w, Z1u, Z1t, Z1s, Z1r, Z44, Z43, Z42, Z4e, Z4f, Z22, Z23, Z3d, Z3e, Z27, Z26, vV_t, vV_f, vB_t, vB_f, encI, encB, mG, mCell, encEd, ed0]
        exact .loose (by simp)
      · simp [RenL_snoc, RenL.cl, RenV.cl, Z2r, Z2o, Z2s, Z2t, Z2p, Z2v, Z2u, Z2q, Z2w, Z2x, Z1d, Z1c, Z1b, Z19, Z18, Z1a, Z1e, Z52, Z4v, Z4z, Z3y, Z51, Z50, Z3z, Z1p, Z1q, Z1x, Z1v, Z1w, Z1u, Z1t, Z1s, Z1r, Z44, Z43, Z42, Z4e, Z4f, Z22, Z23, Z3d, Z3e, Z27, Z26, vV_t, vV_f, vB_t, vB_f, encI, encB]
      · simp [RetC, evC, RV.ev, ldC, packC, gOf_m5, cells_Ed, agg_Ed]
        first | exact .of | exact ⟨rfl, .of⟩
/-! ### nodes -/
def syI (_ : Nat) (_ : Unit) : Prop := True
def syA (ks : List Pat) (k : Nat) (_ : Unit) : List (Nat × AV) := [(1, .ptr 0 0 0), (3, encI (min 100000 (1 + ndL (ks.take k) : Nat))), (4, encI k)]
def syG (p : Pat) (_ : Nat) (_ : Unit) : List (Nat × Option Blk) := [(0, some (.arr 4 [encPat p]))]
theorem size08_body {P : Program} {fz : FuncId} (k : Int) (ps : List Rg) (pg : List Int) (ks : List Pat) (hl : ks.length ≤ 100000) (hq : ∀ q ∈ ks, PureC P fz [encPat q] (encI (szP q))) :
    AWb P 0 (c_caesuraref08_Size fz) (RetK [2] (FzK (encI (szP (.mk k ps pg ks))))) (argF [encPat (.mk k ps pg ks)]) S0 := by
  have hcp := closed_Pat' k ps pg ks
  simp [c_caesuraref08_Size, encPat_eq, c_sz_in]
  refine AWb_for ks.length syI (syA ks) 5 (syG (.mk k ps pg ks)) () trivial ?_ ?_
  · refine Abs.of [(0, 0)] [] (by omega) ⟨by simp, by simp⟩ ?_ ?_
    · simp [RenL_snoc, RenL.cl, RenV.cl, Z2r, Z2o, Z2s, Z2t, Z2p, Z2v, Z2u, Z2q, Z2w, Z2x, Z1d, Z1c, Z1b, Z19, Z18, Z1a, Z1e, Z52, Z4v, Z4z, Z3y, Z51, Z50, Z3z, Z1p, Z1q, Z1x, Z1v, Z1w, Z1u, Z1t, Z1s, Z1r, Z44, Z43, Z42, Z4e, Z4f, Z22, Z23, Z3d, Z3e, Z27, Z26, vV_t, vV_f, vB_t, vB_f, encI, encB, syG, encPat_eq, hcp]
    · simp [RenL_snoc, RenL.cl, RenV.cl, Z2r, Z2o, Z2s, Z2t, Z2p, Z2v, Z2u, Z2q, Z2w, Z2x, Z1d, Z1c, Z1b, Z19, Z18, Z1a, Z1e, Z52, Z4v, Z4z, Z3y, Z51, Z50, Z3z, Z1p, Z1q, Z1x, Z1v, Z1w, Z1u, Z1t, Z1s, Z1r, Z44, Z43, Z42, Z4e, Z4f, Z22, Z23, Z3d, Z3e, Z27, Z26, vV_t, vV_f, vB_t, vB_f, encI, encB, syA, ndL]
      omega
  · rintro i _ hi _
    by_cases hlt : i < ks.length
    · have hsk : ks[i]? = some ks[i] := List.getElem?_eq_getElem hlt
      have htk : ks.take (i + 1) = ks.take i ++ [ks[i]] := by rw [List.take_add_one, hsk]; rfl
      have hqk := hq _ (List.getElem_mem hlt)
      have hcq := closed_Pat ks[i]
      have hnd : ndL (ks.take (i + 1)) = ndL (ks.take i) + ndP ks[i] := by rw [htk, ndL_append]; simp [ndL]
      have hsz : szP ks[i] = min 100000 (ndP ks[i] : Int) := rfl
      obtain ⟨x1, x2, x3, x4, hx⟩ : ∃ x1 x2 x3 x4 : AV, encPat ks[i] = .agg [x1, x2, x3, x4] := by
        obtain ⟨k, s, g, ks⟩ := ks[i]; rw [encPat_eq]; exact ⟨_, _, _, _, rfl⟩
      rw [hx] at hqk hcq
      generalize hnn : ndL (ks.take i) = nn at *
      generalize szP ks[i] = zz at *
      have hww : IntKind.i64.wrap (min 100000 (1 + (nn : Int)) + zz) = min 100000 (1 + (nn : Int)) + zz := wrap_in _ (by omega)
      simp [syA, syG, hlt, hsk, hx, encPat_eq, hnn]
      refine CallR.pure hqk (cl_cons hcq cl_nil) (Z2r _) ?_
      simp [hww]
      rw [wrap_in _ (by omega)]
      refine ⟨hlt, (), trivial, Abs.of [(0, 0)] [] (by omega) ⟨by simp, by simp⟩ ?_ ?_⟩
      · simp [RenL_snoc, RenL.cl, RenV.cl, Z2r, Z2o, Z2s, Z2t, Z2p, Z2v, Z2u, Z2q, Z2w, Z2x, Z1d, Z1c, Z1b, Z19, Z18, Z1a, Z1e, Z52, Z4v, Z4z, Z3y, Z51, Z50, Z3z, Z1p, Z1q, Z1x, Z1v, Z1w, Z1u, Z1t, Z1s, Z1r, Z44, Z43, Z42, Z4e, Z4f, Z22, Z23, Z3d, Z3e, Z27, Z26, vV_t, vV_f, vB_t, vB_f, encI, encB, syG, encPat_eq, hcp]
      · simp [RenL_snoc, RenL.cl, RenV.cl, Z2r, Z2o, Z2s, Z2t, Z2p, Z2v, Z2u, Z2q, Z2w, Z2x, Z1d, Z1c, Z1b, Z19, Z18, Z1a, Z1e, Z52, Z4v, Z4z, Z3y, Z51, Z50, Z3z, Z1p, Z1q, Z1x, Z1v, Z1w, Z1u, Z1t, Z1s, Z1r, Z44, Z43, Z42, Z4e, Z4f, Z22, Z23, Z3d, Z3e, Z27, Z26, vV_t, vV_f, vB_t, vB_f, encI, encB, syA, hnd, hnn]
        omega
    · have hke : i = ks.length := by omega
      subst hke
      simp [syA, syG, encPat_eq]
      have e : szP (.mk k ps pg ks) = min 100000 (1 + (ndL ks : Int)) := by simp only [szP, ndP]; push_cast; rfl
      rw [e]
      exact FzK_I _ _
mutual
theorem size08_ok {P : Program} (hm : P.follows .mixedOrders = true) {f : FuncId} (h : Is P f (c_caesuraref08_Size f) [2] 1) : ∀ (p : Pat), PatS p → PureC P f [encPat p] (encI (szP p))
  | .mk k ps pg ks, hp => by
    simp only [PatS] at hp
    exact h.pureB hm rfl (size08_body k ps pg ks hp.2.1 (sizes08_ok hm h ks hp.2.2))
theorem sizes08_ok {P : Program} (hm : P.follows .mixedOrders = true) {f : FuncId} (h : Is P f (c_caesuraref08_Size f) [2] 1) : ∀ (ks : List Pat), PatsS ks → ∀ q ∈ ks, PureC P f [encPat q] (encI (szP q))
  | [], _, q, hq => by simp at hq
  | p :: ps, hp, q, hq => by
    simp only [PatsS] at hp
    rcases List.mem_cons.mp hq with e | hq
    · rw [e]; exact size08_ok hm h p hp.1
    · exact sizes08_ok hm h ps hp.2 q hq
end
end Go.Rf

