import Derived.Test.YtgehkmifnjldfaaRfRows
import Derived.Test.YtgehkmifnjldfaaRfL10
import Derived.Test.YtgehkmifnjldfaaRfCell
/- Own work: the net, the other way round, as the document makes it. -/
set_option linter.unusedVariables false
set_option linter.unusedSimpArgs false
namespace Go.Rf
open Go.RowKit
attribute [local simp] Z0h Z0c Z0d Z09 Z0a Z0i Z0b Z0f Z0g Z2z Z2y Z07 Z08 Z06 Z01 Z02 Z00 Z04 Z05 Z03 Z1z Z1y Z46 Z48 Z47 Z45 Z1n Z1o Z1m Z3n Z3k Z3m Z3l Z3o Z1l Z29 Z32 Z3x Z1i Z1j Z1k Z3v Z3w Z1g Z28 Z1h Z3i Z3f Z3h Z3g Z3j Z41 Z40 Z0t Z0u Z0v Z0s Z1f Z4c Z4b Z4d Z4a Z49 ex Z43 Z42 ev_t ev_c Z27 Z26 Z4e Z4f Z2m Z2l Z2f Z2j Z2k Z2g Z2h Z2i putc exBslice lfill exField exIdxV exIdxP exBox exAlloc exLoad exStore exFieldA exIdxA exLen exPick exUn exBeq exMM exSeq seqGo exExt binV intOp subc AV.solid S0 encI encB

def c_tr_in (f_caesuraref14_has : FuncId) : AC :=
  (.block 2 (.loop (.seq (.seq (.reg none [
        ⟨(some 24), .mv (.t 7), none, none⟩,
        ⟨(some 25), .fieldA 1 (.t 1), none, none⟩,
        ⟨(some 26), .load none (.t 25), none, none⟩,
        ⟨(some 27), .len (.t 26), none, none⟩,
        ⟨(some 28), .bin .lss (.t 24) (.t 27), none, none⟩])
       (.cond (.t 28) .skip (.exit 2)))
       (.seq (.block 3 (.seq (.reg none [
         ⟨(some 31), .mv (.t 5), none, none⟩,
         ⟨(some 32), .bin .eql (.t 31) (.c (.v (.int .i64 0))), none, none⟩,
         ⟨(some 33), .mv (.t 32), none, none⟩,
         ⟨(some 34), .fieldA 3 (.t 1), (some (33, true)), none⟩,
         ⟨(some 35), .load none (.t 34), (some (33, true)), none⟩,
         ⟨(some 36), .mv (.t 7), (some (33, true)), none⟩,
         ⟨(some 37), .mv (.c .junk), (some (33, true)), (some ((.c (.clo f_caesuraref14_has [] [])), [(.t 35), (.t 36)]))⟩,
         ⟨(some 38), .pick (.t 33) (.t 37) (.c (.v (.bool false))), none, none⟩,
         ⟨(some 39), .mv (.t 38), none, none⟩,
         ⟨(some 40), .mv (.t 5), (some (39, false)), none⟩,
         ⟨(some 41), .bin .gtr (.t 40) (.c (.v (.int .i64 0))), (some (39, false)), none⟩,
         ⟨(some 42), .mv (.t 41), (some (39, false)), none⟩,
         ⟨(some 43), .fieldA 2 (.t 1), (some (42, true)), none⟩,
         ⟨(some 44), .load none (.t 43), (some (42, true)), none⟩,
         ⟨(some 45), .mv (.t 7), (some (42, true)), none⟩,
         ⟨(some 46), .idxA 1 (.t 44) (.t 45), (some (42, true)), none⟩,
         ⟨(some 47), .load none (.t 46), (some (42, true)), none⟩,
         ⟨(some 48), .mv (.t 5), (some (42, true)), none⟩,
         ⟨(some 49), .mv (.c .junk), (some (42, true)), (some ((.c (.clo f_caesuraref14_has [] [])), [(.t 47), (.t 48)]))⟩,
         ⟨(some 50), .pick (.t 42) (.t 49) (.c (.v (.bool false))), (some (39, false)), none⟩,
         ⟨(some 51), .pick (.t 39) (.c (.v (.bool true))) (.t 50), none, none⟩])
        (.cond (.t 51) (.reg none [
          ⟨(some 52), .mv (.t 6), none, none⟩,
          ⟨(some 53), .mv (.t 7), none, none⟩,
          ⟨(some 54), .bslice 1 1 (.v (.int .i64 0)) [(0, (.t 53))], none, none⟩,
          ⟨(some 55), .app 1 8 (.t 52) (.t 54), none, none⟩,
          ⟨(some 6), .mv (.t 55), none, none⟩]) .skip)))
       (.reg none [
        ⟨(some 29), .mv (.t 7), none, none⟩,
        ⟨(some 30), .bin .add (.t 29) (.c (.v (.int .i64 1))), none, none⟩,
        ⟨(some 7), .mv (.t 30), none, none⟩])))))
def c_tr_out (f_caesuraref14_has : FuncId) : AC :=
  (.block 0 (.loop (.seq (.seq (.reg none [
     ⟨(some 17), .mv (.t 5), none, none⟩,
     ⟨(some 18), .fieldA 1 (.t 1), none, none⟩,
     ⟨(some 19), .load none (.t 18), none, none⟩,
     ⟨(some 20), .len (.t 19), none, none⟩,
     ⟨(some 21), .bin .lss (.t 17) (.t 20), none, none⟩])
    (.cond (.t 21) .skip (.exit 0)))
    (.seq (.block 1 (.seq (.reg none [
      ⟨(some 6), .mv (.c (.sl true [])), none, none⟩])
     (.seq (.seq (.reg none [
      ⟨(some 7), .mv (.c (.v (.int .i64 1))), none, none⟩])
     (c_tr_in f_caesuraref14_has))
     (.reg none [
      ⟨(some 56), .fieldA 2 (.t 4), none, none⟩,
      ⟨(some 57), .load none (.t 56), none, none⟩,
      ⟨(some 58), .mv (.t 6), none, none⟩,
      ⟨(some 59), .bslice 1 1 (.sl true []) [(0, (.t 58))], none, none⟩,
      ⟨(some 60), .app 1 24 (.t 57) (.t 59), none, none⟩,
      ⟨(some 61), .fieldA 2 (.t 4), none, none⟩,
      ⟨none, .store 1 (.t 61) (.t 60), none, none⟩]))))
    (.reg none [
     ⟨(some 22), .mv (.t 5), none, none⟩,
     ⟨(some 23), .bin .add (.t 22) (.c (.v (.int .i64 1))), none, none⟩,
     ⟨(some 5), .mv (.t 23), none, none⟩])))))
def c_tr_ret : AC :=
  (.seq (.reg none [
   ⟨(some 78), .load (some 4) (.t 4), none, none⟩,
   ⟨none, .store 4 (.t 2) (.t 78), none, none⟩,
   ⟨(some 3), .mv (.c (.v (.int .i64 0))), none, none⟩])
  .ret)
def c_tr_last : AC :=
  (.seq (.reg (some []) [
   ⟨(some 70), .fieldA 3 (.t 4), none, none⟩,
   ⟨(some 71), .load none (.t 70), none, none⟩,
   ⟨(some 72), .fieldA 2 (.t 1), none, none⟩,
   ⟨(some 73), .load none (.t 72), none, none⟩,
   ⟨(some 74), .idxA 1 (.t 73) (.c (.v (.int .i64 0))), none, none⟩,
   ⟨(some 75), .load none (.t 74), none, none⟩,
   ⟨(some 76), .app 1 8 (.t 71) (.t 75), none, none⟩,
   ⟨(some 77), .fieldA 3 (.t 4), none, none⟩,
   ⟨none, .store 1 (.t 77) (.t 76), none, none⟩])
  c_tr_ret)
def c_caesuraref14_Turn (f_caesuraref13_Right f_caesuraref14_has : FuncId) : AC :=
  (.seq (.reg none [
   ⟨(some 1), .box 4 (.t 0), none, none⟩,
   ⟨(some 2), .alloc (.agg [(.v (.int .i64 0)), (.sl true []), (.sl true []), (.sl true [])]) 4, none, none⟩,
   ⟨(some 3), .mv (.c (.v (.int .i64 0))), none, none⟩])
  (.seq (.seq (.reg none [
   ⟨(some 8), .load (some 4) (.t 1), none, none⟩,
   ⟨(some 9), .mv (.c .junk), none, (some ((.c (.clo f_caesuraref13_Right [] [])), [(.t 8)]))⟩,
   ⟨(some 10), .un .not (.t 9), none, none⟩])
  (.cond (.t 10) (.seq (.reg none [
    ⟨(some 11), .build (.agg [(.v (.int .i64 0)), (.sl true []), (.sl true []), (.sl true [])]) [] [], none, none⟩,
    ⟨none, .store 4 (.t 2) (.t 11), none, none⟩,
    ⟨(some 3), .mv (.c (.v (.int .i64 1))), none, none⟩])
   .ret) .skip))
  (.seq (.reg none [
   ⟨(some 12), .fieldA 0 (.t 1), none, none⟩,
   ⟨(some 13), .load none (.t 12), none, none⟩,
   ⟨(some 14), .fieldA 1 (.t 1), none, none⟩,
   ⟨(some 15), .load none (.t 14), none, none⟩,
   ⟨(some 16), .build (.agg [(.v (.int .i64 0)), (.sl true []), (.sl true []), (.sl true [])]) [(0, 1), (1, 1)] [(0, (.t 13)), (1, (.t 15))], none, none⟩,
   ⟨(some 4), .alloc (.agg [(.v (.int .i64 0)), (.sl true []), (.sl true []), (.sl true [])]) 4, none, none⟩,
   ⟨none, .store 4 (.t 4) (.t 16), none, none⟩])
  (.seq (.seq (.reg none [
   ⟨(some 5), .mv (.c (.v (.int .i64 0))), none, none⟩])
  (c_tr_out f_caesuraref14_has))
  (.seq (.seq (.reg none [
   ⟨(some 62), .fieldA 3 (.t 1), none, none⟩,
   ⟨(some 63), .load none (.t 62), none, none⟩,
   ⟨(some 64), .mv (.c .junk), none, (some ((.c (.clo f_caesuraref14_has [] [])), [(.t 63), (.c (.v (.int .i64 0)))]))⟩])
  (.cond (.t 64) (.reg none [
    ⟨(some 65), .fieldA 3 (.t 4), none, none⟩,
    ⟨(some 66), .load none (.t 65), none, none⟩,
    ⟨(some 67), .bslice 1 1 (.v (.int .i64 0)) [(0, (.c (.v (.int .i64 0))))], none, none⟩,
    ⟨(some 68), .app 1 8 (.t 66) (.t 67), none, none⟩,
    ⟨(some 69), .fieldA 3 (.t 4), none, none⟩,
    ⟨none, .store 1 (.t 69) (.t 68), none, none⟩]) .skip))
  c_tr_last)))))
/-- A list that grows by others at once. -/
theorem Vec.appL {g : Nat → Option Blk} {n : Nat} {v : AV} {es : Nat} {xs ys : List AV} {nid by_ : Nat} {t : Bool} (h : Vec g v es xs) (hes : ∀ z ∈ xs, z.cells.length = es) (hys : ∀ z ∈ ys, z.cells.length = es) (hok : appOk by_ xs.length ys.length) :
    ∃ v' S', (exApp es by_ v (.sl t ys)).run ⟨n, g⟩ nid = some (v', S') ∧ Vec S'.g v' es (xs ++ ys) ∧ (∀ j ∈ v'.ids, j = nid) ∧ (∀ j, j ∉ v.ids → j ≠ nid → S'.g j = g j) ∧ S'.n = n ∧ v'.cells = [v'] := by
  have h3 : ∀ bs, lstE es bs (.sl t ys) = some ys := fun bs => by simp only [lstE]; rw [if_pos hys]
  rcases h with ⟨rfl, rfl⟩ | ⟨id, off, zs, rfl, h1, h2, hd⟩
  · simp only [List.length_nil] at hok
    by_cases h0 : ys = []
    · subst h0
      refine ⟨.sl true [], ⟨n, g⟩, ?_, .inl ⟨rfl, rfl⟩, by simp [AV.ids], fun _ _ _ => rfl, rfl, rfl⟩
      simp only [List.length_nil] at hok
      simp only [exApp, Eff.run, AV.oid, List.mapM_nil, Option.pure_def, h3, Option.bind_some]
      rw [if_pos ⟨by simp, hok⟩, if_pos (by rfl)]
      rfl
    · have hne : ¬ ys.length = 0 := by simpa using h0
      refine ⟨.own nid 0 ys.length, (⟨n, g⟩ : St).set nid (some (.arr es ys)), ?_, by simpa using Vec.mk (by simp [Z4e]), by simp [AV.ids], fun j _ hj => by simp [Z4e, hj], rfl, rfl⟩
      simp only [exApp, Eff.run, AV.oid, List.mapM_nil, Option.pure_def, h3, Option.bind_some, List.length_nil, Nat.zero_add, List.nil_append]
      rw [if_pos ⟨by simp, hok⟩, if_neg hne]
      rfl
  · have hl : off + xs.length = zs.length := by rw [← hd]; simp; omega
    refine ⟨.own nid 0 (xs.length + ys.length), ((⟨n, g⟩ : St).set id none).set nid (some (.arr es (xs ++ ys))), ?_, by simpa using Vec.mk' (m := xs.length + ys.length) (by simp [Z4e]) (by simp), by simp [AV.ids], fun j hj hjn => ?_, rfl, rfl⟩
    · simp only [exApp, Eff.run, AV.oid, List.mapM_cons, List.mapM_nil, h1, Option.pure_def, Option.bind_eq_bind, Option.bind_some, h3]
      rw [if_pos ⟨trivial, hl, hok, by simp⟩]
      simp [St.setL, St.setO, hd]
    · simp only [AV.ids, List.mem_singleton] at hj
      simp [Z4e, hj, hjn]
def rowP (n : Net) (i k : Nat) : Bool := if i = 0 then n.last.contains (k : Int) else (n.follow.getD k []).contains (i : Int)
/-- The states from 1 to below j from which one comes to i, the other way round. -/
def rowT (n : Net) (i j : Nat) : List Int := ((List.range j).filter fun k => decide (1 ≤ k) && rowP n i k).map Int.ofNat
theorem rowT_succ (n : Net) (i j : Nat) (h : 1 ≤ j) : rowT n i (j + 1) = rowT n i j ++ (if rowP n i j = true then [(j : Int)] else []) := by
  unfold rowT
  rw [List.range_succ, List.filter_append, List.map_append]
  congr 1
  by_cases h2 : rowP n i j = true <;> simp [h2, h]
theorem rowT_len (n : Net) (i j : Nat) : (rowT n i j).length ≤ j := by
  unfold rowT
  rw [List.length_map]
  have := List.length_filter_le (fun k => decide (1 ≤ k) && rowP n i k) (List.range j)
  simpa using this
def lastT (n : Net) : List Int := (if n.last.contains 0 = true then [0] else []) ++ n.follow.getD 0 []
def turnN (n : Net) : Net := ⟨n.signs, n.by_, (List.range n.by_.length).map fun i => rowT n i n.by_.length, lastT n⟩
structure TrS (n : Net) (i : Nat) (f : AF) (S : St) : Prop where
  e1 : f 1 = .ptr 0 0 0
  e2 : f 2 = .ptr 1 0 0
  e4 : f 4 = .ptr 11 0 0
  e5 : f 5 = encI i
  g0 : S.g 0 = some (.arr 4 [encNet n])
theorem TrS.same {n : Net} {i : Nat} {f f' : AF} {S S' : St} (h : TrS n i f S) (hf : ∀ j, j = 1 ∨ j = 2 ∨ j = 4 ∨ j = 5 → f' j = f j) (hg : S'.g 0 = S.g 0) : TrS n i f' S' :=
  ⟨by rw [hf _ (by simp)]; exact h.e1, by rw [hf _ (by simp)]; exact h.e2, by rw [hf _ (by simp)]; exact h.e4, by rw [hf _ (by simp)]; exact h.e5, by rw [hg]; exact h.g0⟩
def TrI (n : Net) (i N0 : Nat) (g0 : Nat → Option Blk) (k : Nat) (f : AF) (S : St) : Prop := TrS n i f S ∧ f 7 = encI (k + 1 : Nat) ∧ Vec S.g (f 6) 1 ((rowT n i (k + 1)).map encI) ∧ (∀ j ∈ (f 6).ids, N0 ≤ j ∧ j < S.n) ∧ (∀ j, j < N0 → S.g j = g0 j) ∧ N0 ≤ S.n
theorem tr_in {P : Program} {fh : FuncId} {n : Net} (R : RightN n) (hh : ∀ l ∈ n.rows, ∀ x, PureC P fh [encIs l, encI x] (encB (l.contains x))) {i : Nat} (hi : i < n.by_.length) {f : AF} {S : St} {Q : Exit → AF → St → Prop}
    (h : TrS n i f S) (e6 : f 6 = .sl true []) (e7 : f 7 = encI 1) (hn : 1 ≤ S.n)
    (hk : ∀ f' S', TrS n i f' S' → Vec S'.g (f' 6) 1 ((rowT n i n.by_.length).map encI) → (∀ j ∈ (f' 6).ids, S.n ≤ j ∧ j < S'.n) → (∀ j, j < S.n → S'.g j = S.g j) → S.n ≤ S'.n → Q .normal f' S') : AW P (c_tr_in fh) Q f S := by
  have hfl := R.len
  have hn1 := R.n1
  have hn2 := R.n2
  simp [c_tr_in]
  refine AW_for (n.by_.length - 1) (TrI n i S.n S.g) ?_ ?_
  · refine ⟨h, by simpa using e7, ?_, ?_, fun _ _ => rfl, Nat.le_refl _⟩
    · rw [e6]
      have : rowT n i 1 = [] := by simp [rowT, List.range_succ]
      simp only [Nat.zero_add]
      rw [this]; exact .nil
    · rw [e6]; simp [AV.ids]
  · rintro k f S' hk' ⟨h, e7, hv, ho, hfr, hN⟩
    have e1 := h.e1
    have e5 := h.e5
    have g0 := h.g0
    simp only [encNet, encIss] at g0
    by_cases hlt : k + 1 < n.by_.length
    · have hlt' : (k : Int) + 1 < n.by_.length := by omega
      have hkf : k + 1 < n.follow.length := by omega
      have hgf : n.follow[k + 1]? = some n.follow[k + 1] := List.getElem?_eq_getElem hkf
      have hgd : n.follow.getD (k + 1) [] = n.follow[k + 1] := by rw [List.getD_eq_getElem?_getD, hgf]; rfl
      have hsucc := rowT_succ n i (k + 1) (by omega)
      have hlen := rowT_len n i (k + 1)
      have k1 := hh n.last (by simp [Net.rows]) ((k + 1 : Nat) : Int)
      have k2 := hh n.follow[k + 1] (by simp [Net.rows]) (i : Int)
      have c1 := cl_cons (Z2s n.last) (cl_cons (Z2r ((k + 1 : Nat) : Int)) cl_nil)
      have c2 := cl_cons (Z2s n.follow[k + 1]) (cl_cons (Z2r (i : Int)) cl_nil)
      simp only [encIs, encI, Int.natCast_add, Int.natCast_one] at k1 k2 c1 c2 e7
      have hki : ((k : Int) + 1).toNat = k + 1 := by omega
      have hap := fun (m nid : Nat) => Vec.app (n := m) (nid := nid) (by_ := 8) (x := .v (.int .i64 ((k : Int) + 1))) hv (cells_I _) (by simp [AV.cells]) (appOk8 (by rw [List.length_map]; omega))
      have hout : 0 ∉ (f 6).ids := fun h0 => by have := (ho 0 h0).1; omega
      by_cases hi0 : i = 0
      · subst hi0
        have hrp : rowP n 0 (k + 1) = n.last.contains (((k : Nat) : Int) + 1) := by simp [rowP]
        simp [e1, e5, e7, g0, hlt, hlt', encI]
        refine CallR.pure k1 c1 (Z2o _) ?_
        cases hb : n.last.contains (((k : Nat) : Int) + 1) with
        | true =>
          rw [hb] at hrp
          simp [e1, e5, e7, g0, hlt, hlt', encI]
          rw [Vec.app (xs := (rowT n 0 (k + 1)).map encI) (hv.frame (fun i hi => rfl)) (cells_I _) (by simp [AV.cells]) (appOk8 (by rw [List.length_map]; omega))]
          simp [e1, e5, e7, hlt, hlt', encI, without_n]
          rw [wrap_in _ (by omega)]
          refine ⟨by omega, ⟨?_, ?_, ?_, ?_, ?_⟩, ?_, ?_, ?_, ?_, ?_⟩
          · simp [Z43, h.e1]
          · simp [Z43, h.e2]
          · simp [Z43, h.e4]
          · simp [Z43, e5, encI]
          · rw [Z4e, if_neg (by omega), without_g _ hout]; exact h.g0
          · simp [Z43, encI]
          · rw [hsucc, hrp, if_pos rfl]
            have hl1 : (rowT n 0 (k + 1) ++ [(((k + 1 : Nat)) : Int)]).map encI = (rowT n 0 (k + 1)).map encI ++ [encI ((k + 1 : Nat) : Int)] := by simp
            rw [hl1]
            simp only [Z43, if_true]
            exact .mk' (by simp [Z4e, encI]) (by simp [Nat.add_assoc])
          · intro j hj
            simp [Z43, AV.ids] at hj
            subst hj
            simp; omega
          · intro j hj
            rw [Z4e, if_neg (by omega), without_g _ (fun h0 => by have := (ho j h0).1; omega)]
            exact hfr j hj
          · simp; omega
        | false =>
          rw [hb] at hrp
          simp [e1, e5, e7, g0, hlt, hlt', encI]
          rw [wrap_in _ (by omega)]
          refine ⟨by omega, h.same (fun j hj => ?_) rfl, ?_, ?_, ?_, fun j hj => hfr j hj, by simp; omega⟩
          · rcases hj with rfl | rfl | rfl | rfl <;> simp [Z43]
          · simp [Z43, encI]
          · rw [hsucc, hrp]
            simp [Z43]
            exact hv.frame (fun _ _ => rfl)
          · intro j hj
            simp [Z43] at hj
            have := ho j hj
            simp; omega
      · have hi1 : (i : Int) ≠ 0 := by omega
        have hib : ((i : Int) == 0) = false := by simpa using hi1
        have hip : (0 : Int) < i := by omega
        have hin : 0 < i := by omega
        have hrp : rowP n i (k + 1) = n.follow[k + 1].contains (i : Int) := by unfold rowP; rw [if_neg hi0, hgd]
        have hk0 : (0 : Int) ≤ (k : Int) + 1 := by omega
        have hk1 : (k : Int) + 1 < n.follow.length := by omega
        simp [e1, e5, e7, g0, hlt, hlt', encI, encIs, hi0, hi1, hip, hin, hib, hgf, hkf, hki, hk0, hk1]
        refine CallR.pure k2 c2 (Z2o _) ?_
        cases hb : n.follow[k + 1].contains (i : Int) with
        | true =>
          rw [hb] at hrp
          simp [e1, e5, e7, g0, hlt, hlt', encI]
          rw [Vec.app (xs := (rowT n i (k + 1)).map encI) (hv.frame (fun i hi => rfl)) (cells_I _) (by simp [AV.cells]) (appOk8 (by rw [List.length_map]; omega))]
          simp [e1, e5, e7, hlt, hlt', encI, without_n]
          rw [wrap_in _ (by omega)]
          refine ⟨by omega, ⟨?_, ?_, ?_, ?_, ?_⟩, ?_, ?_, ?_, ?_, ?_⟩
          · simp [Z43, h.e1]
          · simp [Z43, h.e2]
          · simp [Z43, h.e4]
          · simp [Z43, e5, encI]
          · rw [Z4e, if_neg (by omega), without_g _ hout]; exact h.g0
          · simp [Z43, encI]
          · rw [hsucc, hrp, if_pos rfl]
            have hl1 : (rowT n i (k + 1) ++ [(((k + 1 : Nat)) : Int)]).map encI = (rowT n i (k + 1)).map encI ++ [encI ((k + 1 : Nat) : Int)] := by simp
            rw [hl1]
            simp only [Z43, if_true]
            exact .mk' (by simp [Z4e, encI]) (by simp [Nat.add_assoc])
          · intro j hj
            simp [Z43, AV.ids] at hj
            subst hj
            simp; omega
          · intro j hj
            rw [Z4e, if_neg (by omega), without_g _ (fun h0 => by have := (ho j h0).1; omega)]
            exact hfr j hj
          · simp; omega
        | false =>
          rw [hb] at hrp
          simp [e1, e5, e7, g0, hlt, hlt', encI]
          rw [wrap_in _ (by omega)]
          refine ⟨by omega, h.same (fun j hj => ?_) rfl, ?_, ?_, ?_, fun j hj => hfr j hj, by simp; omega⟩
          · rcases hj with rfl | rfl | rfl | rfl <;> simp [Z43]
          · simp [Z43, encI]
          · rw [hsucc, hrp]
            simp [Z43]
            exact hv.frame (fun _ _ => rfl)
          · intro j hj
            simp [Z43] at hj
            have := ho j hj
            simp; omega
    · have hlt' : ¬ (k : Int) + 1 < n.by_.length := by omega
      have hkn : k + 1 = n.by_.length := by omega
      simp only [encI, Int.natCast_add, Int.natCast_one] at e7
      rw [hkn] at hv
      simp [e1, e7, g0, hlt, hlt']
      refine hk _ _ (h.same (fun j hj => ?_) rfl) ?_ ?_ (fun j hj => hfr j hj) (by show S.n ≤ _; simp; omega)
      · rcases hj with rfl | rfl | rfl | rfl <;> simp [Z43]
      · simp [Z43]; exact hv.frame (fun _ _ => rfl)
      · intro j hj
        simp [Z43] at hj
        have := ho j hj
        simp; omega
def zNet : AV := .agg [.v (.int .i64 0), .sl true [], .sl true [], .sl true []]
structure TrO (n : Net) (i : Nat) (FV : AV) (rv : List AV) (f : AF) (S : St) : Prop where
  t : TrS n i f S
  g1 : S.g 1 = some (.arr 4 [zNet])
  g11 : S.g 11 = some (.arr 4 [.agg [encI n.signs, encIss n.by_, FV, .sl true []]])
  rows : ARows S.g S.n [0, 1, 11] (FV :: rv) (rv :: (List.range i).map fun k => (rowT n k n.by_.length).map encI)
  n : 12 ≤ S.n
def TrOE (n : Net) (i : Nat) (f : AF) (S : St) : Prop := ∃ FV rv, TrO n i FV rv f S
theorem Vec.cell {g : Nat → Option Blk} {v : AV} {es : Nat} {xs : List AV} (h : Vec g v es xs) : v.cells = [v] ∧ v.solid = true := by
  rcases h with ⟨rfl, _⟩ | ⟨_, _, _, rfl, _⟩ <;> exact ⟨rfl, rfl⟩
theorem ARows.cells {g : Nat → Option Blk} {n : Nat} {av : List Nat} {vs : List AV} {ls : List (List AV)} (h : ARows g n av vs ls) : ∀ v ∈ vs, v.cells.length = 1 := by
  intro v hv
  obtain ⟨t, ht, rfl⟩ := List.getElem_of_mem hv
  rw [(h.row t ht (by rw [← h.len]; exact ht)).cell.1]; rfl
theorem tr_out {P : Program} {fh : FuncId} {n : Net} (R : RightN n) (hh : ∀ l ∈ n.rows, ∀ x, PureC P fh [encIs l, encI x] (encB (l.contains x))) {f : AF} {S : St} {Q : Exit → AF → St → Prop}
    (h : TrOE n 0 f S)
    (hk : ∀ f' S', TrOE n n.by_.length f' S' → Q .normal f' S') : AW P (c_tr_out fh) Q f S := by
  have hfl := R.len
  have hn1 := R.n1
  have hn2 := R.n2
  simp [c_tr_out]
  refine AW_for n.by_.length (TrOE n) h ?_
  rintro i f S hi' ⟨FV, rv, o⟩
  have e1 := o.t.e1
  have e2 := o.t.e2
  have e4 := o.t.e4
  have e5 := o.t.e5
  have g0 := o.t.g0
  simp only [encNet, encIss] at g0
  by_cases hlt : i < n.by_.length
  · simp [e1, e2, e4, e5, g0, hlt]
    refine tr_in R hh hlt ⟨?_, ?_, ?_, ?_, ?_⟩ ?_ ?_ ?_ ?_
    · simp [Z43, e1]
    · simp [Z43, e2]
    · simp [Z43, e4]
    · simp [Z43, e5, encI]
    · exact o.t.g0
    · simp [Z43]
    · simp [Z43, encI]
    · simp
    · intro f2 S2 h2 hv2 ho2 hf2 hn3
      have en := o.n
      have hS2 : S.n ≤ S2.n := by simp at hn3; omega
      have hfr : ∀ j, j < S.n → S2.g j = S.g j := fun j hj => by simpa using hf2 j (by simp; omega)
      have ho3 : ∀ j ∈ (f2 6).ids, S.n ≤ j ∧ j < S2.n := fun j hj => by have := ho2 j hj; simp at this; omega
      obtain ⟨hFV, hFo, hFs, hrest⟩ := o.rows.head
      have hrow2 : ARows S2.g S2.n [0, 1, 11] (FV :: rv) (rv :: (List.range i).map fun k => (rowT n k n.by_.length).map encI) := o.rows.frame hS2 (fun v hv j hj => hfr j ((o.rows.out v hv j hj).1))
      obtain ⟨hFV2, hFo2, hFs2, hrest2⟩ := hrow2.head
      have g11 := (hfr 11 (by omega)).trans o.g11
      have g1 := (hfr 1 (by omega)).trans o.g1
      have hc6 := hv2.cell
      have hcF := hFV2.cell
      have hs6 := hc6.2
      have hsF := hcF.2
      simp only [AV.solid] at hs6 hsF
      have hl6 : (f2 6).cells.length = 1 := by rw [hc6.1]; rfl
      have hlen : rv.length = i := by have := hrest.len; simpa using this
      have hap := fun (m nid : Nat) => Vec.app (n := m) (nid := nid) (by_ := 24) (x := f2 6) hFV2 (by have := hrest.cells; exact this) hl6 (by unfold appOk; omega)
      have E1 := h2.e1
      have E2 := h2.e2
      have E4 := h2.e4
      have E5 := h2.e5
      simp [E1, E2, E4, E5, g11, g1, hlt, hc6.1, hs6, hcF.1, hsF, encIss]
      rw [hap]
      have h7 : ¬ S2.n = 7 := by omega
      have hw : (St.without ⟨S2.n + 7, S2.g⟩ FV).g 11 = S2.g 11 := without_g 11 (fun h0 => (hFo2 11 h0).2 (by simp))
      rw [g11] at hw
      simp [E1, E2, E4, E5, hw, h7, hlt, hc6.1, hs6, hcF.1, hsF, encIss, encI]
      rw [wrap_in _ (by omega)]
      refine ⟨hlt, .own (S2.n + 4) 0 (rv.length + 1), rv ++ [f2 6], ⟨?_, ?_, ?_, ?_, ?_⟩, ?_, ?_, ?_, ?_⟩
      · simp [Z43, E1]
      · simp [Z43, E2]
      · simp [Z43, E4]
      · simp [Z43, encI]
      · simp only [Z4e]
        rw [if_neg (by omega), if_neg (by omega), without_g _ (fun h0 => (hFo2 0 h0).2 (by simp))]; exact h2.g0
      · simp only [Z4e]
        rw [if_neg (by omega), if_neg (by omega), without_g _ (fun h0 => (hFo2 1 h0).2 (by simp))]; exact g1
      · simp [Z4e, encI, encIss]
      · have hls : (List.range (i + 1)).map (fun k => (rowT n k n.by_.length).map encI) = (List.range i).map (fun k => (rowT n k n.by_.length).map encI) ++ [(rowT n i n.by_.length).map encI] := by rw [List.range_succ, List.map_append]; rfl
        rw [hls]
        have hg : ∀ j, j ≠ 11 → j ≠ S2.n + 4 → j ∉ FV.ids → ∀ (x : Option Blk), (((St.without ⟨S2.n + 7, S2.g⟩ FV).set (S2.n + 4) (some (Blk.arr 1 (rv ++ [f2 6])))).set 11 x).g j = S2.g j := by
          intro j h1 h2 h3 x
          simp only [Z4e]; rw [if_neg h1, if_neg h2, without_g _ h3]
        refine .cons (.mk' (by simp [Z4e]; omega) (by simp)) ?_ ?_ (.snoc (hrest2.frame (by simp [without_n]; omega) ?_) (hv2.frame ?_) ?_ ?_)
        · intro j hj
          simp only [AV.ids, List.mem_singleton] at hj
          subst hj
          simp [without_n]; omega
        · intro w hw j hj hjw
          simp only [AV.ids, List.mem_singleton] at hj
          subst hj
          rcases List.mem_append.mp hw with hw | hw
          · have := (hrest2.out w hw _ hjw).1; omega
          · simp at hw; subst hw
            have := (ho3 _ hjw).2; omega
        · intro v hv j hj
          have h1 := hrest2.out v hv j hj
          exact hg j (by intro e; subst e; exact h1.2 (by simp)) (by omega) (fun h0 => hFs2 v hv j h0 hj) _
        · intro j hj
          have h1 := ho3 j hj
          exact hg j (by omega) (by omega) (fun h0 => by have := (hFo j h0).1; omega) _
        · intro j hj
          have h1 := ho3 j hj
          refine ⟨by simp [without_n]; omega, by simp; omega⟩
        · intro w hw j hj hj6
          have h1 := (ho3 j hj6).1
          have := (hrest.out w hw j hj).1
          omega
      · simp [without_n]; omega
  · simp [e1, e2, e4, e5, g0, hlt]
    have hin : i = n.by_.length := by omega
    subst hin
    refine hk _ _ ⟨FV, rv, o.t.same (fun j hj => ?_) rfl, o.g1, o.g11, ?_, ?_⟩
    · rcases hj with rfl | rfl | rfl | rfl <;> simp [Z43]
    · exact o.rows.frame (by show S.n ≤ _; simp) (fun _ _ _ _ => rfl)
    · have := o.n; simp; omega
theorem fz_rows {g : Nat → Option Blk} {n : Nat} {av : List Nat} {FV : AV} {rv : List AV} {ls : List (List Int)} (h : ARows g n av (FV :: rv) (rv :: ls.map fun l => l.map encI)) : Fz g FV (encIss ls) := by
  obtain ⟨hF, -, -, hr⟩ := h.head
  have hl : ls.length = rv.length := by have := hr.len; simpa using this.symm
  refine hF.fzL (by simpa using hl) (fun i h1 h2 => ?_)
  have h3 := hr.row i h1 (by simpa [hl] using h1)
  simp only [List.getElem_map] at h3 ⊢
  exact h3.fz Z2r
theorem tr_ret {P : Program} {f : AF} {S : St} {FV LV : AV} {rv : List AV} (m : Net) (e2 : f 2 = .ptr 1 0 0) (e4 : f 4 = .ptr 11 0 0) (g1 : S.g 1 = some (.arr 4 [zNet]))
    (g11 : S.g 11 = some (.arr 4 [.agg [encI m.signs, encIss m.by_, FV, LV]])) (rows : ARows S.g S.n [0, 1, 11] (FV :: rv) (rv :: m.follow.map fun l => l.map encI)) (hv : Vec S.g LV 1 (m.last.map encI)) (h1 : 1 ∉ LV.ids) :
    AW P c_tr_ret (RetC [.c 2 (some 4), .t 3] (FzK (.tup [encNet m, encI 0]))) f S := by
  have hcF := rows.head.1.cell
  have hcL := hv.cell
  have hsF := hcF.2
  have hsL := hcL.2
  simp only [AV.solid] at hsF hsL
  simp only [zNet] at g1
  simp [c_tr_ret, e2, e4, g1, g11, encIss, hcF.1, hcL.1, hsF, hsL, RetC]
  refine ⟨[.agg [encI m.signs, encIss m.by_, FV, LV], encI 0], by simp [evC, RV.ev, Z43, Z42, ev_c, ldC, Z4e, subc, encI, encIss, Z2f, Z2m, Z2l, hcF.1, hcL.1, e2], ?_⟩
  have hgg : ∀ (x : Option Blk) (k : Nat), 1 ≠ k → (({ n := S.n + 3, g := S.g } : St).set 1 x).g k = S.g k := fun x k hk => by simp [Z4e, Ne.symm hk]
  have r2 := ARows.frame (n' := S.n + 3) (g' := (({ n := S.n + 3, g := S.g } : St).set 1 (some (Blk.arr 4 [AV.agg [AV.v (Value.int IntKind.i64 m.signs), AV.sl false (List.map encIs m.by_), FV, LV]]))).g) rows (by omega) (fun v hv j hj => hgg _ j (fun e => (rows.out v hv j hj).2 (by simp [← e])))
  have v2 := Vec.frame (g' := (({ n := S.n + 3, g := S.g } : St).set 1 (some (Blk.arr 4 [AV.agg [AV.v (Value.int IntKind.i64 m.signs), AV.sl false (List.map encIs m.by_), FV, LV]]))).g) hv (fun j hj => hgg _ j (fun e => h1 (e ▸ hj)))
  show Fz _ (.tup [.agg [encI m.signs, encIss m.by_, FV, LV], encI 0]) (.tup [encNet m, encI 0])
  refine .tup _ _ rfl (fun i a b => ?_)
  match i with
  | 0 =>
    refine .agg _ _ rfl (fun j c d => ?_)
    match j with
    | 0 => exact .closed _ (Z2r _)
    | 1 => exact .closed _ (Z2t _)
    | 2 => exact fz_rows r2
    | 3 => exact v2.fz Z2r
    | j + 4 => exact absurd (show j + 4 < 4 from c) (by omega)
  | 1 => exact .closed _ (Z2r 0)
  | i + 2 => exact absurd (show i + 2 < 2 from a) (by omega)
structure TrL (m : Net) (l0 : List Int) (FV : AV) (rv : List AV) (LV : AV) (pre : List Int) (f : AF) (S : St) : Prop where
  e1 : f 1 = .ptr 0 0 0
  e2 : f 2 = .ptr 1 0 0
  e4 : f 4 = .ptr 11 0 0
  g1 : S.g 1 = some (.arr 4 [zNet])
  g11 : S.g 11 = some (.arr 4 [.agg [encI m.signs, encIss m.by_, FV, LV]])
  rows : ARows S.g S.n [0, 1, 11] (FV :: rv) (rv :: m.follow.map fun l => l.map encI)
  n : 12 ≤ S.n
  last : m.last = pre ++ l0
  vec : Vec S.g LV 1 (pre.map encI)
  out : ∀ j ∈ LV.ids, j < S.n ∧ j ∉ [0, 1, 11]
  sep : ∀ v ∈ FV :: rv, ∀ j ∈ v.ids, j ∉ LV.ids
theorem tr_last {P : Program} {f : AF} {S : St} {FV LV : AV} {rv : List AV} {pre l0 : List Int} (n m : Net) (h : TrL m l0 FV rv LV pre f S) (hf0 : 0 < n.follow.length) (hl0 : n.follow[0] = l0) (hfl : l0.length ≤ 301) (hpl : pre.length ≤ 1) (g0 : S.g 0 = some (.arr 4 [encNet n])) :
    AW P c_tr_last (RetC [.c 2 (some 4), .t 3] (FzK (.tup [encNet m, encI 0]))) f S := by
  have hcF := h.rows.head.1.cell
  have hsF := hcF.2
  simp only [AV.solid] at hsF
  have hcL := h.vec.cell
  have hsL := hcL.2
  simp only [AV.solid] at hsL
  have e1 := h.e1
  have e2 := h.e2
  have e4 := h.e4
  have g1 := h.g1
  have g11 := h.g11
  have hn := h.n
  simp only [encNet, encIss] at g0
  obtain ⟨v', S', hr, hv', hid, hfr, hn', hc'⟩ := Vec.appL (n := S.n + 9) (nid := S.n + 6) (by_ := 8) (t := false) (ys := l0.map encI) h.vec (cells_I _) (cells_I _) (by unfold appOk; simp; omega)
  have hs' := hv'.cell.2
  simp only [AV.solid] at hs'
  have g11' : S'.g 11 = S.g 11 := hfr 11 (fun h0 => (h.out 11 h0).2 (by simp)) (by omega)
  have g1' : S'.g 1 = S.g 1 := hfr 1 (fun h0 => (h.out 1 h0).2 (by simp)) (by omega)
  rw [g11] at g11'
  rw [g1] at g1'
  simp [c_tr_last, e1, e2, e4, g0, g1, g11, encIss, encIs, hcF.1, hsF, hcL.1, hsL, hf0, hl0, hr, g11', g1', hc', hs']
  have hv2 : ∀ j ∈ v'.ids, j = S.n + 6 := hid
  have hfr2 : ∀ v ∈ FV :: rv, ∀ j ∈ v.ids, j < S.n ∧ j ∉ [0, 1, 11] ∧ S'.g j = S.g j := fun v hv j hj => by
    have h1 := h.rows.out v hv j hj
    exact ⟨h1.1, h1.2, hfr j (h.sep v hv j hj) (by omega)⟩
  refine tr_ret m ?_ ?_ ?_ ?_ (rv := rv) (FV := FV) (LV := v') ?_ ?_ ?_
  · simp [Z43, e2]
  · simp [Z43, e4]
  · simp [Z4e, g1']
  · simp [Z4e, encI, encIss]
  · refine h.rows.frame ?_ (fun v hv j hj => ?_)
    · rw [Z4f, hn']; omega
    have h1 := hfr2 v hv j hj
    simp only [Z4e]
    rw [if_neg (fun e => h1.2.1 (by simp [e]))]
    exact h1.2.2
  · rw [h.last, List.map_append]
    refine hv'.frame (fun j hj => ?_)
    have := hid j hj
    simp only [Z4e]
    rw [if_neg (by omega)]
  · intro h1
    have := hid 1 h1
    omega
def turnD (n : Net) : Net := if rightN n = true then turnN n else ⟨0, [], [], []⟩
def turnE (n : Net) : Int := if rightN n = true then 0 else 1
theorem Turn14_body {P : Program} {fr fh : FuncId} (n : Net) (R0 : rightN n = true → RightN n) (hr : PureC P fr [encNet n] (encB (rightN n))) (hh : rightN n = true → ∀ l ∈ n.rows, ∀ x, PureC P fh [encIs l, encI x] (encB (l.contains x))) :
    AW P (c_caesuraref14_Turn fr fh) (RetC [.c 2 (some 4), .t 3] (FzK (.tup [encNet (turnD n), encI (turnE n)]))) (argF [encNet n]) S0 := by
  have cn := cl_cons (closed_Net n) cl_nil
  have hr' := hr
  simp only [encNet, encI, encIss] at cn hr'
  cases hb : rightN n with
  | false =>
    rw [hb] at hr'
    have hE : turnE n = 1 := by simp [turnE, hb]
    have hD : turnD n = ⟨0, [], [], []⟩ := by simp [turnD, hb]
    rw [hE, hD]
    simp [c_caesuraref14_Turn, encNet, encIss]
    refine CallR.pure hr' cn (Z2o _) ?_
    simp [exBuild, afill, RetC]
    refine ⟨[zNet, encI 1], by simp [evC, RV.ev, Z43, Z42, ev_c, ldC, Z4e, subc, encI, zNet, Z2f, Z2m, Z2l], ?_⟩
    refine .tup _ _ rfl (fun i a b => ?_)
    match i with
    | 0 =>
      refine .agg _ _ rfl (fun j c d => ?_)
      match j with
      | 0 => exact .closed _ (Z2r 0)
      | 1 => exact .loose true [] (.sl _ _ (by simp))
      | 2 => exact .loose true [] (.sl _ _ (by simp))
      | 3 => exact .loose true [] (.sl _ _ (by simp))
      | j + 4 => exact absurd (show j + 4 < 4 from c) (by omega)
    | 1 => exact .closed _ (Z2r 1)
    | i + 2 => exact absurd (show i + 2 < 2 from a) (by omega)
  | true =>
    rw [hb] at hr'
    have R := R0 hb
    have hE : turnE n = 0 := by simp [turnE, hb]
    have hD : turnD n = turnN n := by simp [turnD, hb]
    rw [hE, hD]
    have hfl := R.len
    have hn1 := R.n1
    have hf0 : 0 < n.follow.length := by omega
    simp [c_caesuraref14_Turn, encNet, encIss]
    refine CallR.pure hr' cn (Z2o _) ?_
    simp [exBuild, afill]
    refine tr_out R (hh hb) ⟨.sl true [], [], ⟨?_, ?_, ?_, ?_, ?_⟩, ?_, ?_, ?_, ?_⟩ ?_
    · simp [Z43]
    · simp [Z43]
    · simp [Z43]
    · simp [Z43, encI]
    · simp [Z4e, encNet, encIss, encI]
    · simp [Z4e, zNet]
    · simp [Z4e, encI, encIss]
    · exact .cons .nil (by simp [AV.ids]) (by simp) .nil
    · simp
    · rintro f S ⟨FV, rv, o⟩
      have e1 := o.t.e1
      have e2 := o.t.e2
      have e4 := o.t.e4
      have g0 := o.t.g0
      have g11 := o.g11
      simp only [encNet, encIss] at g0
      have k1 := hh hb n.last (by simp [Net.rows]) 0
      have c1 := cl_cons (Z2s n.last) (cl_cons (Z2r 0) cl_nil)
      simp only [encIs, encI] at k1 c1
      simp [e1, e2, e4, g0, g11, encIs]
      refine CallR.pure k1 c1 (Z2o _) ?_
      cases hb0 : n.last.contains 0 with
      | true =>
        have hap : ∀ m nid : Nat, (exApp 1 8 (.sl true []) (.sl true [.v (.int .i64 0)])).run ⟨m, S.g⟩ nid = some (.own nid 0 1, (⟨m, S.g⟩ : St).set nid (some (.arr 1 [.v (.int .i64 0)]))) := by
          intro m nid
          have ha : appOk 8 0 1 := by unfold appOk; omega
          simp [exApp, Eff.run, AV.oid, lstE, ha, St.setL, St.setO, AV.cells]
        have hcF := o.rows.head.1.cell
        have hsF := hcF.2
        simp only [AV.solid] at hsF
        have h5 : ¬ S.n + 3 + 3 = 11 := by have := o.n; omega
        have h5' : ¬ S.n = 5 := by have := o.n; omega
        simp [e1, e2, e4, g0, g11, encIs, hap, h5, h5', encIss, hcF.1, hsF]
        have en := o.n
        refine tr_last (FV := FV) (LV := .own (S.n + 6) 0 1) (rv := rv) (pre := [0]) (l0 := n.follow[0]) n (turnN n) ⟨?_, ?_, ?_, ?_, ?_, ?_, ?_, ?_, ?_, ?_, ?_⟩ hf0 rfl ?_ (by simp) ?_
        · simp [Z43, e1]
        · simp [Z43, e2]
        · simp [Z43, e4]
        · rw [Z4e, if_neg (by omega), Z4e, if_neg (by omega)]; exact o.g1
        · simp [Z4e, turnN, encI, encIss]
        · refine ARows.frame (n := S.n) (g := S.g) ?_ ?_ ?_
          · rw [show (turnN n).follow.map (fun l => l.map encI) = (List.range n.by_.length).map fun k => (rowT n k n.by_.length).map encI by simp [turnN, Function.comp_def]]
            exact o.rows
          · rw [Z4f, Z4f]; show S.n ≤ S.n + 3 + 6; omega
          · intro v hv j hj
            have h1 := o.rows.out v hv j hj
            rw [Z4e, if_neg (fun e => h1.2 (by simp [e])), Z4e, if_neg (by omega)]
        · rw [Z4f, Z4f]; show 12 ≤ S.n + 3 + 6; omega
        · have h0 : (0 : Int) ∈ n.last := by simpa using hb0
          simp [turnN, lastT, h0, List.getD_eq_getElem?_getD, List.getElem?_eq_getElem hf0]
        · exact .mk' (by simp [Z4e, h5', encI]) (by simp)
        · intro j hj
          simp only [AV.ids, List.mem_singleton] at hj
          subst hj
          rw [Z4f, Z4f]
          exact ⟨by show _ < S.n + 3 + 6; omega, by simp; omega⟩
        · intro v hv j hj hj2
          simp only [AV.ids, List.mem_singleton] at hj2
          have h1 := o.rows.out v hv j hj
          omega
        · exact follow_len R hf0
        · rw [Z4e, if_neg (by omega), Z4e, if_neg (by omega)]; exact o.t.g0
      | false =>
        simp [e1, e2, e4, g0, g11, encIs]
        have en := o.n
        refine tr_last (FV := FV) (LV := .sl true []) (rv := rv) (pre := []) (l0 := n.follow[0]) n (turnN n) ⟨?_, ?_, ?_, ?_, ?_, ?_, ?_, ?_, ?_, ?_, ?_⟩ hf0 rfl ?_ (by simp) ?_
        · simp [Z43, e1]
        · simp [Z43, e2]
        · simp [Z43, e4]
        · exact o.g1
        · simp [turnN, encI, encIss]; exact o.g11
        · refine ARows.frame (n := S.n) (g := S.g) ?_ ?_ ?_
          · rw [show (turnN n).follow.map (fun l => l.map encI) = (List.range n.by_.length).map fun k => (rowT n k n.by_.length).map encI by simp [turnN, Function.comp_def]]
            exact o.rows
          · simp
          · intro v hv j hj
            rfl
        · simp; omega
        · have h0 : ¬ (0 : Int) ∈ n.last := by simpa using hb0
          simp [turnN, lastT, h0, List.getD_eq_getElem?_getD, List.getElem?_eq_getElem hf0]
        · exact .nil
        · simp [AV.ids]
        · simp [AV.ids]
        · exact follow_len R hf0
        · exact o.t.g0
end Go.Rf

