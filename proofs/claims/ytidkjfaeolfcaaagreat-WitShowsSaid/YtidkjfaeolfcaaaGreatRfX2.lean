import Derived.Test.YtidkjfaeolfcaaaGreatRfX1
import Derived.Test.YtidkjfaeolfcaaaGreatRfB6
import Derived.Test.YtidkjfaeolfcaaaGreatRfL10
/- Own work: characters of one atom are alike; WitShows (plain law, and walk). -/
set_option linter.unusedVariables false
set_option linter.unusedSimpArgs false
namespace Go.Rf
open Go.RowKit
def loC (atoms : List (List Rg)) (c : Int) : Int := ((atoms.getD (classF atoms c).toNat []).getD 0 ⟨0, 0⟩).low
def hiC (atoms : List (List Rg)) (c : Int) : Int := ((atoms.getD (classF atoms c).toNat []).getD ((atoms.getD (classF atoms c).toNat []).length - 1) ⟨0, 0⟩).high
theorem idxF_noX {X : Type} {p : X → Bool} {l : List X} (h : l.any p = false) : idxF p l = -1 := by simp [idxF, h]
theorem idxF_at0 {X : Type} {p : X → Bool} {l : List X} (h : 0 ≤ idxF p l) : ∃ (k : Nat) (hk : k < l.length), idxF p l = k ∧ p l[k] = true ∧ ∀ j (hj : j < l.length), j < k → p l[j] = false := by
  cases ha : l.any p with
  | false => rw [idxF_noX ha] at h; omega
  | true =>
    have e : idxF p l = (l.findIdx p : Int) := by simp only [idxF]; rw [if_pos ha]
    have hl : l.findIdx p < l.length := List.findIdx_lt_length.mpr (by simpa using ha)
    refine ⟨l.findIdx p, hl, e, List.findIdx_getElem (w := hl), fun j hj hlt => ?_⟩
    have := List.not_of_lt_findIdx hlt
    simpa using this
theorem class_at {atoms : List (List Rg)} (R : RightP atoms) {k : Nat} (hk : k < atoms.length) {c : Int} (h : hasR atoms[k] c = true) : classF atoms c = k :=
  idxF_found hk h fun j hj hjk => by
    cases e : hasR atoms[j] c with
    | false => rfl
    | true => exact (R.dis j k hj hk hjk c ⟨h, e⟩).elim
theorem canon_has {a : List Rg} {c : Int} (hl : a.length ≤ 400) (hc : Canon a 1114112) {i : Nat} (hi : i < a.length) (h1 : a[i].low ≤ c) (h2 : c ≤ a[i].high) : hasR a c = true := by
  have h3 := hc.at_ _ (List.getElem_mem hi)
  unfold hasR hasIn
  simp only [Bool.and_eq_true, decide_eq_true_eq, List.any_eq_true]
  exact ⟨⟨⟨by omega, by omega⟩, hl⟩, a[i], List.getElem_mem hi, by simp [inR, h1, h2]⟩
structure AtomAt (atoms : List (List Rg)) (c : Int) (k : Nat) (a : List Rg) : Prop where
  cls : classF atoms c = k
  at_ : atoms[k]? = some a
  lt : k < atoms.length
  ne : 0 < a.length
  len : a.length ≤ 400
  canon : Canon a 1114112
  has : hasR a c = true
theorem atom_at {atoms : List (List Rg)} (R : RightP atoms) {c : Int} (h : 0 ≤ classF atoms c) : ∃ k a, AtomAt atoms c k a := by
  obtain ⟨k, hk, h1, h2, _⟩ := idxF_at0 h
  obtain ⟨q1, q2, q3⟩ := R.ok _ (List.getElem_mem hk)
  exact ⟨k, atoms[k], h1, List.getElem?_eq_getElem hk, hk, List.length_pos_iff.mpr q2, q1, q3, h2⟩
section
variable {atoms : List (List Rg)} {c : Int} {k : Nat} {a : List Rg}
theorem AtomAt.getD (h : AtomAt atoms c k a) : atoms.getD (classF atoms c).toNat [] = a := by
  rw [h.cls, Int.toNat_natCast, List.getD_eq_getElem?_getD, h.at_]; rfl
theorem AtomAt.lo (h : AtomAt atoms c k a) : loC atoms c = (a[0]'h.ne).low := by
  unfold loC
  rw [h.getD, List.getD_eq_getElem?_getD, List.getElem?_eq_getElem h.ne]; rfl
theorem AtomAt.hi (h : AtomAt atoms c k a) : hiC atoms c = (a[a.length - 1]'(by have := h.ne; omega)).high := by
  unfold hiC
  rw [h.getD, List.getD_eq_getElem?_getD, List.getElem?_eq_getElem (by have := h.ne; omega)]; rfl
theorem AtomAt.loClass (h : AtomAt atoms c k a) (R : RightP atoms) : classF atoms (loC atoms c) = classF atoms c := by
  have ha : atoms[k]'h.lt = a := by have := List.getElem?_eq_getElem h.lt; rw [h.at_] at this; exact (Option.some.inj this).symm
  have h3 := h.canon.at_ _ (List.getElem_mem h.ne)
  rw [h.cls, class_at R h.lt (by rw [ha, h.lo]; exact canon_has h.len h.canon h.ne (Int.le_refl _) h3.2.1)]
theorem AtomAt.hiClass (h : AtomAt atoms c k a) (R : RightP atoms) : classF atoms (hiC atoms c) = classF atoms c := by
  have ha : atoms[k]'h.lt = a := by have := List.getElem?_eq_getElem h.lt; rw [h.at_] at this; exact (Option.some.inj this).symm
  have hl : a.length - 1 < a.length := by have := h.ne; omega
  have h3 := h.canon.at_ _ (List.getElem_mem hl)
  rw [h.cls, class_at R h.lt (by rw [ha, h.hi]; exact canon_has h.len h.canon hl h3.2.1 (Int.le_refl _))]
theorem AtomAt.lo_le (h : AtomAt atoms c k a) : loC atoms c ≤ c := by
  rw [h.lo]
  have hh := h.has
  unfold hasR hasIn at hh
  simp only [Bool.and_eq_true, List.any_eq_true] at hh
  obtain ⟨_, r, hr, hin⟩ := hh
  simp only [inR, Bool.and_eq_true, decide_eq_true_eq] at hin
  obtain ⟨j, hj, rfl⟩ := List.mem_iff_getElem.mp hr
  by_cases h0 : j = 0
  · subst h0; exact hin.1
  · have := List.pairwise_iff_getElem.mp h.canon.pw 0 j h.ne hj (by omega)
    have h3 := h.canon.at_ _ (List.getElem_mem h.ne)
    omega
end
/-- Each one's number is known, and another one's is the same. -/
theorem word_map {atoms : List (List Rg)} {t : List Int} {f : Int → Int} (hc : ∀ c ∈ t, 0 ≤ classF atoms c) (hf : ∀ c ∈ t, classF atoms (f c) = classF atoms c) : wordF atoms (t.map f) = wordF atoms t := by
  have h1 : t.any (fun c => decide (classF atoms c < 0)) = false := by
    rw [List.any_eq_false]; intro c h; have := hc c h; simp; omega
  have h2 : (t.map f).any (fun c => decide (classF atoms c < 0)) = false := by
    rw [List.any_eq_false]
    intro c h
    obtain ⟨x, hx, rfl⟩ := List.mem_map.mp h
    have := hc x hx
    rw [hf x hx]; simp; omega
  unfold wordF eachF
  rw [if_neg (by rw [h2]; simp), if_neg (by rw [h1]; simp)]
  congr 1
  rw [List.map_map]
  exact List.map_congr_left fun c h => hf c h
theorem cmpL_le {f : Int → Int} : ∀ (t : List Int), (∀ c ∈ t, f c ≤ c) → cmpL (t.map f) t ≤ 0
  | [], _ => by simp [cmpL]
  | c :: t, h => by
    have h1 := h c (by simp)
    have h2 := cmpL_le t fun x hx => h x (by simp [hx])
    simp only [List.map_cons, cmpL, cmpI]
    by_cases h3 : f c < c
    · simp [h3]
    · have h4 : ¬ c < f c := by omega
      simp [h3, h4, h2]
theorem low_before {w : Wit} {f : Int → Int} (h : ∀ c ∈ w.text, f c ≤ c) : beforeW w ⟨w.text.map f, w.place⟩ = false := by
  refine beforeW_of ?_
  have := cmpL_le w.text h
  simp only [ordW, orL, List.length_map]
  have e1 : cmpI (w.text.length : Int) w.text.length = 0 := by simp [cmpI]
  have e2 : cmpI w.place w.place = 0 := by simp [cmpI]
  rw [e1, e2]
  simp only [ne_eq, not_true_eq_false, if_false]
  split <;> omega
attribute [local simp] AWb_seq Z0m Z0n Z0j Z0k Z0r Z0l Z0p Z0q Z0o Z21 Z20 Z22 Z23 Z3d Z3e Z3a vIdx Z4x Z4w Z4y vApp Z4u Z3u Z11 Z10 Z0z Z0x Z0w Z0y Z17 Z16 Z15 Z13 Z12 Z14 Z2c Z2d Z2a Z2n Z31 Z30 Z07 Z08 Z06 Z01 Z02 Z00 Z04 Z05 Z03 Z1z Z1y Z46 Z48 Z47 Z45 Z1n Z1o Z1m Z3n Z3k Z3m Z3l Z3o Z1l Z29 Z32 Z3x Z1i Z1j Z1k Z3v Z3w Z1g Z28 Z1h Z3i Z3f Z3h Z3g Z3j Z41 Z40 Z0t Z0u Z0v Z0s Z1f Z4c Z4b Z4d Z4a Z49 ex Z43 Z42 ev_t ev_c Z27 Z26 Z4e Z4f Z2m Z2l Z2f Z2j Z2k Z2g Z2h Z2i putc exBslice lfill exField exIdxV exIdxP exBox exAlloc Z3b Z3c exStore exFieldA Z34 Z33 Z39 Z38 exPick exUn exBeq exMM exSeq seqGo exExt binV intOp subc Z4s Z4r Z4p Z4q Z4n Z4l Z4m Z4o Z4i Z4j Z4g Z4t S0 encI encB Z4k Z2e Z25 Z4h Z2b Z24 Z36 Z37 Z35 Z3s Z3t Z3r Z3p Z3q idxT_Bs
def c_lw_a : AC :=
  (.reg (some [[], [], [], [], [], [], [], [], [], [], [], [true], [false, true], [false, false, true], [false, false, false, true], [false, false, false, false, true], [false, false, false, false, false, true], [false, false, false, false, false, false, true], [false, false, false, false, false, false, false, true], [false, false, false, false, false, false, false, false, true], [false, false, false, false, false, false, false, false, false, true], [false, false, false, false, false, false, false, false, false, false, true], [false, false, false, false, false, false, false, false, false, false, false, true], [false, false, false, false, false, false, false, false, false, false, false, false, true], [false, false, false, false, false, false, false, false, false, false, false, false, false, true], [false, false, false, false, false, false, false, false, false, false, false, false, false, false, true], [false, false, false, false, false, false, false, false, false, false, false, false, false, false, false, true], [], [true]]) [
      ⟨(some 58), .fieldA 0 (.t 7), none, none⟩,
      ⟨(some 59), .load none (.t 58), none, none⟩,
      ⟨(some 60), .mv (.t 1), none, none⟩,
      ⟨(some 61), .mv (.t 10), none, none⟩,
      ⟨(some 62), .idxA 1 (.t 60) (.t 61), none, none⟩,
      ⟨(some 63), .load none (.t 62), none, none⟩,
      ⟨(some 64), .idxA 2 (.t 63) (.c (.v (.int .i64 0))), none, none⟩,
      ⟨(some 65), .fieldA 0 (.t 64), none, none⟩,
      ⟨(some 66), .load none (.t 65), none, none⟩,
      ⟨(some 67), .bslice 1 1 (.v (.int .i64 0)) [(0, (.t 66))], none, none⟩,
      ⟨(some 68), .app 1 8 (.t 59) (.t 67), none, none⟩,
      ⟨(some 69), .fieldA 0 (.t 8), none, none⟩,
      ⟨(some 70), .load none (.t 69), none, none⟩,
      ⟨(some 71), .mv (.t 1), none, none⟩,
      ⟨(some 72), .mv (.t 10), none, none⟩,
      ⟨(some 73), .idxA 1 (.t 71) (.t 72), none, none⟩,
      ⟨(some 74), .load none (.t 73), none, none⟩,
      ⟨(some 75), .mv (.t 1), none, none⟩,
      ⟨(some 76), .mv (.t 10), none, none⟩,
      ⟨(some 77), .idxA 1 (.t 75) (.t 76), none, none⟩,
      ⟨(some 78), .load none (.t 77), none, none⟩,
      ⟨(some 79), .len (.t 78), none, none⟩,
      ⟨(some 80), .bin .sub (.t 79) (.c (.v (.int .i64 1))), none, none⟩,
      ⟨(some 81), .idxA 2 (.t 74) (.t 80), none, none⟩,
      ⟨(some 82), .fieldA 1 (.t 81), none, none⟩,
      ⟨(some 83), .load none (.t 82), none, none⟩,
      ⟨(some 84), .bslice 1 1 (.v (.int .i64 0)) [(0, (.t 83))], none, none⟩,
      ⟨(some 85), .app 1 8 (.t 70) (.t 84), none, none⟩,
      ⟨(some 86), .fieldA 0 (.t 7), none, none⟩,
      ⟨none, .store 1 (.t 86) (.t 68), none, none⟩,
      ⟨(some 87), .fieldA 0 (.t 8), none, none⟩,
      ⟨none, .store 1 (.t 87) (.t 85), none, none⟩])
def c_lw_in (f_caesuraref02_Class f_wit_Shows : FuncId) : AC :=
  (.loop (.seq (.seq (.reg none [
     ⟨(some 37), .mv (.t 9), none, none⟩,
     ⟨(some 38), .fieldA 0 (.t 5), none, none⟩,
     ⟨(some 39), .load none (.t 38), none, none⟩,
     ⟨(some 40), .len (.t 39), none, none⟩,
     ⟨(some 41), .bin .lss (.t 37) (.t 40), none, none⟩])
    (.cond (.t 41) .skip (.exit 0)))
    (.seq (.block 1 (.seq (.reg none [
      ⟨(some 44), .mv (.t 1), none, none⟩,
      ⟨(some 45), .fieldA 0 (.t 5), none, none⟩,
      ⟨(some 46), .load none (.t 45), none, none⟩,
      ⟨(some 47), .mv (.t 9), none, none⟩,
      ⟨(some 48), .idxA 1 (.t 46) (.t 47), none, none⟩,
      ⟨(some 49), .load none (.t 48), none, none⟩,
      ⟨(some 50), .mv (.c .junk), none, (some ((.c (.clo f_caesuraref02_Class [] [])), [(.t 44), (.t 49)]))⟩,
      ⟨(some 10), .mv (.t 50), none, none⟩])
     (.seq (.seq (.reg none [
      ⟨(some 51), .mv (.t 10), none, none⟩,
      ⟨(some 52), .bin .lss (.t 51) (.c (.v (.int .i64 0))), none, none⟩])
     (.cond (.t 52) (.seq (.reg none [
       ⟨(some 53), .load (some 3) (.t 3), none, none⟩,
       ⟨(some 54), .mv (.t 1), none, none⟩,
       ⟨(some 55), .load (some 2) (.t 5), none, none⟩,
       ⟨(some 56), .mv (.c .junk), none, (some ((.c (.clo f_wit_Shows [] [])), [(.t 53), (.t 54), (.t 55)]))⟩,
       ⟨(some 57), .un .not (.t 56), none, none⟩,
       ⟨(some 6), .mv (.t 57), none, none⟩])
      .ret) .skip))
     c_lw_a)))
    (.reg none [
     ⟨(some 42), .mv (.t 9), none, none⟩,
     ⟨(some 43), .bin .add (.t 42) (.c (.v (.int .i64 1))), none, none⟩,
     ⟨(some 9), .mv (.t 43), none, none⟩]))))
def c_caesuralaw23_WitShows (f_caesuralaw23_alive f_caesuraref15_Great f_caesuraref02_Great f_caesuraref02_Right f_caesuraref02_Class f_wit_Shows f_wit_Before : FuncId) : AC :=
  (.seq (.reg none [
   ⟨(some 3), .box 3 (.t 0), none, none⟩,
   ⟨(some 5), .box 2 (.t 2), none, none⟩,
   ⟨(some 6), .mv (.c (.v (.bool false))), none, none⟩])
  (.seq (.seq (.reg none [
   ⟨(some 12), .mv (.c .junk), none, (some ((.c (.clo f_caesuralaw23_alive [] [])), []))⟩,
   ⟨(some 13), .un .not (.t 12), none, none⟩])
  (.cond (.t 13) (.seq (.reg none [
    ⟨(some 6), .mv (.c (.v (.bool false))), none, none⟩])
   .ret) .skip))
  (.seq (.seq (.reg none [
   ⟨(some 14), .load (some 3) (.t 3), none, none⟩,
   ⟨(some 15), .mv (.c .junk), none, (some ((.c (.clo f_caesuraref15_Great [] [])), [(.t 14), (.c (.v (.int .i64 100)))]))⟩,
   ⟨(some 16), .mv (.t 15), none, none⟩,
   ⟨(some 17), .mv (.t 1), (some (16, false)), none⟩,
   ⟨(some 18), .mv (.c .junk), (some (16, false)), (some ((.c (.clo f_caesuraref02_Great [] [])), [(.t 17), (.c (.v (.int .i64 100)))]))⟩,
   ⟨(some 19), .pick (.t 16) (.c (.v (.bool true))) (.t 18), none, none⟩,
   ⟨(some 20), .mv (.t 19), none, none⟩,
   ⟨(some 21), .fieldA 0 (.t 5), (some (20, false)), none⟩,
   ⟨(some 22), .load none (.t 21), (some (20, false)), none⟩,
   ⟨(some 23), .len (.t 22), (some (20, false)), none⟩,
   ⟨(some 24), .bin .gtr (.t 23) (.c (.v (.int .i64 30))), (some (20, false)), none⟩,
   ⟨(some 25), .pick (.t 20) (.c (.v (.bool true))) (.t 24), none, none⟩,
   ⟨(some 26), .mv (.t 25), none, none⟩,
   ⟨(some 27), .mv (.t 1), (some (26, false)), none⟩,
   ⟨(some 28), .mv (.c .junk), (some (26, false)), (some ((.c (.clo f_caesuraref02_Right [] [])), [(.t 27)]))⟩,
   ⟨(some 29), .un .not (.t 28), (some (26, false)), none⟩,
   ⟨(some 30), .pick (.t 26) (.c (.v (.bool true))) (.t 29), none, none⟩])
  (.cond (.t 30) (.seq (.reg none [
    ⟨(some 6), .mv (.c (.v (.bool true))), none, none⟩])
   .ret) .skip))
  (.seq (.reg (some [[], [], [], [], [], [], [true, true, true, true, true, true], [true, true, true, true, true, true, true], [false, false, true, true, true]]) [
   ⟨(some 31), .fieldA 1 (.t 5), none, none⟩,
   ⟨(some 32), .load none (.t 31), none, none⟩,
   ⟨(some 33), .build (.agg [(.sl true []), (.v (.int .i64 0))]) [(1, 1)] [(1, (.t 32))], none, none⟩,
   ⟨(some 34), .fieldA 1 (.t 5), none, none⟩,
   ⟨(some 35), .load none (.t 34), none, none⟩,
   ⟨(some 36), .build (.agg [(.sl true []), (.v (.int .i64 0))]) [(1, 1)] [(1, (.t 35))], none, none⟩,
   ⟨(some 7), .alloc (.agg [(.sl true []), (.v (.int .i64 0))]) 2, none, none⟩,
   ⟨(some 8), .alloc (.agg [(.sl true []), (.v (.int .i64 0))]) 2, none, none⟩,
   ⟨none, .store 2 (.t 7) (.t 33), none, none⟩,
   ⟨none, .store 2 (.t 8) (.t 36), none, none⟩])
  (.seq (.seq (.reg none [
   ⟨(some 9), .mv (.c (.v (.int .i64 0))), none, none⟩])
  (.block 0 (c_lw_in f_caesuraref02_Class f_wit_Shows)))
  (.seq (.reg none [
   ⟨(some 88), .load (some 3) (.t 3), none, none⟩,
   ⟨(some 89), .mv (.t 1), none, none⟩,
   ⟨(some 90), .load (some 2) (.t 5), none, none⟩,
   ⟨(some 91), .mv (.c .junk), none, (some ((.c (.clo f_wit_Shows [] [])), [(.t 88), (.t 89), (.t 90)]))⟩,
   ⟨(some 11), .mv (.t 91), none, none⟩])
  (.seq (.reg none [
   ⟨(some 92), .load (some 3) (.t 3), none, none⟩,
   ⟨(some 93), .mv (.t 1), none, none⟩,
   ⟨(some 94), .load (some 2) (.t 7), none, none⟩,
   ⟨(some 95), .mv (.c .junk), none, (some ((.c (.clo f_wit_Shows [] [])), [(.t 92), (.t 93), (.t 94)]))⟩,
   ⟨(some 96), .mv (.t 11), none, none⟩,
   ⟨(some 97), .beq false (.t 95) (.t 96), none, none⟩,
   ⟨(some 98), .mv (.t 97), none, none⟩,
   ⟨(some 99), .load (some 3) (.t 3), (some (98, true)), none⟩,
   ⟨(some 100), .mv (.t 1), (some (98, true)), none⟩,
   ⟨(some 101), .load (some 2) (.t 8), (some (98, true)), none⟩,
   ⟨(some 102), .mv (.c .junk), (some (98, true)), (some ((.c (.clo f_wit_Shows [] [])), [(.t 99), (.t 100), (.t 101)]))⟩,
   ⟨(some 103), .mv (.t 11), (some (98, true)), none⟩,
   ⟨(some 104), .beq false (.t 102) (.t 103), (some (98, true)), none⟩,
   ⟨(some 105), .pick (.t 98) (.t 104) (.c (.v (.bool false))), none, none⟩,
   ⟨(some 106), .mv (.t 105), none, none⟩,
   ⟨(some 107), .load (some 2) (.t 5), (some (106, true)), none⟩,
   ⟨(some 108), .load (some 2) (.t 7), (some (106, true)), none⟩,
   ⟨(some 109), .mv (.c .junk), (some (106, true)), (some ((.c (.clo f_wit_Before [] [])), [(.t 107), (.t 108)]))⟩,
   ⟨(some 110), .un .not (.t 109), (some (106, true)), none⟩,
   ⟨(some 111), .pick (.t 106) (.t 110) (.c (.v (.bool false))), none, none⟩,
   ⟨(some 6), .mv (.t 111), none, none⟩])
  .ret)))))))
theorem word_neg {atoms : List (List Rg)} {t : List Int} {j : Nat} (h : j < t.length) (hn : classF atoms t[j] < 0) : (wordF atoms t).2 = 1 := by
  unfold wordF eachF
  rw [if_pos (List.any_eq_true.mpr ⟨t[j], List.getElem_mem h, by simpa using hn⟩)]
theorem exLen_Rs (l : List Rg) : exLen (encRs l) = some (.v (.int .i64 l.length)) := by simp [encRs, exLen]
theorem idx_Rs {S : St} {nid : Nat} {l : List Rg} {k : IntKind} {n : Int} (hn : 0 ≤ n) (hlt : n < l.length) : (exIdxA 2 (encRs l) (.v (.int k n))).run S nid = some (.eptr (encR (l.getD n.toNat ⟨0, 0⟩)) 0, S) := by
  have hl : n.toNat < l.length := by omega
  simp [encRs, exIdxA, hn, List.getElem?_eq_getElem hl, List.getD_eq_getElem?_getD, AV.cells, encR]
theorem idxT_Rs {S : St} {nid : Nat} {l : List Rg} {k : IntKind} {n : Int} (hn : 0 ≤ n) (hlt : n < l.length) : (exIdxA 2 (encRs l) (.v (.int k n))).runT S nid = some (.eptr (encR (l.getD n.toNat ⟨0, 0⟩)) 0, S, [], []) := by
  have hl : n.toNat < l.length := by omega
  simp [encRs, exIdxA, hn, List.getElem?_eq_getElem hl, List.getD_eq_getElem?_getD, AV.cells, encR, Z4c]
theorem idx_Rss {S : St} {nid : Nat} {l : List (List Rg)} {k : IntKind} {n : Int} (hn : 0 ≤ n) (hlt : n < l.length) : (exIdxA 1 (encRss l) (.v (.int k n))).run S nid = some (.eptr (encRs (l.getD n.toNat [])) 0, S) := by
  have hl : n.toNat < l.length := by omega
  simp [encRss, exIdxA, hn, List.getElem?_eq_getElem hl, List.getD_eq_getElem?_getD, AV.cells, encRs]
theorem idxT_Rss {S : St} {nid : Nat} {l : List (List Rg)} {k : IntKind} {n : Int} (hn : 0 ≤ n) (hlt : n < l.length) : (exIdxA 1 (encRss l) (.v (.int k n))).runT S nid = some (.eptr (encRs (l.getD n.toNat [])) 0, S, [], []) := by
  have hl : n.toNat < l.length := by omega
  simp [encRss, exIdxA, hn, List.getElem?_eq_getElem hl, List.getD_eq_getElem?_getD, AV.cells, encRs, Z4c]
theorem cells_Rs1 (l : List Rg) : (encRs l).cells = [encRs l] := rfl
theorem solid_Rs1 (l : List Rg) : (encRs l).solid = true := rfl
def lwI (atoms : List (List Rg)) (t : List Int) (k : Nat) (_ : Bool × Bool) : Prop := ∀ j (h : j < t.length), j < k → 0 ≤ classF atoms t[j]
def lwA (atoms : List (List Rg)) (k : Nat) (_ : Bool × Bool) : List (Nat × AV) := [(1, encRss atoms), (3, .ptr 0 0 0), (5, .ptr 1 0 0), (7, .ptr 2 0 0), (8, .ptr 3 0 0), (9, encI k)]
def lwG (d : Det) (atoms : List (List Rg)) (w : Wit) (k : Nat) (o : Bool × Bool) : List (Nat × Option Blk) :=
  [(0, some (.arr 3 [encDet d])), (1, some (.arr 2 [encWj w])), (2, some (.arr 2 [.agg [vV o.1 4 ((mkW (loC atoms) w.text k).map encI), encI w.place]])), (3, some (.arr 2 [.agg [vV o.2 5 ((mkW (hiC atoms) w.text k).map encI), encI w.place]])),
    (4, vB o.1 1 ((mkW (loC atoms) w.text k).map encI)), (5, vB o.2 1 ((mkW (hiC atoms) w.text k).map encI))]
theorem cells_Wj (w : Wit) : (encWj w).cells = [encIs w.text, .v (.int .i64 w.place)] := rfl
theorem solid_Wj (w : Wit) : (encWj w).solid = true := rfl
theorem fz_Wj {g : Nat → Option Blk} {o : Bool} {id : Nat} {l : List Int} {p : Int} (h : g id = vB o 1 (l.map encI)) : Fz g (.agg [vV o id (l.map encI), .v (.int .i64 p)]) (encWj ⟨l, p⟩) :=
  .aggL (.cons (vV_fz h (Z19 _)) (.cons (.closed _ (.v _)) .nil))
theorem WitShows_body {P : Program} {fal f15 f02 fr fc fs fb : FuncId} (d : Det) (atoms : List (List Rg)) (w : Wit) (hal : PureC P fal [] (encB true)) (g15 : Bool) (h15 : PureC P f15 [encDet d, encI 100] (encB g15))
    (h02 : PureC P f02 [encRss atoms, encI 100] (encB (greatA atoms 100))) (hr : greatA atoms 100 = false → PureC P fr [encRss atoms] (encB (rightA atoms)))
    (H : g15 = false → greatA atoms 100 = false → w.text.length ≤ 30 → (∀ c, PureC P fc [encRss atoms, encI c] (encI (classF atoms c))) ∧ (∀ x : Wit, x.text.length ≤ 30 → PureC P fs [encDet d, encRss atoms, encWj x] (encB (showsF d atoms x))) ∧
      ∀ x y : Wit, x.text.length ≤ 30 → y.text.length ≤ 30 → PureC P fb [encWj x, encWj y] (encB (beforeW x y))) :
    AWb P 0 (c_caesuralaw23_WitShows fal f15 f02 fr fc fs fb) (RetK [6] (FzK (encB true))) (argF [encDet d, encRss atoms, encWj w]) S0 := by
  have hd := closed_Det d
  have hat := closed_Rss atoms
  have hw := closed_W w
  have hwx : Closed (.agg [encIs w.text, .v (.int .i64 w.place)]) := hw
  have es : (encRss atoms).solid = true := rfl
  have ec : (encRss atoms).cells = [encRss atoms] := rfl
  simp [c_caesuralaw23_WitShows, cells_Wj, solid_Wj]
  refine CallR.pure hal cl_nil (Z2o _) ?_
  simp
  refine CallR.pure h15 (cl_cons hd (cl_cons (Z2r _) cl_nil)) (Z2o _) ?_
  cases hg15 : g15 with
  | true =>
    simp
    exact FzK_B true _
  | false =>
  simp
  refine CallR.pure h02 (cl_cons hat (cl_cons (Z2r _) cl_nil)) (Z2o _) ?_
  cases hg02 : greatA atoms 100 with
  | true =>
    simp
    exact FzK_B true _
  | false =>
  by_cases h30 : 30 < (w.text.length : Int)
  · simp [h30, cells_Wj]
    exact FzK_B true _
  have h30' : ¬ 30 < w.text.length := by omega
  simp [h30, h30', cells_Wj]
  refine CallR.pure (hr hg02) (cl_cons hat cl_nil) (Z2o _) ?_
  cases hra : rightA atoms with
  | false =>
    simp
    exact FzK_B true _
  | true =>
  have R := rightA_P hra
  obtain ⟨hcl, hsh, hbf⟩ := H hg15 hg02 (by omega)
  simp [exBuild, afill, exAlloc, cells_Wj, c_lw_in]
  refine AWb_for w.text.length (lwI atoms w.text) (lwA atoms) 10 (lwG d atoms w) (false, false) (fun j h hj => by omega) ?_ ?_
  · refine Abs.of [(0, 0), (1, 1), (2, 28), (3, 29)] [] (by omega) ⟨by simp, by simp⟩ ?_ ?_
    · simp [RenL_snoc, RenL.cl, RenV.cl, Z2r, Z2o, Z2s, Z2t, Z2p, Z2v, Z2u, Z2q, Z2w, Z2x, Z1d, Z1c, Z1b, Z19, Z18, Z1a, Z1e, Z52, Z4v, Z4z, Z3y, Z51, Z50, Z3z, Z1p, Z1q, Z1x, Z1v, Z1w, Z1u, Z1t, Z1s, Z1r, Z44, Z43, Z42, Z4e, Z4f, Z22, Z23, Z3d, Z3e, Z27, Z26, vV_t, vV_f, vB_t, vB_f, encI, encB, lwG, mkW_zero, hd, hw]
    · simp [RenL_snoc, RenL.cl, RenV.cl, Z2r, Z2o, Z2s, Z2t, Z2p, Z2v, Z2u, Z2q, Z2w, Z2x, Z1d, Z1c, Z1b, Z19, Z18, Z1a, Z1e, Z52, Z4v, Z4z, Z3y, Z51, Z50, Z3z, Z1p, Z1q, Z1x, Z1v, Z1w, Z1u, Z1t, Z1s, Z1r, Z44, Z43, Z42, Z4e, Z4f, Z22, Z23, Z3d, Z3e, Z27, Z26, vV_t, vV_f, vB_t, vB_f, encI, encB, lwA, hat]
  · rintro k ⟨o1, o2⟩ hk hI
    by_cases hlt : k < w.text.length
    · have hsd : w.text.getD k 0 = w.text[k] := getD_I hlt
      have hc1 := hcl w.text[k]
      have tk1 := mkW_succ (f := loC atoms) hlt
      have tk2 := mkW_succ (f := hiC atoms) hlt
      have ln1 := mkW_len (f := loC atoms) hk
      have ln2 := mkW_len (f := hiC atoms) hk
      by_cases hneg : classF atoms w.text[k] < 0
      · have hs := hsh w (by omega)
        have hsf : showsF d atoms w = false := by
          unfold showsF
          rw [word_neg hlt hneg]; simp
        rw [hsf] at hs
        simp [lwA, lwG, hlt, hsd, cells_Wj]
        refine CallR.pure hc1 (cl_cons hat (cl_cons (Z2r _) cl_nil)) (Z2r _) ?_
        simp [hneg, cells_Wj]
        refine CallR.pure hs (cl_cons hd (cl_cons hat (cl_cons hw cl_nil))) (Z2o _) ?_
        simp
        exact FzK_B true _
      · obtain ⟨kk, a, ha⟩ := atom_at R (c := w.text[k]) (by omega)
        have hgd := ha.getD
        have hlo : loC atoms w.text[k] = (a.getD 0 ⟨0, 0⟩).low := by unfold loC; rw [hgd]
        have hhi : hiC atoms w.text[k] = (a.getD (a.length - 1) ⟨0, 0⟩).high := by unfold hiC; rw [hgd]
        have hne := ha.ne
        have hlen := ha.len
        have hne' : (0 : Int) < (a.length : Int) := by omega
        have hane : a ≠ [] := List.length_pos_iff.mp hne
        have hle1 : (1 : Int) ≤ (a.length : Int) := by omega
        have hle2 : 1 ≤ a.length := by omega
        have hne2 : (a.length : Int) - 1 < (a.length : Int) := by omega
        have hne3 : (0 : Int) ≤ (a.length : Int) - 1 := by omega
        have hnt : ((a.length : Int) - 1).toNat = a.length - 1 := by omega
        have hcn : ¬ (classF atoms w.text[k] < 0) := hneg
        have hc0 : 0 ≤ classF atoms w.text[k] := by omega
        have hcl2 : classF atoms w.text[k] < (atoms.length : Int) := by rw [ha.cls]; have := ha.lt; omega
        have hap : appOk 8 k 1 := by unfold appOk; omega
        have hww : IntKind.i64.wrap ((a.length : Int) - 1) = (a.length : Int) - 1 := wrap_in _ (by omega)
        have hlI := hI
        generalize hkc : classF atoms w.text[k] = cc at *
        have hga : ∀ (h : cc.toNat < atoms.length), atoms[cc.toNat] = a := fun h => by
          have := hgd; rw [List.getD_eq_getElem?_getD, List.getElem?_eq_getElem h] at this; exact this
        have hg0 : ∀ (h : 0 < a.length), a[0] = a.getD 0 ⟨0, 0⟩ := fun h => by rw [List.getD_eq_getElem?_getD, List.getElem?_eq_getElem h]; rfl
        have hg1 : ∀ (h : a.length - 1 < a.length), a[a.length - 1] = a.getD (a.length - 1) ⟨0, 0⟩ := fun h => by rw [List.getD_eq_getElem?_getD, List.getElem?_eq_getElem h]; rfl
        simp [lwA, lwG, hlt, hsd, cells_Wj]
        refine CallR.pure hc1 (cl_cons hat (cl_cons (Z2r _) cl_nil)) (Z2r _) ?_
        simp [hneg, c_lw_a, idx_Rss, idxT_Rss, idx_Rs, idxT_Rs, exLen_Rs, hc0, hcl2, hgd, hga, hne, hane, hle1, hle2, hne', hne2, hne3, hnt, hww, cells_Rs1, solid_Rs1, cells_Rg, ln1, ln2, hap]
        refine ⟨by rintro j (⟨_, rfl⟩ | rfl) <;> simp, ?_⟩
        rw [wrap_in _ (by omega)]
        refine ⟨hlt, (true, true), fun j h hj => ?_, Abs.of [(0, 0), (1, 1), (2, 2), (3, 3), (4, 35), (5, 52)] [] (by omega) ⟨by simp, by simp⟩ ?_ ?_⟩
        · by_cases hjk : j = k
          · subst hjk; omega
          · exact hI j h (by omega)
        · have hlo1 := ha.lo
          have hhi1 : hiC atoms w.text[k] = (a[a.length - 1]?.getD ⟨0, 0⟩).high := by rw [hhi, List.getD_eq_getElem?_getD]
          simp [RenL_snoc, RenL.cl, RenV.cl, Z2r, Z2o, Z2s, Z2t, Z2p, Z2v, Z2u, Z2q, Z2w, Z2x, Z1d, Z1c, Z1b, Z19, Z18, Z1a, Z1e, Z52, Z4v, Z4z, Z3y, Z51, Z50, Z3z, Z1p, Z1q, Z1x, Z1v, Z1w, Z1u, Z1t, Z1s, Z1r, Z44, Z43, Z42, Z4e, Z4f, Z22, Z23, Z3d, Z3e, Z27, Z26, vV_t, vV_f, vB_t, vB_f, encI, encB, lwG, tk1, tk2, hlo1, hhi1, ln1, ln2, hd, hw]
        · simp [RenL_snoc, RenL.cl, RenV.cl, Z2r, Z2o, Z2s, Z2t, Z2p, Z2v, Z2u, Z2q, Z2w, Z2x, Z1d, Z1c, Z1b, Z19, Z18, Z1a, Z1e, Z52, Z4v, Z4z, Z3y, Z51, Z50, Z3z, Z1p, Z1q, Z1x, Z1v, Z1w, Z1u, Z1t, Z1s, Z1r, Z44, Z43, Z42, Z4e, Z4f, Z22, Z23, Z3d, Z3e, Z27, Z26, vV_t, vV_f, vB_t, vB_f, encI, encB, lwA, hat]
    · have hke : k = w.text.length := by omega
      subst hke
      have hall : ∀ c ∈ w.text, 0 ≤ classF atoms c := fun c hc => by
        obtain ⟨j, hj, rfl⟩ := List.mem_iff_getElem.mp hc
        exact hI j hj hj
      have wlo : wordF atoms (w.text.map (loC atoms)) = wordF atoms w.text := word_map hall fun c hc => by
        obtain ⟨kk, a, ha⟩ := atom_at R (hall c hc); exact ha.loClass R
      have whi : wordF atoms (w.text.map (hiC atoms)) = wordF atoms w.text := word_map hall fun c hc => by
        obtain ⟨kk, a, ha⟩ := atom_at R (hall c hc); exact ha.hiClass R
      have hle : ∀ c ∈ w.text, loC atoms c ≤ c := fun c hc => by
        obtain ⟨kk, a, ha⟩ := atom_at R (hall c hc); exact ha.lo_le
      have slo : showsF d atoms ⟨w.text.map (loC atoms), w.place⟩ = showsF d atoms w := by unfold showsF; simp only [wlo]
      have shi : showsF d atoms ⟨w.text.map (hiC atoms), w.place⟩ = showsF d atoms w := by unfold showsF; simp only [whi]
      have hs0 := hsh w (by omega)
      have hs1 := hsh ⟨w.text.map (loC atoms), w.place⟩ (by simp; omega)
      have hs2 := hsh ⟨w.text.map (hiC atoms), w.place⟩ (by simp; omega)
      have hb1 := hbf w ⟨w.text.map (loC atoms), w.place⟩ (by omega) (by simp; omega)
      rw [low_before hle] at hb1
      rw [slo] at hs1
      rw [shi] at hs2
      generalize showsF d atoms w = r at *
      simp [lwA, lwG, mkW_all, cells_Wj]
      refine CallR.pure hs0 (cl_cons hd (cl_cons hat (cl_cons hw cl_nil))) (Z2o _) ?_
      have e1 : List.map (encI ∘ loC atoms) w.text = (w.text.map (loC atoms)).map encI := by rw [List.map_map]
      have e2 : List.map (encI ∘ hiC atoms) w.text = (w.text.map (hiC atoms)).map encI := by rw [List.map_map]
      simp
      refine CallR.looks hs1 (FzL.cons (.closed _ hd) (FzL.cons (.closed _ hat) (FzL.cons ?_ FzL.nil))) (.v _) ?_
      · rw [e1]; exact fz_Wj (by simp [gOf, setL_nil, St.setO])
      have hrr : (r == r) = true := by simp
      simp [hrr]
      refine CallR.looks hs2 (FzL.cons (.closed _ hd) (FzL.cons (.closed _ hat) (FzL.cons ?_ FzL.nil))) (.v _) ?_
      · rw [e2]; exact fz_Wj (by simp [gOf, setL_nil, St.setO])
      simp [hrr]
      refine CallR.looks hb1 (FzL.cons (.closed _ hw) (FzL.cons ?_ FzL.nil)) (.v _) ?_
      · rw [e1]; exact fz_Wj (by simp [gOf, setL_nil, St.setO])
      simp
      exact FzK_B true _
end Go.Rf

