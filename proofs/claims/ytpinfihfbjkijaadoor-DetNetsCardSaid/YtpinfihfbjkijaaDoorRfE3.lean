import Derived.Test.YtpinfihfbjkijaaDoorRfTx2
import Derived.Test.YtpinfihfbjkijaaDoorRfCell
import Derived.Test.YtpinfihfbjkijaaDoorRfN4
import Derived.Test.YtpinfihfbjkijaaDoorRfStl
import Derived.Test.YtpinfihfbjkijaaDoorRfKl
import Derived.Test.YtpinfihfbjkijaaDoorRfL10
/- Own work: sets' texts tell sets apart; numbers of sets (plain laws). -/
set_option linter.unusedVariables false
set_option linter.unusedSimpArgs false
namespace Go.Rf
open Go.RowKit

/-! ### texts -/
def valD (l : List UInt8) : Nat := l.foldl (fun a b => 10 * a + (b.toNat - 48)) 0
theorem valD_app (l : List UInt8) (b : UInt8) : valD (l ++ [b]) = 10 * valD l + (b.toNat - 48) := by simp [valD]
theorem dig_toNat {d : Nat} (h : d < 10) : (UInt8.ofNat (48 + d)).toNat = 48 + d := by
  rw [UInt8.toNat_ofNat']; omega
theorem decDigits_val (n : Nat) : valD (Lib.decDigits n) = n ∧ ∀ b ∈ Lib.decDigits n, b ≠ 32 := by
  induction n using Nat.strongRecOn with
  | _ n ih =>
    rw [Lib.decDigits]
    split
    · rename_i h
      refine ⟨?_, ?_⟩
      · have := dig_toNat h
        simp only [valD, List.foldl_cons, List.foldl_nil]
        omega
      · intro b hb e
        simp only [List.mem_cons, List.not_mem_nil, or_false] at hb
        have := dig_toNat h
        rw [← hb, e] at this
        have h32 : (32 : UInt8).toNat = 32 := rfl
        omega
    · rename_i h
      obtain ⟨h1, h2⟩ := ih (n / 10) (by omega)
      have hd : n % 10 < 10 := Nat.mod_lt _ (by omega)
      refine ⟨?_, ?_⟩
      · rw [valD_app, h1, dig_toNat hd]; omega
      · intro b hb e
        rcases List.mem_append.mp hb with hb | hb
        · exact h2 b hb e
        · simp only [List.mem_cons, List.not_mem_nil, or_false] at hb
          have := dig_toNat hd
          rw [← hb, e] at this
          have h32 : (32 : UInt8).toNat = 32 := rfl
          omega
theorem cut_eq {b : UInt8} : ∀ {xs ys us vs : List UInt8}, (∀ x ∈ xs, x ≠ b) → (∀ y ∈ ys, y ≠ b) → xs ++ b :: us = ys ++ b :: vs → xs = ys ∧ us = vs
  | [], [], us, vs, _, _, h => by simp at h; exact ⟨rfl, h⟩
  | [], y :: ys, us, vs, _, hy, h => by simp at h; exact (hy y (by simp) h.1.symm).elim
  | x :: xs, [], us, vs, hx, _, h => by simp at h; exact (hx x (by simp) h.1).elim
  | x :: xs, y :: ys, us, vs, hx, hy, h => by
    simp only [List.cons_append, List.cons.injEq] at h
    obtain ⟨h1, h2⟩ := cut_eq (fun z hz => hx z (by simp [hz])) (fun z hz => hy z (by simp [hz])) h.2
    exact ⟨by rw [h.1, h1], h2⟩
def NonNeg (l : List Int) : Prop := ∀ n ∈ l, 0 ≤ n
theorem itoa_of {n : Int} (h : 0 ≤ n) : Lib.itoa n = Lib.decDigits n.toNat := by unfold Lib.itoa; rw [if_neg (by omega)]
theorem textL_cons (n : Int) (l : List Int) : textL (n :: l) = Lib.itoa n ++ 32 :: textL l := by simp [textL]
theorem textL_inj : ∀ {l m : List Int}, NonNeg l → NonNeg m → textL l = textL m → l = m
  | [], [], _, _, _ => rfl
  | [], n :: m, _, _, h => by rw [textL_cons] at h; simp [textL] at h
  | n :: l, [], _, _, h => by rw [textL_cons] at h; simp [textL] at h
  | n :: l, k :: m, hl, hm, h => by
    have hn := hl n (by simp)
    have hk := hm k (by simp)
    rw [textL_cons, textL_cons, itoa_of hn, itoa_of hk] at h
    obtain ⟨h1, h2⟩ := cut_eq (decDigits_val _).2 (decDigits_val _).2 h
    have := congrArg valD h1
    rw [(decDigits_val _).1, (decDigits_val _).1] at this
    rw [textL_inj (fun z hz => hl z (by simp [hz])) (fun z hz => hm z (by simp [hz])) h2]
    congr 1; omega
/-! ### the map of sets -/
def entsF : Nat → List (List Int) → List (AV × AV)
  | _, [] => []
  | k, s :: ss => (strAV (textL s), encI k) :: entsF (k + 1) ss
theorem ba_beq (a b : Array UInt8) : ((⟨a⟩ : ByteArray) == ⟨b⟩) = (a == b) := rfl
theorem keyEq_t (l m : List Int) (hl : NonNeg l) (hm : NonNeg m) : keyEq (strAV (textL l)) (strAV (textL m)) = decide (l = m) := by
  have : keyEq (strAV (textL l)) (strAV (textL m)) = ((⟨(textL l).toArray⟩ : ByteArray) == ⟨(textL m).toArray⟩) := rfl
  rw [this, ba_beq]
  by_cases h : l = m
  · subst h; simp
  · simp only [h, decide_false, beq_eq_false_iff_ne, ne_eq]
    intro e
    refine h (textL_inj hl hm ?_)
    simpa using e
theorem find_ents {x : List Int} (hx : NonNeg x) : ∀ (ss : List (List Int)) (k : Nat), (∀ s ∈ ss, NonNeg s) → findE (strAV (textL x)) (entsF k ss) = if x ∈ ss then some (encI (k + ss.idxOf x : Nat)) else none
  | [], k, h => by simp [entsF, findE]
  | s :: ss, k, h => by
    simp only [entsF, findE]
    rw [keyEq_t x s hx (h s (by simp)), find_ents hx ss (k + 1) (fun z hz => h z (by simp [hz]))]
    by_cases hs : x = s
    · subst hs; simp
    · have hs' : s ≠ x := fun e => hs e.symm
      simp only [hs, decide_false, Bool.false_eq_true, if_false, List.mem_cons, false_or]
      by_cases hm : x ∈ ss
      · rw [if_pos hm, if_pos hm, List.idxOf_cons, show (s == x) = false by simpa using hs', cond_false]
        congr 2; omega
      · rw [if_neg hm, if_neg hm]
theorem set_ents {x : List Int} (hx : NonNeg x) : ∀ (ss : List (List Int)) (k : Nat), (∀ s ∈ ss, NonNeg s) → x ∉ ss → setE (strAV (textL x)) (encI (k + ss.length : Nat)) (entsF k ss) = entsF k (ss ++ [x])
  | [], k, h, _ => by simp [entsF, setE]
  | s :: ss, k, h, hn => by
    simp only [List.mem_cons, not_or] at hn
    simp only [entsF, setE, List.cons_append]
    rw [keyEq_t x s hx (h s (by simp)), if_neg (by simpa using hn.1)]
    have := set_ents hx ss (k + 1) (fun z hz => h z (by simp [hz])) hn.2
    rw [← this]
    congr 3; simp only [List.length_cons]; omega
theorem ents_keys (x : List Int) : ∀ (ss : List (List Int)) (k : Nat), isK .str (strAV (textL x)) = true ∧ ∀ e ∈ entsF k ss, isK .str e.1 = true
  | [], k => ⟨rfl, by simp [entsF]⟩
  | s :: ss, k => ⟨rfl, fun e he => by
    simp only [entsF, List.mem_cons] at he
    rcases he with rfl | he
    · rfl
    · exact (ents_keys x ss (k + 1)).2 e he⟩
end Go.Rf


/- Own work: (*det.maker).number. -/
set_option linter.unusedVariables false
set_option linter.unusedSimpArgs false
namespace Go.Rf
open Go.RowKit
def c_det_maker_number (f_det_text f_T : FuncId) : AC :=
  (.seq (.reg none [
   ⟨(some 4), .mv (.c (.v (.int .i64 0))), none, none⟩])
  (.seq (.regX [
   ⟨(some 8), .mv (.t 1), none, none⟩,
   ⟨(some 9), .mv (.c .junk), none, (some ((.c (.clo f_det_text [] [])), [(.t 8)]))⟩,
   ⟨(some 5), .mv (.t 9), none, none⟩] none)
  (.seq (.reg none [
   ⟨(some 11), .mv (.t 0), none, none⟩,
   ⟨(some 12), .nilc (.t 11), none, none⟩,
   ⟨(some 13), .fieldA 5 (.t 12), none, none⟩,
   ⟨(some 14), .load none (.t 13), none, none⟩,
   ⟨(some 15), .mv (.t 5), none, none⟩,
   ⟨(some 16), .look .str (.v (.int .i64 0)) true (.t 14) (.t 15), none, none⟩,
   ⟨(some 10), .mv (.t 16), none, none⟩,
   ⟨(some 17), .ext 0 (.t 10), none, none⟩,
   ⟨(some 18), .ext 1 (.t 10), none, none⟩,
   ⟨(some 6), .mv (.t 17), none, none⟩,
   ⟨(some 7), .mv (.t 18), none, none⟩])
  (.seq (.seq (.reg none [
   ⟨(some 19), .mv (.t 7), none, none⟩,
   ⟨(some 20), .un .not (.t 19), none, none⟩])
  (.cond (.t 20) (.seq (.seq (.reg none [
    ⟨(some 21), .mv (.t 0), none, none⟩,
    ⟨(some 22), .nilc (.t 21), none, none⟩,
    ⟨(some 23), .fieldA 6 (.t 22), none, none⟩,
    ⟨(some 24), .load none (.t 23), none, none⟩,
    ⟨(some 25), .len (.t 24), none, none⟩,
    ⟨(some 6), .mv (.t 25), none, none⟩])
   (.seq (.reg none [
    ⟨(some 26), .mv (.t 6), none, none⟩,
    ⟨(some 27), .mv (.t 0), none, none⟩,
    ⟨(some 28), .nilc (.t 27), none, none⟩,
    ⟨(some 29), .fieldA 4 (.t 28), none, none⟩,
    ⟨(some 30), .load none (.t 29), none, none⟩,
    ⟨(some 31), .bin .eql (.t 26) (.t 30), none, none⟩])
   (.cond (.t 31) (.regX [
     ⟨(some 32), .build (.agg []) [] [], none, none⟩,
     ⟨(some 33), .mki f_T (.t 32), none, none⟩] (some (.t 33))) .skip)))
   (.seq (.reg none [
    ⟨(some 34), .mv (.t 0), none, none⟩,
    ⟨(some 35), .nilc (.t 34), none, none⟩,
    ⟨(some 36), .fieldA 5 (.t 35), none, none⟩,
    ⟨(some 37), .load none (.t 36), none, none⟩,
    ⟨(some 38), .mv (.t 5), none, none⟩,
    ⟨(some 39), .mv (.t 6), none, none⟩,
    ⟨none, .mset .str (.t 37) (.t 38) (.t 39), none, none⟩])
   (.reg none [
    ⟨(some 40), .mv (.t 0), none, none⟩,
    ⟨(some 41), .mv (.t 0), none, none⟩,
    ⟨(some 42), .nilc (.t 41), none, none⟩,
    ⟨(some 43), .fieldA 6 (.t 42), none, none⟩,
    ⟨(some 44), .load none (.t 43), none, none⟩,
    ⟨(some 45), .mv (.t 1), none, none⟩,
    ⟨(some 46), .bslice 1 1 (.sl true []) [(0, (.t 45))], none, none⟩,
    ⟨(some 47), .app 1 24 (.t 44) (.t 46), none, none⟩,
    ⟨(some 48), .nilc (.t 40), none, none⟩,
    ⟨(some 49), .fieldA 6 (.t 48), none, none⟩,
    ⟨none, .store 1 (.t 49) (.t 47), none, none⟩]))) .skip))
  (.seq (.reg none [
   ⟨(some 50), .mv (.t 6), none, none⟩,
   ⟨(some 4), .mv (.t 50), none, none⟩])
  .ret)))))
/-- A maker lies at id, its map at km; it has these sets. -/
structure MkS (S : St) (id km : Nat) (n : Net) (most : Int) (ss : List (List Int)) (v : AV) : Prop where
  g : S.g id = some (.arr 7 [.agg [encI n.signs, encIss n.by_, encIss n.follow, encIs n.last, encI most, .mp km, v]])
  m : S.g km = some (.map (entsF 0 ss))
  vec : Vec S.g v 1 (ss.map encIs)
  ne : id ≠ km
  hv : ∀ i ∈ v.ids, i ≠ id ∧ i ≠ km
  lid : id < S.n
  lkm : km < S.n
  lv : ∀ i ∈ v.ids, i < S.n
/-- All but these blocks is as it was. -/
structure Frm (S S' : St) (R : List Nat) : Prop where
  n : S.n ≤ S'.n
  g : ∀ i, i < S.n → i ∉ R → S'.g i = S.g i
section
variable {g : Nat → Option Blk} {km m nid : Nat} {ss : List (List Int)} {x : List Int}
theorem look_run (hg : g km = some (.map (entsF 0 ss))) (hx : NonNeg x) (hs : ∀ s ∈ ss, NonNeg s) :
    (exLook .str (.v (.int .i64 0)) true (.mp km) (strAV (textL x))).run ⟨m, g⟩ nid = some (.tup [encI (if x ∈ ss then (ss.idxOf x : Int) else 0), .v (.bool (decide (x ∈ ss)))], ⟨m, g⟩) := by
  have hk := ents_keys x ss 0
  simp only [exLook, Eff.run_rd, hg, Option.bind_some, if_pos hk, find_ents hx ss 0 hs]
  by_cases h : x ∈ ss
  · simp [h, encI]
  · simp [h, encI]
theorem mset_run (hg : g km = some (.map (entsF 0 ss))) (hx : NonNeg x) (hs : ∀ s ∈ ss, NonNeg s) (hn : x ∉ ss) :
    (exMset .str (.mp km) (strAV (textL x)) (.v (.int .i64 ss.length))).run ⟨m, g⟩ nid = some (.junk, (St.mk m g).set km (some (.map (entsF 0 (ss ++ [x]))))) := by
  have hk := ents_keys x ss 0
  have h := set_ents hx ss 0 hs hn
  rw [Nat.zero_add] at h
  have h' : setE (strAV (textL x)) (.v (.int .i64 ss.length)) (entsF 0 ss) = entsF 0 (ss ++ [x]) := h
  simp only [exMset, Eff.run_wr, hg, Option.bind_some, if_pos hk, h', Option.map_some]
end
theorem number_body {P : Program} {ft fT : FuncId} {id km : Nat} {n : Net} {most : Int} {ss : List (List Int)} {v : AV} {set : List Int} {S : St} (M : MkS S id km n most ss v) (ht : PureC P ft [encIs set] (strAV (textL set)))
    (hx : NonNeg set) (hs : ∀ s ∈ ss, NonNeg s) (hlen : (ss.length : Int) ≤ most) (hmost : most ≤ 3000) {K : AV → St → Prop} {X : Value → St → Prop}
    (hK1 : set ∈ ss → ∀ m, S.n ≤ m → K (encI (ss.idxOf set)) ⟨m, S.g⟩)
    (hK2 : set ∉ ss → (ss.length : Int) < most → ∀ S' v', MkS S' id km n most (ss ++ [set]) v' → Frm S S' (id :: km :: v.ids) → (∀ i ∈ v'.ids, S.n ≤ i) → K (encI ss.length) S')
    (hX : set ∉ ss → (ss.length : Int) = most → ∀ m, S.n ≤ m → X (.iface fT (.agg #[])) ⟨m, S.g⟩) :
    AW P (c_det_maker_number ft fT) (RetX [.t 4] K X) (argF [.ptr id 0 0, encIs set]) S := by
  have hg := M.g
  have hm := M.m
  unfold c_det_maker_number
  simp [Z0j, Z0e, Z0f, Z0b, Z0c, Z0k, Z0d, Z0h, Z0i, Z3a, Z39, Z08, Z0a, Z07, Z01, Z03, Z00, Z05, Z06, Z04, Z26, Z25, Z4q, Z4s, Z4r, Z4p, Z1u, Z1v, Z1t, Z40, Z3x, Z3z, Z3y, Z41, Z1s, Z2j, Z3d, Z4f, Z1k, Z1l, Z1m, Z4d, Z4e, Z1i, Z2i, Z1j, Z3v, Z3s, Z3u, Z3t, Z3w, Z4l, Z4k, Z0v, Z0w, Z0x, Z0u, Z1h, Z4w, Z4v, Z4x, Z4u, Z4t, ex, Z4n, Z4m, ev_t, ev_c, Z2h, Z2g, Z4y, Z4z, Z2x, Z2w, Z2q, Z2u, Z2v, Z2r, Z2s, Z2t, putc, exBslice, lfill, exField, exIdxV, exIdxP, exBox, exAlloc, exLoad, exStore, exFieldA, exIdxA, exLen, exPick, exUn, exBeq, exMM, exSeq, seqGo, exExt, binV, intOp, subc, AV.solid, S0, encI, encB, Z1o, Z45, Z42, Z46, Z44, Z43, Z0g, Z1p, Z1r, Z3f, Z1q, Z4g, Z1n, Z2k, Z3e, Z4j, Z09, Z02, Z2a, Z2b, Z29, exMki, plainV, plainVs]
  refine CallX.ofR (CallR.pure ht (cl_cons (Z33 _) cl_nil) (.v _) ?_)
  by_cases hin : set ∈ ss
  · simp [Z0j, Z0e, Z0f, Z0b, Z0c, Z0k, Z0d, Z0h, Z0i, Z3a, Z39, Z08, Z0a, Z07, Z01, Z03, Z00, Z05, Z06, Z04, Z26, Z25, Z4q, Z4s, Z4r, Z4p, Z1u, Z1v, Z1t, Z40, Z3x, Z3z, Z3y, Z41, Z1s, Z2j, Z3d, Z4f, Z1k, Z1l, Z1m, Z4d, Z4e, Z1i, Z2i, Z1j, Z3v, Z3s, Z3u, Z3t, Z3w, Z4l, Z4k, Z0v, Z0w, Z0x, Z0u, Z1h, Z4w, Z4v, Z4x, Z4u, Z4t, ex, Z4n, Z4m, ev_t, ev_c, Z2h, Z2g, Z4y, Z4z, Z2x, Z2w, Z2q, Z2u, Z2v, Z2r, Z2s, Z2t, putc, exBslice, lfill, exField, exIdxV, exIdxP, exBox, exAlloc, exLoad, exStore, exFieldA, exIdxA, exLen, exPick, exUn, exBeq, exMM, exSeq, seqGo, exExt, binV, intOp, subc, AV.solid, S0, encI, encB, Z1o, Z45, Z42, Z46, Z44, Z43, Z0g, Z1p, Z1r, Z3f, Z1q, Z4g, Z1n, Z2k, Z3e, Z4j, Z09, Z02, Z2a, Z2b, Z29, exMki, plainV, plainVs, hg, look_run hm hx hs, Eff.run_rd, Eff.run_val, exNil, hin, RetC, evC, RV.ev, packC]
    exact hK1 hin _ (by omega)
  · have hlv := M.vec.len
    rw [List.length_map] at hlv
    simp only [exLen] at hlv
    by_cases hfull : (ss.length : Int) = most
    · have hbe : ((ss.length : Int) == most) = true := by simpa using hfull
      simp [Z0j, Z0e, Z0f, Z0b, Z0c, Z0k, Z0d, Z0h, Z0i, Z3a, Z39, Z08, Z0a, Z07, Z01, Z03, Z00, Z05, Z06, Z04, Z26, Z25, Z4q, Z4s, Z4r, Z4p, Z1u, Z1v, Z1t, Z40, Z3x, Z3z, Z3y, Z41, Z1s, Z2j, Z3d, Z4f, Z1k, Z1l, Z1m, Z4d, Z4e, Z1i, Z2i, Z1j, Z3v, Z3s, Z3u, Z3t, Z3w, Z4l, Z4k, Z0v, Z0w, Z0x, Z0u, Z1h, Z4w, Z4v, Z4x, Z4u, Z4t, ex, Z4n, Z4m, ev_t, ev_c, Z2h, Z2g, Z4y, Z4z, Z2x, Z2w, Z2q, Z2u, Z2v, Z2r, Z2s, Z2t, putc, exBslice, lfill, exField, exIdxV, exIdxP, exBox, exAlloc, exLoad, exStore, exFieldA, exIdxA, exLen, exPick, exUn, exBeq, exMM, exSeq, seqGo, exExt, binV, intOp, subc, AV.solid, S0, encI, encB, Z1o, Z45, Z42, Z46, Z44, Z43, Z0g, Z1p, Z1r, Z3f, Z1q, Z4g, Z1n, Z2k, Z3e, Z4j, Z09, Z02, Z2a, Z2b, Z29, exMki, plainV, plainVs, hg, look_run hm hx hs, Eff.run_rd, Eff.run_val, exNil, hin, RetC, evC, RV.ev, packC, hlv, hbe, exBuild, afill]
      exact hX hin hfull _ (by omega)
    · have hbe : ((ss.length : Int) == most) = false := by simpa using hfull
      have hne := M.ne
      have hce : (encIs set).cells = [encIs set] := rfl
      have hso : (encIs set).solid = true := rfl
      simp only [AV.solid] at hso
      have hat : (encIs set).atom = true := rfl
      simp [Z0j, Z0e, Z0f, Z0b, Z0c, Z0k, Z0d, Z0h, Z0i, Z3a, Z39, Z08, Z0a, Z07, Z01, Z03, Z00, Z05, Z06, Z04, Z26, Z25, Z4q, Z4s, Z4r, Z4p, Z1u, Z1v, Z1t, Z40, Z3x, Z3z, Z3y, Z41, Z1s, Z2j, Z3d, Z4f, Z1k, Z1l, Z1m, Z4d, Z4e, Z1i, Z2i, Z1j, Z3v, Z3s, Z3u, Z3t, Z3w, Z4l, Z4k, Z0v, Z0w, Z0x, Z0u, Z1h, Z4w, Z4v, Z4x, Z4u, Z4t, ex, Z4n, Z4m, ev_t, ev_c, Z2h, Z2g, Z4y, Z4z, Z2x, Z2w, Z2q, Z2u, Z2v, Z2r, Z2s, Z2t, putc, exBslice, lfill, exField, exIdxV, exIdxP, exBox, exAlloc, exLoad, exStore, exFieldA, exIdxA, exLen, exPick, exUn, exBeq, exMM, exSeq, seqGo, exExt, binV, intOp, subc, AV.solid, S0, encI, encB, Z1o, Z45, Z42, Z46, Z44, Z43, Z0g, Z1p, Z1r, Z3f, Z1q, Z4g, Z1n, Z2k, Z3e, Z4j, Z09, Z02, Z2a, Z2b, Z29, exMki, plainV, plainVs, hg, look_run hm hx hs, Eff.run_rd, Eff.run_val, exNil, hin, RetC, evC, RV.ev, packC, hlv, hbe, mset_run hm hx hs hin, hne, hce, hso, hat]
      have hvf : ∀ k : Nat, Vec (St.set ⟨k, S.g⟩ km (some (.map (entsF 0 (ss ++ [set]))))).g v 1 (ss.map encIs) := fun k => M.vec.frame fun i hi => by
        rw [Z4y, if_neg (M.hv i hi).2]
      rw [Vec.app (hvf _) (by intro z hz; obtain ⟨s, _, rfl⟩ := List.mem_map.mp hz; rfl) rfl (by rw [List.length_map]; unfold appOk; omega)]
      have hid : id ∉ v.ids := fun h => (M.hv id h).1 rfl
      have hkm : km ∉ v.ids := fun h => (M.hv km h).2 rfl
      generalize hq : S.n + 1 + 3 + 11 + 2 + 6 + 6 + 7 = q
      have hidq : id ≠ q + 7 := by have := M.lid; omega
      simp [Z0j, Z0e, Z0f, Z0b, Z0c, Z0k, Z0d, Z0h, Z0i, Z3a, Z39, Z08, Z0a, Z07, Z01, Z03, Z00, Z05, Z06, Z04, Z26, Z25, Z4q, Z4s, Z4r, Z4p, Z1u, Z1v, Z1t, Z40, Z3x, Z3z, Z3y, Z41, Z1s, Z2j, Z3d, Z4f, Z1k, Z1l, Z1m, Z4d, Z4e, Z1i, Z2i, Z1j, Z3v, Z3s, Z3u, Z3t, Z3w, Z4l, Z4k, Z0v, Z0w, Z0x, Z0u, Z1h, Z4w, Z4v, Z4x, Z4u, Z4t, ex, Z4n, Z4m, ev_t, ev_c, Z2h, Z2g, Z4y, Z4z, Z2x, Z2w, Z2q, Z2u, Z2v, Z2r, Z2s, Z2t, putc, exBslice, lfill, exField, exIdxV, exIdxP, exBox, exAlloc, exLoad, exStore, exFieldA, exIdxA, exLen, exPick, exUn, exBeq, exMM, exSeq, seqGo, exExt, binV, intOp, subc, AV.solid, S0, encI, encB, Z1o, Z45, Z42, Z46, Z44, Z43, Z0g, Z1p, Z1r, Z3f, Z1q, Z4g, Z1n, Z2k, Z3e, Z4j, Z09, Z02, Z2a, Z2b, Z29, exMki, plainV, plainVs, hg, Eff.run_rd, Eff.run_wr, Eff.run_val, exNil, RetC, evC, RV.ev, packC, hne, hso, without_g id hid, without_n, hidq]
      have hkq : km ≠ q + 7 := by have := M.lkm; omega
      have hnk : km ≠ id := fun e => hne e.symm
      refine hK2 hin (by omega) _ (.own (q + 7) 0 (ss.length + 1)) ⟨?_, ?_, ?_, M.ne, ?_, ?_, ?_, ?_⟩ ⟨?_, ?_⟩ ?_
      · simp [Z4y, encI]
      · simp [Z4y, hnk, hkq, without_g km hkm]
      · refine Vec.mk' (xs := (ss ++ [set]).map encIs) ?_ (by simp)
        have : q + 7 ≠ id := fun e => hidq e.symm
        simp [Z4y, this]
      · intro i hi
        simp only [AV.ids, List.mem_cons, List.not_mem_nil, or_false] at hi
        subst hi
        exact ⟨fun e => hidq e.symm, fun e => hkq e.symm⟩
      · show id < q + 11 + 2
        have := M.lid; omega
      · show km < q + 11 + 2
        have := M.lkm; omega
      · intro i hi
        simp only [AV.ids, List.mem_cons, List.not_mem_nil, or_false] at hi
        subst hi
        show q + 7 < q + 11 + 2
        omega
      · show S.n ≤ q + 11 + 2
        omega
      · intro i hi hR
        simp only [List.mem_cons, not_or] at hR
        have : i ≠ q + 7 := by omega
        simp [Z4y, hR.1, hR.2.1, this, without_g i hR.2.2]
      · intro i hi
        simp only [AV.ids, List.mem_cons, List.not_mem_nil, or_false] at hi
        omega
end Go.Rf


/- Own work: (*det.maker).step and .ends. -/
set_option linter.unusedVariables false
set_option linter.unusedSimpArgs false
namespace Go.Rf
open Go.RowKit
def c_ds_in (f_slices_Contains_Sint_int_ : FuncId) : AC :=
  (.block 2 (.loop (.seq (.reg none [
        ⟨(some 28), .bin .lss (.t 27) (.t 26), none, none⟩])
       (.seq (.cond (.t 28) .skip (.exit 2))
       (.seq (.block 3 (.seq (.reg none [
         ⟨(some 29), .idxA 1 (.t 25) (.t 27), none, none⟩,
         ⟨(some 30), .load none (.t 29), none, none⟩,
         ⟨(some 11), .mv (.t 30), none, none⟩])
        (.seq (.reg none [
         ⟨(some 31), .mv (.t 0), none, none⟩,
         ⟨(some 32), .nilc (.t 31), none, none⟩,
         ⟨(some 33), .fieldA 0 (.t 32), none, none⟩,
         ⟨(some 34), .fieldA 1 (.t 33), none, none⟩,
         ⟨(some 35), .load none (.t 34), none, none⟩,
         ⟨(some 36), .mv (.t 11), none, none⟩,
         ⟨(some 37), .idxA 1 (.t 35) (.t 36), none, none⟩,
         ⟨(some 38), .load none (.t 37), none, none⟩,
         ⟨(some 39), .mv (.t 2), none, none⟩,
         ⟨(some 40), .mv (.c .junk), none, (some ((.c (.clo f_slices_Contains_Sint_int_ [] [])), [(.t 38), (.t 39)]))⟩])
        (.cond (.t 40) (.reg none [
          ⟨(some 41), .mv (.t 7), none, none⟩,
          ⟨(some 42), .mv (.t 11), none, none⟩,
          ⟨(some 43), .bslice 1 1 (.v (.int .i64 0)) [(0, (.t 42))], none, none⟩,
          ⟨(some 44), .app 1 8 (.t 41) (.t 43), none, none⟩,
          ⟨(some 7), .mv (.t 44), none, none⟩]) .skip))))
       (.reg none [
        ⟨(some 45), .bin .add (.t 27) (.c (.v (.int .i64 1))), none, none⟩,
        ⟨(some 27), .mv (.t 45), none, none⟩]))))))
def c_ds_out (f_slices_Contains_Sint_int_ : FuncId) : AC :=
  (.block 0 (.loop (.seq (.reg none [
     ⟨(some 15), .bin .lss (.t 14) (.t 13), none, none⟩])
    (.seq (.cond (.t 15) .skip (.exit 0))
    (.seq (.block 1 (.seq (.reg none [
      ⟨(some 16), .idxA 1 (.t 12) (.t 14), none, none⟩,
      ⟨(some 17), .load none (.t 16), none, none⟩,
      ⟨(some 9), .mv (.t 17), none, none⟩])
     (.seq (.reg none [
      ⟨(some 18), .mv (.t 0), none, none⟩,
      ⟨(some 19), .nilc (.t 18), none, none⟩,
      ⟨(some 20), .fieldA 0 (.t 19), none, none⟩,
      ⟨(some 21), .fieldA 2 (.t 20), none, none⟩,
      ⟨(some 22), .load none (.t 21), none, none⟩,
      ⟨(some 23), .mv (.t 9), none, none⟩,
      ⟨(some 24), .idxA 1 (.t 22) (.t 23), none, none⟩,
      ⟨(some 25), .load none (.t 24), none, none⟩,
      ⟨(some 26), .len (.t 25), none, none⟩,
      ⟨(some 27), .mv (.c (.v (.int .i64 0))), none, none⟩])
     (c_ds_in f_slices_Contains_Sint_int_))))
    (.reg none [
     ⟨(some 46), .bin .add (.t 14) (.c (.v (.int .i64 1))), none, none⟩,
     ⟨(some 14), .mv (.t 46), none, none⟩]))))))
def c_det_maker_step (f_slices_Contains_Sint_int_ f_slices_Sort_Sint_int_ f_slices_Compact_Sint_int_ : FuncId) : AC :=
  (.seq (.reg none [
   ⟨(some 6), .mv (.c (.sl true [])), none, none⟩])
  (.seq (.reg none [
   ⟨(some 7), .mv (.c (.sl true [])), none, none⟩])
  (.seq (.seq (.reg none [
   ⟨(some 12), .mv (.t 1), none, none⟩,
   ⟨(some 13), .len (.t 12), none, none⟩,
   ⟨(some 14), .mv (.c (.v (.int .i64 0))), none, none⟩])
  (c_ds_out f_slices_Contains_Sint_int_))
  (.seq (.reg none [
   ⟨(some 47), .mv (.t 7), none, none⟩,
   ⟨(some 48), .mv (.c .junk), none, (some ((.c (.clo f_slices_Sort_Sint_int_ [] [])), [(.t 47)]))⟩])
  (.seq (.reg none [
   ⟨(some 49), .mv (.t 7), none, none⟩,
   ⟨(some 50), .mv (.c .junk), none, (some ((.c (.clo f_slices_Compact_Sint_int_ [] [])), [(.t 49)]))⟩,
   ⟨(some 6), .mv (.t 50), none, none⟩])
  .ret)))))
def c_det_maker_ends (f_det_maker_ends_1 f_slices_ContainsFunc_Sint_int_ : FuncId) : AC :=
  (.seq (.reg none [
   ⟨(some 2), .box 1 (.t 0), none, none⟩,
   ⟨(some 4), .mv (.c (.v (.bool false))), none, none⟩])
  (.seq (.reg none [
   ⟨(some 5), .mv (.t 1), none, none⟩,
   ⟨(some 6), .mkf f_det_maker_ends_1 [] [(.t 2)], none, none⟩,
   ⟨(some 7), .mv (.c .junk), none, (some ((.c (.clo f_slices_ContainsFunc_Sint_int_ [] [])), [(.t 5), (.t 6)]))⟩,
   ⟨(some 4), .mv (.t 7), none, none⟩])
  .ret))
def c_det_maker_ends_1 (f_slices_Contains_Sint_int_ : FuncId) : AC :=
  (.seq (.reg none [
   ⟨(some 3), .mv (.c (.v (.bool false))), none, none⟩])
  (.seq (.reg none [
   ⟨(some 4), .load none (.t 1), none, none⟩,
   ⟨(some 5), .nilc (.t 4), none, none⟩,
   ⟨(some 6), .fieldA 0 (.t 5), none, none⟩,
   ⟨(some 7), .fieldA 3 (.t 6), none, none⟩,
   ⟨(some 8), .load none (.t 7), none, none⟩,
   ⟨(some 9), .mv (.t 0), none, none⟩,
   ⟨(some 10), .mv (.c .junk), none, (some ((.c (.clo f_slices_Contains_Sint_int_ [] [])), [(.t 8), (.t 9)]))⟩,
   ⟨(some 3), .mv (.t 10), none, none⟩])
  .ret))
def pNet (n : Net) : AV := .eptr (encNet n) 0
structure DsS (n : Net) (at_ : List Int) (sign : Int) (i : Nat) (cur : List Int) (f : AF) (S : St) : Prop where
  e12 : f 12 = encIs at_
  e13 : f 13 = encI at_.length
  e14 : f 14 = encI i
  e2 : f 2 = encI sign
  e0 : f 0 = pNet n
  vec : Vec S.g (f 7) 1 (cur.map encI)
  nil : cur = [] → f 7 = .sl true []
theorem DsS.same {n : Net} {at_ : List Int} {sign : Int} {i : Nat} {cur : List Int} {f f' : AF} {S S' : St} (h : DsS n at_ sign i cur f S) (hf : ∀ j, j = 12 ∨ j = 13 ∨ j = 14 ∨ j = 2 ∨ j = 0 ∨ j = 7 → f' j = f j) (hg : S'.g = S.g) : DsS n at_ sign i cur f' S' :=
  ⟨by rw [hf _ (by simp)]; exact h.e12, by rw [hf _ (by simp)]; exact h.e13, by rw [hf _ (by simp)]; exact h.e14, by rw [hf _ (by simp)]; exact h.e2, by rw [hf _ (by simp)]; exact h.e0, by rw [hg, hf _ (by simp)]; exact h.vec, fun e => by rw [hf _ (by simp)]; exact h.nil e⟩
theorem ds_in {P : Program} {fc : FuncId} {n : Net} (R : RightN n) (hc : ∀ l ∈ n.by_, ∀ x, PureC P fc [encIs l, encI x] (encB (l.contains x))) {at_ : List Int} {sign : Int} {i p : Nat} {cur : List Int} (hp : p < n.follow.length) (hcur : cur.length ≤ 100000000) {f : AF} {S : St} {Q : Exit → AF → St → Prop}
    (h : DsS n at_ sign i cur f S) (e25 : f 25 = encIs n.follow[p]) (e26 : f 26 = encI (n.follow[p]).length) (e27 : f 27 = encI 0)
    (hk : ∀ f' S', DsS n at_ sign i (cur ++ (n.follow[p]).filter (behS n sign)) f' S' → Q .normal f' S') : AW P (c_ds_in fc) Q f S := by
  have hlen := follow_len R hp
  simp [Z0j, Z0e, Z0f, Z0b, Z0c, Z0k, Z0d, Z0h, Z0i, Z3a, Z39, Z08, Z0a, Z07, Z01, Z03, Z00, Z05, Z06, Z04, Z26, Z25, Z4q, Z4s, Z4r, Z4p, Z1u, Z1v, Z1t, Z40, Z3x, Z3z, Z3y, Z41, Z1s, Z2j, Z3d, Z4f, Z1k, Z1l, Z1m, Z4d, Z4e, Z1i, Z2i, Z1j, Z3v, Z3s, Z3u, Z3t, Z3w, Z4l, Z4k, Z0v, Z0w, Z0x, Z0u, Z1h, Z4w, Z4v, Z4x, Z4u, Z4t, ex, Z4n, Z4m, ev_t, ev_c, Z2h, Z2g, Z4y, Z4z, Z2x, Z2w, Z2q, Z2u, Z2v, Z2r, Z2s, Z2t, putc, exBslice, lfill, exField, exIdxV, exIdxP, exBox, exAlloc, exLoad, exStore, exFieldA, exIdxA, exLen, exPick, exUn, exBeq, exMM, exSeq, seqGo, exExt, binV, intOp, subc, AV.solid, S0, encI, encB, c_ds_in]
  refine AW_for (n.follow[p]).length (fun k f S => DsS n at_ sign i (cur ++ ((n.follow[p]).take k).filter (behS n sign)) f S ∧ f 25 = encIs n.follow[p] ∧ f 26 = encI (n.follow[p]).length ∧ f 27 = encI k) ?_ ?_
  · exact ⟨by simpa using h, e25, e26, e27⟩
  · rintro k f S hk' ⟨h, e25, e26, e27⟩
    generalize hrow : n.follow[p] = row at *
    have e2 := h.e2
    have e0 := h.e0
    simp only [pNet, encNet, encIss] at e0
    by_cases hlt : k < row.length
    · have hat : 1 ≤ row[k] ∧ row[k] < n.by_.length := by subst hrow; exact follow_at R hp hlt
      have hge : (0 : Int) ≤ row[k] := by omega
      have hbl : (row[k]).toNat < n.by_.length := by omega
      have hby : n.by_[(row[k]).toNat]? = some n.by_[(row[k]).toNat] := List.getElem?_eq_getElem hbl
      have hbs : behS n sign row[k] = (n.by_[(row[k]).toNat]).contains sign := by simp [behS, List.getD_eq_getElem?_getD, hby]
      have kc := hc _ (List.getElem_mem hbl) sign
      have cc := cl_cons (Z33 n.by_[(row[k]).toNat]) (cl_cons (Z32 sign) cl_nil)
      simp only [encIs, encI] at kc cc
      have htk : row.take (k + 1) = row.take k ++ [row[k]] := by rw [List.take_add_one, List.getElem?_eq_getElem hlt]; rfl
      have hcl : (cur ++ (row.take k).filter (behS n sign)).length ≤ 200000000 := by
        have := List.length_filter_le (behS n sign) (row.take k)
        have : (row.take k).length ≤ k := by rw [List.length_take]; omega
        rw [List.length_append]; omega
      simp [Z0j, Z0e, Z0f, Z0b, Z0c, Z0k, Z0d, Z0h, Z0i, Z3a, Z39, Z08, Z0a, Z07, Z01, Z03, Z00, Z05, Z06, Z04, Z26, Z25, Z4q, Z4s, Z4r, Z4p, Z1u, Z1v, Z1t, Z40, Z3x, Z3z, Z3y, Z41, Z1s, Z2j, Z3d, Z4f, Z1k, Z1l, Z1m, Z4d, Z4e, Z1i, Z2i, Z1j, Z3v, Z3s, Z3u, Z3t, Z3w, Z4l, Z4k, Z0v, Z0w, Z0x, Z0u, Z1h, Z4w, Z4v, Z4x, Z4u, Z4t, ex, Z4n, Z4m, ev_t, ev_c, Z2h, Z2g, Z4y, Z4z, Z2x, Z2w, Z2q, Z2u, Z2v, Z2r, Z2s, Z2t, putc, exBslice, lfill, exField, exIdxV, exIdxP, exBox, exAlloc, exLoad, exStore, exFieldA, exIdxA, exLen, exPick, exUn, exBeq, exMM, exSeq, seqGo, exExt, binV, intOp, subc, AV.solid, S0, encI, encB, e25, e26, e27, e2, e0, hlt, encIs, hge, hby, exNil]
      refine CallR.pure kc cc (Z2z _) ?_
      rw [← hbs]
      cases hb : behS n sign row[k] with
      | false =>
        simp [Z0j, Z0e, Z0f, Z0b, Z0c, Z0k, Z0d, Z0h, Z0i, Z3a, Z39, Z08, Z0a, Z07, Z01, Z03, Z00, Z05, Z06, Z04, Z26, Z25, Z4q, Z4s, Z4r, Z4p, Z1u, Z1v, Z1t, Z40, Z3x, Z3z, Z3y, Z41, Z1s, Z2j, Z3d, Z4f, Z1k, Z1l, Z1m, Z4d, Z4e, Z1i, Z2i, Z1j, Z3v, Z3s, Z3u, Z3t, Z3w, Z4l, Z4k, Z0v, Z0w, Z0x, Z0u, Z1h, Z4w, Z4v, Z4x, Z4u, Z4t, ex, Z4n, Z4m, ev_t, ev_c, Z2h, Z2g, Z4y, Z4z, Z2x, Z2w, Z2q, Z2u, Z2v, Z2r, Z2s, Z2t, putc, exBslice, lfill, exField, exIdxV, exIdxP, exBox, exAlloc, exLoad, exStore, exFieldA, exIdxA, exLen, exPick, exUn, exBeq, exMM, exSeq, seqGo, exExt, binV, intOp, subc, AV.solid, S0, encI, encB, e25, e26, e27, e2, e0, hlt, encIs]
        rw [wrap_in _ (by omega)]
        refine ⟨hlt, ?_, ?_, ?_, ?_⟩
        · rw [htk, List.filter_append]
          simp only [List.filter_cons, hb, List.filter_nil, Bool.false_eq_true, if_false, List.append_nil]
          refine h.same (fun j hj => ?_) rfl
          rcases hj with rfl | rfl | rfl | rfl | rfl | rfl <;> simp [Z4n]
        · simp [Z4n, e25, encIs]
        · simp [Z4n, e26, encI]
        · simp [Z4n, encI]
      | true =>
        simp [Z0j, Z0e, Z0f, Z0b, Z0c, Z0k, Z0d, Z0h, Z0i, Z3a, Z39, Z08, Z0a, Z07, Z01, Z03, Z00, Z05, Z06, Z04, Z26, Z25, Z4q, Z4s, Z4r, Z4p, Z1u, Z1v, Z1t, Z40, Z3x, Z3z, Z3y, Z41, Z1s, Z2j, Z3d, Z4f, Z1k, Z1l, Z1m, Z4d, Z4e, Z1i, Z2i, Z1j, Z3v, Z3s, Z3u, Z3t, Z3w, Z4l, Z4k, Z0v, Z0w, Z0x, Z0u, Z1h, Z4w, Z4v, Z4x, Z4u, Z4t, ex, Z4n, Z4m, ev_t, ev_c, Z2h, Z2g, Z4y, Z4z, Z2x, Z2w, Z2q, Z2u, Z2v, Z2r, Z2s, Z2t, putc, exBslice, lfill, exField, exIdxV, exIdxP, exBox, exAlloc, exLoad, exStore, exFieldA, exIdxA, exLen, exPick, exUn, exBeq, exMM, exSeq, seqGo, exExt, binV, intOp, subc, AV.solid, S0, encI, encB, e25, e26, e27, e2, e0, hlt, encIs]
        rw [Vec.app (xs := (cur ++ (row.take k).filter (behS n sign)).map encI) (h.vec.frame (fun i hi => rfl)) (cells_I _) (by simp [AV.cells]) (appOk8 (by rw [List.length_map]; omega))]
        simp [Z0j, Z0e, Z0f, Z0b, Z0c, Z0k, Z0d, Z0h, Z0i, Z3a, Z39, Z08, Z0a, Z07, Z01, Z03, Z00, Z05, Z06, Z04, Z26, Z25, Z4q, Z4s, Z4r, Z4p, Z1u, Z1v, Z1t, Z40, Z3x, Z3z, Z3y, Z41, Z1s, Z2j, Z3d, Z4f, Z1k, Z1l, Z1m, Z4d, Z4e, Z1i, Z2i, Z1j, Z3v, Z3s, Z3u, Z3t, Z3w, Z4l, Z4k, Z0v, Z0w, Z0x, Z0u, Z1h, Z4w, Z4v, Z4x, Z4u, Z4t, ex, Z4n, Z4m, ev_t, ev_c, Z2h, Z2g, Z4y, Z4z, Z2x, Z2w, Z2q, Z2u, Z2v, Z2r, Z2s, Z2t, putc, exBslice, lfill, exField, exIdxV, exIdxP, exBox, exAlloc, exLoad, exStore, exFieldA, exIdxA, exLen, exPick, exUn, exBeq, exMM, exSeq, seqGo, exExt, binV, intOp, subc, AV.solid, S0, encI, encB, e25, e26, e27, e2, hlt, encIs, without_n]
        rw [wrap_in _ (by omega)]
        refine ⟨hlt, ⟨?_, ?_, ?_, ?_, ?_, ?_, ?_⟩, ?_, ?_, ?_⟩
        · simp [Z4n, h.e12]
        · simp [Z4n, h.e13]
        · simp [Z4n, h.e14]
        · simp [Z4n, h.e2, encI]
        · simp [Z4n, h.e0]
        · rw [htk, List.filter_append]
          simp only [List.filter_cons, hb, List.filter_nil, if_true]
          have hl1 : (cur ++ ((row.take k).filter (behS n sign) ++ [row[k]])).map encI = (cur ++ (row.take k).filter (behS n sign)).map encI ++ [encI row[k]] := by simp
          rw [hl1]
          simp only [Z4n, if_true]
          exact .mk' (by simp [Z4y, encI]) (by simp [Nat.add_assoc])
        · intro e
          rw [htk, List.filter_append] at e
          simp [hb] at e
        · simp [Z4n, e25, encIs]
        · simp [Z4n, e26, encI]
        · simp [Z4n, encI]
    · have : row.take k = row := List.take_of_length_le (by omega)
      rw [this] at h
      simp [Z0j, Z0e, Z0f, Z0b, Z0c, Z0k, Z0d, Z0h, Z0i, Z3a, Z39, Z08, Z0a, Z07, Z01, Z03, Z00, Z05, Z06, Z04, Z26, Z25, Z4q, Z4s, Z4r, Z4p, Z1u, Z1v, Z1t, Z40, Z3x, Z3z, Z3y, Z41, Z1s, Z2j, Z3d, Z4f, Z1k, Z1l, Z1m, Z4d, Z4e, Z1i, Z2i, Z1j, Z3v, Z3s, Z3u, Z3t, Z3w, Z4l, Z4k, Z0v, Z0w, Z0x, Z0u, Z1h, Z4w, Z4v, Z4x, Z4u, Z4t, ex, Z4n, Z4m, ev_t, ev_c, Z2h, Z2g, Z4y, Z4z, Z2x, Z2w, Z2q, Z2u, Z2v, Z2r, Z2s, Z2t, putc, exBslice, lfill, exField, exIdxV, exIdxP, exBox, exAlloc, exLoad, exStore, exFieldA, exIdxA, exLen, exPick, exUn, exBeq, exMM, exSeq, seqGo, exExt, binV, intOp, subc, AV.solid, S0, encI, encB, e25, e26, e27, hlt]
      refine hk _ _ (h.same (fun j hj => ?_) rfl)
      rcases hj with rfl | rfl | rfl | rfl | rfl | rfl <;> simp [Z4n]
structure HStep (P : Program) (fc fs fm : FuncId) : Prop where
  cont : ∀ (l : List Int) x, Len l → PureC P fc [encIs l, encI x] (encB (l.contains x))
  sort : HSort P fs
  comp : HComp P fm
  sort0 : PureC P fs [.sl true []] (.tup [])
  comp0 : PureC P fm [.sl true []] (.sl true [])
theorem det_step_body {P : Program} {fc fs fm : FuncId} {n : Net} (R : RightN n) (H : HStep P fc fs fm) (at_ : List Int) (hat : at_.length ≤ 3000) (hv : ∀ s ∈ at_, 0 ≤ s ∧ s < n.follow.length) (sign : Int) :
    AW P (c_det_maker_step fc fs fm) (RetK [6] fun r S => FzN S.g r (encIs (stepN n at_ sign))) (argF [pNet n, encIs at_, encI sign]) S0 := by
  have hfl : n.follow.length ≤ 301 := by have := R.len; have := R.n2; omega
  have hbl := behindL_len R sign at_
  have hcont : ∀ l ∈ n.by_, ∀ x, PureC P fc [encIs l, encI x] (encB (l.contains x)) := by
    intro l hl x
    refine H.cont l x ?_
    obtain ⟨j, hj, rfl⟩ := List.mem_iff_getElem.mp hl
    have := pw_len (R.by_ j hj).1 (R.by_ j hj).2
    have := R.s2
    unfold Len; omega
  simp [Z0j, Z0e, Z0f, Z0b, Z0c, Z0k, Z0d, Z0h, Z0i, Z3a, Z39, Z08, Z0a, Z07, Z01, Z03, Z00, Z05, Z06, Z04, Z26, Z25, Z4q, Z4s, Z4r, Z4p, Z1u, Z1v, Z1t, Z40, Z3x, Z3z, Z3y, Z41, Z1s, Z2j, Z3d, Z4f, Z1k, Z1l, Z1m, Z4d, Z4e, Z1i, Z2i, Z1j, Z3v, Z3s, Z3u, Z3t, Z3w, Z4l, Z4k, Z0v, Z0w, Z0x, Z0u, Z1h, Z4w, Z4v, Z4x, Z4u, Z4t, ex, Z4n, Z4m, ev_t, ev_c, Z2h, Z2g, Z4y, Z4z, Z2x, Z2w, Z2q, Z2u, Z2v, Z2r, Z2s, Z2t, putc, exBslice, lfill, exField, exIdxV, exIdxP, exBox, exAlloc, exLoad, exStore, exFieldA, exIdxA, exLen, exPick, exUn, exBeq, exMM, exSeq, seqGo, exExt, binV, intOp, subc, AV.solid, S0, encI, encB, c_det_maker_step, c_ds_out, encIs, pNet, encNet, encIss]
  refine AW_for at_.length (fun i f S => DsS n at_ sign i (behindL n (at_.take i) sign) f S) ?_ ?_
  · refine ⟨?_, ?_, ?_, ?_, ?_, ?_, fun _ => ?_⟩
    · simp [Z4n, Z2h, Z2g, encIs]
    · simp [Z4n, Z2h, Z2g, encI]
    · simp [Z4n, encI]
    · simp [Z4n, Z2h, Z2g, encI]
    · simp [Z4n, Z2h, pNet, encNet, encI, encIss, encIs]
    · simp [Z4n, behindL]; exact .nil
    · simp [Z4n]
  · rintro i f S hi h
    have e12 := h.e12
    have e13 := h.e13
    have e14 := h.e14
    have e0 := h.e0
    simp only [pNet, encNet, encIss] at e0
    by_cases hlt : i < at_.length
    · have htk := behindL_take (n := n) (sign := sign) hlt
      have hcur : (behindL n (at_.take i) sign).length ≤ 100000000 := by
        have := behindL_len R sign (at_.take i)
        have : (at_.take i).length ≤ at_.length := by rw [List.length_take]; omega
        omega
      have hvi := hv _ (List.getElem_mem hlt)
      have hp : (at_[i]).toNat < n.follow.length := by omega
      have hge : (0 : Int) ≤ at_[i] := by omega
      have hgf : n.follow[(at_[i]).toNat]? = some n.follow[(at_[i]).toNat] := List.getElem?_eq_getElem hp
      have hb1 : behind1 n sign at_[i] = (n.follow[(at_[i]).toNat]).filter (behS n sign) := by
        unfold behind1
        rw [if_pos (by omega), List.getD_eq_getElem?_getD, hgf]; rfl
      simp [Z0j, Z0e, Z0f, Z0b, Z0c, Z0k, Z0d, Z0h, Z0i, Z3a, Z39, Z08, Z0a, Z07, Z01, Z03, Z00, Z05, Z06, Z04, Z26, Z25, Z4q, Z4s, Z4r, Z4p, Z1u, Z1v, Z1t, Z40, Z3x, Z3z, Z3y, Z41, Z1s, Z2j, Z3d, Z4f, Z1k, Z1l, Z1m, Z4d, Z4e, Z1i, Z2i, Z1j, Z3v, Z3s, Z3u, Z3t, Z3w, Z4l, Z4k, Z0v, Z0w, Z0x, Z0u, Z1h, Z4w, Z4v, Z4x, Z4u, Z4t, ex, Z4n, Z4m, ev_t, ev_c, Z2h, Z2g, Z4y, Z4z, Z2x, Z2w, Z2q, Z2u, Z2v, Z2r, Z2s, Z2t, putc, exBslice, lfill, exField, exIdxV, exIdxP, exBox, exAlloc, exLoad, exStore, exFieldA, exIdxA, exLen, exPick, exUn, exBeq, exMM, exSeq, seqGo, exExt, binV, intOp, subc, AV.solid, S0, encI, encB, e12, e13, e14, e0, hlt, encIs, hge, hgf, exNil]
      refine ds_in R hcont hp hcur (h.same (fun j hj => ?_) rfl) ?_ ?_ ?_ (fun f' S' h' => ?_)
      · rcases hj with rfl | rfl | rfl | rfl | rfl | rfl <;> simp [Z4n]
      · simp [Z4n, encIs]
      · simp [Z4n, encI]
      · simp [Z4n, encI]
      · have e14' := h'.e14
        simp [Z0j, Z0e, Z0f, Z0b, Z0c, Z0k, Z0d, Z0h, Z0i, Z3a, Z39, Z08, Z0a, Z07, Z01, Z03, Z00, Z05, Z06, Z04, Z26, Z25, Z4q, Z4s, Z4r, Z4p, Z1u, Z1v, Z1t, Z40, Z3x, Z3z, Z3y, Z41, Z1s, Z2j, Z3d, Z4f, Z1k, Z1l, Z1m, Z4d, Z4e, Z1i, Z2i, Z1j, Z3v, Z3s, Z3u, Z3t, Z3w, Z4l, Z4k, Z0v, Z0w, Z0x, Z0u, Z1h, Z4w, Z4v, Z4x, Z4u, Z4t, ex, Z4n, Z4m, ev_t, ev_c, Z2h, Z2g, Z4y, Z4z, Z2x, Z2w, Z2q, Z2u, Z2v, Z2r, Z2s, Z2t, putc, exBslice, lfill, exField, exIdxV, exIdxP, exBox, exAlloc, exLoad, exStore, exFieldA, exIdxA, exLen, exPick, exUn, exBeq, exMM, exSeq, seqGo, exExt, binV, intOp, subc, AV.solid, S0, encI, encB, e14']
        rw [wrap_in _ (by omega)]
        refine ⟨hlt, ?_⟩
        show DsS n at_ sign (i + 1) (behindL n (at_.take (i + 1)) sign) _ _
        rw [htk, hb1]
        refine ⟨?_, ?_, ?_, ?_, ?_, ?_, fun e => ?_⟩
        · simp [Z4n, h'.e12]
        · simp [Z4n, h'.e13]
        · simp [Z4n, encI]
        · simp [Z4n, h'.e2]
        · simp [Z4n, h'.e0]
        · rw [Z4n, if_neg (by decide), Z4n, if_neg (by decide)]; exact h'.vec
        · rw [Z4n, if_neg (by decide), Z4n, if_neg (by decide)]; exact h'.nil e
    · have htk : at_.take i = at_ := List.take_of_length_le (by omega)
      rw [htk] at h
      rcases h.vec with ⟨hv7, hl0⟩ | ⟨id, off, ys, hv7, hg7, ho, hd⟩
      · have hb0 : behindL n at_ sign = [] := by simpa using hl0
        have hs0 : stepN n at_ sign = [] := by
          unfold stepN
          rw [hb0]
          exact List.eq_nil_of_length_eq_zero (by have := setF_len []; simpa using this)
        simp [Z0j, Z0e, Z0f, Z0b, Z0c, Z0k, Z0d, Z0h, Z0i, Z3a, Z39, Z08, Z0a, Z07, Z01, Z03, Z00, Z05, Z06, Z04, Z26, Z25, Z4q, Z4s, Z4r, Z4p, Z1u, Z1v, Z1t, Z40, Z3x, Z3z, Z3y, Z41, Z1s, Z2j, Z3d, Z4f, Z1k, Z1l, Z1m, Z4d, Z4e, Z1i, Z2i, Z1j, Z3v, Z3s, Z3u, Z3t, Z3w, Z4l, Z4k, Z0v, Z0w, Z0x, Z0u, Z1h, Z4w, Z4v, Z4x, Z4u, Z4t, ex, Z4n, Z4m, ev_t, ev_c, Z2h, Z2g, Z4y, Z4z, Z2x, Z2w, Z2q, Z2u, Z2v, Z2r, Z2s, Z2t, putc, exBslice, lfill, exField, exIdxV, exIdxP, exBox, exAlloc, exLoad, exStore, exFieldA, exIdxA, exLen, exPick, exUn, exBeq, exMM, exSeq, seqGo, exExt, binV, intOp, subc, AV.solid, S0, encI, encB, e12, e13, e14, hlt, hv7]
        refine CallR.pure H.sort0 (cl_cons (.sl _ _ (by simp)) cl_nil) (.tup _ (by simp)) ?_
        simp [Z0j, Z0e, Z0f, Z0b, Z0c, Z0k, Z0d, Z0h, Z0i, Z3a, Z39, Z08, Z0a, Z07, Z01, Z03, Z00, Z05, Z06, Z04, Z26, Z25, Z4q, Z4s, Z4r, Z4p, Z1u, Z1v, Z1t, Z40, Z3x, Z3z, Z3y, Z41, Z1s, Z2j, Z3d, Z4f, Z1k, Z1l, Z1m, Z4d, Z4e, Z1i, Z2i, Z1j, Z3v, Z3s, Z3u, Z3t, Z3w, Z4l, Z4k, Z0v, Z0w, Z0x, Z0u, Z1h, Z4w, Z4v, Z4x, Z4u, Z4t, ex, Z4n, Z4m, ev_t, ev_c, Z2h, Z2g, Z4y, Z4z, Z2x, Z2w, Z2q, Z2u, Z2v, Z2r, Z2s, Z2t, putc, exBslice, lfill, exField, exIdxV, exIdxP, exBox, exAlloc, exLoad, exStore, exFieldA, exIdxA, exLen, exPick, exUn, exBeq, exMM, exSeq, seqGo, exExt, binV, intOp, subc, AV.solid, S0, encI, encB, hv7]
        refine CallR.pure H.comp0 (cl_cons (.sl _ _ (by simp)) cl_nil) (.sl _ _ (by simp)) ?_
        simp [Z0j, Z0e, Z0f, Z0b, Z0c, Z0k, Z0d, Z0h, Z0i, Z3a, Z39, Z08, Z0a, Z07, Z01, Z03, Z00, Z05, Z06, Z04, Z26, Z25, Z4q, Z4s, Z4r, Z4p, Z1u, Z1v, Z1t, Z40, Z3x, Z3z, Z3y, Z41, Z1s, Z2j, Z3d, Z4f, Z1k, Z1l, Z1m, Z4d, Z4e, Z1i, Z2i, Z1j, Z3v, Z3s, Z3u, Z3t, Z3w, Z4l, Z4k, Z0v, Z0w, Z0x, Z0u, Z1h, Z4w, Z4v, Z4x, Z4u, Z4t, ex, Z4n, Z4m, ev_t, ev_c, Z2h, Z2g, Z4y, Z4z, Z2x, Z2w, Z2q, Z2u, Z2v, Z2r, Z2s, Z2t, putc, exBslice, lfill, exField, exIdxV, exIdxP, exBox, exAlloc, exLoad, exStore, exFieldA, exIdxA, exLen, exPick, exUn, exBeq, exMM, exSeq, seqGo, exExt, binV, intOp, subc, AV.solid, S0, encI, encB, hs0]
        exact .nil true false (by simp)
      · have hb0 : behindL n at_ sign ≠ [] := by
          intro e
          have := h.nil e
          rw [this] at hv7; cases hv7
        have hm : ((behindL n at_ sign).mergeSort fun x y => decide (x ≤ y)).length = (behindL n at_ sign).length := List.length_mergeSort _
        have hne2 : ((behindL n at_ sign).mergeSort fun x y => decide (x ≤ y)) ≠ [] := by
          intro e; rw [e] at hm; exact hb0 (List.eq_nil_of_length_eq_zero hm.symm)
        rw [List.length_map] at hv7
        simp [Z0j, Z0e, Z0f, Z0b, Z0c, Z0k, Z0d, Z0h, Z0i, Z3a, Z39, Z08, Z0a, Z07, Z01, Z03, Z00, Z05, Z06, Z04, Z26, Z25, Z4q, Z4s, Z4r, Z4p, Z1u, Z1v, Z1t, Z40, Z3x, Z3z, Z3y, Z41, Z1s, Z2j, Z3d, Z4f, Z1k, Z1l, Z1m, Z4d, Z4e, Z1i, Z2i, Z1j, Z3v, Z3s, Z3u, Z3t, Z3w, Z4l, Z4k, Z0v, Z0w, Z0x, Z0u, Z1h, Z4w, Z4v, Z4x, Z4u, Z4t, ex, Z4n, Z4m, ev_t, ev_c, Z2h, Z2g, Z4y, Z4z, Z2x, Z2w, Z2q, Z2u, Z2v, Z2r, Z2s, Z2t, putc, exBslice, lfill, exField, exIdxV, exIdxP, exBox, exAlloc, exLoad, exStore, exFieldA, exIdxA, exLen, exPick, exUn, exBeq, exMM, exSeq, seqGo, exExt, binV, intOp, subc, AV.solid, S0, encI, encB, e12, e13, e14, hlt, hv7]
        refine H.sort _ _ off ys (behindL n at_ sign) _ hg7 hd hb0 (by omega) ?_
        simp [Z0j, Z0e, Z0f, Z0b, Z0c, Z0k, Z0d, Z0h, Z0i, Z3a, Z39, Z08, Z0a, Z07, Z01, Z03, Z00, Z05, Z06, Z04, Z26, Z25, Z4q, Z4s, Z4r, Z4p, Z1u, Z1v, Z1t, Z40, Z3x, Z3z, Z3y, Z41, Z1s, Z2j, Z3d, Z4f, Z1k, Z1l, Z1m, Z4d, Z4e, Z1i, Z2i, Z1j, Z3v, Z3s, Z3u, Z3t, Z3w, Z4l, Z4k, Z0v, Z0w, Z0x, Z0u, Z1h, Z4w, Z4v, Z4x, Z4u, Z4t, ex, Z4n, Z4m, ev_t, ev_c, Z2h, Z2g, Z4y, Z4z, Z2x, Z2w, Z2q, Z2u, Z2v, Z2r, Z2s, Z2t, putc, exBslice, lfill, exField, exIdxV, exIdxP, exBox, exAlloc, exLoad, exStore, exFieldA, exIdxA, exLen, exPick, exUn, exBeq, exMM, exSeq, seqGo, exExt, binV, intOp, subc, AV.solid, S0, encI, encB, hv7]
        rw [← hm]
        have hto : (ys.take off).length = off := by rw [List.length_take]; omega
        refine H.comp _ _ off (ys.take off ++ ((behindL n at_ sign).mergeSort fun x y => decide (x ≤ y)).map encI) _ _ (by simp [Z4y]) (by rw [List.drop_left' hto]) hne2 (by omega) ?_
        simp [Z0j, Z0e, Z0f, Z0b, Z0c, Z0k, Z0d, Z0h, Z0i, Z3a, Z39, Z08, Z0a, Z07, Z01, Z03, Z00, Z05, Z06, Z04, Z26, Z25, Z4q, Z4s, Z4r, Z4p, Z1u, Z1v, Z1t, Z40, Z3x, Z3z, Z3y, Z41, Z1s, Z2j, Z3d, Z4f, Z1k, Z1l, Z1m, Z4d, Z4e, Z1i, Z2i, Z1j, Z3v, Z3s, Z3u, Z3t, Z3w, Z4l, Z4k, Z0v, Z0w, Z0x, Z0u, Z1h, Z4w, Z4v, Z4x, Z4u, Z4t, ex, Z4n, Z4m, ev_t, ev_c, Z2h, Z2g, Z4y, Z4z, Z2x, Z2w, Z2q, Z2u, Z2v, Z2r, Z2s, Z2t, putc, exBslice, lfill, exField, exIdxV, exIdxP, exBox, exAlloc, exLoad, exStore, exFieldA, exIdxA, exLen, exPick, exUn, exBeq, exMM, exSeq, seqGo, exExt, binV, intOp, subc, AV.solid, S0, encI, encB]
        refine Vec.fzN (es := 1) (.inr ⟨id, off, ys.take off ++ (setF (behindL n at_ sign)).map encI, ?_, ?_, ?_, ?_⟩)
        · simp [stepN, setF]
        · rw [List.take_left' hto]; simp [Z4y, setF]
        · simp [hto]
        · rw [List.drop_left' hto]; rfl
def endsB (n : Net) (set : List Int) : Bool := set.any fun s => n.last.contains s
theorem det_ends_1_body {P : Program} {fc : FuncId} (n : Net) (s : Int) (hc : PureC P fc [encIs n.last, encI s] (encB (n.last.contains s))) : AW P (c_det_maker_ends_1 fc) (RetK [3] (FzK (encB (n.last.contains s)))) (argF [encI s, .eptr (pNet n) 0]) S0 := by
  simp [Z0j, Z0e, Z0f, Z0b, Z0c, Z0k, Z0d, Z0h, Z0i, Z3a, Z39, Z08, Z0a, Z07, Z01, Z03, Z00, Z05, Z06, Z04, Z26, Z25, Z4q, Z4s, Z4r, Z4p, Z1u, Z1v, Z1t, Z40, Z3x, Z3z, Z3y, Z41, Z1s, Z2j, Z3d, Z4f, Z1k, Z1l, Z1m, Z4d, Z4e, Z1i, Z2i, Z1j, Z3v, Z3s, Z3u, Z3t, Z3w, Z4l, Z4k, Z0v, Z0w, Z0x, Z0u, Z1h, Z4w, Z4v, Z4x, Z4u, Z4t, ex, Z4n, Z4m, ev_t, ev_c, Z2h, Z2g, Z4y, Z4z, Z2x, Z2w, Z2q, Z2u, Z2v, Z2r, Z2s, Z2t, putc, exBslice, lfill, exField, exIdxV, exIdxP, exBox, exAlloc, exLoad, exStore, exFieldA, exIdxA, exLen, exPick, exUn, exBeq, exMM, exSeq, seqGo, exExt, binV, intOp, subc, AV.solid, S0, encI, encB, c_det_maker_ends_1, pNet, encNet, exNil]
  refine CallR.pure hc (cl_cons (Z33 _) (cl_cons (Z32 _) cl_nil)) (Z2z _) ?_
  simp [Z0j, Z0e, Z0f, Z0b, Z0c, Z0k, Z0d, Z0h, Z0i, Z3a, Z39, Z08, Z0a, Z07, Z01, Z03, Z00, Z05, Z06, Z04, Z26, Z25, Z4q, Z4s, Z4r, Z4p, Z1u, Z1v, Z1t, Z40, Z3x, Z3z, Z3y, Z41, Z1s, Z2j, Z3d, Z4f, Z1k, Z1l, Z1m, Z4d, Z4e, Z1i, Z2i, Z1j, Z3v, Z3s, Z3u, Z3t, Z3w, Z4l, Z4k, Z0v, Z0w, Z0x, Z0u, Z1h, Z4w, Z4v, Z4x, Z4u, Z4t, ex, Z4n, Z4m, ev_t, ev_c, Z2h, Z2g, Z4y, Z4z, Z2x, Z2w, Z2q, Z2u, Z2v, Z2r, Z2s, Z2t, putc, exBslice, lfill, exField, exIdxV, exIdxP, exBox, exAlloc, exLoad, exStore, exFieldA, exIdxA, exLen, exPick, exUn, exBeq, exMM, exSeq, seqGo, exExt, binV, intOp, subc, AV.solid, S0, encI, encB]
  exact FzK_B _ _
theorem closed_pNet (n : Net) : Closed (pNet n) := .eptr _ _ (closed_Net n)
theorem det_ends_body {P : Program} {f1 fcf : FuncId} (n : Net) (set : List Int) (hcf : PureC P fcf [encIs set, .clo f1 [] [.eptr (pNet n) 0]] (encB (endsB n set))) :
    AW P (c_det_maker_ends f1 fcf) (RetK [4] (FzK (encB (endsB n set)))) (argF [pNet n, encIs set]) S0 := by
  have h1 : (pNet n).solid = true := rfl
  have h2 : (pNet n).cells = [pNet n] := rfl
  simp only [AV.solid] at h1
  simp [Z0j, Z0e, Z0f, Z0b, Z0c, Z0k, Z0d, Z0h, Z0i, Z3a, Z39, Z08, Z0a, Z07, Z01, Z03, Z00, Z05, Z06, Z04, Z26, Z25, Z4q, Z4s, Z4r, Z4p, Z1u, Z1v, Z1t, Z40, Z3x, Z3z, Z3y, Z41, Z1s, Z2j, Z3d, Z4f, Z1k, Z1l, Z1m, Z4d, Z4e, Z1i, Z2i, Z1j, Z3v, Z3s, Z3u, Z3t, Z3w, Z4l, Z4k, Z0v, Z0w, Z0x, Z0u, Z1h, Z4w, Z4v, Z4x, Z4u, Z4t, ex, Z4n, Z4m, ev_t, ev_c, Z2h, Z2g, Z4y, Z4z, Z2x, Z2w, Z2q, Z2u, Z2v, Z2r, Z2s, Z2t, putc, exBslice, lfill, exField, exIdxV, exIdxP, exBox, exAlloc, exLoad, exStore, exFieldA, exIdxA, exLen, exPick, exUn, exBeq, exMM, exSeq, seqGo, exExt, binV, intOp, subc, AV.solid, S0, encI, encB, c_det_maker_ends, h1, h2]
  refine CallR.looks hcf (FzL.cons (.closed _ (Z33 _)) (FzL.cons (.clo0 (FzL.cons (.box _ _ 1 (pNet n) _ ?_ (.closed _ (closed_pNet n))) FzL.nil)) FzL.nil)) (plain_B _) ?_
  · simp [Z4y]
  · simp [Z0j, Z0e, Z0f, Z0b, Z0c, Z0k, Z0d, Z0h, Z0i, Z3a, Z39, Z08, Z0a, Z07, Z01, Z03, Z00, Z05, Z06, Z04, Z26, Z25, Z4q, Z4s, Z4r, Z4p, Z1u, Z1v, Z1t, Z40, Z3x, Z3z, Z3y, Z41, Z1s, Z2j, Z3d, Z4f, Z1k, Z1l, Z1m, Z4d, Z4e, Z1i, Z2i, Z1j, Z3v, Z3s, Z3u, Z3t, Z3w, Z4l, Z4k, Z0v, Z0w, Z0x, Z0u, Z1h, Z4w, Z4v, Z4x, Z4u, Z4t, ex, Z4n, Z4m, ev_t, ev_c, Z2h, Z2g, Z4y, Z4z, Z2x, Z2w, Z2q, Z2u, Z2v, Z2r, Z2s, Z2t, putc, exBslice, lfill, exField, exIdxV, exIdxP, exBox, exAlloc, exLoad, exStore, exFieldA, exIdxA, exLen, exPick, exUn, exBeq, exMM, exSeq, seqGo, exExt, binV, intOp, subc, AV.solid, S0, encI, encB]
    exact FzK_B _ _
end Go.Rf

