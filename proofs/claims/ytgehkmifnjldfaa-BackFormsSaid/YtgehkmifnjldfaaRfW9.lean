import Derived.Test.YtgehkmifnjldfaaRfR12
import Derived.Test.YtgehkmifnjldfaaRfW7
/- Own work: how much a book is. -/
set_option linter.unusedVariables false
set_option linter.unusedSimpArgs false
namespace Go.Rf
open Go.RowKit

def c_wp_loop (f_caesuraref08_Weight : FuncId) : AC :=
  (.block 0 (.loop (.seq (.seq (.reg none [
     ⟨(some 17), .mv (.t 6), none, none⟩,
     ⟨(some 18), .fieldA 3 (.t 2), none, none⟩,
     ⟨(some 19), .load none (.t 18), none, none⟩,
     ⟨(some 20), .len (.t 19), none, none⟩,
     ⟨(some 21), .bin .lss (.t 17) (.t 20), none, none⟩,
     ⟨(some 22), .mv (.t 21), none, none⟩,
     ⟨(some 23), .mv (.t 5), (some (22, true)), none⟩,
     ⟨(some 24), .bin .leq (.t 23) (.c (.v (.int .i64 2000))), (some (22, true)), none⟩,
     ⟨(some 25), .pick (.t 22) (.t 24) (.c (.v (.bool false))), none, none⟩])
    (.cond (.t 25) .skip (.exit 0)))
    (.seq (.block 1 (.reg none [
      ⟨(some 28), .mv (.t 5), none, none⟩,
      ⟨(some 29), .fieldA 3 (.t 2), none, none⟩,
      ⟨(some 30), .load none (.t 29), none, none⟩,
      ⟨(some 31), .mv (.t 6), none, none⟩,
      ⟨(some 32), .idxA 4 (.t 30) (.t 31), none, none⟩,
      ⟨(some 33), .load (some 4) (.t 32), none, none⟩,
      ⟨(some 34), .mv (.t 1), none, none⟩,
      ⟨(some 35), .bin .add (.t 34) (.c (.v (.int .i64 1))), none, none⟩,
      ⟨(some 36), .mv (.c .junk), none, (some ((.c (.clo f_caesuraref08_Weight [] [])), [(.t 33), (.t 35)]))⟩,
      ⟨(some 37), .bin .add (.t 28) (.t 36), none, none⟩,
      ⟨(some 5), .mv (.t 37), none, none⟩]))
    (.reg none [
     ⟨(some 26), .mv (.t 6), none, none⟩,
     ⟨(some 27), .bin .add (.t 26) (.c (.v (.int .i64 1))), none, none⟩,
     ⟨(some 6), .mv (.t 27), none, none⟩])))))
def c_caesuraref08_Weight (f_caesuraref08_Weight : FuncId) : AC :=
  (.seq (.reg none [
   ⟨(some 2), .box 4 (.t 0), none, none⟩,
   ⟨(some 4), .mv (.c (.v (.int .i64 0))), none, none⟩])
  (.seq (.reg none [
   ⟨(some 7), .fieldA 1 (.t 2), none, none⟩,
   ⟨(some 8), .load none (.t 7), none, none⟩,
   ⟨(some 9), .len (.t 8), none, none⟩,
   ⟨(some 10), .bin .add (.c (.v (.int .i64 1))) (.t 9), none, none⟩,
   ⟨(some 11), .fieldA 2 (.t 2), none, none⟩,
   ⟨(some 12), .load none (.t 11), none, none⟩,
   ⟨(some 13), .len (.t 12), none, none⟩,
   ⟨(some 14), .bin .add (.t 10) (.t 13), none, none⟩,
   ⟨(some 5), .mv (.t 14), none, none⟩])
  (.seq (.seq (.reg none [
   ⟨(some 15), .mv (.t 1), none, none⟩,
   ⟨(some 16), .bin .gtr (.t 15) (.c (.v (.int .i64 100))), none, none⟩])
  (.cond (.t 16) (.seq (.reg none [
    ⟨(some 4), .mv (.c (.v (.int .i64 3000))), none, none⟩])
   .ret) .skip))
  (.seq (.seq (.reg none [
   ⟨(some 6), .mv (.c (.v (.int .i64 0))), none, none⟩])
  (c_wp_loop f_caesuraref08_Weight))
  (.seq (.reg none [
   ⟨(some 38), .mv (.t 5), none, none⟩,
   ⟨(some 4), .mv (.t 38), none, none⟩])
  .ret)))))
/-! ### sums that end when they are more than most -/
def sumW (most : Int) : Int → List Int → Int
  | s, [] => s
  | s, w :: ws => if s ≤ most then sumW most (s + w) ws else s
theorem sumW_bd {most B M : Int} (hM : most + B ≤ M) : ∀ {ws : List Int} {s : Int}, (∀ w ∈ ws, 0 ≤ w ∧ w ≤ B) → s ≤ M → s ≤ sumW most s ws ∧ sumW most s ws ≤ M
  | [], s, _, hs => ⟨Int.le_refl _, hs⟩
  | w :: ws, s, h, hs => by
    have hw := h w (by simp)
    simp only [sumW]
    split
    · have := sumW_bd hM (ws := ws) (s := s + w) (fun x hx => h x (by simp [hx])) (by omega)
      omega
    · exact ⟨Int.le_refl _, hs⟩
theorem sumW_all {most : Int} : ∀ {ws : List Int} {s : Int}, (∀ w ∈ ws, 0 ≤ w) → sumW most s ws ≤ most → s ≤ most ∧ (∀ w ∈ ws, w ≤ most - s) ∧ s + ws.sum ≤ most
  | [], s, _, h => by simp only [sumW] at h; simp; exact h
  | w :: ws, s, h0, h => by
    simp only [sumW] at h
    have hw := h0 w (by simp)
    split at h
    · rename_i hs
      obtain ⟨h1, h2, h3⟩ := sumW_all (ws := ws) (s := s + w) (fun x hx => h0 x (by simp [hx])) h
      refine ⟨hs, fun x hx => ?_, by simp; omega⟩
      rcases List.mem_cons.mp hx with rfl | hx
      · omega
      · have := h2 x hx; omega
    · omega
theorem sumW_drop {most s : Int} {ws : List Int} {i : Nat} (h : i < ws.length) (hs : s ≤ most) : sumW most s (ws.drop i) = sumW most (s + ws[i]) (ws.drop (i + 1)) := by
  rw [List.drop_eq_getElem_cons h, sumW, if_pos hs]
theorem sumW_stop {most s : Int} {ws : List Int} (hs : ¬ s ≤ most) : sumW most s ws = s := by cases ws with
  | nil => rfl
  | cons w ws => rw [sumW, if_neg hs]
theorem sum_len : ∀ (ws : List Int), (∀ w ∈ ws, 1 ≤ w) → (ws.length : Int) ≤ ws.sum
  | [], _ => by simp
  | w :: ws, h => by have := sum_len ws (fun x hx => h x (by simp [hx])); have := h w (by simp); simp; omega
/-! ### forms -/
mutual
def wgtP : Pat → Int → Int
  | .mk _ s g ks, d => if 100 < d then 3000 else wgtPs ks (d + 1) (1 + s.length + g.length)
def wgtPs : List Pat → Int → Int → Int
  | [], _, s => s
  | p :: ps, d, s => if s ≤ 2000 then wgtPs ps d (s + wgtP p d) else s
end
theorem wgtPs_eq : ∀ (ks : List Pat) (d s : Int), wgtPs ks d s = sumW 2000 s (ks.map (wgtP · d))
  | [], _, _ => by simp [wgtPs, sumW]
  | p :: ps, d, s => by simp [wgtPs, sumW, wgtPs_eq ps]
mutual
def goodP : Pat → Prop
  | .mk _ s g ks => Len s ∧ Len g ∧ Len ks ∧ goodPs ks
def goodPs : List Pat → Prop
  | [] => True
  | p :: ps => goodP p ∧ goodPs ps
end
mutual
theorem wgtP_bd : ∀ (p : Pat) (d : Int), goodP p → d ≤ 101 → 1 ≤ wgtP p d ∧ wgtP p d ≤ 400000000000000 + 3000 * (101 - d)
  | .mk k s g ks, d, h, hd => by
    simp only [goodP, Len] at h
    obtain ⟨h1, h2, h3, h4⟩ := h
    rw [wgtP]
    split
    · omega
    · have := wgtPs_bd ks (d + 1) h4 (by omega)
      rw [wgtPs_eq]
      have := sumW_bd (most := 2000) (B := 400000000000000 + 3000 * (101 - (d + 1))) (M := 400000000000000 + 3000 * (101 - d)) (by omega) (ws := ks.map (wgtP · (d + 1))) (s := 1 + s.length + g.length) (fun w hw => by
        obtain ⟨q, hq, rfl⟩ := List.mem_map.mp hw
        have := this q hq; omega) (by omega)
      omega
theorem wgtPs_bd : ∀ (ks : List Pat) (d : Int), goodPs ks → d ≤ 101 → ∀ q ∈ ks, 1 ≤ wgtP q d ∧ wgtP q d ≤ 400000000000000 + 3000 * (101 - d)
  | [], _, _, _, q, hq => by simp at hq
  | p :: ps, d, h, hd, q, hq => by
    simp only [goodPs] at h
    rcases List.mem_cons.mp hq with e | hq
    · rw [e]; exact wgtP_bd p d h.1 hd
    · exact wgtPs_bd ps d h.2 hd q hq
end
/- What a weight that is no more than 2000 tells. -/
mutual
theorem wgtP_small : ∀ (p : Pat) (d : Int), goodP p → d ≤ 101 → wgtP p d ≤ 2000 → PatS p ∧ p.set.length ≤ 2000 ∧ p.signs.length ≤ 2000 ∧ p.kids.length ≤ 2000
  | .mk k s g ks, d, h, hd, hw => by
    simp only [goodP] at h
    obtain ⟨h1, h2, h3, h4⟩ := h
    rw [wgtP] at hw
    split at hw
    · omega
    · rename_i hd2
      rw [wgtPs_eq] at hw
      have hb := wgtPs_bd ks (d + 1) h4 (by omega)
      have hpos : ∀ w ∈ ks.map (wgtP · (d + 1)), 1 ≤ w := fun w hw => by
        obtain ⟨q, hq, rfl⟩ := List.mem_map.mp hw
        exact (hb q hq).1
      obtain ⟨a1, a2, a3⟩ := sumW_all (fun w hw => by have := hpos w hw; omega) hw
      have a4 := sum_len _ hpos
      rw [List.length_map] at a4
      simp only [PatS, Pat.set, Pat.signs, Pat.kids]
      refine ⟨⟨by omega, by omega, PatsS_of fun q hq => ?_⟩, by omega, by omega, by omega⟩
      exact wgtPs_small ks (d + 1) h4 (by omega) (fun q hq => by have := a2 _ (List.mem_map_of_mem hq); omega) q hq
theorem wgtPs_small : ∀ (ks : List Pat) (d : Int), goodPs ks → d ≤ 101 → (∀ q ∈ ks, wgtP q d ≤ 2000) → ∀ q ∈ ks, PatS q
  | [], _, _, _, _, q, hq => by simp at hq
  | p :: ps, d, h, hd, hw, q, hq => by
    simp only [goodPs] at h
    rcases List.mem_cons.mp hq with e | hq
    · rw [e]; exact (wgtP_small p d h.1 hd (hw p (by simp))).1
    · exact wgtPs_small ps d h.2 hd (fun q hq => hw q (by simp [hq])) q hq
end
def WpI (p : Pat) (d : Int) (T : Int) (i : Nat) (f : AF) (S : St) : Prop :=
  f 1 = encI d ∧ f 2 = .ptr 0 0 0 ∧ f 6 = encI i ∧ S.g 0 = some (.arr 4 [encPat p]) ∧ ∃ s : Int, f 5 = encI s ∧ sumW 2000 s ((p.kids.map (wgtP · (d + 1))).drop i) = T ∧ 0 ≤ s ∧ s ≤ 500000000000000
theorem wp_loop {P : Program} {fw : FuncId} {p : Pat} {d T : Int} (hk : Len p.kids) (hd : -1 ≤ d ∧ d ≤ 100) (h : ∀ q ∈ p.kids, PureC P fw [encPat q, encI (d + 1)] (encI (wgtP q (d + 1)))) (hb : ∀ q ∈ p.kids, 1 ≤ wgtP q (d + 1) ∧ wgtP q (d + 1) ≤ 410000000000000)
    {f : AF} {S : St} {Q : Exit → AF → St → Prop} (h0 : WpI p d T 0 f S) (hQ : ∀ f' S', f' 5 = encI T → Q .normal f' S') : AW P (c_wp_loop fw) Q f S := by
  unfold Len at hk
  obtain ⟨k, ps, pg, ks⟩ := p
  simp only [Pat.kids] at *
  have hcells : encPat (.mk k ps pg ks) = .agg [encI k, encRs ps, encIs pg, .sl false (ks.map encPat)] := encPat_eq k ps pg ks
  simp [Z0h, Z0c, Z0d, Z09, Z0a, Z0i, Z0b, Z0f, Z0g, Z2z, Z2y, Z07, Z08, Z06, Z01, Z02, Z00, Z04, Z05, Z03, Z1z, Z1y, Z46, Z48, Z47, Z45, Z1n, Z1o, Z1m, Z3n, Z3k, Z3m, Z3l, Z3o, Z1l, Z29, Z32, Z3x, Z1i, Z1j, Z1k, Z3v, Z3w, Z1g, Z28, Z1h, Z3i, Z3f, Z3h, Z3g, Z3j, Z41, Z40, Z0t, Z0u, Z0v, Z0s, Z1f, Z4c, Z4b, Z4d, Z4a, Z49, ex, Z43, Z42, ev_t, ev_c, Z27, Z26, Z4e, Z4f, Z2m, Z2l, Z2f, Z2j, Z2k, Z2g, Z2h, Z2i, putc, exBslice, lfill, exField, exIdxV, exIdxP, exBox, exAlloc, exLoad, exStore, exFieldA, exIdxA, exLen, exPick, exUn, exBeq, exMM, exSeq, seqGo, exExt, binV, intOp, subc, AV.solid, S0, encI, encB, c_wp_loop]
  refine AW_for ks.length (WpI (.mk k ps pg ks) d T) h0 ?_
  rintro i f S hi ⟨e1, e2, e6, g0, s, e5, hT, hs0, hs1⟩
  rw [hcells] at g0
  simp only [Pat.kids] at hT
  by_cases hlt : i < ks.length
  · have hg : ks[i]? = some ks[i] := List.getElem?_eq_getElem hlt
    have hq := h _ (List.getElem_mem hlt)
    have hbq := hb _ (List.getElem_mem hlt)
    have hc := closed_Pat ks[i]
    obtain ⟨x1, x2, x3, x4, hx⟩ : ∃ x1 x2 x3 x4 : AV, encPat ks[i] = .agg [x1, x2, x3, x4] := by
      obtain ⟨k, s, g, ks⟩ := ks[i]; rw [encPat_eq]; exact ⟨_, _, _, _, rfl⟩
    rw [hx] at hq hc
    by_cases hle : s ≤ 2000
    · rw [sumW_drop (by simpa using hlt) hle] at hT
      simp only [List.getElem_map] at hT
      generalize wgtP ks[i] (d + 1) = w at *
      simp only [encI] at hq
      have hw := wrap_in (d + 1) (by omega)
      simp [Z0h, Z0c, Z0d, Z09, Z0a, Z0i, Z0b, Z0f, Z0g, Z2z, Z2y, Z07, Z08, Z06, Z01, Z02, Z00, Z04, Z05, Z03, Z1z, Z1y, Z46, Z48, Z47, Z45, Z1n, Z1o, Z1m, Z3n, Z3k, Z3m, Z3l, Z3o, Z1l, Z29, Z32, Z3x, Z1i, Z1j, Z1k, Z3v, Z3w, Z1g, Z28, Z1h, Z3i, Z3f, Z3h, Z3g, Z3j, Z41, Z40, Z0t, Z0u, Z0v, Z0s, Z1f, Z4c, Z4b, Z4d, Z4a, Z49, ex, Z43, Z42, ev_t, ev_c, Z27, Z26, Z4e, Z4f, Z2m, Z2l, Z2f, Z2j, Z2k, Z2g, Z2h, Z2i, putc, exBslice, lfill, exField, exIdxV, exIdxP, exBox, exAlloc, exLoad, exStore, exFieldA, exIdxA, exLen, exPick, exUn, exBeq, exMM, exSeq, seqGo, exExt, binV, intOp, subc, AV.solid, S0, encI, encB, e1, e2, e5, e6, g0, hlt, hle, hg, hx, hw]
      refine CallR.pure hq (cl_cons hc (cl_cons (Z2r _) cl_nil)) (Z2r _) ?_
      simp [Z0h, Z0c, Z0d, Z09, Z0a, Z0i, Z0b, Z0f, Z0g, Z2z, Z2y, Z07, Z08, Z06, Z01, Z02, Z00, Z04, Z05, Z03, Z1z, Z1y, Z46, Z48, Z47, Z45, Z1n, Z1o, Z1m, Z3n, Z3k, Z3m, Z3l, Z3o, Z1l, Z29, Z32, Z3x, Z1i, Z1j, Z1k, Z3v, Z3w, Z1g, Z28, Z1h, Z3i, Z3f, Z3h, Z3g, Z3j, Z41, Z40, Z0t, Z0u, Z0v, Z0s, Z1f, Z4c, Z4b, Z4d, Z4a, Z49, ex, Z43, Z42, ev_t, ev_c, Z27, Z26, Z4e, Z4f, Z2m, Z2l, Z2f, Z2j, Z2k, Z2g, Z2h, Z2i, putc, exBslice, lfill, exField, exIdxV, exIdxP, exBox, exAlloc, exLoad, exStore, exFieldA, exIdxA, exLen, exPick, exUn, exBeq, exMM, exSeq, seqGo, exExt, binV, intOp, subc, AV.solid, S0, encI, encB, e6]
      rw [wrap_in _ (by omega), wrap_in _ (by omega)]
      refine ⟨hlt, ?_, ?_, ?_, ?_, s + w, ?_, hT, by omega, by omega⟩
      · simp [Z43, e1, encI]
      · simp [Z43, e2]
      · simp [Z43, encI]
      · simp [g0, hcells]
      · simp [Z43, encI]
    · rw [sumW_stop hle] at hT
      simp [Z0h, Z0c, Z0d, Z09, Z0a, Z0i, Z0b, Z0f, Z0g, Z2z, Z2y, Z07, Z08, Z06, Z01, Z02, Z00, Z04, Z05, Z03, Z1z, Z1y, Z46, Z48, Z47, Z45, Z1n, Z1o, Z1m, Z3n, Z3k, Z3m, Z3l, Z3o, Z1l, Z29, Z32, Z3x, Z1i, Z1j, Z1k, Z3v, Z3w, Z1g, Z28, Z1h, Z3i, Z3f, Z3h, Z3g, Z3j, Z41, Z40, Z0t, Z0u, Z0v, Z0s, Z1f, Z4c, Z4b, Z4d, Z4a, Z49, ex, Z43, Z42, ev_t, ev_c, Z27, Z26, Z4e, Z4f, Z2m, Z2l, Z2f, Z2j, Z2k, Z2g, Z2h, Z2i, putc, exBslice, lfill, exField, exIdxV, exIdxP, exBox, exAlloc, exLoad, exStore, exFieldA, exIdxA, exLen, exPick, exUn, exBeq, exMM, exSeq, seqGo, exExt, binV, intOp, subc, AV.solid, S0, encI, encB, e1, e2, e5, e6, g0, hlt, hle]
      exact hQ _ _ (by simp [Z43, e5, hT])
  · rw [List.drop_eq_nil_of_le (by simp; omega), sumW] at hT
    simp [Z0h, Z0c, Z0d, Z09, Z0a, Z0i, Z0b, Z0f, Z0g, Z2z, Z2y, Z07, Z08, Z06, Z01, Z02, Z00, Z04, Z05, Z03, Z1z, Z1y, Z46, Z48, Z47, Z45, Z1n, Z1o, Z1m, Z3n, Z3k, Z3m, Z3l, Z3o, Z1l, Z29, Z32, Z3x, Z1i, Z1j, Z1k, Z3v, Z3w, Z1g, Z28, Z1h, Z3i, Z3f, Z3h, Z3g, Z3j, Z41, Z40, Z0t, Z0u, Z0v, Z0s, Z1f, Z4c, Z4b, Z4d, Z4a, Z49, ex, Z43, Z42, ev_t, ev_c, Z27, Z26, Z4e, Z4f, Z2m, Z2l, Z2f, Z2j, Z2k, Z2g, Z2h, Z2i, putc, exBslice, lfill, exField, exIdxV, exIdxP, exBox, exAlloc, exLoad, exStore, exFieldA, exIdxA, exLen, exPick, exUn, exBeq, exMM, exSeq, seqGo, exExt, binV, intOp, subc, AV.solid, S0, encI, encB, e1, e2, e5, e6, g0, hlt]
    exact hQ _ _ (by simp [Z43, e5, hT])
theorem Weight08_body {P : Program} {fw : FuncId} (p : Pat) (d : Int) (hg : goodP p) (hd : 0 ≤ d ∧ d ≤ 101) (h : d ≤ 100 → ∀ q ∈ p.kids, PureC P fw [encPat q, encI (d + 1)] (encI (wgtP q (d + 1)))) :
    AW P (c_caesuraref08_Weight fw) (RetK [4] (FzK (encI (wgtP p d)))) (argF [encPat p, encI d]) S0 := by
  obtain ⟨k, s, g, ks⟩ := p
  have hcells : encPat (.mk k s g ks) = .agg [encI k, encRs s, encIs g, .sl false (ks.map encPat)] := encPat_eq k s g ks
  have hb := fun (h1 : d ≤ 100) => wgtPs_bd ks (d + 1) (by simp only [goodP] at hg; exact hg.2.2.2) (by omega)
  simp only [goodP, Len] at hg
  obtain ⟨g1, g2, g3, g4⟩ := hg
  rw [wgtP]
  have hw1 := wrap_in (1 + (s.length : Int)) (by omega)
  have hw2 := wrap_in (1 + (s.length : Int) + g.length) (by omega)
  by_cases hd1 : 100 < d
  · rw [if_pos hd1]
    simp [Z0h, Z0c, Z0d, Z09, Z0a, Z0i, Z0b, Z0f, Z0g, Z2z, Z2y, Z07, Z08, Z06, Z01, Z02, Z00, Z04, Z05, Z03, Z1z, Z1y, Z46, Z48, Z47, Z45, Z1n, Z1o, Z1m, Z3n, Z3k, Z3m, Z3l, Z3o, Z1l, Z29, Z32, Z3x, Z1i, Z1j, Z1k, Z3v, Z3w, Z1g, Z28, Z1h, Z3i, Z3f, Z3h, Z3g, Z3j, Z41, Z40, Z0t, Z0u, Z0v, Z0s, Z1f, Z4c, Z4b, Z4d, Z4a, Z49, ex, Z43, Z42, ev_t, ev_c, Z27, Z26, Z4e, Z4f, Z2m, Z2l, Z2f, Z2j, Z2k, Z2g, Z2h, Z2i, putc, exBslice, lfill, exField, exIdxV, exIdxP, exBox, exAlloc, exLoad, exStore, exFieldA, exIdxA, exLen, exPick, exUn, exBeq, exMM, exSeq, seqGo, exExt, binV, intOp, subc, AV.solid, S0, encI, encB, c_caesuraref08_Weight, hcells, encRs, encIs, hw1, hw2, hd1]
    exact FzK_I _ _
  · rw [if_neg hd1, wgtPs_eq]
    simp [Z0h, Z0c, Z0d, Z09, Z0a, Z0i, Z0b, Z0f, Z0g, Z2z, Z2y, Z07, Z08, Z06, Z01, Z02, Z00, Z04, Z05, Z03, Z1z, Z1y, Z46, Z48, Z47, Z45, Z1n, Z1o, Z1m, Z3n, Z3k, Z3m, Z3l, Z3o, Z1l, Z29, Z32, Z3x, Z1i, Z1j, Z1k, Z3v, Z3w, Z1g, Z28, Z1h, Z3i, Z3f, Z3h, Z3g, Z3j, Z41, Z40, Z0t, Z0u, Z0v, Z0s, Z1f, Z4c, Z4b, Z4d, Z4a, Z49, ex, Z43, Z42, ev_t, ev_c, Z27, Z26, Z4e, Z4f, Z2m, Z2l, Z2f, Z2j, Z2k, Z2g, Z2h, Z2i, putc, exBslice, lfill, exField, exIdxV, exIdxP, exBox, exAlloc, exLoad, exStore, exFieldA, exIdxA, exLen, exPick, exUn, exBeq, exMM, exSeq, seqGo, exExt, binV, intOp, subc, AV.solid, S0, encI, encB, c_caesuraref08_Weight, hcells, encRs, encIs, hw1, hw2, hd1]
    refine wp_loop (p := .mk k s g ks) (d := d) (T := sumW 2000 (1 + s.length + g.length) (ks.map (wgtP · (d + 1)))) (by simp only [Pat.kids, Len]; exact g3) (by omega) (h (by omega)) (fun q hq => by have := hb (by omega) q hq; omega) ⟨?_, ?_, ?_, ?_, 1 + s.length + g.length, ?_, ?_, by omega, by omega⟩ ?_
    · simp [Z43, Z27, Z26, encI]
    · simp [Z43]
    · simp [Z43, encI]
    · simp [Z4e, hcells, encI, encRs, encIs]
    · simp [Z43, encI]
    · simp [Pat.kids]
    · intro f S e5
      simp [Z0h, Z0c, Z0d, Z09, Z0a, Z0i, Z0b, Z0f, Z0g, Z2z, Z2y, Z07, Z08, Z06, Z01, Z02, Z00, Z04, Z05, Z03, Z1z, Z1y, Z46, Z48, Z47, Z45, Z1n, Z1o, Z1m, Z3n, Z3k, Z3m, Z3l, Z3o, Z1l, Z29, Z32, Z3x, Z1i, Z1j, Z1k, Z3v, Z3w, Z1g, Z28, Z1h, Z3i, Z3f, Z3h, Z3g, Z3j, Z41, Z40, Z0t, Z0u, Z0v, Z0s, Z1f, Z4c, Z4b, Z4d, Z4a, Z49, ex, Z43, Z42, ev_t, ev_c, Z27, Z26, Z4e, Z4f, Z2m, Z2l, Z2f, Z2j, Z2k, Z2g, Z2h, Z2i, putc, exBslice, lfill, exField, exIdxV, exIdxP, exBox, exAlloc, exLoad, exStore, exFieldA, exIdxA, exLen, exPick, exUn, exBeq, exMM, exSeq, seqGo, exExt, binV, intOp, subc, AV.solid, S0, encI, encB, e5]
      exact FzK_I _ _
mutual
theorem weight_ok {P : Program} (hm : P.follows .mixedOrders = true) {fw : FuncId} (hI : Is P fw (c_caesuraref08_Weight fw) [4] 2) : ∀ (p : Pat) (d : Int), goodP p → 0 ≤ d → d ≤ 101 → PureC P fw [encPat p, encI d] (encI (wgtP p d))
  | .mk k s g ks, d, h, h0, hd => hI.pure hm rfl (Weight08_body _ d h ⟨h0, hd⟩ (fun h1 => weights_ok hm hI ks (d + 1) (by simp only [goodP] at h; exact h.2.2.2) (by omega) (by omega)))
theorem weights_ok {P : Program} (hm : P.follows .mixedOrders = true) {fw : FuncId} (hI : Is P fw (c_caesuraref08_Weight fw) [4] 2) : ∀ (ks : List Pat) (d : Int), goodPs ks → 0 ≤ d → d ≤ 101 → ∀ q ∈ ks, PureC P fw [encPat q, encI d] (encI (wgtP q d))
  | [], _, _, _, _, q, hq => by simp at hq
  | p :: ps, d, h, h0, hd, q, hq => by
    simp only [goodPs] at h
    rcases List.mem_cons.mp hq with e | hq
    · rw [e]; exact weight_ok hm hI p d h.1 h0 hd
    · exact weights_ok hm hI ps d h.2 h0 hd q hq
end

/-! ### nodes -/
inductive Nod where
  | mk (kind : Int) (name : ByteArray) (low high : Int) (kids : List Nod)
def Nod.kids : Nod → List Nod | .mk _ _ _ _ ks => ks
def encS (s : ByteArray) : AV := .v (.string s)
theorem closed_S (s : ByteArray) : Closed (encS s) := .v _
mutual
def encNod : Nod → AV
  | .mk k s a b ks => .agg [encI k, encS s, encI a, encI b, .sl false (encNods ks)]
def encNods : List Nod → List AV
  | [] => []
  | p :: ps => encNod p :: encNods ps
end
theorem encPat_4 (p : Pat) : ∃ x1 x2 x3 x4 : AV, encPat p = .agg [x1, x2, x3, x4] := by obtain ⟨k, s, a, b⟩ := p; rw [encPat_eq]; exact ⟨_, _, _, _, rfl⟩
mutual
theorem closed_Nod : ∀ (p : Nod), Closed (encNod p)
  | .mk k s a b ks => by
    rw [encNod]
    refine .agg _ (fun y hy => ?_)
    simp only [List.mem_cons, List.not_mem_nil, or_false] at hy
    rcases hy with rfl | rfl | rfl | rfl | rfl
    · exact Z2r _
    · exact closed_S _
    · exact Z2r _
    · exact Z2r _
    · exact .sl _ _ (closed_Nods ks)
theorem closed_Nods : ∀ (ks : List Nod), ∀ y ∈ encNods ks, Closed y
  | [], y, h => by simp [encNods] at h
  | p :: ps, y, h => by
    simp only [encNods, List.mem_cons] at h
    rcases h with rfl | h
    · exact closed_Nod p
    · exact closed_Nods ps y h
end
def LenS (s : ByteArray) : Prop := s.size ≤ 140737488351232
mutual
def goodN : Nod → Prop
  | .mk _ s _ _ ks => LenS s ∧ Len ks ∧ goodNs ks
def goodNs : List Nod → Prop
  | [] => True
  | p :: ps => goodN p ∧ goodNs ps
end
end Go.Rf


/- Own work: a form's net is laid: any form; how many nodes it has (walk). -/
set_option linter.unusedVariables false
set_option linter.unusedSimpArgs false
namespace Go.Rf
open Go.RowKit
/-! ### nodes -/
mutual
def ndP : Pat → Nat
  | .mk _ _ _ ks => 1 + ndL ks
def ndL : List Pat → Nat
  | [] => 0
  | q :: qs => ndP q + ndL qs
end
def szP (p : Pat) : Int := min 100000 (ndP p)
theorem ndL_append : ∀ (a b : List Pat), ndL (a ++ b) = ndL a + ndL b
  | [], b => by simp [ndL]
  | p :: a, b => by simp only [List.cons_append, ndL]; rw [ndL_append a b]; omega
mutual
theorem cnt_nd : ∀ (p : Pat), cntP p ≤ ndP p
  | .mk k _ _ ks => by
    have := cntL_nd ks
    simp only [cntP, ndP]
    split
    · omega
    · split <;> omega
theorem cntL_nd : ∀ (ks : List Pat), cntL ks ≤ ndL ks
  | [] => by simp [cntL, ndL]
  | q :: qs => by have := cnt_nd q; have := cntL_nd qs; simp only [cntL, ndL]; omega
end
theorem sumW_eq {most : Int} : ∀ {ws : List Int} {s : Int}, (∀ w ∈ ws, 0 ≤ w) → sumW most s ws ≤ most → sumW most s ws = s + ws.sum
  | [], s, _, h => by simp [sumW]
  | w :: ws, s, h0, h => by
    simp only [sumW] at h ⊢
    have hw := h0 w (by simp)
    split at h
    · rename_i hs
      rw [if_pos hs, sumW_eq (fun x hx => h0 x (by simp [hx])) h, List.sum_cons]; omega
    · omega
theorem sum_map_ge {f : Pat → Int} {g : Pat → Nat} : ∀ {ks : List Pat}, (∀ q ∈ ks, (g q : Int) ≤ f q) → ((ks.map g).sum : Int) ≤ (ks.map f).sum
  | [], _ => by simp
  | q :: qs, h => by
    have h1 := h q (by simp)
    have h2 := sum_map_ge (ks := qs) fun x hx => h x (by simp [hx])
    simp only [List.map_cons, List.sum_cons] at h2 ⊢
    push_cast at h2 ⊢
    omega
theorem ndL_sum : ∀ (ks : List Pat), ndL ks = (ks.map ndP).sum
  | [] => rfl
  | q :: qs => by simp only [ndL, List.map_cons, List.sum_cons]; rw [ndL_sum qs]
mutual
theorem nd_wgt : ∀ (p : Pat) (d : Int), goodP p → d ≤ 101 → wgtP p d ≤ 2000 → (ndP p : Int) ≤ wgtP p d
  | .mk k s g ks, d, h, hd, hw => by
    simp only [goodP] at h
    obtain ⟨h1, h2, h3, h4⟩ := h
    rw [wgtP] at hw ⊢
    split at hw
    · omega
    · rename_i hd2
      rw [if_neg hd2]
      rw [wgtPs_eq] at hw ⊢
      have hb := wgtPs_bd ks (d + 1) h4 (by omega)
      have hpos : ∀ w ∈ ks.map (wgtP · (d + 1)), 0 ≤ w := fun w hw => by
        obtain ⟨q, hq, rfl⟩ := List.mem_map.mp hw
        have := (hb q hq).1; omega
      obtain ⟨a1, a2, a3⟩ := sumW_all hpos hw
      rw [sumW_eq hpos hw]
      have hq := nds_wgt ks (d + 1) h4 (by omega) (fun q hq => by have := a2 _ (List.mem_map_of_mem hq); omega)
      have := sum_map_ge hq
      simp only [ndP]
      rw [ndL_sum]
      push_cast
      omega
theorem nds_wgt : ∀ (ks : List Pat) (d : Int), goodPs ks → d ≤ 101 → (∀ q ∈ ks, wgtP q d ≤ 2000) → ∀ q ∈ ks, (ndP q : Int) ≤ wgtP q d
  | [], _, _, _, _, q, hq => by simp at hq
  | p :: ps, d, h, hd, hw, q, hq => by
    simp only [goodPs] at h
    rcases List.mem_cons.mp hq with e | hq
    · rw [e]; exact nd_wgt p d h.1 hd (hw p (by simp))
    · exact nds_wgt ps d h.2 hd (fun q hq => hw q (by simp [hq])) q hq
end
end Go.Rf


/- Own work: a form's net (walk of net.Of). -/
set_option linter.unusedVariables false
set_option linter.unusedSimpArgs false
namespace Go.Rf
open Go.RowKit
attribute [local simp] AWb_seq Z0m Z0n Z0j Z0k Z0r Z0l Z0p Z0q Z0o Z21 Z20 Z22 Z23 Z3d Z3e Z3a vIdx Z4x Z4w Z4y vApp Z4u Z3u Z11 Z10 Z0z Z0x Z0w Z0y Z17 Z16 Z15 Z13 Z12 Z14 Z2c Z2d Z2a Z2n Z31 Z30 Z07 Z08 Z06 Z01 Z02 Z00 Z04 Z05 Z03 Z1z Z1y Z46 Z48 Z47 Z45 Z1n Z1o Z1m Z3n Z3k Z3m Z3l Z3o Z1l Z29 Z32 Z3x Z1i Z1j Z1k Z3v Z3w Z1g Z28 Z1h Z3i Z3f Z3h Z3g Z3j Z41 Z40 Z0t Z0u Z0v Z0s Z1f Z4c Z4b Z4d Z4a Z49 ex Z43 Z42 ev_t ev_c Z27 Z26 Z4e Z4f Z2m Z2l Z2f Z2j Z2k Z2g Z2h Z2i putc exBslice lfill exField exIdxV exIdxP exBox exAlloc Z3b Z3c exStore exFieldA Z34 Z33 Z39 Z38 exPick exUn exBeq exMM exSeq seqGo exExt binV intOp subc Z4s Z4r Z4p Z4q Z4n Z4l Z4m Z4o Z4i Z4j Z4g Z4t S0 encI encB Z4k Z2e Z25 Z4h Z2b Z24 Z36 Z37 Z35 Z3s Z3t Z3r Z3p Z3q idxT_Bs
def c_net_Of (f_vars_Size f_net_maker_state f_net_maker_form f_slices_Clone_Sint_int_ f_net_set : FuncId) : AC :=
  (.seq (.reg none [
   ⟨(some 2), .box 4 (.t 0), none, none⟩,
   ⟨(some 4), .alloc (.agg [(.v (.int .i64 0)), (.sl true []), (.sl true []), (.sl true [])]) 4, none, none⟩,
   ⟨(some 5), .mv (.c (.v (.int .i64 0))), none, none⟩])
  (.seq (.block 0 (.seq (.reg none [
    ⟨(some 9), .mv (.t 1), none, none⟩,
    ⟨(some 10), .bin .lss (.t 9) (.c (.v (.int .i64 1))), none, none⟩,
    ⟨(some 11), .mv (.t 10), none, none⟩,
    ⟨(some 12), .mv (.t 1), (some (11, false)), none⟩,
    ⟨(some 13), .bin .gtr (.t 12) (.c (.v (.int .i64 400))), (some (11, false)), none⟩,
    ⟨(some 14), .pick (.t 11) (.c (.v (.bool true))) (.t 13), none, none⟩,
    ⟨(some 8), .mv (.t 14), none, none⟩])
   (.cond (.t 8) (.seq (.reg none [
     ⟨(some 15), .build (.agg [(.v (.int .i64 0)), (.sl true []), (.sl true []), (.sl true [])]) [] [], none, none⟩,
     ⟨none, .store 4 (.t 4) (.t 15), none, none⟩,
     ⟨(some 5), .mv (.c (.v (.int .i64 1))), none, none⟩])
    .ret) (.seq (.reg none [
     ⟨(some 17), .load (some 4) (.t 2), none, none⟩,
     ⟨(some 18), .mv (.c .junk), none, (some ((.c (.clo f_vars_Size [] [])), [(.t 17)]))⟩,
     ⟨(some 19), .bin .gtr (.t 18) (.c (.v (.int .i64 300))), none, none⟩,
     ⟨(some 16), .mv (.t 19), none, none⟩])
    (.cond (.t 16) (.seq (.reg none [
      ⟨(some 20), .build (.agg [(.v (.int .i64 0)), (.sl true []), (.sl true []), (.sl true [])]) [] [], none, none⟩,
      ⟨none, .store 4 (.t 4) (.t 20), none, none⟩,
      ⟨(some 5), .mv (.c (.v (.int .i64 9))), none, none⟩])
     .ret) .skip)))))
  (.seq (.reg none [
   ⟨(some 21), .mv (.t 1), none, none⟩,
   ⟨(some 22), .build (.agg [(.v (.int .i64 0)), (.sl true []), (.sl true []), (.sl true [])]) [(0, 1)] [(0, (.t 21))], none, none⟩,
   ⟨(some 23), .build (.agg [(.v (.int .i64 0)), (.sl true []), (.sl true []), (.sl true [])]) [(0, 4)] [(0, (.t 22))], none, none⟩,
   ⟨(some 24), .box 4 (.t 23), none, none⟩,
   ⟨(some 6), .mv (.t 24), none, none⟩])
  (.seq (.reg none [
   ⟨(some 25), .mv (.t 6), none, none⟩,
   ⟨(some 26), .mv (.c .junk), none, (some ((.c (.clo f_net_maker_state [] [])), [(.t 25), (.c (.sl true []))]))⟩])
  (.seq (.reg none [
   ⟨(some 27), .mv (.t 6), none, none⟩,
   ⟨(some 28), .load (some 4) (.t 2), none, none⟩,
   ⟨(some 29), .mv (.c .junk), none, (some ((.c (.clo f_net_maker_form [] [])), [(.t 27), (.t 28)]))⟩,
   ⟨(some 7), .alloc (.agg [(.v (.bool false)), (.sl true []), (.sl true [])]) 3, none, none⟩,
   ⟨none, .store 3 (.t 7) (.t 29), none, none⟩])
  (.seq (.reg (some [[], [], [], [], [], [], [], [], [], [], [], [false, true, true, false, false, true]]) [
   ⟨(some 30), .mv (.t 6), none, none⟩,
   ⟨(some 31), .nilc (.t 30), none, none⟩,
   ⟨(some 32), .fieldA 0 (.t 31), none, none⟩,
   ⟨(some 33), .fieldA 2 (.t 32), none, none⟩,
   ⟨(some 34), .load none (.t 33), none, none⟩,
   ⟨(some 35), .mv (.t 6), none, none⟩,
   ⟨(some 36), .fieldA 1 (.t 7), none, none⟩,
   ⟨(some 37), .load none (.t 36), none, none⟩,
   ⟨(some 38), .fieldA 2 (.t 7), none, none⟩,
   ⟨(some 39), .load none (.t 38), none, none⟩,
   ⟨(some 40), .idxA 1 (.t 34) (.c (.v (.int .i64 0))), none, none⟩,
   ⟨none, .store 1 (.t 40) (.t 37), none, none⟩,
   ⟨(some 41), .nilc (.t 35), none, none⟩,
   ⟨(some 42), .fieldA 0 (.t 41), none, none⟩,
   ⟨(some 43), .fieldA 3 (.t 42), none, none⟩,
   ⟨none, .store 1 (.t 43) (.t 39), none, none⟩])
  (.seq (.seq (.reg none [
   ⟨(some 44), .fieldA 0 (.t 7), none, none⟩,
   ⟨(some 45), .load none (.t 44), none, none⟩])
  (.cond (.t 45) (.reg none [
    ⟨(some 46), .mv (.t 6), none, none⟩,
    ⟨(some 47), .fieldA 2 (.t 7), none, none⟩,
    ⟨(some 48), .load none (.t 47), none, none⟩,
    ⟨(some 49), .mv (.c .junk), none, (some ((.c (.clo f_slices_Clone_Sint_int_ [] [])), [(.t 48)]))⟩,
    ⟨(some 50), .bslice 1 1 (.v (.int .i64 0)) [(0, (.c (.v (.int .i64 0))))], none, none⟩,
    ⟨(some 51), .app 1 8 (.t 49) (.t 50), none, none⟩,
    ⟨(some 52), .mv (.c .junk), none, (some ((.c (.clo f_net_set [] [])), [(.t 51)]))⟩,
    ⟨(some 53), .nilc (.t 46), none, none⟩,
    ⟨(some 54), .fieldA 0 (.t 53), none, none⟩,
    ⟨(some 55), .fieldA 3 (.t 54), none, none⟩,
    ⟨none, .store 1 (.t 55) (.t 52), none, none⟩]) .skip))
  (.seq (.reg none [
   ⟨(some 56), .mv (.t 6), none, none⟩,
   ⟨(some 57), .nilc (.t 56), none, none⟩,
   ⟨(some 58), .fieldA 0 (.t 57), none, none⟩,
   ⟨(some 59), .load (some 4) (.t 58), none, none⟩,
   ⟨none, .store 4 (.t 4) (.t 59), none, none⟩,
   ⟨(some 5), .mv (.c (.v (.int .i64 0))), none, none⟩])
  .ret))))))))
def net0 : Net := ⟨0, [], [], []⟩
def netRes (p : Pat) (sg : Int) : Net × Int := if sg < 1 ∨ 400 < sg then (net0, 1) else if 300 < szP p then (net0, 9) else (netOf p sg, 0)
def encNE (r : Net × Int) : AV := .tup [encNet r.1, encI r.2]
theorem fz_net0 (g : Nat → Option Blk) (e : Int) : Fz g (.tup [.agg [.v (.int .i64 0), .sl true [], .sl true [], .sl true []], .v (.int .i64 e)]) (encNE (net0, e)) :=
  .tupL (.cons (.aggL (.cons (.closed _ (.v _)) (.cons fz_nil (.cons fz_nil (.cons fz_nil .nil))))) (.cons (.closed _ (.v _)) .nil))
theorem sz_nd {p : Pat} (h : ¬ 300 < szP p) : cntP p ≤ 300 := by
  have := cnt_nd p
  unfold szP at h
  omega
theorem fz_ownIs {g : Nat → Option Blk} {id n : Nat} {l : List (List Int)} (hg : g id = some (.arr 1 (l.map encIs))) (hn : n = l.length) : Fz g (.own id 0 n) (encIss l) := by
  have := vV_fz (g := g) (o := true) (id := id) (xs := l.map encIs) (by rw [vB_t]; exact hg) (Z1a l)
  rw [vV_t, List.length_map, ← hn] at this
  exact this
theorem fz_ownI {g : Nat → Option Blk} {id n : Nat} {l : List Int} (hg : g id = some (.arr 1 (l.map encI))) (hn : n = l.length) : Fz g (.own id 0 n) (encIs l) := by
  have := vV_fz (g := g) (o := true) (id := id) (xs := l.map encI) (by rw [vB_t]; exact hg) (Z19 l)
  rw [vV_t, List.length_map, ← hn] at this
  exact this
theorem fz_netR {g : Nat → Option Blk} {sg : Int} {b c : Nat} {by_ fo : List (List Int)} {x l : List Int} (h1 : g b = some (.arr 1 (by_.map encIs))) (h2 : g c = some (.arr 1 ((fo.set 0 x).map encIs))) :
    Fz g (.tup [.agg [.v (.int .i64 sg), .own b 0 by_.length, .own c 0 fo.length, encIs l], .v (.int .i64 0)]) (encNE (⟨sg, by_, fo.set 0 x, l⟩, 0)) :=
  .tupL (.cons (.aggL (.cons (.closed _ (.v _)) (.cons (fz_ownIs h1 rfl) (.cons (fz_ownIs h2 (by simp)) (.cons (.closed _ (Z2s _)) .nil))))) (.cons (.closed _ (.v _)) .nil))
theorem of_body {P : Program} {fz fst ff fc fset : FuncId} {p : Pat} {sg : Int} (hz : PureC P fz [encPat p] (encI (szP p))) (hs : CallM P fst [encIs []] sg false ⟨[], []⟩ st0 (encI 0)) (hf : FormOkW P ff sg p)
    (hc : ByC P fc (c_cloneOv 1 8 (.v (.int .i64 0))) [.t 2] 1) (hset : HSetc P fset) :
    AWb P 0 (c_net_Of fz fst ff fc fset) (RetC [.c 4 (some 4), .t 5] (FzK (encNE (netRes p sg)))) (argF [encPat p, encI sg]) S0 := by
  obtain ⟨k, ps, pg, ks⟩ := p
  have hcp := closed_Pat (.mk k ps pg ks)
  by_cases h1 : sg < 1
  · have hr : netRes (.mk k ps pg ks) sg = (net0, 1) := by rw [netRes, if_pos (.inl h1)]
    rw [hr]
    simp [c_net_Of, encPat_eq, exAlloc, exBuild, afill, h1, RetC, evC, RV.ev, ldC, packC]
    exact fz_net0 _ 1
  by_cases h2 : 400 < sg
  · have hr : netRes (.mk k ps pg ks) sg = (net0, 1) := by rw [netRes, if_pos (.inr h2)]
    rw [hr]
    simp [c_net_Of, encPat_eq, exAlloc, exBuild, afill, h1, h2, RetC, evC, RV.ev, ldC, packC]
    exact fz_net0 _ 1
  have hsz := hz
  simp only [encPat_eq, encI] at hsz hcp
  by_cases h3 : 300 < szP (.mk k ps pg ks)
  · have hr : netRes (.mk k ps pg ks) sg = (net0, 9) := by rw [netRes, if_neg (by omega), if_pos h3]
    rw [hr]
    simp [c_net_Of, encPat_eq, exAlloc, exBuild, afill, h1, h2]
    refine CallR.pure hsz (cl_cons hcp cl_nil) (Z2r _) ?_
    simp [exBuild, afill, h3, RetC, evC, RV.ev, ldC, packC]
    exact fz_net0 _ 9
  have hr : netRes (.mk k ps pg ks) sg = (netOf (.mk k ps pg ks) sg, 0) := by rw [netRes, if_neg (by omega), if_neg h3]
  rw [hr]
  have hcnt := sz_nd h3
  have hN0 : StN st0 := ⟨rfl, fun r hr => by simp [st0] at hr; subst hr; exact UpN.nil⟩
  have hff := hf st0 hN0 (by show 1 + _ ≤ _; omega)
  obtain ⟨n1, n2, n3⟩ := gform_N sg (.mk k ps pg ks) st0 hN0
  simp only [encPat_eq, encI] at hff
  have hno : netOf (.mk k ps pg ks) sg = ⟨sg, (gform sg (.mk k ps pg ks) st0).2.by_, (gform sg (.mk k ps pg ks) st0).2.fo.set 0 (gform sg (.mk k ps pg ks) st0).1.fst, if (gform sg (.mk k ps pg ks) st0).1.nul = true then setF ((gform sg (.mk k ps pg ks) st0).1.lst ++ [0]) else (gform sg (.mk k ps pg ks) st0).1.lst⟩ := rfl
  rw [hno]
  have hb1 : st0.by_.length = 1 := rfl
  generalize gform sg (.mk k ps pg ks) st0 = ge at *
  obtain ⟨e, st1⟩ := ge
  simp only at n1 n2 n3 hff ⊢
  have hl := n1.len
  have hfl : 0 < st1.fo.length := by omega
  have hll := n2.l.len
  simp [c_net_Of, encPat_eq, exAlloc, exBuild, afill, h1, h2]
  refine CallR.pure hsz (cl_cons hcp cl_nil) (Z2r _) ?_
  simp [exBuild, afill, h3]
  refine CallM.use hs (fun _ => .cons (.loose (by simp)) .nil) (Z2r _) (id := 17) (b := 2) (c := 3) (by simp [mCell, vV_f]) (by simp [vB_f]) (by simp [vB_f]) (by simp) (by simp) ?_
  simp [mOut]
  refine CallM.use hff (fun _ => .cl (cl_cons hcp cl_nil)) (closed_Ed _) (id := 17) (b := 21) (c := 22) (by simp [mCell, vV_t]) (by simp [vB_t]) (by simp [vB_t]) (by simp) (by simp) ?_
  cases hn : e.nul
  · rw [if_neg (by simp)]
    simp [mOut, mCell, exAlloc, cells_Ed, solid_Ed, hfl, exNil, hn, RetC, evC, RV.ev, ldC, packC]
    exact fz_netR (by simp [RenL_snoc, RenL.cl, RenV.cl, Z2r, Z2o, Z2s, Z2t, Z2p, Z2v, Z2u, Z2q, Z2w, Z2x, Z1d, Z1c, Z1b, Z19, Z18, Z1a, Z1e, Z52, Z4v, Z4z, Z3y, Z51, Z50, Z3z, Z1p, Z1q, Z1x, Z1v, Z1w, Z1u, Z1t, Z1s, Z1r, Z44, Z43, Z42, Z4e, Z4f, Z22, Z23, Z3d, Z3e, Z27, Z26, vV_t, vV_f, vB_t, vB_f, encI, encB]) (by simp [RenL_snoc, RenL.cl, RenV.cl, Z2r, Z2o, Z2s, Z2t, Z2p, Z2v, Z2u, Z2q, Z2w, Z2x, Z1d, Z1c, Z1b, Z19, Z18, Z1a, Z1e, Z52, Z4v, Z4z, Z3y, Z51, Z50, Z3z, Z1p, Z1q, Z1x, Z1v, Z1w, Z1u, Z1t, Z1s, Z1r, Z44, Z43, Z42, Z4e, Z4f, Z22, Z23, Z3d, Z3e, Z27, Z26, vV_t, vV_f, vB_t, vB_f, encI, encB, List.map_set])
  · rw [if_pos rfl]
    simp [mOut, mCell, exAlloc, cells_Ed, solid_Ed, hfl, exNil, hn]
    have hap : appOk 8 e.lst.length 1 := by unfold appOk; omega
    have hst := hset (e.lst ++ [0]) (by rw [List.length_append]; simp; omega)
    refine clone_use hc e.lst (by omega) (by simp) ?_
    simp [hap]
    refine CallR.gives [63] hst (FzL.cons ?_ FzL.nil) (Z2s _) ?_
    · exact fz_ownI (l := e.lst ++ [0]) (by simp [only_g, Z4e, encI]) (by simp)
    simp [mCell, exNil, lose_g, Z2c, Z4i, RetC, evC, RV.ev, ldC, packC]
    exact fz_netR (by simp [RenL_snoc, RenL.cl, RenV.cl, Z2r, Z2o, Z2s, Z2t, Z2p, Z2v, Z2u, Z2q, Z2w, Z2x, Z1d, Z1c, Z1b, Z19, Z18, Z1a, Z1e, Z52, Z4v, Z4z, Z3y, Z51, Z50, Z3z, Z1p, Z1q, Z1x, Z1v, Z1w, Z1u, Z1t, Z1s, Z1r, Z44, Z43, Z42, Z4e, Z4f, Z22, Z23, Z3d, Z3e, Z27, Z26, vV_t, vV_f, vB_t, vB_f, encI, encB, lose_g]) (by simp [RenL_snoc, RenL.cl, RenV.cl, Z2r, Z2o, Z2s, Z2t, Z2p, Z2v, Z2u, Z2q, Z2w, Z2x, Z1d, Z1c, Z1b, Z19, Z18, Z1a, Z1e, Z52, Z4v, Z4z, Z3y, Z51, Z50, Z3z, Z1p, Z1q, Z1x, Z1v, Z1w, Z1u, Z1t, Z1s, Z1r, Z44, Z43, Z42, Z4e, Z4f, Z22, Z23, Z3d, Z3e, Z27, Z26, vV_t, vV_f, vB_t, vB_f, encI, encB, List.map_set, lose_g])
end Go.Rf

