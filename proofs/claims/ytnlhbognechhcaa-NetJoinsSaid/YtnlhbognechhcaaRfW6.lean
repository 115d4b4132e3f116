import Derived.Test.YtnlhbognechhcaaRfW5
import Derived.Test.YtnlhbognechhcaaRfSimpS
/- Own work: how a net is laid: copies, and what is left out of them, wherever they lie. -/
set_option linter.unusedVariables false
set_option linter.unusedSimpArgs false
namespace Go.Rf
open Go.RowKit
def neB (l : List Int) : Bool := !l.isEmpty
theorem clone_use {P : Program} {fc : FuncId} (H : ByC P fc (c_cloneOv 1 8 (.v (.int .i64 0))) [.t 2] 1) (l : List Int) (hl : l.length ≤ 1000000) {S : St} {K : AV → St → Prop} (hg : S.g (S.n + 5) = none)
    (hk : K (vV (neB l) (S.n + 5) (l.map encI)) ((St.mk (S.n + 7) S.g).set (S.n + 5) (vB (neB l) 1 (l.map encI)))) : CallR P fc [encIs l] S K := by
  refine H rfl ?_
  have hb : exBslice 1 0 (.v (.int .i64 0)) [] = some (.sl true []) := exBslice_nil _ _
  by_cases h0 : l = []
  · subst h0
    have hr : ∀ n nid, (exApp 1 8 (.sl true []) (.sl false [])).run ⟨n, S.g⟩ nid = some (.sl true [], ⟨n, S.g⟩) := by
      intro n nid
      simp [exApp, lstE, AV.oid, Eff.run, St.setL, St.setO, appOk]
    have hs : ∀ n, (St.mk n S.g).set (S.n + 5) none = St.mk n S.g := fun n => by
      simp only [St.set, St.mk.injEq, true_and]
      funext j
      simp only [updF]
      split
      · rename_i h; subst h; exact hg.symm
      · rfl
    simp only [neB, List.isEmpty_nil, Bool.not_true, List.map_nil, vV_f, vB_f, hs] at hk
    simp [Z0h, Z0c, Z0d, Z09, Z0a, Z0i, Z0b, Z0f, Z0g, Z2z, Z2y, Z07, Z08, Z06, Z01, Z02, Z00, Z04, Z05, Z03, Z1z, Z1y, Z46, Z48, Z47, Z45, Z1n, Z1o, Z1m, Z3n, Z3k, Z3m, Z3l, Z3o, Z1l, Z29, Z32, Z3x, Z1i, Z1j, Z1k, Z3v, Z3w, Z1g, Z28, Z1h, Z3i, Z3f, Z3h, Z3g, Z3j, Z41, Z40, Z0t, Z0u, Z0v, Z0s, Z1f, Z4c, Z4b, Z4d, Z4a, Z49, ex, Z43, Z42, ev_t, ev_c, Z27, Z26, Z4e, Z4f, Z2m, Z2l, Z2f, Z2j, Z2k, Z2g, Z2h, Z2i, putc, exBslice, lfill, exField, exIdxV, exIdxP, exBox, exAlloc, exLoad, exStore, exFieldA, exIdxA, exLen, exPick, exUn, exBeq, exMM, exSeq, seqGo, exExt, binV, intOp, subc, AV.solid, S0, encI, encB, c_cloneOv, encIs, hb, hr]
    refine ⟨[.sl true []], by simp [evC, RV.ev, Z43], ?_⟩
    simp [Z0h, Z0c, Z0d, Z09, Z0a, Z0i, Z0b, Z0f, Z0g, Z2z, Z2y, Z07, Z08, Z06, Z01, Z02, Z00, Z04, Z05, Z03, Z1z, Z1y, Z46, Z48, Z47, Z45, Z1n, Z1o, Z1m, Z3n, Z3k, Z3m, Z3l, Z3o, Z1l, Z29, Z32, Z3x, Z1i, Z1j, Z1k, Z3v, Z3w, Z1g, Z28, Z1h, Z3i, Z3f, Z3h, Z3g, Z3j, Z41, Z40, Z0t, Z0u, Z0v, Z0s, Z1f, Z4c, Z4b, Z4d, Z4a, Z49, ex, Z43, Z42, ev_t, ev_c, Z27, Z26, Z4e, Z4f, Z2m, Z2l, Z2f, Z2j, Z2k, Z2g, Z2h, Z2i, putc, exBslice, lfill, exField, exIdxV, exIdxP, exBox, exAlloc, exLoad, exStore, exFieldA, exIdxA, exLen, exPick, exUn, exBeq, exMM, exSeq, seqGo, exExt, binV, intOp, subc, AV.solid, S0, encI, encB, packC]
    exact hk
  · have hn : neB l = true := by cases l with
      | nil => exact (h0 rfl).elim
      | cons x l => rfl
    have hr : ∀ n nid, (exApp 1 8 (.sl true []) (.sl false (l.map encI))).run ⟨n, S.g⟩ nid = some (.own nid 0 l.length, (⟨n, S.g⟩ : St).set nid (some (.arr 1 (l.map encI)))) := by
      intro n nid
      have hc := cells_I l
      have ha : appOk 8 0 l.length := by unfold appOk; omega
      have hc2 : ∀ x ∈ l.map encI, x.cells.length = 1 := hc
      have h3 : lstE 1 [] (.sl false (l.map encI)) = some (l.map encI) := by simp only [lstE]; rw [if_pos hc2]
      have h4 : ¬ (l.map encI).length = 0 := by simp; exact h0
      simp only [exApp, Eff.run, AV.oid, List.mapM_nil, Option.pure_def, h3, Option.bind_some, List.length_nil, Nat.zero_add, List.length_map, ha, and_true]
      rw [if_pos (by simp), if_neg (by simpa using h0)]
      simp [St.setL, St.setO]
    rw [hn, vV_t, vB_t, List.length_map] at hk
    simp [Z0h, Z0c, Z0d, Z09, Z0a, Z0i, Z0b, Z0f, Z0g, Z2z, Z2y, Z07, Z08, Z06, Z01, Z02, Z00, Z04, Z05, Z03, Z1z, Z1y, Z46, Z48, Z47, Z45, Z1n, Z1o, Z1m, Z3n, Z3k, Z3m, Z3l, Z3o, Z1l, Z29, Z32, Z3x, Z1i, Z1j, Z1k, Z3v, Z3w, Z1g, Z28, Z1h, Z3i, Z3f, Z3h, Z3g, Z3j, Z41, Z40, Z0t, Z0u, Z0v, Z0s, Z1f, Z4c, Z4b, Z4d, Z4a, Z49, ex, Z43, Z42, ev_t, ev_c, Z27, Z26, Z4e, Z4f, Z2m, Z2l, Z2f, Z2j, Z2k, Z2g, Z2h, Z2i, putc, exBslice, lfill, exField, exIdxV, exIdxP, exBox, exAlloc, exLoad, exStore, exFieldA, exIdxA, exLen, exPick, exUn, exBeq, exMM, exSeq, seqGo, exExt, binV, intOp, subc, AV.solid, S0, encI, encB, c_cloneOv, encIs, hb, hr]
    refine ⟨[.own (S.n + 5) 0 l.length], by simp [evC, RV.ev, Z43], ?_⟩
    simp [Z0h, Z0c, Z0d, Z09, Z0a, Z0i, Z0b, Z0f, Z0g, Z2z, Z2y, Z07, Z08, Z06, Z01, Z02, Z00, Z04, Z05, Z03, Z1z, Z1y, Z46, Z48, Z47, Z45, Z1n, Z1o, Z1m, Z3n, Z3k, Z3m, Z3l, Z3o, Z1l, Z29, Z32, Z3x, Z1i, Z1j, Z1k, Z3v, Z3w, Z1g, Z28, Z1h, Z3i, Z3f, Z3h, Z3g, Z3j, Z41, Z40, Z0t, Z0u, Z0v, Z0s, Z1f, Z4c, Z4b, Z4d, Z4a, Z49, ex, Z43, Z42, ev_t, ev_c, Z27, Z26, Z4e, Z4f, Z2m, Z2l, Z2f, Z2j, Z2k, Z2g, Z2h, Z2i, putc, exBslice, lfill, exField, exIdxV, exIdxP, exBox, exAlloc, exLoad, exStore, exFieldA, exIdxA, exLen, exPick, exUn, exBeq, exMM, exSeq, seqGo, exExt, binV, intOp, subc, AV.solid, S0, encI, encB, packC]
    exact hk
def delV (o : Bool) (q k : Nat) : AV := if o = true then .own q 0 k else .sl true []
theorem delF_use {P : Program} {f f1 : FuncId} {sg : Int} {o : Bool} {st : Gs} {l : List Int} (h : CallR P f [vV o 4 (l.map encI), .clo f1 [] [.ptr 3 0 0]] ⟨5, gOf (dG sg o st l)⟩ (DelOut sg o st l)) {S : St} {K : AV → St → Prop} {id b c bx q : Nat}
    (h1 : S.g id = some (.arr 4 [mCell sg (.own b 0 st.by_.length) (.own c 0 st.fo.length)])) (h2 : S.g b = some (.arr 1 (st.by_.map encIs))) (h3 : S.g c = some (.arr 1 (st.fo.map encIs)))
    (h4 : S.g bx = some (.arr 1 [.ptr id 0 0])) (h5 : S.g q = vB o 1 (l.map encI)) (hd : [(0, id), (1, b), (2, c), (3, bx), (4, q)].Pairwise fun p q => p.1 ≠ q.1 ∧ p.2 ≠ q.2) (hl : id < S.n ∧ b < S.n ∧ c < S.n ∧ bx < S.n ∧ q < S.n)
    (hk : ∀ xs : List Int, xs.take (l.filter (kpI sg)).length = l.filter (kpI sg) → xs.length = l.length → K (delV o q (l.filter (kpI sg)).length) ((St.mk (S.n + 5) S.g).set q (vB o 1 (xs.map encI)))) :
    CallR P f [vV o q (l.map encI), .clo f1 [] [.ptr bx 0 0]] S K := by
  refine CallR.frame 5 [(0, id), (1, b), (2, c), (3, bx), (4, q)] (dG sg o st l) [vV o 4 (l.map encI), .clo f1 [] [.ptr 3 0 0]] _ hd (by simp; omega) ?_ ?_ h ?_
  · intro p hp
    simp only [dG, mG, List.mem_cons, List.not_mem_nil, or_false] at hp
    rcases hp with rfl | rfl | rfl | rfl | rfl
    · exact .inr ⟨q, by simp, by rw [h5]; exact Z4v (Z19 _)⟩
    · refine .inr ⟨bx, by simp, ?_⟩
      rw [h4, Z1r]
      exact ⟨rfl, .cons (.ptr _ _ _ _ (by simp)) .nil⟩
    · refine .inr ⟨id, by simp, ?_⟩
      rw [h1, Z1r]
      refine ⟨rfl, ?_⟩
      simp only [mCell, Z1p, Z1q, and_true, Z1t, vV_t, List.length_map]
      exact ⟨.cl (Z2r _), .own _ _ _ _ (by simp), .own _ _ _ _ (by simp), .cl (Z2w _)⟩
    · exact .inr ⟨b, by simp, by rw [h2, vB_t, Z1r]; exact ⟨rfl, .cl (Z1a _)⟩⟩
    · exact .inr ⟨c, by simp, by rw [h3, vB_t, Z1r]; exact ⟨rfl, .cl (Z1a _)⟩⟩
  · exact .cons (Z52 (by simp) (Z19 _)) (.cons (renClo (by simp)) .nil)
  · rintro r1 S1 hn ⟨xs, rfl, q1, q2, rfl⟩
    refine ⟨delV o q (l.filter (kpI sg)).length, _, hk xs q1 q2, ?_, by simp [Z4f], fun i k hi => ?_⟩
    · unfold delV
      cases o with
      | true => simp only [if_true]; exact .own _ _ _ _ (.inl ⟨by omega, by simp⟩)
      | false => simp only [Bool.false_eq_true, if_false]; exact .cl (Z2w _)
    · simp only [Z4e] at hi
      by_cases eq : i = q
      · rw [if_pos eq] at hi
        refine .inr ⟨4, .inl ⟨by omega, by simp [eq]⟩, ?_⟩
        rw [← hi]
        simp only [dG, gOf, if_true]
        exact Z4v (Z19 _)
      rw [if_neg eq] at hi
      by_cases e0 : i = id
      · refine .inr ⟨0, .inl ⟨by omega, by simp [e0]⟩, ?_⟩
        rw [← hi, e0, h1]
        simp only [dG, mG, gOf, show (0 : Nat) = 4 ↔ False by simp, show (0 : Nat) = 3 ↔ False by simp, if_false, if_true]
        rw [Z1r]
        refine ⟨rfl, ?_⟩
        simp only [mCell, Z1p, Z1q, and_true, Z1t, vV_t, List.length_map]
        exact ⟨.cl (Z2r _), .own _ _ _ _ (.inl ⟨by omega, by simp⟩), .own _ _ _ _ (.inl ⟨by omega, by simp⟩), .cl (Z2w _)⟩
      by_cases e1 : i = b
      · refine .inr ⟨1, .inl ⟨by omega, by simp [e1]⟩, ?_⟩
        rw [← hi, e1, h2]
        simp only [dG, mG, gOf, show (1 : Nat) = 4 ↔ False by simp, show (1 : Nat) = 3 ↔ False by simp, show (1 : Nat) = 0 ↔ False by simp, if_false, if_true, vB_t]
        rw [Z1r]; exact ⟨rfl, .cl (Z1a _)⟩
      by_cases e2 : i = c
      · refine .inr ⟨2, .inl ⟨by omega, by simp [e2]⟩, ?_⟩
        rw [← hi, e2, h3]
        simp only [dG, mG, gOf, show (2 : Nat) = 4 ↔ False by simp, show (2 : Nat) = 3 ↔ False by simp, show (2 : Nat) = 0 ↔ False by simp, show (2 : Nat) = 1 ↔ False by simp, if_false, if_true, vB_t]
        rw [Z1r]; exact ⟨rfl, .cl (Z1a _)⟩
      by_cases e3 : i = bx
      · refine .inr ⟨3, .inl ⟨by omega, by simp [e3]⟩, ?_⟩
        rw [← hi, e3, h4]
        simp only [dG, mG, gOf, show (3 : Nat) = 4 ↔ False by simp, if_false, if_true]
        rw [Z1r]
        exact ⟨rfl, .cons (.ptr _ _ _ _ (.inl ⟨by omega, by simp⟩)) .nil⟩
      exact .inl ⟨by simp; omega, hi⟩
theorem fz_delV {o : Bool} {q : Nat} {l xs : List Int} {sg : Int} {g : Nat → Option Blk} (ho : o = true ∨ l = []) (hg : g q = vB o 1 (xs.map encI)) (h1 : xs.take (l.filter (kpI sg)).length = l.filter (kpI sg)) (h2 : xs.length = l.length) :
    Fz (only [q] g) (delV o q (l.filter (kpI sg)).length) (encIs (l.filter (kpI sg))) := by
  unfold delV
  cases o with
  | true =>
    rw [if_pos rfl]
    rw [vB_t] at hg
    have hle : (l.filter (kpI sg)).length ≤ l.length := List.length_filter_le _ _
    refine .own q 0 _ 1 (xs.map encI) ((l.filter (kpI sg)).map encI) (by rw [only_g, if_pos (by simp)]; exact hg) (by simp; omega) (by simp) (fun i h3 h4 => ?_)
    have e : ((xs.map encI).drop 0).take (l.filter (kpI sg)).length = (l.filter (kpI sg)).map encI := by rw [List.drop_zero, ← List.map_take, h1]
    simp only [e]
    exact .closed _ (Z19 _ _ (List.getElem_mem _))
  | false =>
    rcases ho with h | rfl
    · cases h
    · rw [if_neg (by simp)]
      exact .loose true [] (.sl _ _ (by simp))
theorem AWb_regS {P : Program} {b : Nat} {Q : Exit → AF → St → Prop} {a : AF} {S : St} {l : List SOp} : AWb P b (.regS l) Q a S = RSp P S.n l [] (nK Q) a ⟨S.n + l.length, S.g⟩ := by simp only [AWb]; rw [AW_regS]
end Go.Rf

