import Derived.Test.YtfmmdlockfbfmaaRfR4
import Derived.Test.YtfmmdlockfbfmaaRfKl
import Derived.Test.YtfmmdlockfbfmaaRfK2
/- Own work: up to where a form matches, told: any form. -/
set_option linter.unusedVariables false
set_option linter.unusedSimpArgs false
namespace Go.Rf
open Go.RowKit

def c_fr_or (f_reach_walker_from : FuncId) : AC :=
  (.block 1 (.loop (.seq (.reg none [
          ⟨(some 52), .bin .lss (.t 51) (.t 50), none, none⟩])
         (.seq (.cond (.t 52) .skip (.exit 1))
         (.seq (.block 2 (.seq (.reg none [
           ⟨(some 53), .idxA 4 (.t 49) (.t 51), none, none⟩,
           ⟨(some 54), .load (some 4) (.t 53), none, none⟩,
           ⟨(some 9), .alloc (.agg [(.v (.int .i64 0)), (.sl true []), (.sl true []), (.sl true [])]) 4, none, none⟩,
           ⟨none, .store 4 (.t 9) (.t 54), none, none⟩])
          (.reg none [
           ⟨(some 55), .load (some 1) (.t 4), none, none⟩,
           ⟨(some 56), .load (some 4) (.t 9), none, none⟩,
           ⟨(some 57), .mv (.t 2), none, none⟩,
           ⟨(some 58), .mv (.t 3), none, none⟩,
           ⟨(some 59), .mv (.c .junk), none, (some ((.c (.clo f_reach_walker_from [] [])), [(.t 55), (.t 56), (.t 57), (.t 58)]))⟩])))
         (.reg none [
          ⟨(some 60), .bin .add (.t 51) (.c (.v (.int .i64 1))), none, none⟩,
          ⟨(some 51), .mv (.t 60), none, none⟩]))))))
def c_reach_walker_from (f_slices_Contains_Sint_int_ f_reach_walker_all f_reach_walker_from f_reach_walker_again : FuncId) : AC :=
  (.seq (.reg none [
   ⟨(some 4), .box 1 (.t 0), none, none⟩,
   ⟨(some 5), .box 4 (.t 1), none, none⟩])
  (.seq (.reg none [
   ⟨(some 10), .fieldA 0 (.t 5), none, none⟩,
   ⟨(some 11), .load none (.t 10), none, none⟩])
  (.block 0 (.seq (.reg none [
    ⟨(some 13), .bin .eql (.t 11) (.c (.v (.int .i64 1))), none, none⟩,
    ⟨(some 12), .mv (.t 13), none, none⟩])
   (.cond (.t 12) (.reg none [
     ⟨(some 14), .mv (.t 3), none, none⟩,
     ⟨(some 15), .mv (.t 2), none, none⟩,
     ⟨(some 16), .mv (.c .junk), none, (some ((.t 14), [(.t 15)]))⟩]) (.seq (.reg none [
     ⟨(some 18), .bin .eql (.t 11) (.c (.v (.int .i64 2))), none, none⟩,
     ⟨(some 17), .mv (.t 18), none, none⟩])
    (.cond (.t 17) (.seq (.reg (some []) [
      ⟨(some 19), .mv (.t 2), none, none⟩,
      ⟨(some 20), .fieldA 0 (.t 4), none, none⟩,
      ⟨(some 21), .load none (.t 20), none, none⟩,
      ⟨(some 22), .len (.t 21), none, none⟩,
      ⟨(some 23), .bin .lss (.t 19) (.t 22), none, none⟩,
      ⟨(some 24), .mv (.t 23), none, none⟩,
      ⟨(some 25), .fieldA 2 (.t 5), (some (24, true)), none⟩,
      ⟨(some 26), .load none (.t 25), (some (24, true)), none⟩,
      ⟨(some 27), .fieldA 0 (.t 4), (some (24, true)), none⟩,
      ⟨(some 28), .load none (.t 27), (some (24, true)), none⟩,
      ⟨(some 29), .mv (.t 2), (some (24, true)), none⟩,
      ⟨(some 30), .idxA 1 (.t 28) (.t 29), (some (24, true)), none⟩,
      ⟨(some 31), .load none (.t 30), (some (24, true)), none⟩,
      ⟨(some 32), .mv (.c .junk), (some (24, true)), (some ((.c (.clo f_slices_Contains_Sint_int_ [] [])), [(.t 26), (.t 31)]))⟩,
      ⟨(some 33), .pick (.t 24) (.t 32) (.c (.v (.bool false))), none, none⟩])
     (.cond (.t 33) (.reg none [
       ⟨(some 34), .mv (.t 3), none, none⟩,
       ⟨(some 35), .mv (.t 2), none, none⟩,
       ⟨(some 36), .bin .add (.t 35) (.c (.v (.int .i64 1))), none, none⟩,
       ⟨(some 37), .mv (.c .junk), none, (some ((.t 34), [(.t 36)]))⟩]) .skip)) (.seq (.reg none [
      ⟨(some 39), .bin .eql (.t 11) (.c (.v (.int .i64 3))), none, none⟩,
      ⟨(some 38), .mv (.t 39), none, none⟩])
     (.cond (.t 38) (.reg none [
       ⟨(some 40), .load (some 1) (.t 4), none, none⟩,
       ⟨(some 41), .fieldA 3 (.t 5), none, none⟩,
       ⟨(some 42), .load none (.t 41), none, none⟩,
       ⟨(some 43), .mv (.t 2), none, none⟩,
       ⟨(some 44), .mv (.t 3), none, none⟩,
       ⟨(some 45), .mv (.c .junk), none, (some ((.c (.clo f_reach_walker_all [] [])), [(.t 40), (.t 42), (.t 43), (.t 44)]))⟩]) (.seq (.reg none [
       ⟨(some 47), .bin .eql (.t 11) (.c (.v (.int .i64 4))), none, none⟩,
       ⟨(some 46), .mv (.t 47), none, none⟩])
      (.cond (.t 46) (.seq (.reg none [
        ⟨(some 48), .fieldA 3 (.t 5), none, none⟩,
        ⟨(some 49), .load none (.t 48), none, none⟩,
        ⟨(some 50), .len (.t 49), none, none⟩,
        ⟨(some 51), .mv (.c (.v (.int .i64 0))), none, none⟩])
       (c_fr_or f_reach_walker_from)) (.seq (.seq (.reg none [
        ⟨(some 62), .bin .eql (.t 11) (.c (.v (.int .i64 7))), none, none⟩,
        ⟨(some 61), .mv (.t 62), none, none⟩])
       (.cond (.t 61) .skip (.seq (.reg none [
         ⟨(some 63), .bin .eql (.t 11) (.c (.v (.int .i64 5))), none, none⟩,
         ⟨(some 61), .mv (.t 63), none, none⟩])
        (.cond (.t 61) .skip (.reg none [
          ⟨(some 64), .bin .eql (.t 11) (.c (.v (.int .i64 6))), none, none⟩,
          ⟨(some 61), .mv (.t 64), none, none⟩])))))
       (.cond (.t 61) (.seq (.reg none [
         ⟨(some 65), .fieldA 3 (.t 5), none, none⟩,
         ⟨(some 66), .load none (.t 65), none, none⟩,
         ⟨(some 67), .len (.t 66), none, none⟩,
         ⟨(some 68), .bin .eql (.t 67) (.c (.v (.int .i64 1))), none, none⟩])
        (.cond (.t 68) (.reg none [
          ⟨(some 69), .load (some 1) (.t 4), none, none⟩,
          ⟨(some 70), .load (some 4) (.t 5), none, none⟩,
          ⟨(some 71), .mv (.t 2), none, none⟩,
          ⟨(some 72), .mv (.t 3), none, none⟩,
          ⟨(some 73), .mv (.c .junk), none, (some ((.c (.clo f_reach_walker_again [] [])), [(.t 69), (.t 70), (.t 71), (.t 72)]))⟩]) .skip)) .skip)))))))))))))
/- No list of it is long. -/
mutual
def PatS : Pat → Prop
  | .mk k s g ks => g.length ≤ 100000 ∧ ks.length ≤ 100000 ∧ PatsS ks
def PatsS : List Pat → Prop
  | [] => True
  | p :: ps => PatS p ∧ PatsS ps
end
structure FrS (l : List Int) (ks : List Pat) (tv : AV) (at_ : Int) (b4 : Nat) (Sz : St) (k : Nat) (f : AF) (S : St) : Prop where
  e2 : f 2 = encI at_
  e3 : f 3 = tv
  e4 : f 4 = .ptr b4 0 0
  e49 : f 49 = .sl false (ks.map encPat)
  e50 : f 50 = encI ks.length
  e51 : f 51 = encI k
  g4 : S.g b4 = some (.arr 1 [encW l])
  n4 : Sz.n ≤ b4 ∧ b4 < S.n
def FrI (l : List Int) (ks : List Pat) (tv : AV) (at_ : Int) (b4 : Nat) (Sz : St) (J : List Int → List Nat → St → Prop) (L : List Int) (A : List Nat) (k : Nat) (f : AF) (S : St) : Prop :=
  FrS l ks tv at_ b4 Sz k f S ∧ ∃ A', J (L ++ visOr l (ks.take k) at_) A' S ∧ Ext A A' Sz S ∧ b4 ∉ A'
theorem visOr_snoc (l : List Int) (q : Pat) (at_ : Int) : ∀ (ks : List Pat), visOr l (ks ++ [q]) at_ = visOr l ks at_ ++ visits l q at_
  | [] => by simp [visOr]
  | k :: ks => by rw [List.cons_append, visOr, visOr, visOr_snoc l q at_ ks, List.append_assoc]
theorem fr_or {P : Program} {ff : FuncId} {l : List Int} {ks : List Pat} (hks : ks.length ≤ 100000) (hq : ∀ q ∈ ks, FromOk P ff l q) {at_ : Int} (h0 : 0 ≤ at_) (h1 : at_ ≤ l.length) {tv : AV} {b4 : Nat} {Sz : St} {J : List Int → List Nat → St → Prop} {L : List Int} {A : List Nat} (hT : Tlr P l.length tv J)
    {f : AF} {S : St} {Q : Exit → AF → St → Prop} (h : FrI l ks tv at_ b4 Sz J L A 0 f S) (hk : ∀ f' S' A', J (L ++ visOr l ks at_) A' S' → Ext A A' Sz S' → Q .normal f' S') : AW P (c_fr_or ff) Q f S := by
  simp [AW_seq, AW_reg, AW_regD, AW_block, AW_cond, AW_skip, AW_exit, AW_ret, AW_scp, condR_true, condR_false, AThen_normal, AThen_ret, AThen_exit, ABlock_normal, ABlock_ret, ABlock_exit, AScope_normal, AScope_ret, AScope_exit, RetK_ret, RetK_normal, retAV_one, retAV_two, retAV_three, retAV_nil, RG_nil, RG_op, RG_guard, gdR_tt, gdR_ff, gdR_tf, gdR_ft, gdR_un, RG_call, callQ_clo, contK_ap, opR_some, RD_nil, RD_op0, RD_op1, opD0_some, opD1_some, RD_call, callQD_clo, RD_guard, gdD_tt, gdD_ff, gdD_tf, gdD_ft, gdD_un, psh_nil, psh_cons, Apt_nil, Apt_nilT, Apt_true, Apt_false, Dis_def, runT_val, runT_rd, runT_wr, runT_new, runT_mv, ex, put_some, put_none, ev_t, ev_c, argF_zero, argF_succ, set_g, set_n, cells_v, cells_sl, cells_agg, cells_own, cells_ptr, cells_clo, cells_eptr, cells_mp, putc, exBslice, lfill, exField, exIdxV, exIdxP, exBox, exAlloc, exLoad, exStore, exFieldA, exIdxA, exLen, exPick, exUn, exBeq, exMM, exSeq, seqGo, exExt, binV, intOp, subc, AV.solid, S0, encI, encB, c_fr_or]
  refine AW_for ks.length (FrI l ks tv at_ b4 Sz J L A) h ?_
  rintro k f S hk' ⟨s, A', hJ, hE, d4⟩
  have e2 := s.e2
  have e3 := s.e3
  have e4 := s.e4
  have e49 := s.e49
  have e50 := s.e50
  have e51 := s.e51
  have g4 := s.g4
  by_cases hlt : k < ks.length
  · have hgk : ks[k]? = some ks[k] := List.getElem?_eq_getElem hlt
    have hqk := hq _ (List.getElem_mem hlt)
    have htk : ks.take (k + 1) = ks.take k ++ [ks[k]] := by rw [List.take_add_one, hgk]; rfl
    generalize hkk : ks[k] = q at *
    obtain ⟨pk, ps, pg, pks⟩ := q
    have hq2 := hqk
    unfold FromOk at hq2
    simp only [encPat_eq, encW, encIs, encI, encRs] at hq2 g4
    have n4 := s.n4
    have hb : ¬ b4 = S.n + 1 + 2 := by omega
    simp [AW_seq, AW_reg, AW_regD, AW_block, AW_cond, AW_skip, AW_exit, AW_ret, AW_scp, condR_true, condR_false, AThen_normal, AThen_ret, AThen_exit, ABlock_normal, ABlock_ret, ABlock_exit, AScope_normal, AScope_ret, AScope_exit, RetK_ret, RetK_normal, retAV_one, retAV_two, retAV_three, retAV_nil, RG_nil, RG_op, RG_guard, gdR_tt, gdR_ff, gdR_tf, gdR_ft, gdR_un, RG_call, callQ_clo, contK_ap, opR_some, RD_nil, RD_op0, RD_op1, opD0_some, opD1_some, RD_call, callQD_clo, RD_guard, gdD_tt, gdD_ff, gdD_tf, gdD_ft, gdD_un, psh_nil, psh_cons, Apt_nil, Apt_nilT, Apt_true, Apt_false, Dis_def, runT_val, runT_rd, runT_wr, runT_new, runT_mv, ex, put_some, put_none, ev_t, ev_c, argF_zero, argF_succ, set_g, set_n, cells_v, cells_sl, cells_agg, cells_own, cells_ptr, cells_clo, cells_eptr, cells_mp, putc, exBslice, lfill, exField, exIdxV, exIdxP, exBox, exAlloc, exLoad, exStore, exFieldA, exIdxA, exLen, exPick, exUn, exBeq, exMM, exSeq, seqGo, exExt, binV, intOp, subc, AV.solid, S0, encI, encB, e2, e3, e4, e49, e50, e51, hlt, hgk, hkk, encPat_eq, encIs, encRs, g4, hb]
    have hlt2 := hT.lt hJ
    refine hq2 _ _ J _ A' _ _ h0 h1 hT (hT.keep hJ (fun i hi => ?_) (by show S.n ≤ _; simp; omega)) fun S3 A3 hJ3 hE3 => ?_
    · have := hlt2 i hi
      simp only [set_g]
      rw [if_neg (by omega), if_neg (by omega)]
    · have hn3 : S.n + 1 + 4 + 5 ≤ S3.n := hE3.nn
      simp [AW_seq, AW_reg, AW_regD, AW_block, AW_cond, AW_skip, AW_exit, AW_ret, AW_scp, condR_true, condR_false, AThen_normal, AThen_ret, AThen_exit, ABlock_normal, ABlock_ret, ABlock_exit, AScope_normal, AScope_ret, AScope_exit, RetK_ret, RetK_normal, retAV_one, retAV_two, retAV_three, retAV_nil, RG_nil, RG_op, RG_guard, gdR_tt, gdR_ff, gdR_tf, gdR_ft, gdR_un, RG_call, callQ_clo, contK_ap, opR_some, RD_nil, RD_op0, RD_op1, opD0_some, opD1_some, RD_call, callQD_clo, RD_guard, gdD_tt, gdD_ff, gdD_tf, gdD_ft, gdD_un, psh_nil, psh_cons, Apt_nil, Apt_nilT, Apt_true, Apt_false, Dis_def, runT_val, runT_rd, runT_wr, runT_new, runT_mv, ex, put_some, put_none, ev_t, ev_c, argF_zero, argF_succ, set_g, set_n, cells_v, cells_sl, cells_agg, cells_own, cells_ptr, cells_clo, cells_eptr, cells_mp, putc, exBslice, lfill, exField, exIdxV, exIdxP, exBox, exAlloc, exLoad, exStore, exFieldA, exIdxA, exLen, exPick, exUn, exBeq, exMM, exSeq, seqGo, exExt, binV, intOp, subc, AV.solid, S0, encI, encB, e2, e3, e4, e49, e50, e51]
      rw [wrap_in _ (by omega)]
      refine ⟨hlt, ⟨?_, ?_, ?_, ?_, ?_, ?_, ?_, ⟨n4.1, ?_⟩⟩, A3, ?_, ?_, fun h5 => ?_⟩
      · simp [put_some, e2, encI]
      · simp [put_some, e3]
      · simp [put_some, e4]
      · simp [put_some, e49]
      · simp [put_some, e50]
      · simp [put_some, encI]
      · refine (hE3.fr b4 (by show b4 < S.n + 1 + 4 + 5; omega) d4).trans ?_
        simp only [set_g]
        rw [if_neg hb, if_neg hb]; exact g4
      · simp; omega
      · rw [htk, visOr_snoc, ← List.append_assoc]
        exact hT.keep hJ3 (fun _ _ => rfl) (by simp)
      · have hzn := hE.nn
        refine ⟨fun i hi => ?_, fun i hi hi2 => ?_, by simp; omega⟩
        · rcases hE3.nw i hi with h6 | h6
          · exact hE.nw i h6
          · exact .inr (by have h8 : S.n + 1 + 4 + 5 ≤ i := h6; omega)
        · have hiA : i ∉ A' := fun h6 => by
            rcases hE.nw i h6 with h8 | h8
            · exact hi2 h8
            · omega
          refine (hE3.fr i (by show i < S.n + 1 + 4 + 5; omega) hiA).trans ?_
          simp only [set_g]
          rw [if_neg (by omega), if_neg (by omega)]
          exact hE.fr i hi hi2
      · rcases hE3.nw _ h5 with h6 | h6
        · exact d4 h6
        · have h8 : S.n + 1 + 4 + 5 ≤ b4 := h6
          omega
  · have hke : k = ks.length := by omega
    subst hke
    rw [List.take_length] at hJ
    simp [AW_seq, AW_reg, AW_regD, AW_block, AW_cond, AW_skip, AW_exit, AW_ret, AW_scp, condR_true, condR_false, AThen_normal, AThen_ret, AThen_exit, ABlock_normal, ABlock_ret, ABlock_exit, AScope_normal, AScope_ret, AScope_exit, RetK_ret, RetK_normal, retAV_one, retAV_two, retAV_three, retAV_nil, RG_nil, RG_op, RG_guard, gdR_tt, gdR_ff, gdR_tf, gdR_ft, gdR_un, RG_call, callQ_clo, contK_ap, opR_some, RD_nil, RD_op0, RD_op1, opD0_some, opD1_some, RD_call, callQD_clo, RD_guard, gdD_tt, gdD_ff, gdD_tf, gdD_ft, gdD_un, psh_nil, psh_cons, Apt_nil, Apt_nilT, Apt_true, Apt_false, Dis_def, runT_val, runT_rd, runT_wr, runT_new, runT_mv, ex, put_some, put_none, ev_t, ev_c, argF_zero, argF_succ, set_g, set_n, cells_v, cells_sl, cells_agg, cells_own, cells_ptr, cells_clo, cells_eptr, cells_mp, putc, exBslice, lfill, exField, exIdxV, exIdxP, exBox, exAlloc, exLoad, exStore, exFieldA, exIdxA, exLen, exPick, exUn, exBeq, exMM, exSeq, seqGo, exExt, binV, intOp, subc, AV.solid, S0, encI, encB, e50, e51, hlt]
    refine hk _ _ A' (hT.keep hJ (fun _ _ => rfl) (by simp)) ⟨hE.nw, hE.fr, by have := hE.nn; simp; omega⟩
structure RFns (P : Program) (ff fa fg f1 fo fo1 a1 f2 fc : FuncId) : Prop where
  from_ : Is P ff (c_reach_walker_from fc fa ff fg) [] 4
  all_ : Is P fa (c_reach_walker_all a1 fo) [] 4
  all1 : Is P a1 (c_reach_walker_all_1 ff) [] 4
  ag : IsS P fg (c_reach_walker_again f1 fo f2 ff) [] 4
  ag1 : IsS P f1 (c_reach_walker_again_1 ff) [] 4
  ag2 : Is P f2 (c_reach_walker_again_2 fc) [] 2
  once : Is P fo (c_reach_once fo1) [2] 1
  once1 : Is P fo1 c_reach_once_1 [] 3
  cont : ∀ (l : List Int) x, Len l → PureC P fc [encIs l, encI x] (encB (l.contains x))
theorem from_step {P : Program} (hm : P.follows .mixedOrders = true) {ff fa fg f1 fo fo1 a1 f2 fc : FuncId} (F : RFns P ff fa fg f1 fo fo1 a1 f2 fc) {l : List Int} (hl : l.length ≤ 10000) {k : Int} {ps : List Rg} {pg : List Int} {ks : List Pat} (hks : ks.length ≤ 100000) (hpg : pg.length ≤ 100000)
    (hq : ∀ q ∈ ks, FromOk P ff l q) : FromOk P ff l (.mk k ps pg ks) := by
  intro at_ tv J L A S K h0 h1 hT hJ hk
  refine F.from_.callR hm rfl ?_
  obtain ⟨ft, first, cap, htv, hcall⟩ := hT.call
  have hlt := hT.lt hJ
  have hvis : visits l (.mk k ps pg ks) at_ = _ := visits.eq_1 l at_ k ps pg ks
  have skip : ∀ S' : St, visits l (.mk k ps pg ks) at_ = [] → S.n ≤ S'.n → (∀ i, i < S.n → S'.g i = S.g i) → K (.tup []) S' := fun S' hv hn hg =>
    hk S' A (by rw [hv, List.append_nil]; exact hT.keep hJ (fun i hi => hg i (hlt i hi)) hn) ⟨fun i hi => .inl hi, fun i hi _ => hg i hi, hn⟩
  have tell : ∀ (S1 : St), S.n ≤ S1.n → (∀ i, i < S.n → S1.g i = S.g i) → ∀ S3 A3, J (L ++ visits l (.mk k ps pg ks) at_) A3 S3 → Ext A A3 S1 S3 → K (.tup []) S3 := fun S1 hn hg S3 A3 hJ3 hE3 =>
    hk S3 A3 hJ3 ⟨fun i hi => by
      rcases hE3.nw i hi with h5 | h5
      · exact .inl h5
      · exact .inr (by omega), fun i hi hi2 => (hE3.fr i (by omega) hi2).trans (hg i hi), by have := hE3.nn; omega⟩
  have hset : ∀ (a b : Option Blk) (i : Nat), i < S.n → ((({ n := S.n + 2, g := S.g } : St).set S.n a).set (S.n + 1) b).g i = S.g i := fun a b i hi => by
    simp only [set_g]; rw [if_neg (by omega), if_neg (by omega)]
  by_cases k1 : k = 1
  · subst k1
    rw [if_pos rfl] at hvis
    simp [AW_seq, AW_reg, AW_regD, AW_block, AW_cond, AW_skip, AW_exit, AW_ret, AW_scp, condR_true, condR_false, AThen_normal, AThen_ret, AThen_exit, ABlock_normal, ABlock_ret, ABlock_exit, AScope_normal, AScope_ret, AScope_exit, RetK_ret, RetK_normal, retAV_one, retAV_two, retAV_three, retAV_nil, RG_nil, RG_op, RG_guard, gdR_tt, gdR_ff, gdR_tf, gdR_ft, gdR_un, RG_call, callQ_clo, contK_ap, opR_some, RD_nil, RD_op0, RD_op1, opD0_some, opD1_some, RD_call, callQD_clo, RD_guard, gdD_tt, gdD_ff, gdD_tf, gdD_ft, gdD_un, psh_nil, psh_cons, Apt_nil, Apt_nilT, Apt_true, Apt_false, Dis_def, runT_val, runT_rd, runT_wr, runT_new, runT_mv, ex, put_some, put_none, ev_t, ev_c, argF_zero, argF_succ, set_g, set_n, cells_v, cells_sl, cells_agg, cells_own, cells_ptr, cells_clo, cells_eptr, cells_mp, putc, exBslice, lfill, exField, exIdxV, exIdxP, exBox, exAlloc, exLoad, exStore, exFieldA, exIdxA, exLen, exPick, exUn, exBeq, exMM, exSeq, seqGo, exExt, binV, intOp, subc, AV.solid, S0, encI, encB, c_reach_walker_from, encPat_eq, encW, encIs, encRs, htv]
    have hc2 := hcall L A
    simp only [encI] at hc2
    refine hc2 _ _ _ h0 h1 (hT.keep hJ (fun i hi => hset _ _ i (hlt i hi)) ?_) fun S3 A3 hJ3 hE3 => ?_
    · simp; omega
    · simp [AW_seq, AW_reg, AW_regD, AW_block, AW_cond, AW_skip, AW_exit, AW_ret, AW_scp, condR_true, condR_false, AThen_normal, AThen_ret, AThen_exit, ABlock_normal, ABlock_ret, ABlock_exit, AScope_normal, AScope_ret, AScope_exit, RetK_ret, RetK_normal, retAV_one, retAV_two, retAV_three, retAV_nil, RG_nil, RG_op, RG_guard, gdR_tt, gdR_ff, gdR_tf, gdR_ft, gdR_un, RG_call, callQ_clo, contK_ap, opR_some, RD_nil, RD_op0, RD_op1, opD0_some, opD1_some, RD_call, callQD_clo, RD_guard, gdD_tt, gdD_ff, gdD_tf, gdD_ft, gdD_un, psh_nil, psh_cons, Apt_nil, Apt_nilT, Apt_true, Apt_false, Dis_def, runT_val, runT_rd, runT_wr, runT_new, runT_mv, ex, put_some, put_none, ev_t, ev_c, argF_zero, argF_succ, set_g, set_n, cells_v, cells_sl, cells_agg, cells_own, cells_ptr, cells_clo, cells_eptr, cells_mp, putc, exBslice, lfill, exField, exIdxV, exIdxP, exBox, exAlloc, exLoad, exStore, exFieldA, exIdxA, exLen, exPick, exUn, exBeq, exMM, exSeq, seqGo, exExt, binV, intOp, subc, AV.solid, S0, encI, encB]
      refine tell _ ?_ (fun i hi => ?_) S3 A3 (by rw [hvis]; exact hJ3) hE3
      · simp; omega
      · exact hset _ _ i hi
  · have k1' : (k == 1) = false := by simpa using k1
    rw [if_neg k1] at hvis
    by_cases k2 : k = 2
    · subst k2
      rw [if_pos rfl] at hvis
      by_cases hla : at_ < l.length
      · have hli : at_.toNat < l.length := by omega
        have hgl : l[at_.toNat]? = some l[at_.toNat] := List.getElem?_eq_getElem hli
        have hgd : l.getD at_.toNat 0 = l[at_.toNat] := by rw [List.getD_eq_getElem?_getD, hgl]; rfl
        have D1 := fun n g => CallD.kl (S := ⟨n, g⟩) (F.cont pg l[at_.toNat] (by unfold Len; omega)) (cl_cons (closed_Is pg) (cl_cons (closed_I _) cl_nil)) (closed_B _)
        simp only [encIs, encI] at D1
        simp [AW_seq, AW_reg, AW_regD, AW_block, AW_cond, AW_skip, AW_exit, AW_ret, AW_scp, condR_true, condR_false, AThen_normal, AThen_ret, AThen_exit, ABlock_normal, ABlock_ret, ABlock_exit, AScope_normal, AScope_ret, AScope_exit, RetK_ret, RetK_normal, retAV_one, retAV_two, retAV_three, retAV_nil, RG_nil, RG_op, RG_guard, gdR_tt, gdR_ff, gdR_tf, gdR_ft, gdR_un, RG_call, callQ_clo, contK_ap, opR_some, RD_nil, RD_op0, RD_op1, opD0_some, opD1_some, RD_call, callQD_clo, RD_guard, gdD_tt, gdD_ff, gdD_tf, gdD_ft, gdD_un, psh_nil, psh_cons, Apt_nil, Apt_nilT, Apt_true, Apt_false, Dis_def, runT_val, runT_rd, runT_wr, runT_new, runT_mv, ex, put_some, put_none, ev_t, ev_c, argF_zero, argF_succ, set_g, set_n, cells_v, cells_sl, cells_agg, cells_own, cells_ptr, cells_clo, cells_eptr, cells_mp, putc, exBslice, lfill, exField, exIdxV, exIdxP, exBox, exAlloc, exLoad, exStore, exFieldA, exIdxA, exLen, exPick, exUn, exBeq, exMM, exSeq, seqGo, exExt, binV, intOp, subc, AV.solid, S0, encI, encB, c_reach_walker_from, encPat_eq, encW, encIs, encRs, htv, hla, hgl, h0, hli]
        refine ⟨_, ⟨_, D1 _ _⟩, ?_⟩
        cases hcon : pg.contains l[at_.toNat] with
        | false =>
          have hv0 : visits l (.mk 2 ps pg ks) at_ = [] := by rw [hvis, hgd, hcon, if_neg (by simp)]
          simp [AW_seq, AW_reg, AW_regD, AW_block, AW_cond, AW_skip, AW_exit, AW_ret, AW_scp, condR_true, condR_false, AThen_normal, AThen_ret, AThen_exit, ABlock_normal, ABlock_ret, ABlock_exit, AScope_normal, AScope_ret, AScope_exit, RetK_ret, RetK_normal, retAV_one, retAV_two, retAV_three, retAV_nil, RG_nil, RG_op, RG_guard, gdR_tt, gdR_ff, gdR_tf, gdR_ft, gdR_un, RG_call, callQ_clo, contK_ap, opR_some, RD_nil, RD_op0, RD_op1, opD0_some, opD1_some, RD_call, callQD_clo, RD_guard, gdD_tt, gdD_ff, gdD_tf, gdD_ft, gdD_un, psh_nil, psh_cons, Apt_nil, Apt_nilT, Apt_true, Apt_false, Dis_def, runT_val, runT_rd, runT_wr, runT_new, runT_mv, ex, put_some, put_none, ev_t, ev_c, argF_zero, argF_succ, set_g, set_n, cells_v, cells_sl, cells_agg, cells_own, cells_ptr, cells_clo, cells_eptr, cells_mp, putc, exBslice, lfill, exField, exIdxV, exIdxP, exBox, exAlloc, exLoad, exStore, exFieldA, exIdxA, exLen, exPick, exUn, exBeq, exMM, exSeq, seqGo, exExt, binV, intOp, subc, AV.solid, S0, encI, encB]
          exact skip _ hv0 (by simp; omega) (fun i hi => hset _ _ i hi)
        | true =>
          have hv1 : visits l (.mk 2 ps pg ks) at_ = [at_ + 1] := by rw [hvis, hgd, hcon, if_pos ⟨hla, rfl⟩]
          have hw := wrap_in (at_ + 1) (by omega)
          simp [AW_seq, AW_reg, AW_regD, AW_block, AW_cond, AW_skip, AW_exit, AW_ret, AW_scp, condR_true, condR_false, AThen_normal, AThen_ret, AThen_exit, ABlock_normal, ABlock_ret, ABlock_exit, AScope_normal, AScope_ret, AScope_exit, RetK_ret, RetK_normal, retAV_one, retAV_two, retAV_three, retAV_nil, RG_nil, RG_op, RG_guard, gdR_tt, gdR_ff, gdR_tf, gdR_ft, gdR_un, RG_call, callQ_clo, contK_ap, opR_some, RD_nil, RD_op0, RD_op1, opD0_some, opD1_some, RD_call, callQD_clo, RD_guard, gdD_tt, gdD_ff, gdD_tf, gdD_ft, gdD_un, psh_nil, psh_cons, Apt_nil, Apt_nilT, Apt_true, Apt_false, Dis_def, runT_val, runT_rd, runT_wr, runT_new, runT_mv, ex, put_some, put_none, ev_t, ev_c, argF_zero, argF_succ, set_g, set_n, cells_v, cells_sl, cells_agg, cells_own, cells_ptr, cells_clo, cells_eptr, cells_mp, putc, exBslice, lfill, exField, exIdxV, exIdxP, exBox, exAlloc, exLoad, exStore, exFieldA, exIdxA, exLen, exPick, exUn, exBeq, exMM, exSeq, seqGo, exExt, binV, intOp, subc, AV.solid, S0, encI, encB, hw]
          have hc2 := hcall L A
          simp only [encI] at hc2
          refine hc2 _ _ _ (by omega) (by omega) (hT.keep hJ (fun i hi => hset _ _ i (hlt i hi)) ?_) fun S3 A3 hJ3 hE3 => ?_
          · simp; omega
          · simp [AW_seq, AW_reg, AW_regD, AW_block, AW_cond, AW_skip, AW_exit, AW_ret, AW_scp, condR_true, condR_false, AThen_normal, AThen_ret, AThen_exit, ABlock_normal, ABlock_ret, ABlock_exit, AScope_normal, AScope_ret, AScope_exit, RetK_ret, RetK_normal, retAV_one, retAV_two, retAV_three, retAV_nil, RG_nil, RG_op, RG_guard, gdR_tt, gdR_ff, gdR_tf, gdR_ft, gdR_un, RG_call, callQ_clo, contK_ap, opR_some, RD_nil, RD_op0, RD_op1, opD0_some, opD1_some, RD_call, callQD_clo, RD_guard, gdD_tt, gdD_ff, gdD_tf, gdD_ft, gdD_un, psh_nil, psh_cons, Apt_nil, Apt_nilT, Apt_true, Apt_false, Dis_def, runT_val, runT_rd, runT_wr, runT_new, runT_mv, ex, put_some, put_none, ev_t, ev_c, argF_zero, argF_succ, set_g, set_n, cells_v, cells_sl, cells_agg, cells_own, cells_ptr, cells_clo, cells_eptr, cells_mp, putc, exBslice, lfill, exField, exIdxV, exIdxP, exBox, exAlloc, exLoad, exStore, exFieldA, exIdxA, exLen, exPick, exUn, exBeq, exMM, exSeq, seqGo, exExt, binV, intOp, subc, AV.solid, S0, encI, encB]
            refine tell _ ?_ (fun i hi => ?_) S3 A3 (by rw [hv1]; exact hJ3) hE3
            · simp; omega
            · exact hset _ _ i hi
      · have hv0 : visits l (.mk 2 ps pg ks) at_ = [] := by rw [hvis, if_neg (fun h => hla h.1)]
        simp [AW_seq, AW_reg, AW_regD, AW_block, AW_cond, AW_skip, AW_exit, AW_ret, AW_scp, condR_true, condR_false, AThen_normal, AThen_ret, AThen_exit, ABlock_normal, ABlock_ret, ABlock_exit, AScope_normal, AScope_ret, AScope_exit, RetK_ret, RetK_normal, retAV_one, retAV_two, retAV_three, retAV_nil, RG_nil, RG_op, RG_guard, gdR_tt, gdR_ff, gdR_tf, gdR_ft, gdR_un, RG_call, callQ_clo, contK_ap, opR_some, RD_nil, RD_op0, RD_op1, opD0_some, opD1_some, RD_call, callQD_clo, RD_guard, gdD_tt, gdD_ff, gdD_tf, gdD_ft, gdD_un, psh_nil, psh_cons, Apt_nil, Apt_nilT, Apt_true, Apt_false, Dis_def, runT_val, runT_rd, runT_wr, runT_new, runT_mv, ex, put_some, put_none, ev_t, ev_c, argF_zero, argF_succ, set_g, set_n, cells_v, cells_sl, cells_agg, cells_own, cells_ptr, cells_clo, cells_eptr, cells_mp, putc, exBslice, lfill, exField, exIdxV, exIdxP, exBox, exAlloc, exLoad, exStore, exFieldA, exIdxA, exLen, exPick, exUn, exBeq, exMM, exSeq, seqGo, exExt, binV, intOp, subc, AV.solid, S0, encI, encB, c_reach_walker_from, encPat_eq, encW, encIs, encRs, htv, hla]
        exact skip _ hv0 (by simp; omega) (fun i hi => hset _ _ i hi)
    · have k2' : (k == 2) = false := by simpa using k2
      rw [if_neg k2] at hvis
      by_cases k3 : k = 3
      · subst k3
        rw [if_pos rfl] at hvis
        have hall := fun S1 K1 => all_callR hm F.all_ F.all1 F.once F.once1 hl (ks := ks) (by omega) hq h0 h1 (S := S1) (K := K1) (J := J) (L := L) (A := A) hT
        simp only [encW, encIs, encI, htv] at hall
        simp [AW_seq, AW_reg, AW_regD, AW_block, AW_cond, AW_skip, AW_exit, AW_ret, AW_scp, condR_true, condR_false, AThen_normal, AThen_ret, AThen_exit, ABlock_normal, ABlock_ret, ABlock_exit, AScope_normal, AScope_ret, AScope_exit, RetK_ret, RetK_normal, retAV_one, retAV_two, retAV_three, retAV_nil, RG_nil, RG_op, RG_guard, gdR_tt, gdR_ff, gdR_tf, gdR_ft, gdR_un, RG_call, callQ_clo, contK_ap, opR_some, RD_nil, RD_op0, RD_op1, opD0_some, opD1_some, RD_call, callQD_clo, RD_guard, gdD_tt, gdD_ff, gdD_tf, gdD_ft, gdD_un, psh_nil, psh_cons, Apt_nil, Apt_nilT, Apt_true, Apt_false, Dis_def, runT_val, runT_rd, runT_wr, runT_new, runT_mv, ex, put_some, put_none, ev_t, ev_c, argF_zero, argF_succ, set_g, set_n, cells_v, cells_sl, cells_agg, cells_own, cells_ptr, cells_clo, cells_eptr, cells_mp, putc, exBslice, lfill, exField, exIdxV, exIdxP, exBox, exAlloc, exLoad, exStore, exFieldA, exIdxA, exLen, exPick, exUn, exBeq, exMM, exSeq, seqGo, exExt, binV, intOp, subc, AV.solid, S0, encI, encB, c_reach_walker_from, encPat_eq, encW, encIs, encRs, htv]
        refine hall _ _ (hT.keep hJ (fun i hi => hset _ _ i (hlt i hi)) ?_) fun S3 A3 hJ3 hE3 => ?_
        · simp; omega
        · simp [AW_seq, AW_reg, AW_regD, AW_block, AW_cond, AW_skip, AW_exit, AW_ret, AW_scp, condR_true, condR_false, AThen_normal, AThen_ret, AThen_exit, ABlock_normal, ABlock_ret, ABlock_exit, AScope_normal, AScope_ret, AScope_exit, RetK_ret, RetK_normal, retAV_one, retAV_two, retAV_three, retAV_nil, RG_nil, RG_op, RG_guard, gdR_tt, gdR_ff, gdR_tf, gdR_ft, gdR_un, RG_call, callQ_clo, contK_ap, opR_some, RD_nil, RD_op0, RD_op1, opD0_some, opD1_some, RD_call, callQD_clo, RD_guard, gdD_tt, gdD_ff, gdD_tf, gdD_ft, gdD_un, psh_nil, psh_cons, Apt_nil, Apt_nilT, Apt_true, Apt_false, Dis_def, runT_val, runT_rd, runT_wr, runT_new, runT_mv, ex, put_some, put_none, ev_t, ev_c, argF_zero, argF_succ, set_g, set_n, cells_v, cells_sl, cells_agg, cells_own, cells_ptr, cells_clo, cells_eptr, cells_mp, putc, exBslice, lfill, exField, exIdxV, exIdxP, exBox, exAlloc, exLoad, exStore, exFieldA, exIdxA, exLen, exPick, exUn, exBeq, exMM, exSeq, seqGo, exExt, binV, intOp, subc, AV.solid, S0, encI, encB]
          refine tell _ ?_ (fun i hi => ?_) S3 A3 (by rw [hvis]; exact hJ3) hE3
          · simp; omega
          · exact hset _ _ i hi
      · have k3' : (k == 3) = false := by simpa using k3
        rw [if_neg k3] at hvis
        by_cases k4 : k = 4
        · subst k4
          rw [if_pos rfl] at hvis
          simp [AW_seq, AW_reg, AW_regD, AW_block, AW_cond, AW_skip, AW_exit, AW_ret, AW_scp, condR_true, condR_false, AThen_normal, AThen_ret, AThen_exit, ABlock_normal, ABlock_ret, ABlock_exit, AScope_normal, AScope_ret, AScope_exit, RetK_ret, RetK_normal, retAV_one, retAV_two, retAV_three, retAV_nil, RG_nil, RG_op, RG_guard, gdR_tt, gdR_ff, gdR_tf, gdR_ft, gdR_un, RG_call, callQ_clo, contK_ap, opR_some, RD_nil, RD_op0, RD_op1, opD0_some, opD1_some, RD_call, callQD_clo, RD_guard, gdD_tt, gdD_ff, gdD_tf, gdD_ft, gdD_un, psh_nil, psh_cons, Apt_nil, Apt_nilT, Apt_true, Apt_false, Dis_def, runT_val, runT_rd, runT_wr, runT_new, runT_mv, ex, put_some, put_none, ev_t, ev_c, argF_zero, argF_succ, set_g, set_n, cells_v, cells_sl, cells_agg, cells_own, cells_ptr, cells_clo, cells_eptr, cells_mp, putc, exBslice, lfill, exField, exIdxV, exIdxP, exBox, exAlloc, exLoad, exStore, exFieldA, exIdxA, exLen, exPick, exUn, exBeq, exMM, exSeq, seqGo, exExt, binV, intOp, subc, AV.solid, S0, encI, encB, c_reach_walker_from, encPat_eq, encW, encIs, encRs, htv]
          refine fr_or hks hq h0 h1 (tv := .clo ft first cap) (b4 := S.n) (Sz := S) (J := J) (L := L) (A := A) (by rw [← htv]; exact hT) ⟨⟨?_, ?_, ?_, ?_, ?_, ?_, ?_, ⟨Nat.le_refl _, ?_⟩⟩, A, ?_, ⟨fun i hi => .inl hi, fun i hi _ => ?_, ?_⟩, fun h5 => ?_⟩ (fun f3 S3 A3 hJ3 hE3 => ?_)
          · simp [put_some, argF_zero, argF_succ, encI]
          · simp [put_some, argF_zero, argF_succ]
          · simp [put_some]
          · simp [put_some]
          · simp [put_some, encI]
          · simp [put_some, encI]
          · simp only [set_g]; rw [if_neg (by omega), if_pos trivial]; rfl
          · simp; omega
          · simp only [List.take_zero, visOr, List.append_nil]
            exact hT.keep hJ (fun i hi => hset _ _ i (hlt i hi)) (by simp; omega)
          · exact hset _ _ i hi
          · simp; omega
          · have := hlt _ h5; omega
          · simp [AW_seq, AW_reg, AW_regD, AW_block, AW_cond, AW_skip, AW_exit, AW_ret, AW_scp, condR_true, condR_false, AThen_normal, AThen_ret, AThen_exit, ABlock_normal, ABlock_ret, ABlock_exit, AScope_normal, AScope_ret, AScope_exit, RetK_ret, RetK_normal, retAV_one, retAV_two, retAV_three, retAV_nil, RG_nil, RG_op, RG_guard, gdR_tt, gdR_ff, gdR_tf, gdR_ft, gdR_un, RG_call, callQ_clo, contK_ap, opR_some, RD_nil, RD_op0, RD_op1, opD0_some, opD1_some, RD_call, callQD_clo, RD_guard, gdD_tt, gdD_ff, gdD_tf, gdD_ft, gdD_un, psh_nil, psh_cons, Apt_nil, Apt_nilT, Apt_true, Apt_false, Dis_def, runT_val, runT_rd, runT_wr, runT_new, runT_mv, ex, put_some, put_none, ev_t, ev_c, argF_zero, argF_succ, set_g, set_n, cells_v, cells_sl, cells_agg, cells_own, cells_ptr, cells_clo, cells_eptr, cells_mp, putc, exBslice, lfill, exField, exIdxV, exIdxP, exBox, exAlloc, exLoad, exStore, exFieldA, exIdxA, exLen, exPick, exUn, exBeq, exMM, exSeq, seqGo, exExt, binV, intOp, subc, AV.solid, S0, encI, encB]
            exact hk S3 A3 (by rw [hvis]; exact hJ3) hE3
        · have k4' : (k == 4) = false := by simpa using k4
          rw [if_neg k4] at hvis
          by_cases k7 : k = 7 ∨ k = 5 ∨ k = 6
          · rw [if_pos k7] at hvis
            by_cases hk1 : ks.length = 1
            · obtain ⟨q, rfl⟩ := List.length_eq_one_iff.mp hk1
              rw [visAg] at hvis
              have hag := fun S1 K1 => again_callR hm F.ag F.ag1 F.ag2 F.once F.once1 F.cont hl (k := k) (ps := ps) (pg := pg) (hq q (by simp)) h0 h1 (S := S1) (K := K1) (J := J) (L := L) (A := A) hT
              simp only [encW, encIs, encI, encRs, htv, encPat_eq, List.map_cons, List.map_nil] at hag
              rcases k7 with rfl | rfl | rfl <;>
              · simp [AW_seq, AW_reg, AW_regD, AW_block, AW_cond, AW_skip, AW_exit, AW_ret, AW_scp, condR_true, condR_false, AThen_normal, AThen_ret, AThen_exit, ABlock_normal, ABlock_ret, ABlock_exit, AScope_normal, AScope_ret, AScope_exit, RetK_ret, RetK_normal, retAV_one, retAV_two, retAV_three, retAV_nil, RG_nil, RG_op, RG_guard, gdR_tt, gdR_ff, gdR_tf, gdR_ft, gdR_un, RG_call, callQ_clo, contK_ap, opR_some, RD_nil, RD_op0, RD_op1, opD0_some, opD1_some, RD_call, callQD_clo, RD_guard, gdD_tt, gdD_ff, gdD_tf, gdD_ft, gdD_un, psh_nil, psh_cons, Apt_nil, Apt_nilT, Apt_true, Apt_false, Dis_def, runT_val, runT_rd, runT_wr, runT_new, runT_mv, ex, put_some, put_none, ev_t, ev_c, argF_zero, argF_succ, set_g, set_n, cells_v, cells_sl, cells_agg, cells_own, cells_ptr, cells_clo, cells_eptr, cells_mp, putc, exBslice, lfill, exField, exIdxV, exIdxP, exBox, exAlloc, exLoad, exStore, exFieldA, exIdxA, exLen, exPick, exUn, exBeq, exMM, exSeq, seqGo, exExt, binV, intOp, subc, AV.solid, S0, encI, encB, c_reach_walker_from, encPat_eq, encW, encIs, encRs, htv]
                refine hag _ _ (hT.keep hJ (fun i hi => hset _ _ i (hlt i hi)) ?_) fun S3 A3 hJ3 hE3 => ?_
                · simp; omega
                · simp [AW_seq, AW_reg, AW_regD, AW_block, AW_cond, AW_skip, AW_exit, AW_ret, AW_scp, condR_true, condR_false, AThen_normal, AThen_ret, AThen_exit, ABlock_normal, ABlock_ret, ABlock_exit, AScope_normal, AScope_ret, AScope_exit, RetK_ret, RetK_normal, retAV_one, retAV_two, retAV_three, retAV_nil, RG_nil, RG_op, RG_guard, gdR_tt, gdR_ff, gdR_tf, gdR_ft, gdR_un, RG_call, callQ_clo, contK_ap, opR_some, RD_nil, RD_op0, RD_op1, opD0_some, opD1_some, RD_call, callQD_clo, RD_guard, gdD_tt, gdD_ff, gdD_tf, gdD_ft, gdD_un, psh_nil, psh_cons, Apt_nil, Apt_nilT, Apt_true, Apt_false, Dis_def, runT_val, runT_rd, runT_wr, runT_new, runT_mv, ex, put_some, put_none, ev_t, ev_c, argF_zero, argF_succ, set_g, set_n, cells_v, cells_sl, cells_agg, cells_own, cells_ptr, cells_clo, cells_eptr, cells_mp, putc, exBslice, lfill, exField, exIdxV, exIdxP, exBox, exAlloc, exLoad, exStore, exFieldA, exIdxA, exLen, exPick, exUn, exBeq, exMM, exSeq, seqGo, exExt, binV, intOp, subc, AV.solid, S0, encI, encB]
                  refine tell _ ?_ (fun i hi => ?_) S3 A3 (by rw [hvis]; exact hJ3) hE3
                  · simp; omega
                  · exact hset _ _ i hi
            · have hv0 : visits l (.mk k ps pg ks) at_ = [] := by
                rw [hvis]
                match ks, hk1 with
                | [], _ => simp [visAg]
                | _ :: _ :: _, _ => simp [visAg]
              have hk1' : ((ks.length : Int) == 1) = false := by simp; omega
              rcases k7 with rfl | rfl | rfl <;>
              · simp [AW_seq, AW_reg, AW_regD, AW_block, AW_cond, AW_skip, AW_exit, AW_ret, AW_scp, condR_true, condR_false, AThen_normal, AThen_ret, AThen_exit, ABlock_normal, ABlock_ret, ABlock_exit, AScope_normal, AScope_ret, AScope_exit, RetK_ret, RetK_normal, retAV_one, retAV_two, retAV_three, retAV_nil, RG_nil, RG_op, RG_guard, gdR_tt, gdR_ff, gdR_tf, gdR_ft, gdR_un, RG_call, callQ_clo, contK_ap, opR_some, RD_nil, RD_op0, RD_op1, opD0_some, opD1_some, RD_call, callQD_clo, RD_guard, gdD_tt, gdD_ff, gdD_tf, gdD_ft, gdD_un, psh_nil, psh_cons, Apt_nil, Apt_nilT, Apt_true, Apt_false, Dis_def, runT_val, runT_rd, runT_wr, runT_new, runT_mv, ex, put_some, put_none, ev_t, ev_c, argF_zero, argF_succ, set_g, set_n, cells_v, cells_sl, cells_agg, cells_own, cells_ptr, cells_clo, cells_eptr, cells_mp, putc, exBslice, lfill, exField, exIdxV, exIdxP, exBox, exAlloc, exLoad, exStore, exFieldA, exIdxA, exLen, exPick, exUn, exBeq, exMM, exSeq, seqGo, exExt, binV, intOp, subc, AV.solid, S0, encI, encB, c_reach_walker_from, encPat_eq, encW, encIs, encRs, htv, hk1, hk1']
                exact skip _ hv0 (by simp; omega) (fun i hi => hset _ _ i hi)
          · rw [if_neg k7] at hvis
            have k7' : (k == 7) = false := by simp; omega
            have k5' : (k == 5) = false := by simp; omega
            have k6' : (k == 6) = false := by simp; omega
            have m7 : ¬ k = 7 := by omega
            have m5 : ¬ k = 5 := by omega
            have m6 : ¬ k = 6 := by omega
            simp [AW_seq, AW_reg, AW_regD, AW_block, AW_cond, AW_skip, AW_exit, AW_ret, AW_scp, condR_true, condR_false, AThen_normal, AThen_ret, AThen_exit, ABlock_normal, ABlock_ret, ABlock_exit, AScope_normal, AScope_ret, AScope_exit, RetK_ret, RetK_normal, retAV_one, retAV_two, retAV_three, retAV_nil, RG_nil, RG_op, RG_guard, gdR_tt, gdR_ff, gdR_tf, gdR_ft, gdR_un, RG_call, callQ_clo, contK_ap, opR_some, RD_nil, RD_op0, RD_op1, opD0_some, opD1_some, RD_call, callQD_clo, RD_guard, gdD_tt, gdD_ff, gdD_tf, gdD_ft, gdD_un, psh_nil, psh_cons, Apt_nil, Apt_nilT, Apt_true, Apt_false, Dis_def, runT_val, runT_rd, runT_wr, runT_new, runT_mv, ex, put_some, put_none, ev_t, ev_c, argF_zero, argF_succ, set_g, set_n, cells_v, cells_sl, cells_agg, cells_own, cells_ptr, cells_clo, cells_eptr, cells_mp, putc, exBslice, lfill, exField, exIdxV, exIdxP, exBox, exAlloc, exLoad, exStore, exFieldA, exIdxA, exLen, exPick, exUn, exBeq, exMM, exSeq, seqGo, exExt, binV, intOp, subc, AV.solid, S0, encI, encB, c_reach_walker_from, encPat_eq, encW, encIs, encRs, k1, k2, k3, k4, m5, m6, m7, k1', k2', k3', k4', k5', k6', k7']
            exact skip _ hvis (by simp; omega) (fun i hi => hset _ _ i hi)
mutual
theorem from_ok {P : Program} (hm : P.follows .mixedOrders = true) {ff fa fg f1 fo fo1 a1 f2 fc : FuncId} (F : RFns P ff fa fg f1 fo fo1 a1 f2 fc) {l : List Int} (hl : l.length ≤ 10000) : ∀ (p : Pat), PatS p → FromOk P ff l p
  | .mk k ps pg ks, h => by
    simp only [PatS] at h
    exact from_step hm F hl h.2.1 h.1 (froms_ok hm F hl ks h.2.2)
theorem froms_ok {P : Program} (hm : P.follows .mixedOrders = true) {ff fa fg f1 fo fo1 a1 f2 fc : FuncId} (F : RFns P ff fa fg f1 fo fo1 a1 f2 fc) {l : List Int} (hl : l.length ≤ 10000) : ∀ (ks : List Pat), PatsS ks → ∀ q ∈ ks, FromOk P ff l q
  | [], _, q, hq => by simp at hq
  | p :: ps, h, q, hq => by
    simp only [PatsS] at h
    rcases List.mem_cons.mp hq with e | hq
    · rw [e]; exact from_ok hm F hl p h.1
    · exact froms_ok hm F hl ps h.2 q hq
end
end Go.Rf


/- Own work: reach.Ends. -/
set_option linter.unusedVariables false
set_option linter.unusedSimpArgs false
namespace Go.Rf
open Go.RowKit

def c_reach_Ends_1 (f_reach_walker_from : FuncId) : AC :=
  (.reg none [
   ⟨(some 5), .load none (.t 1), none, none⟩,
   ⟨(some 6), .build (.agg [(.sl true [])]) [(0, 1)] [(0, (.t 5))], none, none⟩,
   ⟨(some 7), .load (some 4) (.t 2), none, none⟩,
   ⟨(some 8), .load none (.t 3), none, none⟩,
   ⟨(some 9), .mv (.t 0), none, none⟩,
   ⟨(some 10), .mv (.c .junk), none, (some ((.c (.clo f_reach_walker_from [] [])), [(.t 6), (.t 7), (.t 8), (.t 9)]))⟩])
def c_reach_Ends (f_reach_Ends_1 f_reach_once f_slices_Sort_Sint_int_ : FuncId) : AC :=
  (.seq (.reg none [
   ⟨(some 3), .box 4 (.t 0), none, none⟩,
   ⟨(some 4), .box 1 (.t 1), none, none⟩,
   ⟨(some 5), .box 1 (.t 2), none, none⟩,
   ⟨(some 6), .mv (.c (.sl true [])), none, none⟩])
  (.seq (.seq (.reg none [
   ⟨(some 8), .load none (.t 5), none, none⟩,
   ⟨(some 9), .bin .lss (.t 8) (.c (.v (.int .i64 0))), none, none⟩,
   ⟨(some 10), .mv (.t 9), none, none⟩,
   ⟨(some 11), .load none (.t 5), (some (10, false)), none⟩,
   ⟨(some 12), .load none (.t 4), (some (10, false)), none⟩,
   ⟨(some 13), .len (.t 12), (some (10, false)), none⟩,
   ⟨(some 14), .bin .gtr (.t 11) (.t 13), (some (10, false)), none⟩,
   ⟨(some 15), .pick (.t 10) (.c (.v (.bool true))) (.t 14), none, none⟩])
  (.cond (.t 15) (.seq (.reg none [
    ⟨(some 6), .mv (.c (.sl true [])), none, none⟩])
   .ret) .skip))
  (.seq (.reg none [
   ⟨(some 16), .mkf f_reach_Ends_1 [] [(.t 4), (.t 3), (.t 5)], none, none⟩,
   ⟨(some 17), .mv (.c .junk), none, (some ((.c (.clo f_reach_once [] [])), [(.t 16)]))⟩,
   ⟨(some 7), .mv (.t 17), none, none⟩])
  (.seq (.reg none [
   ⟨(some 18), .mv (.t 7), none, none⟩,
   ⟨(some 19), .mv (.c .junk), none, (some ((.c (.clo f_slices_Sort_Sint_int_ [] [])), [(.t 18)]))⟩])
  (.seq (.reg none [
   ⟨(some 20), .mv (.t 7), none, none⟩,
   ⟨(some 6), .mv (.t 20), none, none⟩])
  .ret)))))
def endsP (p : Pat) (l : List Int) (at_ : Int) : List Int := if at_ < 0 ∨ (l.length : Int) < at_ then [] else (ddp (visits l p at_)).mergeSort fun x y => decide (x ≤ y)
theorem ends_1_deed {P : Program} (hm : P.follows .mixedOrders = true) {ff f1 : FuncId} (hI : Is P f1 (c_reach_Ends_1 ff) [] 4) {l : List Int} {p : Pat} (hq : FromOk P ff l p) {at_ : Int} (h0 : 0 ≤ at_) (h1 : at_ ≤ l.length) {S : St} {b4 b3 b5 : Nat} (l4 : b4 < S.n) (l3 : b3 < S.n) (l5 : b5 < S.n)
    (g4 : S.g b4 = some (.arr 1 [encIs l])) (g3 : S.g b3 = some (.arr 4 [encPat p])) (g5 : S.g b5 = some (.arr 1 [encI at_])) :
    Deed P l.length (.clo f1 [] [.ptr b4 0 0, .ptr b3 0 0, .ptr b5 0 0]) S (visits l p at_) := by
  refine ⟨f1, [], _, rfl, fun S1 hn hg tv J L A K hT hJ hA hk => ?_⟩
  refine hI.callR hm rfl ?_
  have g4' := (hg b4 l4).trans g4
  have g3' := (hg b3 l3).trans g3
  have g5' := (hg b5 l5).trans g5
  obtain ⟨qk, qs, qg, qks⟩ := p
  have hq2 := hq
  unfold FromOk at hq2
  simp only [encPat_eq, encW, encIs, encI, encRs] at hq2 g4' g3' g5'
  simp [AW_seq, AW_reg, AW_regD, AW_block, AW_cond, AW_skip, AW_exit, AW_ret, AW_scp, condR_true, condR_false, AThen_normal, AThen_ret, AThen_exit, ABlock_normal, ABlock_ret, ABlock_exit, AScope_normal, AScope_ret, AScope_exit, RetK_ret, RetK_normal, retAV_one, retAV_two, retAV_three, retAV_nil, RG_nil, RG_op, RG_guard, gdR_tt, gdR_ff, gdR_tf, gdR_ft, gdR_un, RG_call, callQ_clo, contK_ap, opR_some, RD_nil, RD_op0, RD_op1, opD0_some, opD1_some, RD_call, callQD_clo, RD_guard, gdD_tt, gdD_ff, gdD_tf, gdD_ft, gdD_un, psh_nil, psh_cons, Apt_nil, Apt_nilT, Apt_true, Apt_false, Dis_def, runT_val, runT_rd, runT_wr, runT_new, runT_mv, ex, put_some, put_none, ev_t, ev_c, argF_zero, argF_succ, set_g, set_n, cells_v, cells_sl, cells_agg, cells_own, cells_ptr, cells_clo, cells_eptr, cells_mp, putc, exBslice, lfill, exField, exIdxV, exIdxP, exBox, exAlloc, exLoad, exStore, exFieldA, exIdxA, exLen, exPick, exUn, exBeq, exMM, exSeq, seqGo, exExt, binV, intOp, subc, AV.solid, S0, encI, encB, c_reach_Ends_1, g4', g3', g5', exBuild, afill]
  refine hq2 _ _ J L A _ _ h0 h1 hT (hT.keep hJ (fun _ _ => rfl) (by show S1.n ≤ _; simp)) fun S3 A3 hJ3 hE3 => ?_
  have hn3 : S1.n + 6 ≤ S3.n := hE3.nn
  simp [AW_seq, AW_reg, AW_regD, AW_block, AW_cond, AW_skip, AW_exit, AW_ret, AW_scp, condR_true, condR_false, AThen_normal, AThen_ret, AThen_exit, ABlock_normal, ABlock_ret, ABlock_exit, AScope_normal, AScope_ret, AScope_exit, RetK_ret, RetK_normal, retAV_one, retAV_two, retAV_three, retAV_nil, RG_nil, RG_op, RG_guard, gdR_tt, gdR_ff, gdR_tf, gdR_ft, gdR_un, RG_call, callQ_clo, contK_ap, opR_some, RD_nil, RD_op0, RD_op1, opD0_some, opD1_some, RD_call, callQD_clo, RD_guard, gdD_tt, gdD_ff, gdD_tf, gdD_ft, gdD_un, psh_nil, psh_cons, Apt_nil, Apt_nilT, Apt_true, Apt_false, Dis_def, runT_val, runT_rd, runT_wr, runT_new, runT_mv, ex, put_some, put_none, ev_t, ev_c, argF_zero, argF_succ, set_g, set_n, cells_v, cells_sl, cells_agg, cells_own, cells_ptr, cells_clo, cells_eptr, cells_mp, putc, exBslice, lfill, exField, exIdxV, exIdxP, exBox, exAlloc, exLoad, exStore, exFieldA, exIdxA, exLen, exPick, exUn, exBeq, exMM, exSeq, seqGo, exExt, binV, intOp, subc, AV.solid, S0, encI, encB]
  refine hk _ A3 hJ3 ⟨fun i hi => ?_, fun i hi hi2 => ?_, by omega⟩
  · rcases hE3.nw i hi with h2 | h2
    · exact .inl h2
    · exact .inr (by have h3 : S1.n + 6 ≤ i := h2; omega)
  · exact hE3.fr i (by show i < S1.n + 6; omega) hi2
theorem reach_Ends_body {P : Program} (hm : P.follows .mixedOrders = true) {ff f1 fo fo1 fs : FuncId} (hI1 : Is P f1 (c_reach_Ends_1 ff) [] 4) (hIo : Is P fo (c_reach_once fo1) [2] 1) (hIo1 : Is P fo1 c_reach_once_1 [] 3) (hs : HSort P fs) (hs0 : PureC P fs [.sl true []] (.tup [])) {l : List Int} (hl : l.length ≤ 10000) {p : Pat} (hq : FromOk P ff l p) (at_ : Int) :
    AW P (c_reach_Ends f1 fo fs) (RetK [6] (FzK (encIs (endsP p l at_)))) (argF [encPat p, encIs l, encI at_]) S0 := by
  obtain ⟨qk, qs, qg, qks⟩ := p
  by_cases h0 : at_ < 0
  · have he : endsP (.mk qk qs qg qks) l at_ = [] := by unfold endsP; rw [if_pos (.inl h0)]
    rw [he]
    simp [AW_seq, AW_reg, AW_regD, AW_block, AW_cond, AW_skip, AW_exit, AW_ret, AW_scp, condR_true, condR_false, AThen_normal, AThen_ret, AThen_exit, ABlock_normal, ABlock_ret, ABlock_exit, AScope_normal, AScope_ret, AScope_exit, RetK_ret, RetK_normal, retAV_one, retAV_two, retAV_three, retAV_nil, RG_nil, RG_op, RG_guard, gdR_tt, gdR_ff, gdR_tf, gdR_ft, gdR_un, RG_call, callQ_clo, contK_ap, opR_some, RD_nil, RD_op0, RD_op1, opD0_some, opD1_some, RD_call, callQD_clo, RD_guard, gdD_tt, gdD_ff, gdD_tf, gdD_ft, gdD_un, psh_nil, psh_cons, Apt_nil, Apt_nilT, Apt_true, Apt_false, Dis_def, runT_val, runT_rd, runT_wr, runT_new, runT_mv, ex, put_some, put_none, ev_t, ev_c, argF_zero, argF_succ, set_g, set_n, cells_v, cells_sl, cells_agg, cells_own, cells_ptr, cells_clo, cells_eptr, cells_mp, putc, exBslice, lfill, exField, exIdxV, exIdxP, exBox, exAlloc, exLoad, exStore, exFieldA, exIdxA, exLen, exPick, exUn, exBeq, exMM, exSeq, seqGo, exExt, binV, intOp, subc, AV.solid, S0, encI, encB, c_reach_Ends, encPat_eq, encIs, encRs, h0]
    exact .loose true [] (.sl _ _ (by simp))
  · by_cases h1 : (l.length : Int) < at_
    · have he : endsP (.mk qk qs qg qks) l at_ = [] := by unfold endsP; rw [if_pos (.inr h1)]
      rw [he]
      simp [AW_seq, AW_reg, AW_regD, AW_block, AW_cond, AW_skip, AW_exit, AW_ret, AW_scp, condR_true, condR_false, AThen_normal, AThen_ret, AThen_exit, ABlock_normal, ABlock_ret, ABlock_exit, AScope_normal, AScope_ret, AScope_exit, RetK_ret, RetK_normal, retAV_one, retAV_two, retAV_three, retAV_nil, RG_nil, RG_op, RG_guard, gdR_tt, gdR_ff, gdR_tf, gdR_ft, gdR_un, RG_call, callQ_clo, contK_ap, opR_some, RD_nil, RD_op0, RD_op1, opD0_some, opD1_some, RD_call, callQD_clo, RD_guard, gdD_tt, gdD_ff, gdD_tf, gdD_ft, gdD_un, psh_nil, psh_cons, Apt_nil, Apt_nilT, Apt_true, Apt_false, Dis_def, runT_val, runT_rd, runT_wr, runT_new, runT_mv, ex, put_some, put_none, ev_t, ev_c, argF_zero, argF_succ, set_g, set_n, cells_v, cells_sl, cells_agg, cells_own, cells_ptr, cells_clo, cells_eptr, cells_mp, putc, exBslice, lfill, exField, exIdxV, exIdxP, exBox, exAlloc, exLoad, exStore, exFieldA, exIdxA, exLen, exPick, exUn, exBeq, exMM, exSeq, seqGo, exExt, binV, intOp, subc, AV.solid, S0, encI, encB, c_reach_Ends, encPat_eq, encIs, encRs, h0, h1]
      exact .loose true [] (.sl _ _ (by simp))
    · have he : endsP (.mk qk qs qg qks) l at_ = (ddp (visits l (.mk qk qs qg qks) at_)).mergeSort fun x y => decide (x ≤ y) := by unfold endsP; rw [if_neg (by omega)]
      rw [he]
      simp [AW_seq, AW_reg, AW_regD, AW_block, AW_cond, AW_skip, AW_exit, AW_ret, AW_scp, condR_true, condR_false, AThen_normal, AThen_ret, AThen_exit, ABlock_normal, ABlock_ret, ABlock_exit, AScope_normal, AScope_ret, AScope_exit, RetK_ret, RetK_normal, retAV_one, retAV_two, retAV_three, retAV_nil, RG_nil, RG_op, RG_guard, gdR_tt, gdR_ff, gdR_tf, gdR_ft, gdR_un, RG_call, callQ_clo, contK_ap, opR_some, RD_nil, RD_op0, RD_op1, opD0_some, opD1_some, RD_call, callQD_clo, RD_guard, gdD_tt, gdD_ff, gdD_tf, gdD_ft, gdD_un, psh_nil, psh_cons, Apt_nil, Apt_nilT, Apt_true, Apt_false, Dis_def, runT_val, runT_rd, runT_wr, runT_new, runT_mv, ex, put_some, put_none, ev_t, ev_c, argF_zero, argF_succ, set_g, set_n, cells_v, cells_sl, cells_agg, cells_own, cells_ptr, cells_clo, cells_eptr, cells_mp, putc, exBslice, lfill, exField, exIdxV, exIdxP, exBox, exAlloc, exLoad, exStore, exFieldA, exIdxA, exLen, exPick, exUn, exBeq, exMM, exSeq, seqGo, exExt, binV, intOp, subc, AV.solid, S0, encI, encB, c_reach_Ends, encPat_eq, encIs, encRs, h0, h1]
      have h0' : 0 ≤ at_ := by omega
      have h1' : at_ ≤ l.length := by omega
      have hbd := visits_bd l (.mk qk qs qg qks) at_ h0' h1'
      have hdl := ddp_len (n := l.length) (L := visits l (.mk qk qs qg qks) at_) (fun x hx => by have := hbd x hx; omega)
      refine once_callR' hm hIo hIo1 (n := l.length) (vs := visits l (.mk qk qs qg qks) at_) (by omega) (ends_1_deed hm hI1 hq h0' h1' (by show 1 < 15; omega) (by show 0 < 15; omega) (by show 2 < 15; omega) (by simp [set_g, encIs]) (by simp [set_g, encPat_eq, encI, encIs, encRs]) (by simp [set_g, encI])) (fun S2 v hv hve hvi hfr hn2 => ?_)
      generalize ddp (visits l (.mk qk qs qg qks) at_) = vs at *
      rcases hv with ⟨rfl, hnil⟩ | ⟨id, off, ys, rfl, hg, hle, hdr⟩
      · have hv0 : vs = [] := by simpa using hnil
        subst hv0
        simp [AW_seq, AW_reg, AW_regD, AW_block, AW_cond, AW_skip, AW_exit, AW_ret, AW_scp, condR_true, condR_false, AThen_normal, AThen_ret, AThen_exit, ABlock_normal, ABlock_ret, ABlock_exit, AScope_normal, AScope_ret, AScope_exit, RetK_ret, RetK_normal, retAV_one, retAV_two, retAV_three, retAV_nil, RG_nil, RG_op, RG_guard, gdR_tt, gdR_ff, gdR_tf, gdR_ft, gdR_un, RG_call, callQ_clo, contK_ap, opR_some, RD_nil, RD_op0, RD_op1, opD0_some, opD1_some, RD_call, callQD_clo, RD_guard, gdD_tt, gdD_ff, gdD_tf, gdD_ft, gdD_un, psh_nil, psh_cons, Apt_nil, Apt_nilT, Apt_true, Apt_false, Dis_def, runT_val, runT_rd, runT_wr, runT_new, runT_mv, ex, put_some, put_none, ev_t, ev_c, argF_zero, argF_succ, set_g, set_n, cells_v, cells_sl, cells_agg, cells_own, cells_ptr, cells_clo, cells_eptr, cells_mp, putc, exBslice, lfill, exField, exIdxV, exIdxP, exBox, exAlloc, exLoad, exStore, exFieldA, exIdxA, exLen, exPick, exUn, exBeq, exMM, exSeq, seqGo, exExt, binV, intOp, subc, AV.solid, S0, encI, encB]
        refine CallR.pure hs0 (cl_cons (.sl _ _ (by simp)) cl_nil) (.tup _ (by simp)) ?_
        simp [AW_seq, AW_reg, AW_regD, AW_block, AW_cond, AW_skip, AW_exit, AW_ret, AW_scp, condR_true, condR_false, AThen_normal, AThen_ret, AThen_exit, ABlock_normal, ABlock_ret, ABlock_exit, AScope_normal, AScope_ret, AScope_exit, RetK_ret, RetK_normal, retAV_one, retAV_two, retAV_three, retAV_nil, RG_nil, RG_op, RG_guard, gdR_tt, gdR_ff, gdR_tf, gdR_ft, gdR_un, RG_call, callQ_clo, contK_ap, opR_some, RD_nil, RD_op0, RD_op1, opD0_some, opD1_some, RD_call, callQD_clo, RD_guard, gdD_tt, gdD_ff, gdD_tf, gdD_ft, gdD_un, psh_nil, psh_cons, Apt_nil, Apt_nilT, Apt_true, Apt_false, Dis_def, runT_val, runT_rd, runT_wr, runT_new, runT_mv, ex, put_some, put_none, ev_t, ev_c, argF_zero, argF_succ, set_g, set_n, cells_v, cells_sl, cells_agg, cells_own, cells_ptr, cells_clo, cells_eptr, cells_mp, putc, exBslice, lfill, exField, exIdxV, exIdxP, exBox, exAlloc, exLoad, exStore, exFieldA, exIdxA, exLen, exPick, exUn, exBeq, exMM, exSeq, seqGo, exExt, binV, intOp, subc, AV.solid, S0, encI, encB]
        exact .loose true [] (.sl _ _ (by simp))
      · have hlm : (vs.mergeSort fun x y => decide (x ≤ y)).length = vs.length := List.length_mergeSort _
        simp only [List.length_map]
        by_cases hv0 : vs = []
        · have := hve hv0
          cases this
        · simp [AW_seq, AW_reg, AW_regD, AW_block, AW_cond, AW_skip, AW_exit, AW_ret, AW_scp, condR_true, condR_false, AThen_normal, AThen_ret, AThen_exit, ABlock_normal, ABlock_ret, ABlock_exit, AScope_normal, AScope_ret, AScope_exit, RetK_ret, RetK_normal, retAV_one, retAV_two, retAV_three, retAV_nil, RG_nil, RG_op, RG_guard, gdR_tt, gdR_ff, gdR_tf, gdR_ft, gdR_un, RG_call, callQ_clo, contK_ap, opR_some, RD_nil, RD_op0, RD_op1, opD0_some, opD1_some, RD_call, callQD_clo, RD_guard, gdD_tt, gdD_ff, gdD_tf, gdD_ft, gdD_un, psh_nil, psh_cons, Apt_nil, Apt_nilT, Apt_true, Apt_false, Dis_def, runT_val, runT_rd, runT_wr, runT_new, runT_mv, ex, put_some, put_none, ev_t, ev_c, argF_zero, argF_succ, set_g, set_n, cells_v, cells_sl, cells_agg, cells_own, cells_ptr, cells_clo, cells_eptr, cells_mp, putc, exBslice, lfill, exField, exIdxV, exIdxP, exBox, exAlloc, exLoad, exStore, exFieldA, exIdxA, exLen, exPick, exUn, exBeq, exMM, exSeq, seqGo, exExt, binV, intOp, subc, AV.solid, S0, encI, encB]
          refine hs _ id off ys vs _ hg hdr hv0 (by omega) ?_
          simp [AW_seq, AW_reg, AW_regD, AW_block, AW_cond, AW_skip, AW_exit, AW_ret, AW_scp, condR_true, condR_false, AThen_normal, AThen_ret, AThen_exit, ABlock_normal, ABlock_ret, ABlock_exit, AScope_normal, AScope_ret, AScope_exit, RetK_ret, RetK_normal, retAV_one, retAV_two, retAV_three, retAV_nil, RG_nil, RG_op, RG_guard, gdR_tt, gdR_ff, gdR_tf, gdR_ft, gdR_un, RG_call, callQ_clo, contK_ap, opR_some, RD_nil, RD_op0, RD_op1, opD0_some, opD1_some, RD_call, callQD_clo, RD_guard, gdD_tt, gdD_ff, gdD_tf, gdD_ft, gdD_un, psh_nil, psh_cons, Apt_nil, Apt_nilT, Apt_true, Apt_false, Dis_def, runT_val, runT_rd, runT_wr, runT_new, runT_mv, ex, put_some, put_none, ev_t, ev_c, argF_zero, argF_succ, set_g, set_n, cells_v, cells_sl, cells_agg, cells_own, cells_ptr, cells_clo, cells_eptr, cells_mp, putc, exBslice, lfill, exField, exIdxV, exIdxP, exBox, exAlloc, exLoad, exStore, exFieldA, exIdxA, exLen, exPick, exUn, exBeq, exMM, exSeq, seqGo, exExt, binV, intOp, subc, AV.solid, S0, encI, encB]
          refine Vec.fz (es := 1) (l := vs.mergeSort fun x y => decide (x ≤ y)) (.inr ⟨id, off, _, by rw [List.length_map, hlm], by simp only [set_g]; rw [if_pos trivial], ?_, ?_⟩) closed_I
          · simp; omega
          · rw [List.drop_append_of_le_length (by simp; omega)]
            simp
end Go.Rf


/- Own work: reach.Matches, Null, turned, Begins. -/
set_option linter.unusedVariables false
set_option linter.unusedSimpArgs false
namespace Go.Rf
open Go.RowKit

def c_reach_Matches (f_reach_Ends f_slices_Contains_Sint_int_ : FuncId) : AC :=
  (.seq (.reg none [
   ⟨(some 4), .box 4 (.t 0), none, none⟩,
   ⟨(some 8), .mv (.c (.v (.bool false))), none, none⟩])
  (.seq (.reg none [
   ⟨(some 9), .load (some 4) (.t 4), none, none⟩,
   ⟨(some 10), .mv (.t 1), none, none⟩,
   ⟨(some 11), .mv (.t 2), none, none⟩,
   ⟨(some 12), .mv (.c .junk), none, (some ((.c (.clo f_reach_Ends [] [])), [(.t 9), (.t 10), (.t 11)]))⟩,
   ⟨(some 13), .mv (.t 3), none, none⟩,
   ⟨(some 14), .mv (.c .junk), none, (some ((.c (.clo f_slices_Contains_Sint_int_ [] [])), [(.t 12), (.t 13)]))⟩,
   ⟨(some 8), .mv (.t 14), none, none⟩])
  .ret))
def c_reach_Null (f_reach_Matches : FuncId) : AC :=
  (.seq (.reg none [
   ⟨(some 1), .box 4 (.t 0), none, none⟩,
   ⟨(some 2), .mv (.c (.v (.bool false))), none, none⟩])
  (.seq (.reg none [
   ⟨(some 3), .load (some 4) (.t 1), none, none⟩,
   ⟨(some 4), .mv (.c .junk), none, (some ((.c (.clo f_reach_Matches [] [])), [(.t 3), (.c (.sl true [])), (.c (.v (.int .i64 0))), (.c (.v (.int .i64 0)))]))⟩,
   ⟨(some 2), .mv (.t 4), none, none⟩])
  .ret))
def c_reach_turned_int_ (f_slices_Clone_Sint_int_ f_slices_Reverse_Sint_int_ : FuncId) : AC :=
  (.seq (.reg none [
   ⟨(some 2), .mv (.c (.sl true [])), none, none⟩])
  (.seq (.reg none [
   ⟨(some 3), .mv (.t 0), none, none⟩,
   ⟨(some 4), .mv (.c .junk), none, (some ((.c (.clo f_slices_Clone_Sint_int_ [] [])), [(.t 3)]))⟩,
   ⟨(some 0), .mv (.t 4), none, none⟩])
  (.seq (.reg none [
   ⟨(some 5), .mv (.t 0), none, none⟩,
   ⟨(some 6), .mv (.c .junk), none, (some ((.c (.clo f_slices_Reverse_Sint_int_ [] [])), [(.t 5)]))⟩])
  (.seq (.reg none [
   ⟨(some 7), .mv (.t 0), none, none⟩,
   ⟨(some 2), .mv (.t 7), none, none⟩])
  .ret))))
def c_rb_loop : AC :=
  (.block 0 (.loop (.seq (.reg none [
     ⟨(some 29), .bin .lss (.t 28) (.t 27), none, none⟩])
    (.seq (.cond (.t 29) .skip (.exit 0))
    (.seq (.block 1 (.seq (.reg none [
      ⟨(some 30), .idxA 1 (.t 26) (.t 28), none, none⟩,
      ⟨(some 31), .load none (.t 30), none, none⟩,
      ⟨(some 9), .mv (.t 31), none, none⟩])
     (.reg none [
      ⟨(some 32), .mv (.t 7), none, none⟩,
      ⟨(some 33), .mv (.t 1), none, none⟩,
      ⟨(some 34), .len (.t 33), none, none⟩,
      ⟨(some 35), .mv (.t 9), none, none⟩,
      ⟨(some 36), .bin .sub (.t 34) (.t 35), none, none⟩,
      ⟨(some 37), .bslice 1 1 (.v (.int .i64 0)) [(0, (.t 36))], none, none⟩,
      ⟨(some 38), .app 1 8 (.t 32) (.t 37), none, none⟩,
      ⟨(some 7), .mv (.t 38), none, none⟩])))
    (.reg none [
     ⟨(some 39), .bin .add (.t 28) (.c (.v (.int .i64 1))), none, none⟩,
     ⟨(some 28), .mv (.t 39), none, none⟩]))))))
def c_reach_Begins (f_reach_Turn f_reach_turned_int_ f_reach_Ends : FuncId) : AC :=
  (.seq (.reg none [
   ⟨(some 3), .box 4 (.t 0), none, none⟩,
   ⟨(some 6), .mv (.c (.sl true [])), none, none⟩])
  (.seq (.seq (.reg none [
   ⟨(some 10), .mv (.t 2), none, none⟩,
   ⟨(some 11), .bin .lss (.t 10) (.c (.v (.int .i64 0))), none, none⟩,
   ⟨(some 12), .mv (.t 11), none, none⟩,
   ⟨(some 13), .mv (.t 2), (some (12, false)), none⟩,
   ⟨(some 14), .mv (.t 1), (some (12, false)), none⟩,
   ⟨(some 15), .len (.t 14), (some (12, false)), none⟩,
   ⟨(some 16), .bin .gtr (.t 13) (.t 15), (some (12, false)), none⟩,
   ⟨(some 17), .pick (.t 12) (.c (.v (.bool true))) (.t 16), none, none⟩])
  (.cond (.t 17) (.seq (.reg none [
    ⟨(some 6), .mv (.c (.sl true [])), none, none⟩])
   .ret) .skip))
  (.seq (.reg none [
   ⟨(some 7), .mv (.c (.sl true [])), none, none⟩])
  (.seq (.seq (.reg none [
   ⟨(some 18), .load (some 4) (.t 3), none, none⟩,
   ⟨(some 19), .mv (.c .junk), none, (some ((.c (.clo f_reach_Turn [] [])), [(.t 18)]))⟩,
   ⟨(some 20), .mv (.t 1), none, none⟩,
   ⟨(some 21), .mv (.c .junk), none, (some ((.c (.clo f_reach_turned_int_ [] [])), [(.t 20)]))⟩,
   ⟨(some 22), .mv (.t 1), none, none⟩,
   ⟨(some 23), .len (.t 22), none, none⟩,
   ⟨(some 24), .mv (.t 2), none, none⟩,
   ⟨(some 25), .bin .sub (.t 23) (.t 24), none, none⟩,
   ⟨(some 26), .mv (.c .junk), none, (some ((.c (.clo f_reach_Ends [] [])), [(.t 19), (.t 21), (.t 25)]))⟩,
   ⟨(some 27), .len (.t 26), none, none⟩,
   ⟨(some 28), .mv (.c (.v (.int .i64 0))), none, none⟩])
  c_rb_loop)
  (.seq (.reg none [
   ⟨(some 40), .mv (.t 7), none, none⟩,
   ⟨(some 41), .mv (.c .junk), none, (some ((.c (.clo f_reach_turned_int_ [] [])), [(.t 40)]))⟩,
   ⟨(some 6), .mv (.t 41), none, none⟩])
  .ret)))))
def matP (p : Pat) (l : List Int) (a b : Int) : Bool := (endsP p l a).contains b
theorem reach_Matches_body {P : Program} {fe fc : FuncId} (p : Pat) (l : List Int) (a b : Int) (he : PureC P fe [encPat p, encIs l, encI a] (encIs (endsP p l a))) (hc : PureC P fc [encIs (endsP p l a), encI b] (encB (matP p l a b))) :
    AW P (c_reach_Matches fe fc) (RetK [8] (FzK (encB (matP p l a b)))) (argF [encPat p, encIs l, encI a, encI b]) S0 := by
  obtain ⟨k, ps, pg, ks⟩ := p
  have c1 := cl_cons (closed_Pat (.mk k ps pg ks)) (cl_cons (closed_Is l) (cl_cons (closed_I a) cl_nil))
  have c2 := cl_cons (closed_Is (endsP (.mk k ps pg ks) l a)) (cl_cons (closed_I b) cl_nil)
  generalize endsP (.mk k ps pg ks) l a = e at *
  generalize matP (.mk k ps pg ks) l a b = r at *
  simp only [encPat_eq, encIs, encI, encRs] at he hc c1 c2
  simp [AW_seq, AW_reg, AW_regD, AW_block, AW_cond, AW_skip, AW_exit, AW_ret, AW_scp, condR_true, condR_false, AThen_normal, AThen_ret, AThen_exit, ABlock_normal, ABlock_ret, ABlock_exit, AScope_normal, AScope_ret, AScope_exit, RetK_ret, RetK_normal, retAV_one, retAV_two, retAV_three, retAV_nil, RG_nil, RG_op, RG_guard, gdR_tt, gdR_ff, gdR_tf, gdR_ft, gdR_un, RG_call, callQ_clo, contK_ap, opR_some, RD_nil, RD_op0, RD_op1, opD0_some, opD1_some, RD_call, callQD_clo, RD_guard, gdD_tt, gdD_ff, gdD_tf, gdD_ft, gdD_un, psh_nil, psh_cons, Apt_nil, Apt_nilT, Apt_true, Apt_false, Dis_def, runT_val, runT_rd, runT_wr, runT_new, runT_mv, ex, put_some, put_none, ev_t, ev_c, argF_zero, argF_succ, set_g, set_n, cells_v, cells_sl, cells_agg, cells_own, cells_ptr, cells_clo, cells_eptr, cells_mp, putc, exBslice, lfill, exField, exIdxV, exIdxP, exBox, exAlloc, exLoad, exStore, exFieldA, exIdxA, exLen, exPick, exUn, exBeq, exMM, exSeq, seqGo, exExt, binV, intOp, subc, AV.solid, S0, encI, encB, c_reach_Matches, encPat_eq, encIs, encRs]
  refine CallR.pure he c1 (closed_Is e) ?_
  simp [AW_seq, AW_reg, AW_regD, AW_block, AW_cond, AW_skip, AW_exit, AW_ret, AW_scp, condR_true, condR_false, AThen_normal, AThen_ret, AThen_exit, ABlock_normal, ABlock_ret, ABlock_exit, AScope_normal, AScope_ret, AScope_exit, RetK_ret, RetK_normal, retAV_one, retAV_two, retAV_three, retAV_nil, RG_nil, RG_op, RG_guard, gdR_tt, gdR_ff, gdR_tf, gdR_ft, gdR_un, RG_call, callQ_clo, contK_ap, opR_some, RD_nil, RD_op0, RD_op1, opD0_some, opD1_some, RD_call, callQD_clo, RD_guard, gdD_tt, gdD_ff, gdD_tf, gdD_ft, gdD_un, psh_nil, psh_cons, Apt_nil, Apt_nilT, Apt_true, Apt_false, Dis_def, runT_val, runT_rd, runT_wr, runT_new, runT_mv, ex, put_some, put_none, ev_t, ev_c, argF_zero, argF_succ, set_g, set_n, cells_v, cells_sl, cells_agg, cells_own, cells_ptr, cells_clo, cells_eptr, cells_mp, putc, exBslice, lfill, exField, exIdxV, exIdxP, exBox, exAlloc, exLoad, exStore, exFieldA, exIdxA, exLen, exPick, exUn, exBeq, exMM, exSeq, seqGo, exExt, binV, intOp, subc, AV.solid, S0, encI, encB]
  refine CallR.pure hc c2 (closed_B _) ?_
  simp [AW_seq, AW_reg, AW_regD, AW_block, AW_cond, AW_skip, AW_exit, AW_ret, AW_scp, condR_true, condR_false, AThen_normal, AThen_ret, AThen_exit, ABlock_normal, ABlock_ret, ABlock_exit, AScope_normal, AScope_ret, AScope_exit, RetK_ret, RetK_normal, retAV_one, retAV_two, retAV_three, retAV_nil, RG_nil, RG_op, RG_guard, gdR_tt, gdR_ff, gdR_tf, gdR_ft, gdR_un, RG_call, callQ_clo, contK_ap, opR_some, RD_nil, RD_op0, RD_op1, opD0_some, opD1_some, RD_call, callQD_clo, RD_guard, gdD_tt, gdD_ff, gdD_tf, gdD_ft, gdD_un, psh_nil, psh_cons, Apt_nil, Apt_nilT, Apt_true, Apt_false, Dis_def, runT_val, runT_rd, runT_wr, runT_new, runT_mv, ex, put_some, put_none, ev_t, ev_c, argF_zero, argF_succ, set_g, set_n, cells_v, cells_sl, cells_agg, cells_own, cells_ptr, cells_clo, cells_eptr, cells_mp, putc, exBslice, lfill, exField, exIdxV, exIdxP, exBox, exAlloc, exLoad, exStore, exFieldA, exIdxA, exLen, exPick, exUn, exBeq, exMM, exSeq, seqGo, exExt, binV, intOp, subc, AV.solid, S0, encI, encB]
  exact FzK_B _ _
theorem reach_Null_body {P : Program} {fm : FuncId} (p : Pat) (hm : PureC P fm [encPat p, encIs [], encI 0, encI 0] (encB (matP p [] 0 0))) : AW P (c_reach_Null fm) (RetK [2] (FzK (encB (matP p [] 0 0)))) (argF [encPat p]) S0 := by
  obtain ⟨k, ps, pg, ks⟩ := p
  generalize matP (.mk k ps pg ks) [] 0 0 = r at *
  have cp := closed_Pat (.mk k ps pg ks)
  simp only [encPat_eq, encI, encRs, encIs] at hm cp
  simp [AW_seq, AW_reg, AW_regD, AW_block, AW_cond, AW_skip, AW_exit, AW_ret, AW_scp, condR_true, condR_false, AThen_normal, AThen_ret, AThen_exit, ABlock_normal, ABlock_ret, ABlock_exit, AScope_normal, AScope_ret, AScope_exit, RetK_ret, RetK_normal, retAV_one, retAV_two, retAV_three, retAV_nil, RG_nil, RG_op, RG_guard, gdR_tt, gdR_ff, gdR_tf, gdR_ft, gdR_un, RG_call, callQ_clo, contK_ap, opR_some, RD_nil, RD_op0, RD_op1, opD0_some, opD1_some, RD_call, callQD_clo, RD_guard, gdD_tt, gdD_ff, gdD_tf, gdD_ft, gdD_un, psh_nil, psh_cons, Apt_nil, Apt_nilT, Apt_true, Apt_false, Dis_def, runT_val, runT_rd, runT_wr, runT_new, runT_mv, ex, put_some, put_none, ev_t, ev_c, argF_zero, argF_succ, set_g, set_n, cells_v, cells_sl, cells_agg, cells_own, cells_ptr, cells_clo, cells_eptr, cells_mp, putc, exBslice, lfill, exField, exIdxV, exIdxP, exBox, exAlloc, exLoad, exStore, exFieldA, exIdxA, exLen, exPick, exUn, exBeq, exMM, exSeq, seqGo, exExt, binV, intOp, subc, AV.solid, S0, encI, encB, c_reach_Null, encPat_eq, encIs, encRs]
  refine CallR.looks hm (.cons (.closed _ cp) (.cons (.loose true [] (.sl _ _ (by simp))) (.cons (.closed _ (closed_I 0)) (.cons (.closed _ (closed_I 0)) .nil)))) (.v _) ?_
  simp [AW_seq, AW_reg, AW_regD, AW_block, AW_cond, AW_skip, AW_exit, AW_ret, AW_scp, condR_true, condR_false, AThen_normal, AThen_ret, AThen_exit, ABlock_normal, ABlock_ret, ABlock_exit, AScope_normal, AScope_ret, AScope_exit, RetK_ret, RetK_normal, retAV_one, retAV_two, retAV_three, retAV_nil, RG_nil, RG_op, RG_guard, gdR_tt, gdR_ff, gdR_tf, gdR_ft, gdR_un, RG_call, callQ_clo, contK_ap, opR_some, RD_nil, RD_op0, RD_op1, opD0_some, opD1_some, RD_call, callQD_clo, RD_guard, gdD_tt, gdD_ff, gdD_tf, gdD_ft, gdD_un, psh_nil, psh_cons, Apt_nil, Apt_nilT, Apt_true, Apt_false, Dis_def, runT_val, runT_rd, runT_wr, runT_new, runT_mv, ex, put_some, put_none, ev_t, ev_c, argF_zero, argF_succ, set_g, set_n, cells_v, cells_sl, cells_agg, cells_own, cells_ptr, cells_clo, cells_eptr, cells_mp, putc, exBslice, lfill, exField, exIdxV, exIdxP, exBox, exAlloc, exLoad, exStore, exFieldA, exIdxA, exLen, exPick, exUn, exBeq, exMM, exSeq, seqGo, exExt, binV, intOp, subc, AV.solid, S0, encI, encB]
  exact FzK_B _ _
theorem reach_turned_body {P : Program} {fc fv : FuncId} (l : List Int) (hl : l.length ≤ 1000000) (h2 : ByC P fc (c_cloneOv 1 8 (.v (.int .i64 0))) [.t 2] 1) (h3 : HRev P fv) (h4 : PureC P fv [.sl true []] (.tup [])) :
    AW P (c_reach_turned_int_ fc fv) (RetK [2] (FzK (encIs l.reverse))) (argF [encIs l]) S0 := by
  by_cases h0 : l = []
  · subst h0
    have hb : exBslice 1 0 (.v (.int .i64 0)) [] = some (.sl true []) := exBslice_nil _ _
    have hr : ∀ S : St, ∀ nid, (exApp 1 8 (.sl true []) (.sl false [])).run S nid = some (.sl true [], S) := by
      intro S nid
      simp [exApp, lstE, AV.oid, Eff.run, St.setL, St.setO, appOk]
    simp [AW_seq, AW_reg, AW_regD, AW_block, AW_cond, AW_skip, AW_exit, AW_ret, AW_scp, condR_true, condR_false, AThen_normal, AThen_ret, AThen_exit, ABlock_normal, ABlock_ret, ABlock_exit, AScope_normal, AScope_ret, AScope_exit, RetK_ret, RetK_normal, retAV_one, retAV_two, retAV_three, retAV_nil, RG_nil, RG_op, RG_guard, gdR_tt, gdR_ff, gdR_tf, gdR_ft, gdR_un, RG_call, callQ_clo, contK_ap, opR_some, RD_nil, RD_op0, RD_op1, opD0_some, opD1_some, RD_call, callQD_clo, RD_guard, gdD_tt, gdD_ff, gdD_tf, gdD_ft, gdD_un, psh_nil, psh_cons, Apt_nil, Apt_nilT, Apt_true, Apt_false, Dis_def, runT_val, runT_rd, runT_wr, runT_new, runT_mv, ex, put_some, put_none, ev_t, ev_c, argF_zero, argF_succ, set_g, set_n, cells_v, cells_sl, cells_agg, cells_own, cells_ptr, cells_clo, cells_eptr, cells_mp, putc, exBslice, lfill, exField, exIdxV, exIdxP, exBox, exAlloc, exLoad, exStore, exFieldA, exIdxA, exLen, exPick, exUn, exBeq, exMM, exSeq, seqGo, exExt, binV, intOp, subc, AV.solid, S0, encI, encB, c_reach_turned_int_, encIs]
    refine h2 rfl ?_
    simp [AW_seq, AW_reg, AW_regD, AW_block, AW_cond, AW_skip, AW_exit, AW_ret, AW_scp, condR_true, condR_false, AThen_normal, AThen_ret, AThen_exit, ABlock_normal, ABlock_ret, ABlock_exit, AScope_normal, AScope_ret, AScope_exit, RetK_ret, RetK_normal, retAV_one, retAV_two, retAV_three, retAV_nil, RG_nil, RG_op, RG_guard, gdR_tt, gdR_ff, gdR_tf, gdR_ft, gdR_un, RG_call, callQ_clo, contK_ap, opR_some, RD_nil, RD_op0, RD_op1, opD0_some, opD1_some, RD_call, callQD_clo, RD_guard, gdD_tt, gdD_ff, gdD_tf, gdD_ft, gdD_un, psh_nil, psh_cons, Apt_nil, Apt_nilT, Apt_true, Apt_false, Dis_def, runT_val, runT_rd, runT_wr, runT_new, runT_mv, ex, put_some, put_none, ev_t, ev_c, argF_zero, argF_succ, set_g, set_n, cells_v, cells_sl, cells_agg, cells_own, cells_ptr, cells_clo, cells_eptr, cells_mp, putc, exBslice, lfill, exField, exIdxV, exIdxP, exBox, exAlloc, exLoad, exStore, exFieldA, exIdxA, exLen, exPick, exUn, exBeq, exMM, exSeq, seqGo, exExt, binV, intOp, subc, AV.solid, S0, encI, encB, c_cloneOv, hb, hr]
    refine ⟨[.sl true []], by simp [evC, RV.ev, put_some], ?_⟩
    simp [AW_seq, AW_reg, AW_regD, AW_block, AW_cond, AW_skip, AW_exit, AW_ret, AW_scp, condR_true, condR_false, AThen_normal, AThen_ret, AThen_exit, ABlock_normal, ABlock_ret, ABlock_exit, AScope_normal, AScope_ret, AScope_exit, RetK_ret, RetK_normal, retAV_one, retAV_two, retAV_three, retAV_nil, RG_nil, RG_op, RG_guard, gdR_tt, gdR_ff, gdR_tf, gdR_ft, gdR_un, RG_call, callQ_clo, contK_ap, opR_some, RD_nil, RD_op0, RD_op1, opD0_some, opD1_some, RD_call, callQD_clo, RD_guard, gdD_tt, gdD_ff, gdD_tf, gdD_ft, gdD_un, psh_nil, psh_cons, Apt_nil, Apt_nilT, Apt_true, Apt_false, Dis_def, runT_val, runT_rd, runT_wr, runT_new, runT_mv, ex, put_some, put_none, ev_t, ev_c, argF_zero, argF_succ, set_g, set_n, cells_v, cells_sl, cells_agg, cells_own, cells_ptr, cells_clo, cells_eptr, cells_mp, putc, exBslice, lfill, exField, exIdxV, exIdxP, exBox, exAlloc, exLoad, exStore, exFieldA, exIdxA, exLen, exPick, exUn, exBeq, exMM, exSeq, seqGo, exExt, binV, intOp, subc, AV.solid, S0, encI, encB, packC]
    refine CallR.pure h4 (cl_cons (.sl _ _ (by simp)) cl_nil) (.tup _ (by simp)) ?_
    simp [AW_seq, AW_reg, AW_regD, AW_block, AW_cond, AW_skip, AW_exit, AW_ret, AW_scp, condR_true, condR_false, AThen_normal, AThen_ret, AThen_exit, ABlock_normal, ABlock_ret, ABlock_exit, AScope_normal, AScope_ret, AScope_exit, RetK_ret, RetK_normal, retAV_one, retAV_two, retAV_three, retAV_nil, RG_nil, RG_op, RG_guard, gdR_tt, gdR_ff, gdR_tf, gdR_ft, gdR_un, RG_call, callQ_clo, contK_ap, opR_some, RD_nil, RD_op0, RD_op1, opD0_some, opD1_some, RD_call, callQD_clo, RD_guard, gdD_tt, gdD_ff, gdD_tf, gdD_ft, gdD_un, psh_nil, psh_cons, Apt_nil, Apt_nilT, Apt_true, Apt_false, Dis_def, runT_val, runT_rd, runT_wr, runT_new, runT_mv, ex, put_some, put_none, ev_t, ev_c, argF_zero, argF_succ, set_g, set_n, cells_v, cells_sl, cells_agg, cells_own, cells_ptr, cells_clo, cells_eptr, cells_mp, putc, exBslice, lfill, exField, exIdxV, exIdxP, exBox, exAlloc, exLoad, exStore, exFieldA, exIdxA, exLen, exPick, exUn, exBeq, exMM, exSeq, seqGo, exExt, binV, intOp, subc, AV.solid, S0, encI, encB]
    exact .loose true [] (.sl _ _ (by simp))
  · have hne : 0 < l.length := List.length_pos_iff.mpr h0
    have hb : exBslice 1 0 (.v (.int .i64 0)) [] = some (.sl true []) := exBslice_nil _ _
    have hr : ∀ S : St, ∀ nid, (exApp 1 8 (.sl true []) (.sl false (l.map encI))).run S nid = some (.own nid 0 l.length, S.set nid (some (.arr 1 (l.map encI)))) := by
      intro S nid
      have ha : appOk 8 0 l.length := by unfold appOk; omega
      have hc2 : ∀ x ∈ l.map encI, x.cells.length = 1 := cells_I l
      have h3 : lstE 1 [] (.sl false (l.map encI)) = some (l.map encI) := by simp only [lstE]; rw [if_pos hc2]
      simp only [exApp, Eff.run, AV.oid, List.mapM_nil, Option.pure_def, h3, Option.bind_some, List.length_nil, Nat.zero_add, List.length_map, ha, and_true]
      rw [if_pos (by simp), if_neg (by simpa using h0)]
      simp [St.setL, St.setO]
    simp [AW_seq, AW_reg, AW_regD, AW_block, AW_cond, AW_skip, AW_exit, AW_ret, AW_scp, condR_true, condR_false, AThen_normal, AThen_ret, AThen_exit, ABlock_normal, ABlock_ret, ABlock_exit, AScope_normal, AScope_ret, AScope_exit, RetK_ret, RetK_normal, retAV_one, retAV_two, retAV_three, retAV_nil, RG_nil, RG_op, RG_guard, gdR_tt, gdR_ff, gdR_tf, gdR_ft, gdR_un, RG_call, callQ_clo, contK_ap, opR_some, RD_nil, RD_op0, RD_op1, opD0_some, opD1_some, RD_call, callQD_clo, RD_guard, gdD_tt, gdD_ff, gdD_tf, gdD_ft, gdD_un, psh_nil, psh_cons, Apt_nil, Apt_nilT, Apt_true, Apt_false, Dis_def, runT_val, runT_rd, runT_wr, runT_new, runT_mv, ex, put_some, put_none, ev_t, ev_c, argF_zero, argF_succ, set_g, set_n, cells_v, cells_sl, cells_agg, cells_own, cells_ptr, cells_clo, cells_eptr, cells_mp, putc, exBslice, lfill, exField, exIdxV, exIdxP, exBox, exAlloc, exLoad, exStore, exFieldA, exIdxA, exLen, exPick, exUn, exBeq, exMM, exSeq, seqGo, exExt, binV, intOp, subc, AV.solid, S0, encI, encB, c_reach_turned_int_, encIs]
    refine h2 rfl ?_
    simp [AW_seq, AW_reg, AW_regD, AW_block, AW_cond, AW_skip, AW_exit, AW_ret, AW_scp, condR_true, condR_false, AThen_normal, AThen_ret, AThen_exit, ABlock_normal, ABlock_ret, ABlock_exit, AScope_normal, AScope_ret, AScope_exit, RetK_ret, RetK_normal, retAV_one, retAV_two, retAV_three, retAV_nil, RG_nil, RG_op, RG_guard, gdR_tt, gdR_ff, gdR_tf, gdR_ft, gdR_un, RG_call, callQ_clo, contK_ap, opR_some, RD_nil, RD_op0, RD_op1, opD0_some, opD1_some, RD_call, callQD_clo, RD_guard, gdD_tt, gdD_ff, gdD_tf, gdD_ft, gdD_un, psh_nil, psh_cons, Apt_nil, Apt_nilT, Apt_true, Apt_false, Dis_def, runT_val, runT_rd, runT_wr, runT_new, runT_mv, ex, put_some, put_none, ev_t, ev_c, argF_zero, argF_succ, set_g, set_n, cells_v, cells_sl, cells_agg, cells_own, cells_ptr, cells_clo, cells_eptr, cells_mp, putc, exBslice, lfill, exField, exIdxV, exIdxP, exBox, exAlloc, exLoad, exStore, exFieldA, exIdxA, exLen, exPick, exUn, exBeq, exMM, exSeq, seqGo, exExt, binV, intOp, subc, AV.solid, S0, encI, encB, c_cloneOv, hb, hr]
    refine ⟨_, by simp only [evC, RV.ev, put_some]; rfl, ?_⟩
    simp [AW_seq, AW_reg, AW_regD, AW_block, AW_cond, AW_skip, AW_exit, AW_ret, AW_scp, condR_true, condR_false, AThen_normal, AThen_ret, AThen_exit, ABlock_normal, ABlock_ret, ABlock_exit, AScope_normal, AScope_ret, AScope_exit, RetK_ret, RetK_normal, retAV_one, retAV_two, retAV_three, retAV_nil, RG_nil, RG_op, RG_guard, gdR_tt, gdR_ff, gdR_tf, gdR_ft, gdR_un, RG_call, callQ_clo, contK_ap, opR_some, RD_nil, RD_op0, RD_op1, opD0_some, opD1_some, RD_call, callQD_clo, RD_guard, gdD_tt, gdD_ff, gdD_tf, gdD_ft, gdD_un, psh_nil, psh_cons, Apt_nil, Apt_nilT, Apt_true, Apt_false, Dis_def, runT_val, runT_rd, runT_wr, runT_new, runT_mv, ex, put_some, put_none, ev_t, ev_c, argF_zero, argF_succ, set_g, set_n, cells_v, cells_sl, cells_agg, cells_own, cells_ptr, cells_clo, cells_eptr, cells_mp, putc, exBslice, lfill, exField, exIdxV, exIdxP, exBox, exAlloc, exLoad, exStore, exFieldA, exIdxA, exLen, exPick, exUn, exBeq, exMM, exSeq, seqGo, exExt, binV, intOp, subc, AV.solid, S0, encI, encB, packC]
    refine h3 _ _ l _ (by simp [set_g]) hl (fun k hk => ?_)
    simp [AW_seq, AW_reg, AW_regD, AW_block, AW_cond, AW_skip, AW_exit, AW_ret, AW_scp, condR_true, condR_false, AThen_normal, AThen_ret, AThen_exit, ABlock_normal, ABlock_ret, ABlock_exit, AScope_normal, AScope_ret, AScope_exit, RetK_ret, RetK_normal, retAV_one, retAV_two, retAV_three, retAV_nil, RG_nil, RG_op, RG_guard, gdR_tt, gdR_ff, gdR_tf, gdR_ft, gdR_un, RG_call, callQ_clo, contK_ap, opR_some, RD_nil, RD_op0, RD_op1, opD0_some, opD1_some, RD_call, callQD_clo, RD_guard, gdD_tt, gdD_ff, gdD_tf, gdD_ft, gdD_un, psh_nil, psh_cons, Apt_nil, Apt_nilT, Apt_true, Apt_false, Dis_def, runT_val, runT_rd, runT_wr, runT_new, runT_mv, ex, put_some, put_none, ev_t, ev_c, argF_zero, argF_succ, set_g, set_n, cells_v, cells_sl, cells_agg, cells_own, cells_ptr, cells_clo, cells_eptr, cells_mp, putc, exBslice, lfill, exField, exIdxV, exIdxP, exBox, exAlloc, exLoad, exStore, exFieldA, exIdxA, exLen, exPick, exUn, exBeq, exMM, exSeq, seqGo, exExt, binV, intOp, subc, AV.solid, S0, encI, encB]
    show Fz _ (.own 9 0 l.length) (.sl false (l.map encI).reverse)
    rw [← List.map_reverse]
    exact (Vec.mk' (es := 1) (xs := l.reverse.map encI) (by simp [set_g]) (by simp)).fz closed_I
def beginsP (p' : Pat) (l : List Int) (to : Int) : List Int := if to < 0 ∨ (l.length : Int) < to then [] else ((endsP p' l.reverse (l.length - to)).map fun n => (l.length : Int) - n).reverse
def RbI (l e : List Int) (k : Nat) (f : AF) (S : St) : Prop := f 1 = encIs l ∧ f 26 = encIs e ∧ f 27 = encI e.length ∧ f 28 = encI k ∧ Vec S.g (f 7) 1 (((e.take k).map fun n => (l.length : Int) - n).map encI)
theorem rb_loop {P : Program} {l e : List Int} (hl : l.length ≤ 1000000) (he : e.length ≤ 1000000) (heb : ∀ x ∈ e, 0 ≤ x ∧ x ≤ (l.length : Int)) {f : AF} {S : St} {Q : Exit → AF → St → Prop} (h : RbI l e 0 f S) (hk : ∀ f' S', RbI l e e.length f' S' → Q .normal f' S') : AW P c_rb_loop Q f S := by
  simp [AW_seq, AW_reg, AW_regD, AW_block, AW_cond, AW_skip, AW_exit, AW_ret, AW_scp, condR_true, condR_false, AThen_normal, AThen_ret, AThen_exit, ABlock_normal, ABlock_ret, ABlock_exit, AScope_normal, AScope_ret, AScope_exit, RetK_ret, RetK_normal, retAV_one, retAV_two, retAV_three, retAV_nil, RG_nil, RG_op, RG_guard, gdR_tt, gdR_ff, gdR_tf, gdR_ft, gdR_un, RG_call, callQ_clo, contK_ap, opR_some, RD_nil, RD_op0, RD_op1, opD0_some, opD1_some, RD_call, callQD_clo, RD_guard, gdD_tt, gdD_ff, gdD_tf, gdD_ft, gdD_un, psh_nil, psh_cons, Apt_nil, Apt_nilT, Apt_true, Apt_false, Dis_def, runT_val, runT_rd, runT_wr, runT_new, runT_mv, ex, put_some, put_none, ev_t, ev_c, argF_zero, argF_succ, set_g, set_n, cells_v, cells_sl, cells_agg, cells_own, cells_ptr, cells_clo, cells_eptr, cells_mp, putc, exBslice, lfill, exField, exIdxV, exIdxP, exBox, exAlloc, exLoad, exStore, exFieldA, exIdxA, exLen, exPick, exUn, exBeq, exMM, exSeq, seqGo, exExt, binV, intOp, subc, AV.solid, S0, encI, encB, c_rb_loop]
  refine AW_for e.length (RbI l e) h ?_
  rintro k f S hk' ⟨e1, e26, e27, e28, hv⟩
  by_cases hlt : k < e.length
  · have hg : e[k]? = some e[k] := List.getElem?_eq_getElem hlt
    have hb := heb _ (List.getElem_mem hlt)
    have hw := wrap_in ((l.length : Int) - e[k]) (by omega)
    have htk : e.take (k + 1) = e.take k ++ [e[k]] := by rw [List.take_add_one, hg]; rfl
    simp [AW_seq, AW_reg, AW_regD, AW_block, AW_cond, AW_skip, AW_exit, AW_ret, AW_scp, condR_true, condR_false, AThen_normal, AThen_ret, AThen_exit, ABlock_normal, ABlock_ret, ABlock_exit, AScope_normal, AScope_ret, AScope_exit, RetK_ret, RetK_normal, retAV_one, retAV_two, retAV_three, retAV_nil, RG_nil, RG_op, RG_guard, gdR_tt, gdR_ff, gdR_tf, gdR_ft, gdR_un, RG_call, callQ_clo, contK_ap, opR_some, RD_nil, RD_op0, RD_op1, opD0_some, opD1_some, RD_call, callQD_clo, RD_guard, gdD_tt, gdD_ff, gdD_tf, gdD_ft, gdD_un, psh_nil, psh_cons, Apt_nil, Apt_nilT, Apt_true, Apt_false, Dis_def, runT_val, runT_rd, runT_wr, runT_new, runT_mv, ex, put_some, put_none, ev_t, ev_c, argF_zero, argF_succ, set_g, set_n, cells_v, cells_sl, cells_agg, cells_own, cells_ptr, cells_clo, cells_eptr, cells_mp, putc, exBslice, lfill, exField, exIdxV, exIdxP, exBox, exAlloc, exLoad, exStore, exFieldA, exIdxA, exLen, exPick, exUn, exBeq, exMM, exSeq, seqGo, exExt, binV, intOp, subc, AV.solid, S0, encI, encB, e1, e26, e27, e28, encIs, hlt, hg, hw]
    rw [Vec.app (xs := ((e.take k).map fun n => (l.length : Int) - n).map encI) (hv.frame (fun _ _ => rfl)) (cells_I _) (by simp [AV.cells]) (appOk8 (by simp; omega))]
    simp [AW_seq, AW_reg, AW_regD, AW_block, AW_cond, AW_skip, AW_exit, AW_ret, AW_scp, condR_true, condR_false, AThen_normal, AThen_ret, AThen_exit, ABlock_normal, ABlock_ret, ABlock_exit, AScope_normal, AScope_ret, AScope_exit, RetK_ret, RetK_normal, retAV_one, retAV_two, retAV_three, retAV_nil, RG_nil, RG_op, RG_guard, gdR_tt, gdR_ff, gdR_tf, gdR_ft, gdR_un, RG_call, callQ_clo, contK_ap, opR_some, RD_nil, RD_op0, RD_op1, opD0_some, opD1_some, RD_call, callQD_clo, RD_guard, gdD_tt, gdD_ff, gdD_tf, gdD_ft, gdD_un, psh_nil, psh_cons, Apt_nil, Apt_nilT, Apt_true, Apt_false, Dis_def, runT_val, runT_rd, runT_wr, runT_new, runT_mv, ex, put_some, put_none, ev_t, ev_c, argF_zero, argF_succ, set_g, set_n, cells_v, cells_sl, cells_agg, cells_own, cells_ptr, cells_clo, cells_eptr, cells_mp, putc, exBslice, lfill, exField, exIdxV, exIdxP, exBox, exAlloc, exLoad, exStore, exFieldA, exIdxA, exLen, exPick, exUn, exBeq, exMM, exSeq, seqGo, exExt, binV, intOp, subc, AV.solid, S0, encI, encB, e1, e26, e27, e28, encIs, without_n]
    rw [wrap_in _ (by omega)]
    refine ⟨hlt, ?_, ?_, ?_, ?_, ?_⟩
    · simp [put_some, e1, encIs]
    · simp [put_some, e26, encIs]
    · simp [put_some, e27, encI]
    · simp [put_some, encI]
    · rw [htk, List.map_append, List.map_append]
      simp only [put_some, if_true]
      exact .mk' (by simp [set_g, encI]) (by simp [Nat.add_assoc])
  · have hke : k = e.length := by omega
    subst hke
    simp [AW_seq, AW_reg, AW_regD, AW_block, AW_cond, AW_skip, AW_exit, AW_ret, AW_scp, condR_true, condR_false, AThen_normal, AThen_ret, AThen_exit, ABlock_normal, ABlock_ret, ABlock_exit, AScope_normal, AScope_ret, AScope_exit, RetK_ret, RetK_normal, retAV_one, retAV_two, retAV_three, retAV_nil, RG_nil, RG_op, RG_guard, gdR_tt, gdR_ff, gdR_tf, gdR_ft, gdR_un, RG_call, callQ_clo, contK_ap, opR_some, RD_nil, RD_op0, RD_op1, opD0_some, opD1_some, RD_call, callQD_clo, RD_guard, gdD_tt, gdD_ff, gdD_tf, gdD_ft, gdD_un, psh_nil, psh_cons, Apt_nil, Apt_nilT, Apt_true, Apt_false, Dis_def, runT_val, runT_rd, runT_wr, runT_new, runT_mv, ex, put_some, put_none, ev_t, ev_c, argF_zero, argF_succ, set_g, set_n, cells_v, cells_sl, cells_agg, cells_own, cells_ptr, cells_clo, cells_eptr, cells_mp, putc, exBslice, lfill, exField, exIdxV, exIdxP, exBox, exAlloc, exLoad, exStore, exFieldA, exIdxA, exLen, exPick, exUn, exBeq, exMM, exSeq, seqGo, exExt, binV, intOp, subc, AV.solid, S0, encI, encB, e1, e26, e27, e28, hlt]
    refine hk _ _ ⟨?_, ?_, ?_, ?_, ?_⟩
    · simp [put_some, e1]
    · simp [put_some, e26]
    · simp [put_some, e27]
    · simp [put_some, e28]
    · simp [put_some]; simpa using hv.frame (fun _ _ => rfl)
theorem endsP_bd {p : Pat} {l : List Int} {at_ : Int} : ∀ x ∈ endsP p l at_, 0 ≤ x ∧ x ≤ (l.length : Int) := by
  intro x hx
  unfold endsP at hx
  split at hx
  · simp at hx
  · rename_i h
    have h1 := mem_ddp.mp ((List.mergeSort_perm _ _).mem_iff.mp hx)
    have := visits_bd l p at_ (by omega) (by omega) x h1
    omega
theorem endsP_len {p : Pat} {l : List Int} {at_ : Int} : (endsP p l at_).length ≤ l.length + 1 := by
  unfold endsP
  split
  · simp
  · rename_i h
    rw [List.length_mergeSort]
    exact ddp_len (fun x hx => by have := visits_bd l p at_ (by omega) (by omega) x hx; omega)
theorem reach_Begins_body {P : Program} {ft fn fe : FuncId} (p p' : Pat) (l : List Int) (to : Int) (hl : l.length ≤ 10000) (h1 : PureC P ft [encPat p] (encPat p')) (h2 : ∀ m : List Int, m.length ≤ 1000000 → PureC P fn [encIs m] (encIs m.reverse)) (h3 : PureC P fe [encPat p', encIs l.reverse, encI (l.length - to)] (encIs (endsP p' l.reverse (l.length - to)))) :
    AW P (c_reach_Begins ft fn fe) (RetK [6] (FzK (encIs (beginsP p' l to)))) (argF [encPat p, encIs l, encI to]) S0 := by
  obtain ⟨qk, qs, qg, qks⟩ := p
  by_cases c1 : to < 0
  · have he : beginsP p' l to = [] := by unfold beginsP; rw [if_pos (.inl c1)]
    rw [he]
    simp [AW_seq, AW_reg, AW_regD, AW_block, AW_cond, AW_skip, AW_exit, AW_ret, AW_scp, condR_true, condR_false, AThen_normal, AThen_ret, AThen_exit, ABlock_normal, ABlock_ret, ABlock_exit, AScope_normal, AScope_ret, AScope_exit, RetK_ret, RetK_normal, retAV_one, retAV_two, retAV_three, retAV_nil, RG_nil, RG_op, RG_guard, gdR_tt, gdR_ff, gdR_tf, gdR_ft, gdR_un, RG_call, callQ_clo, contK_ap, opR_some, RD_nil, RD_op0, RD_op1, opD0_some, opD1_some, RD_call, callQD_clo, RD_guard, gdD_tt, gdD_ff, gdD_tf, gdD_ft, gdD_un, psh_nil, psh_cons, Apt_nil, Apt_nilT, Apt_true, Apt_false, Dis_def, runT_val, runT_rd, runT_wr, runT_new, runT_mv, ex, put_some, put_none, ev_t, ev_c, argF_zero, argF_succ, set_g, set_n, cells_v, cells_sl, cells_agg, cells_own, cells_ptr, cells_clo, cells_eptr, cells_mp, putc, exBslice, lfill, exField, exIdxV, exIdxP, exBox, exAlloc, exLoad, exStore, exFieldA, exIdxA, exLen, exPick, exUn, exBeq, exMM, exSeq, seqGo, exExt, binV, intOp, subc, AV.solid, S0, encI, encB, c_reach_Begins, encPat_eq, encIs, encRs, c1]
    exact .loose true [] (.sl _ _ (by simp))
  · by_cases c2 : (l.length : Int) < to
    · have he : beginsP p' l to = [] := by unfold beginsP; rw [if_pos (.inr c2)]
      rw [he]
      simp [AW_seq, AW_reg, AW_regD, AW_block, AW_cond, AW_skip, AW_exit, AW_ret, AW_scp, condR_true, condR_false, AThen_normal, AThen_ret, AThen_exit, ABlock_normal, ABlock_ret, ABlock_exit, AScope_normal, AScope_ret, AScope_exit, RetK_ret, RetK_normal, retAV_one, retAV_two, retAV_three, retAV_nil, RG_nil, RG_op, RG_guard, gdR_tt, gdR_ff, gdR_tf, gdR_ft, gdR_un, RG_call, callQ_clo, contK_ap, opR_some, RD_nil, RD_op0, RD_op1, opD0_some, opD1_some, RD_call, callQD_clo, RD_guard, gdD_tt, gdD_ff, gdD_tf, gdD_ft, gdD_un, psh_nil, psh_cons, Apt_nil, Apt_nilT, Apt_true, Apt_false, Dis_def, runT_val, runT_rd, runT_wr, runT_new, runT_mv, ex, put_some, put_none, ev_t, ev_c, argF_zero, argF_succ, set_g, set_n, cells_v, cells_sl, cells_agg, cells_own, cells_ptr, cells_clo, cells_eptr, cells_mp, putc, exBslice, lfill, exField, exIdxV, exIdxP, exBox, exAlloc, exLoad, exStore, exFieldA, exIdxA, exLen, exPick, exUn, exBeq, exMM, exSeq, seqGo, exExt, binV, intOp, subc, AV.solid, S0, encI, encB, c_reach_Begins, encPat_eq, encIs, encRs, c1, c2]
      exact .loose true [] (.sl _ _ (by simp))
    · have he : beginsP p' l to = ((endsP p' l.reverse (l.length - to)).map fun n => (l.length : Int) - n).reverse := by unfold beginsP; rw [if_neg (by omega)]
      rw [he]
      have hbd := endsP_bd (p := p') (l := l.reverse) (at_ := l.length - to)
      have hel := endsP_len (p := p') (l := l.reverse) (at_ := l.length - to)
      rw [List.length_reverse] at hbd hel
      have hr := h2 l (by omega)
      have cp := closed_Pat (.mk qk qs qg qks)
      have cp' := closed_Pat p'
      have hw := wrap_in ((l.length : Int) - to) (by omega)
      have cl := closed_Is l
      have cr := closed_Is l.reverse
      generalize hE : endsP p' l.reverse (l.length - to) = e at *
      generalize hR : l.reverse = r at *
      have c3 := cl_cons cp' (cl_cons cr (cl_cons (closed_I ((l.length : Int) - to)) cl_nil))
      simp only [encPat_eq, encI, encRs, encIs] at h1 h3 cp hr cl cr c3
      simp [AW_seq, AW_reg, AW_regD, AW_block, AW_cond, AW_skip, AW_exit, AW_ret, AW_scp, condR_true, condR_false, AThen_normal, AThen_ret, AThen_exit, ABlock_normal, ABlock_ret, ABlock_exit, AScope_normal, AScope_ret, AScope_exit, RetK_ret, RetK_normal, retAV_one, retAV_two, retAV_three, retAV_nil, RG_nil, RG_op, RG_guard, gdR_tt, gdR_ff, gdR_tf, gdR_ft, gdR_un, RG_call, callQ_clo, contK_ap, opR_some, RD_nil, RD_op0, RD_op1, opD0_some, opD1_some, RD_call, callQD_clo, RD_guard, gdD_tt, gdD_ff, gdD_tf, gdD_ft, gdD_un, psh_nil, psh_cons, Apt_nil, Apt_nilT, Apt_true, Apt_false, Dis_def, runT_val, runT_rd, runT_wr, runT_new, runT_mv, ex, put_some, put_none, ev_t, ev_c, argF_zero, argF_succ, set_g, set_n, cells_v, cells_sl, cells_agg, cells_own, cells_ptr, cells_clo, cells_eptr, cells_mp, putc, exBslice, lfill, exField, exIdxV, exIdxP, exBox, exAlloc, exLoad, exStore, exFieldA, exIdxA, exLen, exPick, exUn, exBeq, exMM, exSeq, seqGo, exExt, binV, intOp, subc, AV.solid, S0, encI, encB, c_reach_Begins, encPat_eq, encIs, encRs, c1, c2]
      refine CallR.pure h1 (cl_cons cp cl_nil) cp' ?_
      simp [AW_seq, AW_reg, AW_regD, AW_block, AW_cond, AW_skip, AW_exit, AW_ret, AW_scp, condR_true, condR_false, AThen_normal, AThen_ret, AThen_exit, ABlock_normal, ABlock_ret, ABlock_exit, AScope_normal, AScope_ret, AScope_exit, RetK_ret, RetK_normal, retAV_one, retAV_two, retAV_three, retAV_nil, RG_nil, RG_op, RG_guard, gdR_tt, gdR_ff, gdR_tf, gdR_ft, gdR_un, RG_call, callQ_clo, contK_ap, opR_some, RD_nil, RD_op0, RD_op1, opD0_some, opD1_some, RD_call, callQD_clo, RD_guard, gdD_tt, gdD_ff, gdD_tf, gdD_ft, gdD_un, psh_nil, psh_cons, Apt_nil, Apt_nilT, Apt_true, Apt_false, Dis_def, runT_val, runT_rd, runT_wr, runT_new, runT_mv, ex, put_some, put_none, ev_t, ev_c, argF_zero, argF_succ, set_g, set_n, cells_v, cells_sl, cells_agg, cells_own, cells_ptr, cells_clo, cells_eptr, cells_mp, putc, exBslice, lfill, exField, exIdxV, exIdxP, exBox, exAlloc, exLoad, exStore, exFieldA, exIdxA, exLen, exPick, exUn, exBeq, exMM, exSeq, seqGo, exExt, binV, intOp, subc, AV.solid, S0, encI, encB]
      refine CallR.pure hr (cl_cons cl cl_nil) cr ?_
      simp [AW_seq, AW_reg, AW_regD, AW_block, AW_cond, AW_skip, AW_exit, AW_ret, AW_scp, condR_true, condR_false, AThen_normal, AThen_ret, AThen_exit, ABlock_normal, ABlock_ret, ABlock_exit, AScope_normal, AScope_ret, AScope_exit, RetK_ret, RetK_normal, retAV_one, retAV_two, retAV_three, retAV_nil, RG_nil, RG_op, RG_guard, gdR_tt, gdR_ff, gdR_tf, gdR_ft, gdR_un, RG_call, callQ_clo, contK_ap, opR_some, RD_nil, RD_op0, RD_op1, opD0_some, opD1_some, RD_call, callQD_clo, RD_guard, gdD_tt, gdD_ff, gdD_tf, gdD_ft, gdD_un, psh_nil, psh_cons, Apt_nil, Apt_nilT, Apt_true, Apt_false, Dis_def, runT_val, runT_rd, runT_wr, runT_new, runT_mv, ex, put_some, put_none, ev_t, ev_c, argF_zero, argF_succ, set_g, set_n, cells_v, cells_sl, cells_agg, cells_own, cells_ptr, cells_clo, cells_eptr, cells_mp, putc, exBslice, lfill, exField, exIdxV, exIdxP, exBox, exAlloc, exLoad, exStore, exFieldA, exIdxA, exLen, exPick, exUn, exBeq, exMM, exSeq, seqGo, exExt, binV, intOp, subc, AV.solid, S0, encI, encB, hw]
      refine CallR.pure h3 c3 (closed_Is e) ?_
      simp [AW_seq, AW_reg, AW_regD, AW_block, AW_cond, AW_skip, AW_exit, AW_ret, AW_scp, condR_true, condR_false, AThen_normal, AThen_ret, AThen_exit, ABlock_normal, ABlock_ret, ABlock_exit, AScope_normal, AScope_ret, AScope_exit, RetK_ret, RetK_normal, retAV_one, retAV_two, retAV_three, retAV_nil, RG_nil, RG_op, RG_guard, gdR_tt, gdR_ff, gdR_tf, gdR_ft, gdR_un, RG_call, callQ_clo, contK_ap, opR_some, RD_nil, RD_op0, RD_op1, opD0_some, opD1_some, RD_call, callQD_clo, RD_guard, gdD_tt, gdD_ff, gdD_tf, gdD_ft, gdD_un, psh_nil, psh_cons, Apt_nil, Apt_nilT, Apt_true, Apt_false, Dis_def, runT_val, runT_rd, runT_wr, runT_new, runT_mv, ex, put_some, put_none, ev_t, ev_c, argF_zero, argF_succ, set_g, set_n, cells_v, cells_sl, cells_agg, cells_own, cells_ptr, cells_clo, cells_eptr, cells_mp, putc, exBslice, lfill, exField, exIdxV, exIdxP, exBox, exAlloc, exLoad, exStore, exFieldA, exIdxA, exLen, exPick, exUn, exBeq, exMM, exSeq, seqGo, exExt, binV, intOp, subc, AV.solid, S0, encI, encB]
      refine rb_loop (by omega) (by omega) hbd ⟨?_, ?_, ?_, ?_, ?_⟩ (fun f S h => ?_)
      · simp [put_some, argF_zero, argF_succ, encIs]
      · simp [put_some, encIs]
      · simp [put_some, encI]
      · simp [put_some, encI]
      · simp [put_some]; exact .nil
      · obtain ⟨_, _, _, _, hv⟩ := h
        rw [List.take_length] at hv
        have k2 := h2 (e.map fun n => (l.length : Int) - n) (by simp; omega)
        simp [AW_seq, AW_reg, AW_regD, AW_block, AW_cond, AW_skip, AW_exit, AW_ret, AW_scp, condR_true, condR_false, AThen_normal, AThen_ret, AThen_exit, ABlock_normal, ABlock_ret, ABlock_exit, AScope_normal, AScope_ret, AScope_exit, RetK_ret, RetK_normal, retAV_one, retAV_two, retAV_three, retAV_nil, RG_nil, RG_op, RG_guard, gdR_tt, gdR_ff, gdR_tf, gdR_ft, gdR_un, RG_call, callQ_clo, contK_ap, opR_some, RD_nil, RD_op0, RD_op1, opD0_some, opD1_some, RD_call, callQD_clo, RD_guard, gdD_tt, gdD_ff, gdD_tf, gdD_ft, gdD_un, psh_nil, psh_cons, Apt_nil, Apt_nilT, Apt_true, Apt_false, Dis_def, runT_val, runT_rd, runT_wr, runT_new, runT_mv, ex, put_some, put_none, ev_t, ev_c, argF_zero, argF_succ, set_g, set_n, cells_v, cells_sl, cells_agg, cells_own, cells_ptr, cells_clo, cells_eptr, cells_mp, putc, exBslice, lfill, exField, exIdxV, exIdxP, exBox, exAlloc, exLoad, exStore, exFieldA, exIdxA, exLen, exPick, exUn, exBeq, exMM, exSeq, seqGo, exExt, binV, intOp, subc, AV.solid, S0, encI, encB]
        refine CallR.gives (S := ⟨S.n + 3, S.g⟩) (f 7).ids k2 (.cons ((hv.frame (g' := only (f 7).ids S.g) (fun i hi => by simp [only, hi])).fz closed_I) .nil) (closed_Is _) ?_
        simp [AW_seq, AW_reg, AW_regD, AW_block, AW_cond, AW_skip, AW_exit, AW_ret, AW_scp, condR_true, condR_false, AThen_normal, AThen_ret, AThen_exit, ABlock_normal, ABlock_ret, ABlock_exit, AScope_normal, AScope_ret, AScope_exit, RetK_ret, RetK_normal, retAV_one, retAV_two, retAV_three, retAV_nil, RG_nil, RG_op, RG_guard, gdR_tt, gdR_ff, gdR_tf, gdR_ft, gdR_un, RG_call, callQ_clo, contK_ap, opR_some, RD_nil, RD_op0, RD_op1, opD0_some, opD1_some, RD_call, callQD_clo, RD_guard, gdD_tt, gdD_ff, gdD_tf, gdD_ft, gdD_un, psh_nil, psh_cons, Apt_nil, Apt_nilT, Apt_true, Apt_false, Dis_def, runT_val, runT_rd, runT_wr, runT_new, runT_mv, ex, put_some, put_none, ev_t, ev_c, argF_zero, argF_succ, set_g, set_n, cells_v, cells_sl, cells_agg, cells_own, cells_ptr, cells_clo, cells_eptr, cells_mp, putc, exBslice, lfill, exField, exIdxV, exIdxP, exBox, exAlloc, exLoad, exStore, exFieldA, exIdxA, exLen, exPick, exUn, exBeq, exMM, exSeq, seqGo, exExt, binV, intOp, subc, AV.solid, S0, encI, encB]
        have hE2 : AV.sl false (List.map (encI ∘ fun n => (l.length : Int) - n) e).reverse = encIs (e.map fun n => (l.length : Int) - n).reverse := by simp [encIs]
        rw [hE2]
        exact .closed _ (closed_Is _)
end Go.Rf

