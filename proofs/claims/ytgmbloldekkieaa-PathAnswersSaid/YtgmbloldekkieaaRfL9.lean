import Derived.Test.YtgmbloldekkieaaRfB10
import Derived.Test.YtgmbloldekkieaaRfL6
import Derived.Test.YtgmbloldekkieaaRfM18b
import Derived.Test.YtgmbloldekkieaaRfM18c
import Derived.Test.YtgmbloldekkieaaRfB12
import Derived.Test.YtgmbloldekkieaaRfL5
set_option linter.unusedVariables false
set_option linter.unusedSimpArgs false
namespace Go.Rf
def c_rf_in : AC :=
  (.block 6 (.loop (.seq (.seq (.reg none [
           ⟨(some 36), .mv (.t 8), none, none⟩,
           ⟨(some 37), .fieldA 0 (.t 1), none, none⟩,
           ⟨(some 38), .load none (.t 37), none, none⟩,
           ⟨(some 39), .bin .lss (.t 36) (.t 38), none, none⟩])
          (.cond (.t 39) .skip (.exit 6)))
          (.seq (.block 7 (.seq (.reg none [
            ⟨(some 42), .mv (.t 3), none, none⟩,
            ⟨(some 43), .fieldA 1 (.t 1), none, none⟩,
            ⟨(some 44), .load none (.t 43), none, none⟩,
            ⟨(some 45), .mv (.t 7), none, none⟩,
            ⟨(some 46), .idxA 1 (.t 44) (.t 45), none, none⟩,
            ⟨(some 47), .load none (.t 46), none, none⟩,
            ⟨(some 48), .mv (.t 8), none, none⟩,
            ⟨(some 49), .idxA 1 (.t 47) (.t 48), none, none⟩,
            ⟨(some 50), .load none (.t 49), none, none⟩,
            ⟨(some 51), .idxA 1 (.t 42) (.t 50), none, none⟩,
            ⟨(some 52), .load none (.t 51), none, none⟩,
            ⟨(some 9), .mv (.t 52), none, none⟩])
           (.seq (.reg none [
            ⟨(some 53), .mv (.t 9), none, none⟩,
            ⟨(some 54), .bin .geq (.t 53) (.c (.v (.int .i64 0))), none, none⟩,
            ⟨(some 55), .mv (.t 54), none, none⟩,
            ⟨(some 56), .mv (.t 3), (some (55, true)), none⟩,
            ⟨(some 57), .mv (.t 7), (some (55, true)), none⟩,
            ⟨(some 58), .idxA 1 (.t 56) (.t 57), (some (55, true)), none⟩,
            ⟨(some 59), .load none (.t 58), (some (55, true)), none⟩,
            ⟨(some 60), .bin .lss (.t 59) (.c (.v (.int .i64 0))), (some (55, true)), none⟩,
            ⟨(some 61), .mv (.t 60), (some (55, true)), none⟩,
            ⟨(some 62), .mv (.t 9), (some (61, false)), none⟩,
            ⟨(some 63), .bin .add (.t 62) (.c (.v (.int .i64 1))), (some (61, false)), none⟩,
            ⟨(some 64), .mv (.t 3), (some (61, false)), none⟩,
            ⟨(some 65), .mv (.t 7), (some (61, false)), none⟩,
            ⟨(some 66), .idxA 1 (.t 64) (.t 65), (some (61, false)), none⟩,
            ⟨(some 67), .load none (.t 66), (some (61, false)), none⟩,
            ⟨(some 68), .bin .lss (.t 63) (.t 67), (some (61, false)), none⟩,
            ⟨(some 69), .pick (.t 61) (.c (.v (.bool true))) (.t 68), (some (55, true)), none⟩,
            ⟨(some 70), .pick (.t 55) (.t 69) (.c (.v (.bool false))), none, none⟩])
           (.cond (.t 70) (.seq (.reg none [
             ⟨(some 71), .mv (.t 3), none, none⟩,
             ⟨(some 72), .mv (.t 7), none, none⟩,
             ⟨(some 73), .mv (.t 9), none, none⟩,
             ⟨(some 74), .bin .add (.t 73) (.c (.v (.int .i64 1))), none, none⟩,
             ⟨(some 75), .idxA 1 (.t 71) (.t 72), none, none⟩,
             ⟨none, .store 1 (.t 75) (.t 74), none, none⟩])
            (.reg none [
             ⟨(some 6), .mv (.c (.v (.bool true))), none, none⟩])) .skip))))
          (.reg none [
           ⟨(some 40), .mv (.t 8), none, none⟩,
           ⟨(some 41), .bin .add (.t 40) (.c (.v (.int .i64 1))), none, none⟩,
           ⟨(some 8), .mv (.t 41), none, none⟩])))))
def c_rf_mid : AC :=
  (.block 4 (.loop (.seq (.seq (.reg none [
        ⟨(some 30), .mv (.t 7), none, none⟩,
        ⟨(some 31), .mv (.t 3), none, none⟩,
        ⟨(some 32), .len (.t 31), none, none⟩,
        ⟨(some 33), .bin .lss (.t 30) (.t 32), none, none⟩])
       (.cond (.t 33) .skip (.exit 4)))
       (.seq (.block 5 (.seq (.reg none [
         ⟨(some 8), .mv (.c (.v (.int .i64 0))), none, none⟩])
        c_rf_in))
       (.reg none [
        ⟨(some 34), .mv (.t 7), none, none⟩,
        ⟨(some 35), .bin .add (.t 34) (.c (.v (.int .i64 1))), none, none⟩,
        ⟨(some 7), .mv (.t 35), none, none⟩])))))
def c_rf_out : AC :=
  (.block 2 (.loop (.seq (.seq (.reg none [
     ⟨(some 29), .mv (.t 6), none, none⟩])
    (.cond (.t 29) .skip (.exit 2)))
    (.block 3 (.seq (.reg none [
      ⟨(some 6), .mv (.c (.v (.bool false))), none, none⟩])
     (.seq (.reg none [
      ⟨(some 7), .mv (.c (.v (.int .i64 0))), none, none⟩])
     c_rf_mid))))))
def c_rf_ini : AC :=
  (.block 0 (.loop (.seq (.seq (.reg none [
     ⟨(some 13), .mv (.t 4), none, none⟩,
     ⟨(some 14), .fieldA 2 (.t 1), none, none⟩,
     ⟨(some 15), .load none (.t 14), none, none⟩,
     ⟨(some 16), .len (.t 15), none, none⟩,
     ⟨(some 17), .bin .lss (.t 13) (.t 16), none, none⟩])
    (.cond (.t 17) .skip (.exit 0)))
    (.seq (.block 1 (.seq (.reg none [
      ⟨(some 5), .mv (.c (.v (.int .i64 (-1)))), none, none⟩])
     (.seq (.seq (.reg none [
      ⟨(some 20), .fieldA 2 (.t 1), none, none⟩,
      ⟨(some 21), .load none (.t 20), none, none⟩,
      ⟨(some 22), .mv (.t 4), none, none⟩,
      ⟨(some 23), .idxA 1 (.t 21) (.t 22), none, none⟩,
      ⟨(some 24), .load none (.t 23), none, none⟩])
     (.cond (.t 24) (.reg none [
       ⟨(some 5), .mv (.c (.v (.int .i64 0))), none, none⟩]) .skip))
     (.reg none [
      ⟨(some 25), .mv (.t 3), none, none⟩,
      ⟨(some 26), .mv (.t 5), none, none⟩,
      ⟨(some 27), .bslice 1 1 (.v (.int .i64 0)) [(0, (.t 26))], none, none⟩,
      ⟨(some 28), .app 1 8 (.t 25) (.t 27), none, none⟩,
      ⟨(some 3), .mv (.t 28), none, none⟩]))))
    (.reg none [
     ⟨(some 18), .mv (.t 4), none, none⟩,
     ⟨(some 19), .bin .add (.t 18) (.c (.v (.int .i64 1))), none, none⟩,
     ⟨(some 4), .mv (.t 19), none, none⟩])))))
def c_caesuraref18_Far (f_caesuraref15_Right : FuncId) : AC :=
  (.seq (.reg none [
   ⟨(some 1), .box 3 (.t 0), none, none⟩,
   ⟨(some 2), .mv (.c (.sl true [])), none, none⟩])
  (.seq (.seq (.reg none [
   ⟨(some 10), .load (some 3) (.t 1), none, none⟩,
   ⟨(some 11), .mv (.c .junk), none, (some ((.c (.clo f_caesuraref15_Right [] [])), [(.t 10)]))⟩,
   ⟨(some 12), .un .not (.t 11), none, none⟩])
  (.cond (.t 12) (.seq (.reg none [
    ⟨(some 2), .mv (.c (.sl true [])), none, none⟩])
   .ret) .skip))
  (.seq (.reg none [
   ⟨(some 3), .mv (.c (.sl true [])), none, none⟩])
  (.seq (.seq (.reg none [
   ⟨(some 4), .mv (.c (.v (.int .i64 0))), none, none⟩])
  c_rf_ini)
  (.seq (.seq (.reg none [
   ⟨(some 6), .mv (.c (.v (.bool true))), none, none⟩])
  c_rf_out)
  (.seq (.reg none [
   ⟨(some 76), .mv (.t 3), none, none⟩,
   ⟨(some 2), .mv (.t 76), none, none⟩])
  .ret))))))

/-! ### distances by improvements -/
theorem cntA_set_same {l : List Int} {k : Nat} (hk : k < l.length) (h : 0 ≤ rd l k) {x : Int} (hx : 0 ≤ x) : cntA (l.set k x) = cntA l := by
  unfold cntA
  rw [List.countP_set hk]
  have h1 : l[k] = rd l k := rd_get hk
  have h2 : 0 < l.countP (fun x => decide (0 ≤ x)) := List.countP_pos_iff.mpr ⟨l[k], List.getElem_mem hk, by rw [h1]; simpa using h⟩
  rw [h1]
  simp only [h, hx, decide_true, if_true]
  omega
def potW (x : Int) : Nat := if x < 0 then 20000 else x.toNat
def pot (l : List Int) : Nat := (l.map potW).sum
theorem pot_set : ∀ (l : List Int) (k : Nat) (hk : k < l.length) (x : Int), pot (l.set k x) + potW l[k] = pot l + potW x
  | [], k, hk, x => by simp at hk
  | a :: l, 0, hk, x => by simp [pot]; omega
  | a :: l, k + 1, hk, x => by
    have := pot_set l k (by simpa using hk) x
    simp only [pot, List.set_cons_succ, List.map_cons, List.sum_cons, List.getElem_cons_succ] at *
    omega
structure Bel (g : Gr) (far : List Int) : Prop where
  len : far.length = g.n
  val : ∀ s, s < g.n → -1 ≤ rd far s
  lt : ∀ s, s < g.n → rd far s < cntA far
  zero : ∀ s, s < g.n → (rd far s = 0 ↔ g.isEnd s = true)
  pre : ∀ s, s < g.n → 0 < rd far s → ∃ t, t < g.n ∧ g.edge s t ∧ 0 ≤ rd far t ∧ rd far t < rd far s
def Suc (g : Gr) (far : List Int) (s t : Nat) : Prop := 0 ≤ rd far t → 0 ≤ rd far s ∧ rd far s ≤ rd far t + 1
theorem Bel.ok {g : Gr} {far : List Int} (b : Bel g far) (h : ∀ s t, s < g.n → t < g.n → g.edge s t → Suc g far s t) : FarOk g far := by
  refine ⟨b.len, b.val, fun s hs => ?_, b.zero, fun s hs hp => ?_, fun s t hs ht he => h s t hs ht he⟩
  · have := b.lt s hs; have := cntA_le far; have := b.len; omega
  · obtain ⟨t, ht, he, h0, h1⟩ := b.pre s hs hp
    have := (h s t hs ht he h0).2
    exact ⟨t, ht, he, by omega⟩
theorem Bel.upd {g : Gr} (hn : g.n ≤ 9000) {far : List Int} (b : Bel g far) {i t : Nat} (hi : i < g.n) (ht : t < g.n) (he : g.edge i t) (h0 : 0 ≤ rd far t) (h1 : rd far i < 0 ∨ rd far t + 1 < rd far i) :
    Bel g (far.set i (rd far t + 1)) ∧ pot (far.set i (rd far t + 1)) < pot far := by
  have hl := b.len
  have hif : i < far.length := by omega
  have hset : ∀ x, rd (far.set i (rd far t + 1)) x = if x = i then rd far t + 1 else rd far x := fun x => rd_set hif _ x
  have hne : t ≠ i := by rintro rfl; omega
  have ht1 := b.lt t ht
  have hi1 := b.lt i hi
  have hcl := cntA_le far
  have hvi := b.val i hi
  have hcnt : cntA (far.set i (rd far t + 1)) = cntA far + 1 ∧ rd far i < 0 ∨ cntA (far.set i (rd far t + 1)) = cntA far ∧ 0 ≤ rd far i := by
    by_cases hu : rd far i < 0
    · exact .inl ⟨cntA_set hif hu (by omega), hu⟩
    · exact .inr ⟨cntA_set_same hif (by omega) (by omega), by omega⟩
  refine ⟨⟨by simpa using hl, fun s hs => ?_, fun s hs => ?_, fun s hs => ?_, fun s hs hp => ?_⟩, ?_⟩
  · rw [hset]; have := b.val s hs; split <;> omega
  · rw [hset]; have := b.lt s hs
    rcases hcnt with ⟨c, _⟩ | ⟨c, _⟩ <;> rw [c] <;> split <;> omega
  · rw [hset]
    by_cases hsi : s = i
    · subst hsi
      rw [if_pos rfl]
      have hz := b.zero s hs
      constructor
      · intro h; omega
      · intro h; have := hz.mpr h; omega
    · rw [if_neg hsi]; exact b.zero s hs
  · by_cases hsi : s = i
    · subst hsi
      exact ⟨t, ht, he, by rw [hset, if_neg hne]; exact h0, by rw [hset, hset, if_neg hne, if_pos rfl]; omega⟩
    · rw [hset, if_neg hsi] at hp ⊢
      obtain ⟨u, hu, hue, hu0, hu1⟩ := b.pre s hs hp
      refine ⟨u, hu, hue, ?_, ?_⟩
      · rw [hset]; split <;> omega
      · rw [hset]; split
        · rename_i e; subst e; omega
        · exact hu1
  · have hp := pot_set far i hif (rd far t + 1)
    have hg : far[i] = rd far i := rd_get hif
    rw [hg] at hp
    unfold potW at hp
    rw [if_neg (by omega : ¬ rd far t + 1 < 0)] at hp
    split at hp <;> omega
def far0 (g : Gr) : List Int := g.fin.map fun e => if e then 0 else -1
theorem bel0 {g : Gr} (hf : g.fin.length = g.n) : Bel g (far0 g) := by
  have hrd : ∀ s, s < g.n → rd (far0 g) s = if g.isEnd s = true then 0 else -1 := by
    intro s hs
    simp only [rd, far0, Gr.isEnd, List.getD_eq_getElem?_getD, List.getElem?_map]
    rw [List.getElem?_eq_getElem (by omega)]
    simp
  refine ⟨by simp [far0, hf], fun s hs => ?_, fun s hs => ?_, fun s hs => ?_, fun s hs hp => ?_⟩
  · rw [hrd s hs]; split <;> omega
  · have := hrd s hs
    split at this
    · have hc := cntA_pos (l := far0 g) (s := s) (by simp [far0, hf]; exact hs) (by omega)
      omega
    · omega
  · rw [hrd s hs]; split <;> simp_all
  · rw [hrd s hs] at hp; split at hp <;> omega

/-! ### the walk -/
structure RSt (d : Det) (id : Nat) (far : List Int) (more : Bool) (f : AF) (S : St) : Prop where
  s1 : f 1 = .ptr 0 0 0
  s3 : f 3 = .own id 0 far.length
  s6 : f 6 = encB more
  g0 : S.g 0 = some (.arr 3 [encDet d])
  gi : S.g id = some (.arr 1 (far.map encI))
  ne : id ≠ 0
/-- What a round has done: all rows before i, and s steps of row i. -/
structure Rnd (d : Det) (M i s : Nat) (far : List Int) (more : Bool) : Prop where
  b : Bel ⟨d.next, d.fin⟩ far
  le : pot far ≤ M
  yes : more = true → pot far < M
  no : more = false → ∀ u k row, d.next[u]? = some row → (u < i ∨ u = i ∧ k < s) → ∀ t : Nat, row[k]? = some (t : Int) → Suc ⟨d.next, d.fin⟩ far u t
def rfJ (d : Det) (id i M : Nat) (m : Nat) (f : AF) (S : St) : Prop :=
  ∃ s far more, s ≤ d.signs.toNat ∧ m = d.signs.toNat - s ∧ f 8 = encI s ∧ f 7 = encI i ∧ Rnd d M i s far more ∧ RSt d id far more f S
theorem rf_in {P : Program} {d : Det} (R : RightD d) {id i M : Nat} {row : List Int} (hi : d.next[i]? = some row) {f : AF} {S : St} {Q : Exit → AF → St → Prop}
    (h0 : rfJ d id i M d.signs.toNat f S)
    (hq : ∀ f' S' far more, f' 7 = encI i → Rnd d M i d.signs.toNat far more → RSt d id far more f' S' → Q .normal f' S') : AW P c_rf_in Q f S := by
  simp [AW_seq, AW_reg, AW_regD, AW_block, AW_cond, AW_skip, AW_exit, AW_ret, AW_scp, condR_true, condR_false, AThen_normal, AThen_ret, AThen_exit, ABlock_normal, ABlock_ret, ABlock_exit, AScope_normal, AScope_ret, AScope_exit, RetK_ret, RetK_normal, retAV_one, retAV_two, retAV_three, retAV_nil, RG_nil, RG_op, RG_guard, gdR_tt, gdR_ff, gdR_tf, gdR_ft, gdR_un, RG_call, callQ_clo, contK_ap, opR_some, RD_nil, RD_op0, RD_op1, opD0_some, opD1_some, RD_call, callQD_clo, RD_guard, gdD_tt, gdD_ff, gdD_tf, gdD_ft, gdD_un, psh_nil, psh_cons, Apt_nil, Apt_nilT, Apt_true, Apt_false, Dis_def, runT_val, runT_rd, runT_wr, runT_new, runT_mv, ex, put_some, put_none, ev_t, ev_c, argF_zero, argF_succ, set_g, set_n, cells_v, cells_sl, cells_agg, cells_own, cells_ptr, cells_clo, cells_eptr, cells_mp, putc, exBslice, lfill, exField, exIdxV, exIdxP, exBox, exAlloc, exLoad, exStore, exFieldA, exIdxA, exLen, exPick, exUn, exBeq, exMM, exSeq, seqGo, exExt, binV, intOp, subc, AV.solid, S0, encI, encB, c_rf_in]
  refine AW_loop (rfJ d id i M) d.signs.toNat h0 ?_
  rintro m f S ⟨s, far, more, hs, rfl, e8, e7, r, ⟨s1, s3, s6, g0, gi, hne⟩⟩
  obtain ⟨hil, hir⟩ := List.getElem?_eq_some_iff.mp hi
  have hsg1 := R.s1
  have hsg2 := R.s2
  have hn2 := R.n2
  have hrl : (row.length : Int) = d.signs := by have := R.row i hil; rw [hir] at this; exact this
  have hlen : far.length = d.next.length := r.b.len
  by_cases hlt : s < d.signs.toNat
  · have hsr : s < row.length := by omega
    have hsI : (s : Int) < d.signs := by omega
    obtain ⟨ht0, ht1⟩ : 0 ≤ row[s] ∧ row[s] < d.next.length := by
      have := R.at_ i hil s (by rw [hir]; exact hsr)
      simpa [hir] using this
    obtain ⟨t, htt⟩ : ∃ t : Nat, row[s] = (t : Int) := ⟨row[s].toNat, by omega⟩
    have htn : t < d.next.length := by omega
    have htf : t < far.length := by omega
    have hif : i < far.length := by omega
    have hgt : far[t]? = some far[t] := List.getElem?_eq_getElem htf
    have hgi : far[i]? = some far[i] := List.getElem?_eq_getElem hif
    have hft : far[t] = rd far t := rd_get htf
    have hfi : far[i] = rd far i := rd_get hif
    have hb1 := r.b.val t htn
    have hb2 := r.b.val i hil
    have hb3 := r.b.lt t htn
    have hcl := cntA_le far
    have hgr : row[s]? = some (t : Int) := by rw [List.getElem?_eq_getElem hsr, htt]
    have htI : (t : Int) < far.length := by omega
    have hiI : (i : Int) < far.length := by omega
    simp [AW_seq, AW_reg, AW_regD, AW_block, AW_cond, AW_skip, AW_exit, AW_ret, AW_scp, condR_true, condR_false, AThen_normal, AThen_ret, AThen_exit, ABlock_normal, ABlock_ret, ABlock_exit, AScope_normal, AScope_ret, AScope_exit, RetK_ret, RetK_normal, retAV_one, retAV_two, retAV_three, retAV_nil, RG_nil, RG_op, RG_guard, gdR_tt, gdR_ff, gdR_tf, gdR_ft, gdR_un, RG_call, callQ_clo, contK_ap, opR_some, RD_nil, RD_op0, RD_op1, opD0_some, opD1_some, RD_call, callQD_clo, RD_guard, gdD_tt, gdD_ff, gdD_tf, gdD_ft, gdD_un, psh_nil, psh_cons, Apt_nil, Apt_nilT, Apt_true, Apt_false, Dis_def, runT_val, runT_rd, runT_wr, runT_new, runT_mv, ex, put_some, put_none, ev_t, ev_c, argF_zero, argF_succ, set_g, set_n, cells_v, cells_sl, cells_agg, cells_own, cells_ptr, cells_clo, cells_eptr, cells_mp, putc, exBslice, lfill, exField, exIdxV, exIdxP, exBox, exAlloc, exLoad, exStore, exFieldA, exIdxA, exLen, exPick, exUn, exBeq, exMM, exSeq, seqGo, exExt, binV, intOp, subc, AV.solid, S0, encI, encB, e8, e7, s1, s3, s6, g0, gi, hsI, encDet, encIss, encIs, hi, hsr, htt, htf, htI, hgt, hgi, hft, hfi]
    have hedge : (⟨d.next, d.fin⟩ : Gr).edge i t := ⟨row, hi, by rw [← htt]; exact List.getElem_mem hsr⟩
    have stay : Suc ⟨d.next, d.fin⟩ far i t → Rnd d M i (s + 1) far more := by
      intro hsuc
      refine ⟨r.b, r.le, r.yes, fun hm u k row' hu hk t' ht' => ?_⟩
      by_cases hks : u < i ∨ u = i ∧ k < s
      · exact r.no hm u k row' hu hks t' ht'
      · obtain ⟨rfl, rfl⟩ : u = i ∧ k = s := by omega
        rw [hi] at hu; cases hu
        rw [List.getElem?_eq_getElem hsr, htt] at ht'
        simp only [Option.some.injEq] at ht'
        obtain rfl : t = t' := by omega
        exact hsuc
    have go : (rd far i < 0 ∨ rd far t + 1 < rd far i) → 0 ≤ rd far t → Rnd d M i (s + 1) (far.set i (rd far t + 1)) true := by
      intro h1 h0
      obtain ⟨q1, q2⟩ := Bel.upd (g := ⟨d.next, d.fin⟩) (by show d.next.length ≤ 9000; omega) r.b hil htn hedge h0 h1
      have := r.le
      exact ⟨q1, by omega, fun _ => by omega, fun h => by cases h⟩
    have hwr : IntKind.i64.wrap (rd far t + 1) = rd far t + 1 := wrap_in _ (by have := r.b.len; have hg : (⟨d.next, d.fin⟩ : Gr).n = d.next.length := rfl; omega)
    by_cases c1 : 0 ≤ rd far t
    · by_cases c2 : rd far i < 0
      · simp [AW_seq, AW_reg, AW_regD, AW_block, AW_cond, AW_skip, AW_exit, AW_ret, AW_scp, condR_true, condR_false, AThen_normal, AThen_ret, AThen_exit, ABlock_normal, ABlock_ret, ABlock_exit, AScope_normal, AScope_ret, AScope_exit, RetK_ret, RetK_normal, retAV_one, retAV_two, retAV_three, retAV_nil, RG_nil, RG_op, RG_guard, gdR_tt, gdR_ff, gdR_tf, gdR_ft, gdR_un, RG_call, callQ_clo, contK_ap, opR_some, RD_nil, RD_op0, RD_op1, opD0_some, opD1_some, RD_call, callQD_clo, RD_guard, gdD_tt, gdD_ff, gdD_tf, gdD_ft, gdD_un, psh_nil, psh_cons, Apt_nil, Apt_nilT, Apt_true, Apt_false, Dis_def, runT_val, runT_rd, runT_wr, runT_new, runT_mv, ex, put_some, put_none, ev_t, ev_c, argF_zero, argF_succ, set_g, set_n, cells_v, cells_sl, cells_agg, cells_own, cells_ptr, cells_clo, cells_eptr, cells_mp, putc, exBslice, lfill, exField, exIdxV, exIdxP, exBox, exAlloc, exLoad, exStore, exFieldA, exIdxA, exLen, exPick, exUn, exBeq, exMM, exSeq, seqGo, exExt, binV, intOp, subc, AV.solid, S0, encI, encB, e8, e7, s1, s3, s6, g0, gi, hsI, encDet, encIss, encIs, hi, hgr, hsr, htt, htf, hif, hiI, htI, hgt, hgi, hft, hfi, c1, c2, hwr]
        rw [wrap_in _ (by omega)]
        refine ⟨d.signs.toNat - (s + 1), by omega, s + 1, far.set i (rd far t + 1), true, by omega, rfl, ?_, ?_, go (.inl c2) c1, ⟨?_, ?_, ?_, ?_, ?_, hne⟩⟩
        · simp [put_some, encI]
        · simp [put_some, e7, encI]
        · simp [put_some, s1]
        · simp [put_some, s3]
        · simp [put_some, encB]
        · simp [set_g, g0, hne, Ne.symm hne, encDet, encI, encIss, encIs]
        · simp [set_g, List.map_set, encI]
      · by_cases c3 : rd far t + 1 < rd far i
        · simp [AW_seq, AW_reg, AW_regD, AW_block, AW_cond, AW_skip, AW_exit, AW_ret, AW_scp, condR_true, condR_false, AThen_normal, AThen_ret, AThen_exit, ABlock_normal, ABlock_ret, ABlock_exit, AScope_normal, AScope_ret, AScope_exit, RetK_ret, RetK_normal, retAV_one, retAV_two, retAV_three, retAV_nil, RG_nil, RG_op, RG_guard, gdR_tt, gdR_ff, gdR_tf, gdR_ft, gdR_un, RG_call, callQ_clo, contK_ap, opR_some, RD_nil, RD_op0, RD_op1, opD0_some, opD1_some, RD_call, callQD_clo, RD_guard, gdD_tt, gdD_ff, gdD_tf, gdD_ft, gdD_un, psh_nil, psh_cons, Apt_nil, Apt_nilT, Apt_true, Apt_false, Dis_def, runT_val, runT_rd, runT_wr, runT_new, runT_mv, ex, put_some, put_none, ev_t, ev_c, argF_zero, argF_succ, set_g, set_n, cells_v, cells_sl, cells_agg, cells_own, cells_ptr, cells_clo, cells_eptr, cells_mp, putc, exBslice, lfill, exField, exIdxV, exIdxP, exBox, exAlloc, exLoad, exStore, exFieldA, exIdxA, exLen, exPick, exUn, exBeq, exMM, exSeq, seqGo, exExt, binV, intOp, subc, AV.solid, S0, encI, encB, e8, e7, s1, s3, s6, g0, gi, hsI, encDet, encIss, encIs, hi, hgr, hsr, htt, htf, hif, hiI, htI, hgt, hgi, hft, hfi, c1, c2, c3, hwr]
          rw [wrap_in _ (by omega)]
          refine ⟨d.signs.toNat - (s + 1), by omega, s + 1, far.set i (rd far t + 1), true, by omega, rfl, ?_, ?_, go (.inr c3) c1, ⟨?_, ?_, ?_, ?_, ?_, hne⟩⟩
          · simp [put_some, encI]
          · simp [put_some, e7, encI]
          · simp [put_some, s1]
          · simp [put_some, s3]
          · simp [put_some, encB]
          · simp [set_g, g0, hne, Ne.symm hne, encDet, encI, encIss, encIs]
          · simp [set_g, List.map_set, encI]
        · simp [AW_seq, AW_reg, AW_regD, AW_block, AW_cond, AW_skip, AW_exit, AW_ret, AW_scp, condR_true, condR_false, AThen_normal, AThen_ret, AThen_exit, ABlock_normal, ABlock_ret, ABlock_exit, AScope_normal, AScope_ret, AScope_exit, RetK_ret, RetK_normal, retAV_one, retAV_two, retAV_three, retAV_nil, RG_nil, RG_op, RG_guard, gdR_tt, gdR_ff, gdR_tf, gdR_ft, gdR_un, RG_call, callQ_clo, contK_ap, opR_some, RD_nil, RD_op0, RD_op1, opD0_some, opD1_some, RD_call, callQD_clo, RD_guard, gdD_tt, gdD_ff, gdD_tf, gdD_ft, gdD_un, psh_nil, psh_cons, Apt_nil, Apt_nilT, Apt_true, Apt_false, Dis_def, runT_val, runT_rd, runT_wr, runT_new, runT_mv, ex, put_some, put_none, ev_t, ev_c, argF_zero, argF_succ, set_g, set_n, cells_v, cells_sl, cells_agg, cells_own, cells_ptr, cells_clo, cells_eptr, cells_mp, putc, exBslice, lfill, exField, exIdxV, exIdxP, exBox, exAlloc, exLoad, exStore, exFieldA, exIdxA, exLen, exPick, exUn, exBeq, exMM, exSeq, seqGo, exExt, binV, intOp, subc, AV.solid, S0, encI, encB, e8, e7, s1, s3, s6, g0, gi, hsI, encDet, encIss, encIs, hi, hgr, hsr, htt, htf, hif, hiI, htI, hgt, hgi, hft, hfi, c1, c2, c3, hwr]
          rw [wrap_in _ (by omega)]
          refine ⟨d.signs.toNat - (s + 1), by omega, s + 1, far, more, by omega, rfl, ?_, ?_, stay (fun _ => ⟨by omega, by omega⟩), ⟨?_, ?_, ?_, ?_, ?_, hne⟩⟩
          · simp [put_some, encI]
          · simp [put_some, e7, encI]
          · simp [put_some, s1]
          · simp [put_some, s3]
          · simp [put_some, s6, encB]
          · simp [g0]
          · simp [gi]
    · simp [AW_seq, AW_reg, AW_regD, AW_block, AW_cond, AW_skip, AW_exit, AW_ret, AW_scp, condR_true, condR_false, AThen_normal, AThen_ret, AThen_exit, ABlock_normal, ABlock_ret, ABlock_exit, AScope_normal, AScope_ret, AScope_exit, RetK_ret, RetK_normal, retAV_one, retAV_two, retAV_three, retAV_nil, RG_nil, RG_op, RG_guard, gdR_tt, gdR_ff, gdR_tf, gdR_ft, gdR_un, RG_call, callQ_clo, contK_ap, opR_some, RD_nil, RD_op0, RD_op1, opD0_some, opD1_some, RD_call, callQD_clo, RD_guard, gdD_tt, gdD_ff, gdD_tf, gdD_ft, gdD_un, psh_nil, psh_cons, Apt_nil, Apt_nilT, Apt_true, Apt_false, Dis_def, runT_val, runT_rd, runT_wr, runT_new, runT_mv, ex, put_some, put_none, ev_t, ev_c, argF_zero, argF_succ, set_g, set_n, cells_v, cells_sl, cells_agg, cells_own, cells_ptr, cells_clo, cells_eptr, cells_mp, putc, exBslice, lfill, exField, exIdxV, exIdxP, exBox, exAlloc, exLoad, exStore, exFieldA, exIdxA, exLen, exPick, exUn, exBeq, exMM, exSeq, seqGo, exExt, binV, intOp, subc, AV.solid, S0, encI, encB, e8, e7, s1, s3, s6, g0, gi, hsI, encDet, encIss, encIs, hi, hgr, hsr, htt, htf, hif, hiI, htI, hgt, hgi, hft, hfi, c1]
      rw [wrap_in _ (by omega)]
      refine ⟨d.signs.toNat - (s + 1), by omega, s + 1, far, more, by omega, rfl, ?_, ?_, stay (fun h => (c1 h).elim), ⟨?_, ?_, ?_, ?_, ?_, hne⟩⟩
      · simp [put_some, encI]
      · simp [put_some, e7, encI]
      · simp [put_some, s1]
      · simp [put_some, s3]
      · simp [put_some, s6, encB]
      · simp [g0]
      · simp [gi]
  · have : s = d.signs.toNat := by omega
    subst this
    have hsI : ¬ max d.signs 0 < d.signs := by omega
    simp [AW_seq, AW_reg, AW_regD, AW_block, AW_cond, AW_skip, AW_exit, AW_ret, AW_scp, condR_true, condR_false, AThen_normal, AThen_ret, AThen_exit, ABlock_normal, ABlock_ret, ABlock_exit, AScope_normal, AScope_ret, AScope_exit, RetK_ret, RetK_normal, retAV_one, retAV_two, retAV_three, retAV_nil, RG_nil, RG_op, RG_guard, gdR_tt, gdR_ff, gdR_tf, gdR_ft, gdR_un, RG_call, callQ_clo, contK_ap, opR_some, RD_nil, RD_op0, RD_op1, opD0_some, opD1_some, RD_call, callQD_clo, RD_guard, gdD_tt, gdD_ff, gdD_tf, gdD_ft, gdD_un, psh_nil, psh_cons, Apt_nil, Apt_nilT, Apt_true, Apt_false, Dis_def, runT_val, runT_rd, runT_wr, runT_new, runT_mv, ex, put_some, put_none, ev_t, ev_c, argF_zero, argF_succ, set_g, set_n, cells_v, cells_sl, cells_agg, cells_own, cells_ptr, cells_clo, cells_eptr, cells_mp, putc, exBslice, lfill, exField, exIdxV, exIdxP, exBox, exAlloc, exLoad, exStore, exFieldA, exIdxA, exLen, exPick, exUn, exBeq, exMM, exSeq, seqGo, exExt, binV, intOp, subc, AV.solid, S0, encI, encB, e8, e7, s1, s3, s6, g0, gi, hsI, encDet]
    refine hq _ _ far more ?_ r ⟨?_, ?_, ?_, ?_, ?_, hne⟩
    · simp [put_some, e7]
    · simp [put_some, s1]
    · simp [put_some, s3]
    · simp [put_some, s6]
    · simp [g0]
    · simp [gi]
theorem Rnd.next {d : Det} (R : RightD d) {M i : Nat} {far : List Int} {more : Bool} (r : Rnd d M i d.signs.toNat far more) : Rnd d M (i + 1) 0 far more := by
  refine ⟨r.b, r.le, r.yes, fun hm u k row hu hk t ht => ?_⟩
  refine r.no hm u k row hu ?_ t ht
  by_cases h : u < i
  · exact .inl h
  · refine .inr ⟨by omega, ?_⟩
    obtain ⟨h1, h2⟩ := List.getElem?_eq_some_iff.mp hu
    have := R.row u h1
    rw [h2] at this
    have := (List.getElem?_eq_some_iff.mp ht).1
    omega
def rfI (d : Det) (id M : Nat) (m : Nat) (f : AF) (S : St) : Prop :=
  ∃ i far more, i ≤ d.next.length ∧ m = d.next.length - i ∧ f 7 = encI i ∧ Rnd d M i 0 far more ∧ RSt d id far more f S
theorem rf_mid {P : Program} {d : Det} (R : RightD d) {id M : Nat} {f : AF} {S : St} {Q : Exit → AF → St → Prop}
    (h0 : rfI d id M d.next.length f S)
    (hq : ∀ f' S' far more, Rnd d M d.next.length 0 far more → RSt d id far more f' S' → Q .normal f' S') : AW P c_rf_mid Q f S := by
  simp [AW_seq, AW_reg, AW_regD, AW_block, AW_cond, AW_skip, AW_exit, AW_ret, AW_scp, condR_true, condR_false, AThen_normal, AThen_ret, AThen_exit, ABlock_normal, ABlock_ret, ABlock_exit, AScope_normal, AScope_ret, AScope_exit, RetK_ret, RetK_normal, retAV_one, retAV_two, retAV_three, retAV_nil, RG_nil, RG_op, RG_guard, gdR_tt, gdR_ff, gdR_tf, gdR_ft, gdR_un, RG_call, callQ_clo, contK_ap, opR_some, RD_nil, RD_op0, RD_op1, opD0_some, opD1_some, RD_call, callQD_clo, RD_guard, gdD_tt, gdD_ff, gdD_tf, gdD_ft, gdD_un, psh_nil, psh_cons, Apt_nil, Apt_nilT, Apt_true, Apt_false, Dis_def, runT_val, runT_rd, runT_wr, runT_new, runT_mv, ex, put_some, put_none, ev_t, ev_c, argF_zero, argF_succ, set_g, set_n, cells_v, cells_sl, cells_agg, cells_own, cells_ptr, cells_clo, cells_eptr, cells_mp, putc, exBslice, lfill, exField, exIdxV, exIdxP, exBox, exAlloc, exLoad, exStore, exFieldA, exIdxA, exLen, exPick, exUn, exBeq, exMM, exSeq, seqGo, exExt, binV, intOp, subc, AV.solid, S0, encI, encB, c_rf_mid]
  refine AW_loop (rfI d id M) d.next.length h0 ?_
  rintro m f S ⟨i, far, more, hi, rfl, e7, r, st⟩
  have hn2 := R.n2
  have hlen : far.length = d.next.length := r.b.len
  by_cases hlt : i < d.next.length
  · have hlI : (i : Int) < far.length := by omega
    have hl2 : i < far.length := by omega
    simp [AW_seq, AW_reg, AW_regD, AW_block, AW_cond, AW_skip, AW_exit, AW_ret, AW_scp, condR_true, condR_false, AThen_normal, AThen_ret, AThen_exit, ABlock_normal, ABlock_ret, ABlock_exit, AScope_normal, AScope_ret, AScope_exit, RetK_ret, RetK_normal, retAV_one, retAV_two, retAV_three, retAV_nil, RG_nil, RG_op, RG_guard, gdR_tt, gdR_ff, gdR_tf, gdR_ft, gdR_un, RG_call, callQ_clo, contK_ap, opR_some, RD_nil, RD_op0, RD_op1, opD0_some, opD1_some, RD_call, callQD_clo, RD_guard, gdD_tt, gdD_ff, gdD_tf, gdD_ft, gdD_un, psh_nil, psh_cons, Apt_nil, Apt_nilT, Apt_true, Apt_false, Dis_def, runT_val, runT_rd, runT_wr, runT_new, runT_mv, ex, put_some, put_none, ev_t, ev_c, argF_zero, argF_succ, set_g, set_n, cells_v, cells_sl, cells_agg, cells_own, cells_ptr, cells_clo, cells_eptr, cells_mp, putc, exBslice, lfill, exField, exIdxV, exIdxP, exBox, exAlloc, exLoad, exStore, exFieldA, exIdxA, exLen, exPick, exUn, exBeq, exMM, exSeq, seqGo, exExt, binV, intOp, subc, AV.solid, S0, encI, encB, e7, st.s3, hlI, hl2]
    refine rf_in R (id := id) (i := i) (M := M) (row := d.next[i]) (List.getElem?_eq_getElem hlt) ?_ ?_
    · refine ⟨0, far, more, by omega, rfl, ?_, ?_, r, ⟨?_, ?_, ?_, ?_, ?_, st.ne⟩⟩
      · simp [put_some, encI]
      · simp [put_some, e7, encI]
      · simp [put_some, st.s1]
      · simp [put_some, st.s3]
      · simp [put_some, st.s6]
      · simp [st.g0]
      · simp [st.gi]
    · intro f' S' far' more' q7 r' st'
      simp [AW_seq, AW_reg, AW_regD, AW_block, AW_cond, AW_skip, AW_exit, AW_ret, AW_scp, condR_true, condR_false, AThen_normal, AThen_ret, AThen_exit, ABlock_normal, ABlock_ret, ABlock_exit, AScope_normal, AScope_ret, AScope_exit, RetK_ret, RetK_normal, retAV_one, retAV_two, retAV_three, retAV_nil, RG_nil, RG_op, RG_guard, gdR_tt, gdR_ff, gdR_tf, gdR_ft, gdR_un, RG_call, callQ_clo, contK_ap, opR_some, RD_nil, RD_op0, RD_op1, opD0_some, opD1_some, RD_call, callQD_clo, RD_guard, gdD_tt, gdD_ff, gdD_tf, gdD_ft, gdD_un, psh_nil, psh_cons, Apt_nil, Apt_nilT, Apt_true, Apt_false, Dis_def, runT_val, runT_rd, runT_wr, runT_new, runT_mv, ex, put_some, put_none, ev_t, ev_c, argF_zero, argF_succ, set_g, set_n, cells_v, cells_sl, cells_agg, cells_own, cells_ptr, cells_clo, cells_eptr, cells_mp, putc, exBslice, lfill, exField, exIdxV, exIdxP, exBox, exAlloc, exLoad, exStore, exFieldA, exIdxA, exLen, exPick, exUn, exBeq, exMM, exSeq, seqGo, exExt, binV, intOp, subc, AV.solid, S0, encI, encB, q7]
      rw [wrap_in _ (by omega)]
      refine ⟨d.next.length - (i + 1), by omega, i + 1, far', more', by omega, rfl, ?_, r'.next R, ⟨?_, ?_, ?_, ?_, ?_, st'.ne⟩⟩
      · simp [put_some, encI]
      · simp [put_some, st'.s1]
      · simp [put_some, st'.s3]
      · simp [put_some, st'.s6]
      · simp [st'.g0]
      · simp [st'.gi]
  · have : i = d.next.length := by omega
    subst this
    have hlI : ¬ (d.next.length : Int) < far.length := by omega
    have hl2 : ¬ d.next.length < far.length := by omega
    simp [AW_seq, AW_reg, AW_regD, AW_block, AW_cond, AW_skip, AW_exit, AW_ret, AW_scp, condR_true, condR_false, AThen_normal, AThen_ret, AThen_exit, ABlock_normal, ABlock_ret, ABlock_exit, AScope_normal, AScope_ret, AScope_exit, RetK_ret, RetK_normal, retAV_one, retAV_two, retAV_three, retAV_nil, RG_nil, RG_op, RG_guard, gdR_tt, gdR_ff, gdR_tf, gdR_ft, gdR_un, RG_call, callQ_clo, contK_ap, opR_some, RD_nil, RD_op0, RD_op1, opD0_some, opD1_some, RD_call, callQD_clo, RD_guard, gdD_tt, gdD_ff, gdD_tf, gdD_ft, gdD_un, psh_nil, psh_cons, Apt_nil, Apt_nilT, Apt_true, Apt_false, Dis_def, runT_val, runT_rd, runT_wr, runT_new, runT_mv, ex, put_some, put_none, ev_t, ev_c, argF_zero, argF_succ, set_g, set_n, cells_v, cells_sl, cells_agg, cells_own, cells_ptr, cells_clo, cells_eptr, cells_mp, putc, exBslice, lfill, exField, exIdxV, exIdxP, exBox, exAlloc, exLoad, exStore, exFieldA, exIdxA, exLen, exPick, exUn, exBeq, exMM, exSeq, seqGo, exExt, binV, intOp, subc, AV.solid, S0, encI, encB, e7, st.s3, hlI, hl2]
    refine hq _ _ far more r ⟨?_, ?_, ?_, ?_, ?_, st.ne⟩
    · simp [put_some, st.s1]
    · simp [put_some, st.s3]
    · simp [put_some, st.s6]
    · simp [st.g0]
    · simp [st.gi]
def AllSuc (d : Det) (far : List Int) : Prop := ∀ (u k : Nat) row, d.next[u]? = some row → ∀ t : Nat, row[k]? = some (t : Int) → Suc ⟨d.next, d.fin⟩ far u t
def rfO (d : Det) (id : Nat) (m : Nat) (f : AF) (S : St) : Prop :=
  ∃ far more, m = (if more = true then pot far + 1 else 0) ∧ Bel ⟨d.next, d.fin⟩ far ∧ (more = false → AllSuc d far) ∧ RSt d id far more f S
theorem rf_out {P : Program} {d : Det} (R : RightD d) {id m : Nat} {f : AF} {S : St} {Q : Exit → AF → St → Prop}
    (h0 : rfO d id m f S)
    (hq : ∀ f' S' far, Bel ⟨d.next, d.fin⟩ far → AllSuc d far → RSt d id far false f' S' → Q .normal f' S') : AW P c_rf_out Q f S := by
  simp [AW_seq, AW_reg, AW_regD, AW_block, AW_cond, AW_skip, AW_exit, AW_ret, AW_scp, condR_true, condR_false, AThen_normal, AThen_ret, AThen_exit, ABlock_normal, ABlock_ret, ABlock_exit, AScope_normal, AScope_ret, AScope_exit, RetK_ret, RetK_normal, retAV_one, retAV_two, retAV_three, retAV_nil, RG_nil, RG_op, RG_guard, gdR_tt, gdR_ff, gdR_tf, gdR_ft, gdR_un, RG_call, callQ_clo, contK_ap, opR_some, RD_nil, RD_op0, RD_op1, opD0_some, opD1_some, RD_call, callQD_clo, RD_guard, gdD_tt, gdD_ff, gdD_tf, gdD_ft, gdD_un, psh_nil, psh_cons, Apt_nil, Apt_nilT, Apt_true, Apt_false, Dis_def, runT_val, runT_rd, runT_wr, runT_new, runT_mv, ex, put_some, put_none, ev_t, ev_c, argF_zero, argF_succ, set_g, set_n, cells_v, cells_sl, cells_agg, cells_own, cells_ptr, cells_clo, cells_eptr, cells_mp, putc, exBslice, lfill, exField, exIdxV, exIdxP, exBox, exAlloc, exLoad, exStore, exFieldA, exIdxA, exLen, exPick, exUn, exBeq, exMM, exSeq, seqGo, exExt, binV, intOp, subc, AV.solid, S0, encI, encB, c_rf_out]
  refine AW_loop (rfO d id) m h0 ?_
  rintro m f S ⟨far, more, rfl, b, hs, st⟩
  cases more with
  | true =>
    simp [AW_seq, AW_reg, AW_regD, AW_block, AW_cond, AW_skip, AW_exit, AW_ret, AW_scp, condR_true, condR_false, AThen_normal, AThen_ret, AThen_exit, ABlock_normal, ABlock_ret, ABlock_exit, AScope_normal, AScope_ret, AScope_exit, RetK_ret, RetK_normal, retAV_one, retAV_two, retAV_three, retAV_nil, RG_nil, RG_op, RG_guard, gdR_tt, gdR_ff, gdR_tf, gdR_ft, gdR_un, RG_call, callQ_clo, contK_ap, opR_some, RD_nil, RD_op0, RD_op1, opD0_some, opD1_some, RD_call, callQD_clo, RD_guard, gdD_tt, gdD_ff, gdD_tf, gdD_ft, gdD_un, psh_nil, psh_cons, Apt_nil, Apt_nilT, Apt_true, Apt_false, Dis_def, runT_val, runT_rd, runT_wr, runT_new, runT_mv, ex, put_some, put_none, ev_t, ev_c, argF_zero, argF_succ, set_g, set_n, cells_v, cells_sl, cells_agg, cells_own, cells_ptr, cells_clo, cells_eptr, cells_mp, putc, exBslice, lfill, exField, exIdxV, exIdxP, exBox, exAlloc, exLoad, exStore, exFieldA, exIdxA, exLen, exPick, exUn, exBeq, exMM, exSeq, seqGo, exExt, binV, intOp, subc, AV.solid, S0, encI, encB, st.s6]
    refine rf_mid R (id := id) (M := pot far) ?_ ?_
    · refine ⟨0, far, false, by omega, rfl, ?_, ⟨b, Nat.le_refl _, (fun h => by cases h), fun _ u k row hu hk => by omega⟩, ⟨?_, ?_, ?_, ?_, ?_, st.ne⟩⟩
      · simp [put_some, encI]
      · simp [put_some, st.s1]
      · simp [put_some, st.s3]
      · simp [put_some, encB]
      · simp [st.g0]
      · simp [st.gi]
    · intro f' S' far' more' r' st'
      simp [AW_seq, AW_reg, AW_regD, AW_block, AW_cond, AW_skip, AW_exit, AW_ret, AW_scp, condR_true, condR_false, AThen_normal, AThen_ret, AThen_exit, ABlock_normal, ABlock_ret, ABlock_exit, AScope_normal, AScope_ret, AScope_exit, RetK_ret, RetK_normal, retAV_one, retAV_two, retAV_three, retAV_nil, RG_nil, RG_op, RG_guard, gdR_tt, gdR_ff, gdR_tf, gdR_ft, gdR_un, RG_call, callQ_clo, contK_ap, opR_some, RD_nil, RD_op0, RD_op1, opD0_some, opD1_some, RD_call, callQD_clo, RD_guard, gdD_tt, gdD_ff, gdD_tf, gdD_ft, gdD_un, psh_nil, psh_cons, Apt_nil, Apt_nilT, Apt_true, Apt_false, Dis_def, runT_val, runT_rd, runT_wr, runT_new, runT_mv, ex, put_some, put_none, ev_t, ev_c, argF_zero, argF_succ, set_g, set_n, cells_v, cells_sl, cells_agg, cells_own, cells_ptr, cells_clo, cells_eptr, cells_mp, putc, exBslice, lfill, exField, exIdxV, exIdxP, exBox, exAlloc, exLoad, exStore, exFieldA, exIdxA, exLen, exPick, exUn, exBeq, exMM, exSeq, seqGo, exExt, binV, intOp, subc, AV.solid, S0, encI, encB]
      refine ⟨if more' = true then pot far' + 1 else 0, ?_, far', more', rfl, r'.b, fun hm u k row hu t ht => ?_, st'⟩
      · cases more' with
        | true => have := r'.yes rfl; simp; omega
        | false => simp
      · exact r'.no hm u k row hu (.inl (List.getElem?_eq_some_iff.mp hu).1) t ht
  | false =>
    simp [AW_seq, AW_reg, AW_regD, AW_block, AW_cond, AW_skip, AW_exit, AW_ret, AW_scp, condR_true, condR_false, AThen_normal, AThen_ret, AThen_exit, ABlock_normal, ABlock_ret, ABlock_exit, AScope_normal, AScope_ret, AScope_exit, RetK_ret, RetK_normal, retAV_one, retAV_two, retAV_three, retAV_nil, RG_nil, RG_op, RG_guard, gdR_tt, gdR_ff, gdR_tf, gdR_ft, gdR_un, RG_call, callQ_clo, contK_ap, opR_some, RD_nil, RD_op0, RD_op1, opD0_some, opD1_some, RD_call, callQD_clo, RD_guard, gdD_tt, gdD_ff, gdD_tf, gdD_ft, gdD_un, psh_nil, psh_cons, Apt_nil, Apt_nilT, Apt_true, Apt_false, Dis_def, runT_val, runT_rd, runT_wr, runT_new, runT_mv, ex, put_some, put_none, ev_t, ev_c, argF_zero, argF_succ, set_g, set_n, cells_v, cells_sl, cells_agg, cells_own, cells_ptr, cells_clo, cells_eptr, cells_mp, putc, exBslice, lfill, exField, exIdxV, exIdxP, exBox, exAlloc, exLoad, exStore, exFieldA, exIdxA, exLen, exPick, exUn, exBeq, exMM, exSeq, seqGo, exExt, binV, intOp, subc, AV.solid, S0, encI, encB, st.s6]
    refine hq _ _ far b (hs rfl) ⟨?_, ?_, ?_, ?_, ?_, st.ne⟩
    · simp [put_some, st.s1]
    · simp [put_some, st.s3]
    · simp [put_some, st.s6]
    · simp [st.g0]
    · simp [st.gi]
def riI (d : Det) (m : Nat) (f : AF) (S : St) : Prop :=
  ∃ i : Nat, i ≤ d.fin.length ∧ m = d.fin.length - i ∧ f 4 = encI i ∧ f 1 = .ptr 0 0 0 ∧ S.g 0 = some (.arr 3 [encDet d]) ∧ Vec S.g (f 3) 1 (((far0 ⟨d.next, d.fin⟩).take i).map encI) ∧ 0 ∉ (f 3).ids ∧ 0 < S.n ∧
    (0 < i → ∃ id, f 3 = .own id 0 i ∧ S.g id = some (.arr 1 (((far0 ⟨d.next, d.fin⟩).take i).map encI)) ∧ id ≠ 0)
theorem riI_step {d : Det} {i : Nat} (hi : i + 1 ≤ d.fin.length) {f : AF} {S : St} {id : Nat} (e4 : f 4 = encI ((i + 1 : Nat) : Int)) (e1 : f 1 = .ptr 0 0 0) (e3 : f 3 = .own id 0 (i + 1)) (g0 : S.g 0 = some (.arr 3 [encDet d]))
    (gi : S.g id = some (.arr 1 (((far0 ⟨d.next, d.fin⟩).take (i + 1)).map encI))) (hne : id ≠ 0) (hn : 0 < S.n) : riI d (d.fin.length - (i + 1)) f S := by
  refine ⟨i + 1, hi, rfl, e4, e1, g0, ?_, ?_, hn, fun _ => ⟨id, e3, gi, hne⟩⟩
  · rw [e3]; exact Vec.mk' gi (by simp [far0]; omega)
  · rw [e3]; simp [AV.ids, Ne.symm hne]
theorem rf_ini {P : Program} {d : Det} (R : RightD d) {f : AF} {S : St} {Q : Exit → AF → St → Prop}
    (h0 : riI d d.fin.length f S)
    (hq : ∀ f' S' id, f' 1 = .ptr 0 0 0 → f' 3 = .own id 0 d.fin.length → S'.g 0 = some (.arr 3 [encDet d]) → S'.g id = some (.arr 1 ((far0 ⟨d.next, d.fin⟩).map encI)) → id ≠ 0 → Q .normal f' S') : AW P c_rf_ini Q f S := by
  simp [AW_seq, AW_reg, AW_regD, AW_block, AW_cond, AW_skip, AW_exit, AW_ret, AW_scp, condR_true, condR_false, AThen_normal, AThen_ret, AThen_exit, ABlock_normal, ABlock_ret, ABlock_exit, AScope_normal, AScope_ret, AScope_exit, RetK_ret, RetK_normal, retAV_one, retAV_two, retAV_three, retAV_nil, RG_nil, RG_op, RG_guard, gdR_tt, gdR_ff, gdR_tf, gdR_ft, gdR_un, RG_call, callQ_clo, contK_ap, opR_some, RD_nil, RD_op0, RD_op1, opD0_some, opD1_some, RD_call, callQD_clo, RD_guard, gdD_tt, gdD_ff, gdD_tf, gdD_ft, gdD_un, psh_nil, psh_cons, Apt_nil, Apt_nilT, Apt_true, Apt_false, Dis_def, runT_val, runT_rd, runT_wr, runT_new, runT_mv, ex, put_some, put_none, ev_t, ev_c, argF_zero, argF_succ, set_g, set_n, cells_v, cells_sl, cells_agg, cells_own, cells_ptr, cells_clo, cells_eptr, cells_mp, putc, exBslice, lfill, exField, exIdxV, exIdxP, exBox, exAlloc, exLoad, exStore, exFieldA, exIdxA, exLen, exPick, exUn, exBeq, exMM, exSeq, seqGo, exExt, binV, intOp, subc, AV.solid, S0, encI, encB, c_rf_ini]
  refine AW_loop (riI d) d.fin.length h0 ?_
  rintro m f S ⟨i, hi, rfl, e4, e1, g0, hv, ho, hn, hown⟩
  have hn2 := R.n2
  have hfl := R.fin
  by_cases hlt : i < d.fin.length
  · have hlI : (i : Int) < d.fin.length := by omega
    have hxl : (far0 ⟨d.next, d.fin⟩).length = d.fin.length := by simp [far0]
    have hx : (far0 ⟨d.next, d.fin⟩).take (i + 1) = (far0 ⟨d.next, d.fin⟩).take i ++ [if d.fin[i] then 0 else -1] := by
      rw [List.take_add_one, List.getElem?_eq_getElem (by omega)]
      simp [far0]
    have hgf : d.fin[i]? = some d.fin[i] := List.getElem?_eq_getElem hlt
    have happ := fun (n nid : Nat) (x : AV) (hx : x.cells.length = 1) => Vec.app (n := n) (nid := nid) (by_ := 8) hv (cells_I _) hx (appOk8 (by rw [List.length_map, List.length_take]; omega))
    cases hfi : d.fin[i] with
    | true =>
      simp [AW_seq, AW_reg, AW_regD, AW_block, AW_cond, AW_skip, AW_exit, AW_ret, AW_scp, condR_true, condR_false, AThen_normal, AThen_ret, AThen_exit, ABlock_normal, ABlock_ret, ABlock_exit, AScope_normal, AScope_ret, AScope_exit, RetK_ret, RetK_normal, retAV_one, retAV_two, retAV_three, retAV_nil, RG_nil, RG_op, RG_guard, gdR_tt, gdR_ff, gdR_tf, gdR_ft, gdR_un, RG_call, callQ_clo, contK_ap, opR_some, RD_nil, RD_op0, RD_op1, opD0_some, opD1_some, RD_call, callQD_clo, RD_guard, gdD_tt, gdD_ff, gdD_tf, gdD_ft, gdD_un, psh_nil, psh_cons, Apt_nil, Apt_nilT, Apt_true, Apt_false, Dis_def, runT_val, runT_rd, runT_wr, runT_new, runT_mv, ex, put_some, put_none, ev_t, ev_c, argF_zero, argF_succ, set_g, set_n, cells_v, cells_sl, cells_agg, cells_own, cells_ptr, cells_clo, cells_eptr, cells_mp, putc, exBslice, lfill, exField, exIdxV, exIdxP, exBox, exAlloc, exLoad, exStore, exFieldA, exIdxA, exLen, exPick, exUn, exBeq, exMM, exSeq, seqGo, exExt, binV, intOp, subc, AV.solid, S0, encI, encB, e4, e1, g0, hlI, encDet, encBs, hgf, hfi, hlt]
      rw [happ _ _ _ (by simp [AV.cells])]
      simp [AW_seq, AW_reg, AW_regD, AW_block, AW_cond, AW_skip, AW_exit, AW_ret, AW_scp, condR_true, condR_false, AThen_normal, AThen_ret, AThen_exit, ABlock_normal, ABlock_ret, ABlock_exit, AScope_normal, AScope_ret, AScope_exit, RetK_ret, RetK_normal, retAV_one, retAV_two, retAV_three, retAV_nil, RG_nil, RG_op, RG_guard, gdR_tt, gdR_ff, gdR_tf, gdR_ft, gdR_un, RG_call, callQ_clo, contK_ap, opR_some, RD_nil, RD_op0, RD_op1, opD0_some, opD1_some, RD_call, callQD_clo, RD_guard, gdD_tt, gdD_ff, gdD_tf, gdD_ft, gdD_un, psh_nil, psh_cons, Apt_nil, Apt_nilT, Apt_true, Apt_false, Dis_def, runT_val, runT_rd, runT_wr, runT_new, runT_mv, ex, put_some, put_none, ev_t, ev_c, argF_zero, argF_succ, set_g, set_n, cells_v, cells_sl, cells_agg, cells_own, cells_ptr, cells_clo, cells_eptr, cells_mp, putc, exBslice, lfill, exField, exIdxV, exIdxP, exBox, exAlloc, exLoad, exStore, exFieldA, exIdxA, exLen, exPick, exUn, exBeq, exMM, exSeq, seqGo, exExt, binV, intOp, subc, AV.solid, S0, encI, encB, e4, e1]
      rw [wrap_in _ (by omega)]
      have hw0 : ∀ m, (St.without ⟨m, S.g⟩ (f 3)).g 0 = S.g 0 := fun m => without_g 0 ho
      have hmin : min i (far0 ⟨d.next, d.fin⟩).length = i := by omega
      rw [hfi] at hx
      refine ⟨d.fin.length - (i + 1), by omega, riI_step (by omega) (id := S.n + 15) ?_ ?_ ?_ ?_ ?_ (by omega) (by simp [without_n])⟩
      · simp [put_some, encI]
      · simp [put_some, e1]
      · simp [put_some, List.length_take, hmin]
      · simp [set_g, hw0, g0]
      · rw [hx]; simp [set_g, encI, List.map_take]
    | false =>
      simp [AW_seq, AW_reg, AW_regD, AW_block, AW_cond, AW_skip, AW_exit, AW_ret, AW_scp, condR_true, condR_false, AThen_normal, AThen_ret, AThen_exit, ABlock_normal, ABlock_ret, ABlock_exit, AScope_normal, AScope_ret, AScope_exit, RetK_ret, RetK_normal, retAV_one, retAV_two, retAV_three, retAV_nil, RG_nil, RG_op, RG_guard, gdR_tt, gdR_ff, gdR_tf, gdR_ft, gdR_un, RG_call, callQ_clo, contK_ap, opR_some, RD_nil, RD_op0, RD_op1, opD0_some, opD1_some, RD_call, callQD_clo, RD_guard, gdD_tt, gdD_ff, gdD_tf, gdD_ft, gdD_un, psh_nil, psh_cons, Apt_nil, Apt_nilT, Apt_true, Apt_false, Dis_def, runT_val, runT_rd, runT_wr, runT_new, runT_mv, ex, put_some, put_none, ev_t, ev_c, argF_zero, argF_succ, set_g, set_n, cells_v, cells_sl, cells_agg, cells_own, cells_ptr, cells_clo, cells_eptr, cells_mp, putc, exBslice, lfill, exField, exIdxV, exIdxP, exBox, exAlloc, exLoad, exStore, exFieldA, exIdxA, exLen, exPick, exUn, exBeq, exMM, exSeq, seqGo, exExt, binV, intOp, subc, AV.solid, S0, encI, encB, e4, e1, g0, hlI, encDet, encBs, hgf, hfi, hlt]
      rw [happ _ _ _ (by simp [AV.cells])]
      simp [AW_seq, AW_reg, AW_regD, AW_block, AW_cond, AW_skip, AW_exit, AW_ret, AW_scp, condR_true, condR_false, AThen_normal, AThen_ret, AThen_exit, ABlock_normal, ABlock_ret, ABlock_exit, AScope_normal, AScope_ret, AScope_exit, RetK_ret, RetK_normal, retAV_one, retAV_two, retAV_three, retAV_nil, RG_nil, RG_op, RG_guard, gdR_tt, gdR_ff, gdR_tf, gdR_ft, gdR_un, RG_call, callQ_clo, contK_ap, opR_some, RD_nil, RD_op0, RD_op1, opD0_some, opD1_some, RD_call, callQD_clo, RD_guard, gdD_tt, gdD_ff, gdD_tf, gdD_ft, gdD_un, psh_nil, psh_cons, Apt_nil, Apt_nilT, Apt_true, Apt_false, Dis_def, runT_val, runT_rd, runT_wr, runT_new, runT_mv, ex, put_some, put_none, ev_t, ev_c, argF_zero, argF_succ, set_g, set_n, cells_v, cells_sl, cells_agg, cells_own, cells_ptr, cells_clo, cells_eptr, cells_mp, putc, exBslice, lfill, exField, exIdxV, exIdxP, exBox, exAlloc, exLoad, exStore, exFieldA, exIdxA, exLen, exPick, exUn, exBeq, exMM, exSeq, seqGo, exExt, binV, intOp, subc, AV.solid, S0, encI, encB, e4, e1]
      rw [wrap_in _ (by omega)]
      have hw0 : ∀ m, (St.without ⟨m, S.g⟩ (f 3)).g 0 = S.g 0 := fun m => without_g 0 ho
      have hmin : min i (far0 ⟨d.next, d.fin⟩).length = i := by omega
      rw [hfi] at hx
      refine ⟨d.fin.length - (i + 1), by omega, riI_step (by omega) (id := S.n + 14) ?_ ?_ ?_ ?_ ?_ (by omega) (by simp [without_n])⟩
      · simp [put_some, encI]
      · simp [put_some, e1]
      · simp [put_some, List.length_take, hmin]
      · simp [set_g, hw0, g0]
      · rw [hx]; simp [set_g, encI, List.map_take]
  · have : i = d.fin.length := by omega
    subst this
    have hlI : ¬ (d.fin.length : Int) < d.fin.length := by omega
    simp [AW_seq, AW_reg, AW_regD, AW_block, AW_cond, AW_skip, AW_exit, AW_ret, AW_scp, condR_true, condR_false, AThen_normal, AThen_ret, AThen_exit, ABlock_normal, ABlock_ret, ABlock_exit, AScope_normal, AScope_ret, AScope_exit, RetK_ret, RetK_normal, retAV_one, retAV_two, retAV_three, retAV_nil, RG_nil, RG_op, RG_guard, gdR_tt, gdR_ff, gdR_tf, gdR_ft, gdR_un, RG_call, callQ_clo, contK_ap, opR_some, RD_nil, RD_op0, RD_op1, opD0_some, opD1_some, RD_call, callQD_clo, RD_guard, gdD_tt, gdD_ff, gdD_tf, gdD_ft, gdD_un, psh_nil, psh_cons, Apt_nil, Apt_nilT, Apt_true, Apt_false, Dis_def, runT_val, runT_rd, runT_wr, runT_new, runT_mv, ex, put_some, put_none, ev_t, ev_c, argF_zero, argF_succ, set_g, set_n, cells_v, cells_sl, cells_agg, cells_own, cells_ptr, cells_clo, cells_eptr, cells_mp, putc, exBslice, lfill, exField, exIdxV, exIdxP, exBox, exAlloc, exLoad, exStore, exFieldA, exIdxA, exLen, exPick, exUn, exBeq, exMM, exSeq, seqGo, exExt, binV, intOp, subc, AV.solid, S0, encI, encB, e4, e1, g0, encDet, encBs]
    have hfn := R.n1
    obtain ⟨id, q1, q2, q3⟩ := hown (by omega)
    rw [List.take_of_length_le (by simp [far0])] at q2
    refine hq _ _ id ?_ ?_ ?_ ?_ q3
    · simp [put_some, e1]
    · simp [put_some, q1]
    · simp [g0]
    · simp [q2]
theorem caesuraref18_Far_body {P : Program} {fr : FuncId} (d : Det) (hr : PureC P fr [encDet d] (encB (rightD d))) : AW P (c_caesuraref18_Far fr) (RetK [2] (FzK (encIs (farD d)))) (argF [encDet d]) S0 := by
  have cd := closed_Det d
  simp only [encDet] at hr cd
  by_cases hR : rightD d = true
  · have R := (right_iff d).mp hR
    have hfar : farD d = farS ⟨d.next, d.fin⟩ := by unfold farD; rw [if_pos hR]
    rw [hR] at hr
    simp [AW_seq, AW_reg, AW_regD, AW_block, AW_cond, AW_skip, AW_exit, AW_ret, AW_scp, condR_true, condR_false, AThen_normal, AThen_ret, AThen_exit, ABlock_normal, ABlock_ret, ABlock_exit, AScope_normal, AScope_ret, AScope_exit, RetK_ret, RetK_normal, retAV_one, retAV_two, retAV_three, retAV_nil, RG_nil, RG_op, RG_guard, gdR_tt, gdR_ff, gdR_tf, gdR_ft, gdR_un, RG_call, callQ_clo, contK_ap, opR_some, RD_nil, RD_op0, RD_op1, opD0_some, opD1_some, RD_call, callQD_clo, RD_guard, gdD_tt, gdD_ff, gdD_tf, gdD_ft, gdD_un, psh_nil, psh_cons, Apt_nil, Apt_nilT, Apt_true, Apt_false, Dis_def, runT_val, runT_rd, runT_wr, runT_new, runT_mv, ex, put_some, put_none, ev_t, ev_c, argF_zero, argF_succ, set_g, set_n, cells_v, cells_sl, cells_agg, cells_own, cells_ptr, cells_clo, cells_eptr, cells_mp, putc, exBslice, lfill, exField, exIdxV, exIdxP, exBox, exAlloc, exLoad, exStore, exFieldA, exIdxA, exLen, exPick, exUn, exBeq, exMM, exSeq, seqGo, exExt, binV, intOp, subc, AV.solid, S0, encI, encB, c_caesuraref18_Far, encDet]
    refine CallR.pure hr (cl_cons cd cl_nil) (closed_B _) ?_
    simp [AW_seq, AW_reg, AW_regD, AW_block, AW_cond, AW_skip, AW_exit, AW_ret, AW_scp, condR_true, condR_false, AThen_normal, AThen_ret, AThen_exit, ABlock_normal, ABlock_ret, ABlock_exit, AScope_normal, AScope_ret, AScope_exit, RetK_ret, RetK_normal, retAV_one, retAV_two, retAV_three, retAV_nil, RG_nil, RG_op, RG_guard, gdR_tt, gdR_ff, gdR_tf, gdR_ft, gdR_un, RG_call, callQ_clo, contK_ap, opR_some, RD_nil, RD_op0, RD_op1, opD0_some, opD1_some, RD_call, callQD_clo, RD_guard, gdD_tt, gdD_ff, gdD_tf, gdD_ft, gdD_un, psh_nil, psh_cons, Apt_nil, Apt_nilT, Apt_true, Apt_false, Dis_def, runT_val, runT_rd, runT_wr, runT_new, runT_mv, ex, put_some, put_none, ev_t, ev_c, argF_zero, argF_succ, set_g, set_n, cells_v, cells_sl, cells_agg, cells_own, cells_ptr, cells_clo, cells_eptr, cells_mp, putc, exBslice, lfill, exField, exIdxV, exIdxP, exBox, exAlloc, exLoad, exStore, exFieldA, exIdxA, exLen, exPick, exUn, exBeq, exMM, exSeq, seqGo, exExt, binV, intOp, subc, AV.solid, S0, encI, encB]
    refine rf_ini R ?_ ?_
    · refine ⟨0, by omega, rfl, ?_, ?_, ?_, ?_, ?_, by simp, fun h => by omega⟩
      · simp [put_some, encI]
      · simp [put_some]
      · simp [set_g, encDet, encI]
      · simp [put_some, Vec.nil]
      · simp [put_some, AV.ids]
    · intro f1 S1 id e1 e3 g0 gi hne
      simp [AW_seq, AW_reg, AW_regD, AW_block, AW_cond, AW_skip, AW_exit, AW_ret, AW_scp, condR_true, condR_false, AThen_normal, AThen_ret, AThen_exit, ABlock_normal, ABlock_ret, ABlock_exit, AScope_normal, AScope_ret, AScope_exit, RetK_ret, RetK_normal, retAV_one, retAV_two, retAV_three, retAV_nil, RG_nil, RG_op, RG_guard, gdR_tt, gdR_ff, gdR_tf, gdR_ft, gdR_un, RG_call, callQ_clo, contK_ap, opR_some, RD_nil, RD_op0, RD_op1, opD0_some, opD1_some, RD_call, callQD_clo, RD_guard, gdD_tt, gdD_ff, gdD_tf, gdD_ft, gdD_un, psh_nil, psh_cons, Apt_nil, Apt_nilT, Apt_true, Apt_false, Dis_def, runT_val, runT_rd, runT_wr, runT_new, runT_mv, ex, put_some, put_none, ev_t, ev_c, argF_zero, argF_succ, set_g, set_n, cells_v, cells_sl, cells_agg, cells_own, cells_ptr, cells_clo, cells_eptr, cells_mp, putc, exBslice, lfill, exField, exIdxV, exIdxP, exBox, exAlloc, exLoad, exStore, exFieldA, exIdxA, exLen, exPick, exUn, exBeq, exMM, exSeq, seqGo, exExt, binV, intOp, subc, AV.solid, S0, encI, encB]
      refine rf_out R (id := id) (m := pot (far0 ⟨d.next, d.fin⟩) + 1) ?_ ?_
      · refine ⟨far0 ⟨d.next, d.fin⟩, true, by simp, bel0 R.fin, (fun h => by cases h), ⟨?_, ?_, ?_, ?_, ?_, hne⟩⟩
        · simp [put_some, e1]
        · simp [put_some, e3, far0]
        · simp [put_some, encB]
        · simp [g0]
        · simp [gi]
      · intro f2 S2 far b hs st
        have fo : FarOk ⟨d.next, d.fin⟩ far := b.ok (fun u t hu ht he => by
          obtain ⟨row, h1, h2⟩ := he
          obtain ⟨k, hk, e⟩ := List.mem_iff_getElem.mp h2
          exact hs u k row h1 t (by rw [List.getElem?_eq_getElem hk, e]))
        simp [AW_seq, AW_reg, AW_regD, AW_block, AW_cond, AW_skip, AW_exit, AW_ret, AW_scp, condR_true, condR_false, AThen_normal, AThen_ret, AThen_exit, ABlock_normal, ABlock_ret, ABlock_exit, AScope_normal, AScope_ret, AScope_exit, RetK_ret, RetK_normal, retAV_one, retAV_two, retAV_three, retAV_nil, RG_nil, RG_op, RG_guard, gdR_tt, gdR_ff, gdR_tf, gdR_ft, gdR_un, RG_call, callQ_clo, contK_ap, opR_some, RD_nil, RD_op0, RD_op1, opD0_some, opD1_some, RD_call, callQD_clo, RD_guard, gdD_tt, gdD_ff, gdD_tf, gdD_ft, gdD_un, psh_nil, psh_cons, Apt_nil, Apt_nilT, Apt_true, Apt_false, Dis_def, runT_val, runT_rd, runT_wr, runT_new, runT_mv, ex, put_some, put_none, ev_t, ev_c, argF_zero, argF_succ, set_g, set_n, cells_v, cells_sl, cells_agg, cells_own, cells_ptr, cells_clo, cells_eptr, cells_mp, putc, exBslice, lfill, exField, exIdxV, exIdxP, exBox, exAlloc, exLoad, exStore, exFieldA, exIdxA, exLen, exPick, exUn, exBeq, exMM, exSeq, seqGo, exExt, binV, intOp, subc, AV.solid, S0, encI, encB, st.s3]
        rw [hfar, farS_eq fo]
        exact Vec.fz (Vec.mk' st.gi (by simp)) closed_I
  · have hR' : rightD d = false := by simpa using hR
    have hfar : farD d = [] := by unfold farD; rw [if_neg hR]
    rw [hR'] at hr
    simp [AW_seq, AW_reg, AW_regD, AW_block, AW_cond, AW_skip, AW_exit, AW_ret, AW_scp, condR_true, condR_false, AThen_normal, AThen_ret, AThen_exit, ABlock_normal, ABlock_ret, ABlock_exit, AScope_normal, AScope_ret, AScope_exit, RetK_ret, RetK_normal, retAV_one, retAV_two, retAV_three, retAV_nil, RG_nil, RG_op, RG_guard, gdR_tt, gdR_ff, gdR_tf, gdR_ft, gdR_un, RG_call, callQ_clo, contK_ap, opR_some, RD_nil, RD_op0, RD_op1, opD0_some, opD1_some, RD_call, callQD_clo, RD_guard, gdD_tt, gdD_ff, gdD_tf, gdD_ft, gdD_un, psh_nil, psh_cons, Apt_nil, Apt_nilT, Apt_true, Apt_false, Dis_def, runT_val, runT_rd, runT_wr, runT_new, runT_mv, ex, put_some, put_none, ev_t, ev_c, argF_zero, argF_succ, set_g, set_n, cells_v, cells_sl, cells_agg, cells_own, cells_ptr, cells_clo, cells_eptr, cells_mp, putc, exBslice, lfill, exField, exIdxV, exIdxP, exBox, exAlloc, exLoad, exStore, exFieldA, exIdxA, exLen, exPick, exUn, exBeq, exMM, exSeq, seqGo, exExt, binV, intOp, subc, AV.solid, S0, encI, encB, c_caesuraref18_Far, encDet]
    refine CallR.pure hr (cl_cons cd cl_nil) (closed_B _) ?_
    simp [AW_seq, AW_reg, AW_regD, AW_block, AW_cond, AW_skip, AW_exit, AW_ret, AW_scp, condR_true, condR_false, AThen_normal, AThen_ret, AThen_exit, ABlock_normal, ABlock_ret, ABlock_exit, AScope_normal, AScope_ret, AScope_exit, RetK_ret, RetK_normal, retAV_one, retAV_two, retAV_three, retAV_nil, RG_nil, RG_op, RG_guard, gdR_tt, gdR_ff, gdR_tf, gdR_ft, gdR_un, RG_call, callQ_clo, contK_ap, opR_some, RD_nil, RD_op0, RD_op1, opD0_some, opD1_some, RD_call, callQD_clo, RD_guard, gdD_tt, gdD_ff, gdD_tf, gdD_ft, gdD_un, psh_nil, psh_cons, Apt_nil, Apt_nilT, Apt_true, Apt_false, Dis_def, runT_val, runT_rd, runT_wr, runT_new, runT_mv, ex, put_some, put_none, ev_t, ev_c, argF_zero, argF_succ, set_g, set_n, cells_v, cells_sl, cells_agg, cells_own, cells_ptr, cells_clo, cells_eptr, cells_mp, putc, exBslice, lfill, exField, exIdxV, exIdxP, exBox, exAlloc, exLoad, exStore, exFieldA, exIdxA, exLen, exPick, exUn, exBeq, exMM, exSeq, seqGo, exExt, binV, intOp, subc, AV.solid, S0, encI, encB, hfar, encIs]
    exact .loose true [] (.sl _ _ (by simp))
def c_rfst_in : AC :=
  (.block 2 (.loop (.seq (.seq (.reg (some []) [
        ⟨(some 24), .mv (.t 4), none, none⟩,
        ⟨(some 25), .fieldA 1 (.t 1), none, none⟩,
        ⟨(some 26), .load none (.t 25), none, none⟩,
        ⟨(some 27), .mv (.t 6), none, none⟩,
        ⟨(some 28), .idxA 1 (.t 26) (.t 27), none, none⟩,
        ⟨(some 29), .load none (.t 28), none, none⟩,
        ⟨(some 30), .mv (.t 7), none, none⟩,
        ⟨(some 31), .idxA 1 (.t 29) (.t 30), none, none⟩,
        ⟨(some 32), .load none (.t 31), none, none⟩,
        ⟨(some 33), .idxA 1 (.t 24) (.t 32), none, none⟩,
        ⟨(some 34), .load none (.t 33), none, none⟩,
        ⟨(some 35), .mv (.t 4), none, none⟩,
        ⟨(some 36), .mv (.t 6), none, none⟩,
        ⟨(some 37), .idxA 1 (.t 35) (.t 36), none, none⟩,
        ⟨(some 38), .load none (.t 37), none, none⟩,
        ⟨(some 39), .bin .sub (.t 38) (.c (.v (.int .i64 1))), none, none⟩,
        ⟨(some 40), .bin .neq (.t 34) (.t 39), none, none⟩])
       (.cond (.t 40) .skip (.exit 2)))
       (.block 3 (.reg none [
         ⟨(some 41), .mv (.t 7), none, none⟩,
         ⟨(some 42), .bin .add (.t 41) (.c (.v (.int .i64 1))), none, none⟩,
         ⟨(some 7), .mv (.t 42), none, none⟩])))))
def c_rfst_out : AC :=
  (.block 0 (.loop (.seq (.seq (.reg none [
     ⟨(some 19), .mv (.t 4), none, none⟩,
     ⟨(some 20), .mv (.t 6), none, none⟩,
     ⟨(some 21), .idxA 1 (.t 19) (.t 20), none, none⟩,
     ⟨(some 22), .load none (.t 21), none, none⟩,
     ⟨(some 23), .bin .gtr (.t 22) (.c (.v (.int .i64 0))), none, none⟩])
    (.cond (.t 23) .skip (.exit 0)))
    (.block 1 (.seq (.reg none [
      ⟨(some 7), .mv (.c (.v (.int .i64 0))), none, none⟩])
     (.seq c_rfst_in
     (.seq (.reg none [
      ⟨(some 43), .mv (.t 5), none, none⟩,
      ⟨(some 44), .mv (.t 7), none, none⟩,
      ⟨(some 45), .bslice 1 1 (.v (.int .i64 0)) [(0, (.t 44))], none, none⟩,
      ⟨(some 46), .app 1 8 (.t 43) (.t 45), none, none⟩,
      ⟨(some 5), .mv (.t 46), none, none⟩])
     (.reg none [
      ⟨(some 47), .fieldA 1 (.t 1), none, none⟩,
      ⟨(some 48), .load none (.t 47), none, none⟩,
      ⟨(some 49), .mv (.t 6), none, none⟩,
      ⟨(some 50), .idxA 1 (.t 48) (.t 49), none, none⟩,
      ⟨(some 51), .load none (.t 50), none, none⟩,
      ⟨(some 52), .mv (.t 7), none, none⟩,
      ⟨(some 53), .idxA 1 (.t 51) (.t 52), none, none⟩,
      ⟨(some 54), .load none (.t 53), none, none⟩,
      ⟨(some 6), .mv (.t 54), none, none⟩]))))))))
def c_caesuraref18_First (f_caesuraref18_Far : FuncId) : AC :=
  (.seq (.reg none [
   ⟨(some 1), .box 3 (.t 0), none, none⟩,
   ⟨(some 2), .mv (.c (.sl true [])), none, none⟩,
   ⟨(some 3), .mv (.c (.v (.bool false))), none, none⟩])
  (.seq (.reg none [
   ⟨(some 8), .load (some 3) (.t 1), none, none⟩,
   ⟨(some 9), .mv (.c .junk), none, (some ((.c (.clo f_caesuraref18_Far [] [])), [(.t 8)]))⟩,
   ⟨(some 4), .mv (.t 9), none, none⟩])
  (.seq (.seq (.reg none [
   ⟨(some 10), .mv (.t 4), none, none⟩,
   ⟨(some 11), .len (.t 10), none, none⟩,
   ⟨(some 12), .bin .eql (.t 11) (.c (.v (.int .i64 0))), none, none⟩,
   ⟨(some 13), .mv (.t 12), none, none⟩,
   ⟨(some 14), .mv (.t 4), (some (13, false)), none⟩,
   ⟨(some 15), .idxA 1 (.t 14) (.c (.v (.int .i64 0))), (some (13, false)), none⟩,
   ⟨(some 16), .load none (.t 15), (some (13, false)), none⟩,
   ⟨(some 17), .bin .lss (.t 16) (.c (.v (.int .i64 0))), (some (13, false)), none⟩,
   ⟨(some 18), .pick (.t 13) (.c (.v (.bool true))) (.t 17), none, none⟩])
  (.cond (.t 18) (.seq (.reg none [
    ⟨(some 2), .mv (.c (.sl true [])), none, none⟩,
    ⟨(some 3), .mv (.c (.v (.bool false))), none, none⟩])
   .ret) .skip))
  (.seq (.reg none [
   ⟨(some 5), .mv (.c (.sl true [])), none, none⟩])
  (.seq (.reg none [
   ⟨(some 6), .mv (.c (.v (.int .i64 0))), none, none⟩])
  (.seq c_rfst_out
  (.seq (.reg none [
   ⟨(some 55), .mv (.t 5), none, none⟩,
   ⟨(some 2), .mv (.t 55), none, none⟩,
   ⟨(some 3), .mv (.c (.v (.bool true))), none, none⟩])
  .ret)))))))
structure FSt (d : Det) (far : List Int) (f : AF) (S : St) (at_ : Nat) (l : List Int) : Prop where
  e1 : f 1 = .ptr 0 0 0
  e4 : f 4 = encIs far
  e6 : f 6 = encI at_
  g0 : S.g 0 = some (.arr 3 [encDet d])
  v : Vec S.g (f 5) 1 (l.map encI)
  ids : 0 ∉ (f 5).ids
  n : 0 < S.n
def rfstJ (d : Det) (far : List Int) (at_ j : Nat) (l : List Int) (k : Nat) (f : AF) (S : St) : Prop :=
  ∃ s : Nat, s ≤ j ∧ k = j - s ∧ f 7 = encI s ∧ FSt d far f S at_ l
theorem rfst_in {P : Program} {d : Det} (R : RightD d) {far : List Int} (fo : FarOk ⟨d.next, d.fin⟩ far) {at_ : Nat} (hat : at_ < d.next.length) {l : List Int} {j : Nat} (hj : j < (d.next[at_]).length)
    (hj1 : nearP far at_ (d.next[at_])[j] = true) (hj2 : ∀ i (hi : i < j), nearP far at_ ((d.next[at_])[i]'(by omega)) = false) {f : AF} {S : St} {Q : Exit → AF → St → Prop}
    (h0 : rfstJ d far at_ j l j f S) (hq : ∀ f' S', f' 7 = encI j → FSt d far f' S' at_ l → Q .normal f' S') : AW P c_rfst_in Q f S := by
  simp [AW_seq, AW_reg, AW_regD, AW_block, AW_cond, AW_skip, AW_exit, AW_ret, AW_scp, condR_true, condR_false, AThen_normal, AThen_ret, AThen_exit, ABlock_normal, ABlock_ret, ABlock_exit, AScope_normal, AScope_ret, AScope_exit, RetK_ret, RetK_normal, retAV_one, retAV_two, retAV_three, retAV_nil, RG_nil, RG_op, RG_guard, gdR_tt, gdR_ff, gdR_tf, gdR_ft, gdR_un, RG_call, callQ_clo, contK_ap, opR_some, RD_nil, RD_op0, RD_op1, opD0_some, opD1_some, RD_call, callQD_clo, RD_guard, gdD_tt, gdD_ff, gdD_tf, gdD_ft, gdD_un, psh_nil, psh_cons, Apt_nil, Apt_nilT, Apt_true, Apt_false, Dis_def, runT_val, runT_rd, runT_wr, runT_new, runT_mv, ex, put_some, put_none, ev_t, ev_c, argF_zero, argF_succ, set_g, set_n, cells_v, cells_sl, cells_agg, cells_own, cells_ptr, cells_clo, cells_eptr, cells_mp, putc, exBslice, lfill, exField, exIdxV, exIdxP, exBox, exAlloc, exLoad, exStore, exFieldA, exIdxA, exLen, exPick, exUn, exBeq, exMM, exSeq, seqGo, exExt, binV, intOp, subc, AV.solid, S0, encI, encB, c_rfst_in]
  refine AW_loop (rfstJ d far at_ j l) j h0 ?_
  rintro m f S ⟨s, hs, rfl, e7, ⟨e1, e4, e6, g0, v, ids, hn⟩⟩
  have hlen : far.length = d.next.length := fo.len
  have hn2 := R.n2
  have hatf : at_ < far.length := by omega
  have hatI : (at_ : Int) < far.length := by omega
  have hga : far[at_]? = some far[at_] := List.getElem?_eq_getElem hatf
  have hrda := rd_get hatf
  have hgn : d.next[at_]? = some d.next[at_] := List.getElem?_eq_getElem hat
  have hsr : s < (d.next[at_]).length := by omega
  have hrl : ((d.next[at_]).length : Int) = d.signs := R.row at_ hat
  have hs2 := R.s2
  obtain ⟨ht0, ht1⟩ := R.at_ at_ hat s hsr
  obtain ⟨t, htt⟩ : ∃ t : Nat, (d.next[at_])[s] = (t : Int) := ⟨(d.next[at_])[s].toNat, by omega⟩
  have htf : t < far.length := by omega
  have htI : (t : Int) < far.length := by omega
  have hgt : far[t]? = some far[t] := List.getElem?_eq_getElem htf
  have hft : far[t] = rd far t := rd_get htf
  have hv := fo.val at_ hat
  have hlt := fo.lt at_ hat
  have hgn2 : (⟨d.next, d.fin⟩ : Gr).n = d.next.length := rfl
  have hw : IntKind.i64.wrap (rd far at_ - 1) = rd far at_ - 1 := wrap_in _ (by omega)
  have hnear : nearP far at_ (d.next[at_])[s] = (rd far t == rd far at_ - 1) := by unfold nearP; rw [htt]; rfl
  by_cases hlt : s < j
  · have hc : (rd far t != rd far at_ - 1) = true := by
      have := hj2 s hlt
      rw [hnear] at this
      simp only [bne, this, Bool.not_false]
    simp [AW_seq, AW_reg, AW_regD, AW_block, AW_cond, AW_skip, AW_exit, AW_ret, AW_scp, condR_true, condR_false, AThen_normal, AThen_ret, AThen_exit, ABlock_normal, ABlock_ret, ABlock_exit, AScope_normal, AScope_ret, AScope_exit, RetK_ret, RetK_normal, retAV_one, retAV_two, retAV_three, retAV_nil, RG_nil, RG_op, RG_guard, gdR_tt, gdR_ff, gdR_tf, gdR_ft, gdR_un, RG_call, callQ_clo, contK_ap, opR_some, RD_nil, RD_op0, RD_op1, opD0_some, opD1_some, RD_call, callQD_clo, RD_guard, gdD_tt, gdD_ff, gdD_tf, gdD_ft, gdD_un, psh_nil, psh_cons, Apt_nil, Apt_nilT, Apt_true, Apt_false, Dis_def, runT_val, runT_rd, runT_wr, runT_new, runT_mv, ex, put_some, put_none, ev_t, ev_c, argF_zero, argF_succ, set_g, set_n, cells_v, cells_sl, cells_agg, cells_own, cells_ptr, cells_clo, cells_eptr, cells_mp, putc, exBslice, lfill, exField, exIdxV, exIdxP, exBox, exAlloc, exLoad, exStore, exFieldA, exIdxA, exLen, exPick, exUn, exBeq, exMM, exSeq, seqGo, exExt, binV, intOp, subc, AV.solid, S0, encI, encB, e1, e4, e6, e7, g0, encIs, encIss, encDet, hatI, hga, hgn, hsr, htt, htf, htI, hgt, hft, hrda, hw, hc]
    rw [wrap_in _ (by omega)]
    refine ⟨j - (s + 1), by omega, s + 1, by omega, rfl, ?_, ⟨?_, ?_, ?_, ?_, ?_, ?_, ?_⟩⟩
    · simp [put_some, encI]
    · simp [put_some, e1]
    · simp [put_some, e4]
    · simp [put_some, e6]
    · simp [g0]
    · simpa [put_some] using v
    · simpa [put_some] using ids
    · simp
  · have : s = j := by omega
    subst this
    have hc : (rd far t != rd far at_ - 1) = false := by
      rw [hnear] at hj1
      simp only [bne, hj1, Bool.not_true]
    simp [AW_seq, AW_reg, AW_regD, AW_block, AW_cond, AW_skip, AW_exit, AW_ret, AW_scp, condR_true, condR_false, AThen_normal, AThen_ret, AThen_exit, ABlock_normal, ABlock_ret, ABlock_exit, AScope_normal, AScope_ret, AScope_exit, RetK_ret, RetK_normal, retAV_one, retAV_two, retAV_three, retAV_nil, RG_nil, RG_op, RG_guard, gdR_tt, gdR_ff, gdR_tf, gdR_ft, gdR_un, RG_call, callQ_clo, contK_ap, opR_some, RD_nil, RD_op0, RD_op1, opD0_some, opD1_some, RD_call, callQD_clo, RD_guard, gdD_tt, gdD_ff, gdD_tf, gdD_ft, gdD_un, psh_nil, psh_cons, Apt_nil, Apt_nilT, Apt_true, Apt_false, Dis_def, runT_val, runT_rd, runT_wr, runT_new, runT_mv, ex, put_some, put_none, ev_t, ev_c, argF_zero, argF_succ, set_g, set_n, cells_v, cells_sl, cells_agg, cells_own, cells_ptr, cells_clo, cells_eptr, cells_mp, putc, exBslice, lfill, exField, exIdxV, exIdxP, exBox, exAlloc, exLoad, exStore, exFieldA, exIdxA, exLen, exPick, exUn, exBeq, exMM, exSeq, seqGo, exExt, binV, intOp, subc, AV.solid, S0, encI, encB, e1, e4, e6, e7, g0, encIs, encIss, encDet, hatI, hga, hgn, hsr, htt, htf, htI, hgt, hft, hrda, hw, hc]
    refine hq _ _ ?_ ⟨?_, ?_, ?_, ?_, ?_, ?_, ?_⟩
    · simp [put_some, e7]
    · simp [put_some, e1]
    · simp [put_some, e4]
    · simp [put_some, e6]
    · simp [g0]
    · simpa [put_some] using v
    · simpa [put_some] using ids
    · simp
def rfstI (d : Det) (far : List Int) (m : Nat) (f : AF) (S : St) : Prop :=
  ∃ at_ l, FSt d far f S at_ l ∧ at_ < d.next.length ∧ rd far at_ = (m : Int) ∧ l ++ firstFrom d.next far m at_ = firstL d far ∧ l.length + m ≤ 3000
theorem rfst_out {P : Program} {d : Det} (R : RightD d) {far : List Int} (fo : FarOk ⟨d.next, d.fin⟩ far) {m0 : Nat} {f : AF} {S : St} {Q : Exit → AF → St → Prop}
    (h0 : rfstI d far m0 f S) (hq : ∀ f' S', Vec S'.g (f' 5) 1 ((firstL d far).map encI) → Q .normal f' S') : AW P c_rfst_out Q f S := by
  simp [AW_seq, AW_reg, AW_regD, AW_block, AW_cond, AW_skip, AW_exit, AW_ret, AW_scp, condR_true, condR_false, AThen_normal, AThen_ret, AThen_exit, ABlock_normal, ABlock_ret, ABlock_exit, AScope_normal, AScope_ret, AScope_exit, RetK_ret, RetK_normal, retAV_one, retAV_two, retAV_three, retAV_nil, RG_nil, RG_op, RG_guard, gdR_tt, gdR_ff, gdR_tf, gdR_ft, gdR_un, RG_call, callQ_clo, contK_ap, opR_some, RD_nil, RD_op0, RD_op1, opD0_some, opD1_some, RD_call, callQD_clo, RD_guard, gdD_tt, gdD_ff, gdD_tf, gdD_ft, gdD_un, psh_nil, psh_cons, Apt_nil, Apt_nilT, Apt_true, Apt_false, Dis_def, runT_val, runT_rd, runT_wr, runT_new, runT_mv, ex, put_some, put_none, ev_t, ev_c, argF_zero, argF_succ, set_g, set_n, cells_v, cells_sl, cells_agg, cells_own, cells_ptr, cells_clo, cells_eptr, cells_mp, putc, exBslice, lfill, exField, exIdxV, exIdxP, exBox, exAlloc, exLoad, exStore, exFieldA, exIdxA, exLen, exPick, exUn, exBeq, exMM, exSeq, seqGo, exExt, binV, intOp, subc, AV.solid, S0, encI, encB, c_rfst_out]
  refine AW_loop (rfstI d far) m0 h0 ?_
  rintro m f S ⟨at_, l, ⟨e1, e4, e6, g0, v, ids, hn⟩, hat, hm, hl, hb⟩
  have hlen : far.length = d.next.length := fo.len
  have hn2 := R.n2
  have hatf : at_ < far.length := by omega
  have hatI : (at_ : Int) < far.length := by omega
  have hga : far[at_]? = some far[at_] := List.getElem?_eq_getElem hatf
  have hrda := rd_get hatf
  cases m with
  | zero =>
    have hz : ¬ (0 < rd far at_) := by rw [hm]; simp
    simp [AW_seq, AW_reg, AW_regD, AW_block, AW_cond, AW_skip, AW_exit, AW_ret, AW_scp, condR_true, condR_false, AThen_normal, AThen_ret, AThen_exit, ABlock_normal, ABlock_ret, ABlock_exit, AScope_normal, AScope_ret, AScope_exit, RetK_ret, RetK_normal, retAV_one, retAV_two, retAV_three, retAV_nil, RG_nil, RG_op, RG_guard, gdR_tt, gdR_ff, gdR_tf, gdR_ft, gdR_un, RG_call, callQ_clo, contK_ap, opR_some, RD_nil, RD_op0, RD_op1, opD0_some, opD1_some, RD_call, callQD_clo, RD_guard, gdD_tt, gdD_ff, gdD_tf, gdD_ft, gdD_un, psh_nil, psh_cons, Apt_nil, Apt_nilT, Apt_true, Apt_false, Dis_def, runT_val, runT_rd, runT_wr, runT_new, runT_mv, ex, put_some, put_none, ev_t, ev_c, argF_zero, argF_succ, set_g, set_n, cells_v, cells_sl, cells_agg, cells_own, cells_ptr, cells_clo, cells_eptr, cells_mp, putc, exBslice, lfill, exField, exIdxV, exIdxP, exBox, exAlloc, exLoad, exStore, exFieldA, exIdxA, exLen, exPick, exUn, exBeq, exMM, exSeq, seqGo, exExt, binV, intOp, subc, AV.solid, S0, encI, encB, e1, e4, e6, g0, encIs, hatI, hga, hrda, hz]
    rw [firstFrom, List.append_nil] at hl
    subst hl
    refine hq _ _ ?_
    simpa [put_some] using v
  | succ m =>
    have hz : 0 < rd far at_ := by rw [hm]; omega
    have hgn : d.next[at_]? = some d.next[at_] := List.getElem?_eq_getElem hat
    obtain ⟨t, ht1, ht2, ht3⟩ := fo.pre at_ hat (by rw [hm]; omega)
    obtain ⟨row', hr1, hr2⟩ := ht2
    have hrr : row' = d.next[at_] := by
      have : d.next[at_]? = some row' := hr1
      rw [hgn] at this; exact (Option.some.inj this).symm
    subst hrr
    obtain ⟨j, hj, hj1, hj2, hj3⟩ := idxF_spec (p := nearP far at_) ⟨(t : Int), hr2, by unfold nearP; simp [ht3]⟩
    have hbt := R.at_ at_ hat j hj
    have hrowl : (d.next[at_]).length ≤ 400 := by have := R.row at_ hat; have := R.s2; omega
    simp [AW_seq, AW_reg, AW_regD, AW_block, AW_cond, AW_skip, AW_exit, AW_ret, AW_scp, condR_true, condR_false, AThen_normal, AThen_ret, AThen_exit, ABlock_normal, ABlock_ret, ABlock_exit, AScope_normal, AScope_ret, AScope_exit, RetK_ret, RetK_normal, retAV_one, retAV_two, retAV_three, retAV_nil, RG_nil, RG_op, RG_guard, gdR_tt, gdR_ff, gdR_tf, gdR_ft, gdR_un, RG_call, callQ_clo, contK_ap, opR_some, RD_nil, RD_op0, RD_op1, opD0_some, opD1_some, RD_call, callQD_clo, RD_guard, gdD_tt, gdD_ff, gdD_tf, gdD_ft, gdD_un, psh_nil, psh_cons, Apt_nil, Apt_nilT, Apt_true, Apt_false, Dis_def, runT_val, runT_rd, runT_wr, runT_new, runT_mv, ex, put_some, put_none, ev_t, ev_c, argF_zero, argF_succ, set_g, set_n, cells_v, cells_sl, cells_agg, cells_own, cells_ptr, cells_clo, cells_eptr, cells_mp, putc, exBslice, lfill, exField, exIdxV, exIdxP, exBox, exAlloc, exLoad, exStore, exFieldA, exIdxA, exLen, exPick, exUn, exBeq, exMM, exSeq, seqGo, exExt, binV, intOp, subc, AV.solid, S0, encI, encB, e1, e4, e6, g0, encIs, hatI, hga, hrda, hz]
    refine rfst_in R fo hat (l := l) hj hj2 hj3 ?_ ?_
    · refine ⟨0, by omega, rfl, ?_, ⟨?_, ?_, ?_, ?_, ?_, ?_, ?_⟩⟩
      · simp [put_some, encI]
      · simp [put_some, e1]
      · simp [put_some, e4]
      · simp [put_some, e6]
      · simp [g0]
      · simpa [put_some] using v
      · simpa [put_some] using ids
      · simp
    · clear e1 e4 e6 g0 v ids hn
      rintro f S e7 ⟨e1, e4, e6, g0, v, ids, hn⟩
      have hw0 : ∀ m, (St.without ⟨m, S.g⟩ (f 5)).g 0 = some (.arr 3 [encDet d]) := fun m => by rw [without_g 0 ids]; exact g0
      have hgj : (d.next[at_])[j]? = some (d.next[at_])[j] := List.getElem?_eq_getElem hj
      simp [AW_seq, AW_reg, AW_regD, AW_block, AW_cond, AW_skip, AW_exit, AW_ret, AW_scp, condR_true, condR_false, AThen_normal, AThen_ret, AThen_exit, ABlock_normal, ABlock_ret, ABlock_exit, AScope_normal, AScope_ret, AScope_exit, RetK_ret, RetK_normal, retAV_one, retAV_two, retAV_three, retAV_nil, RG_nil, RG_op, RG_guard, gdR_tt, gdR_ff, gdR_tf, gdR_ft, gdR_un, RG_call, callQ_clo, contK_ap, opR_some, RD_nil, RD_op0, RD_op1, opD0_some, opD1_some, RD_call, callQD_clo, RD_guard, gdD_tt, gdD_ff, gdD_tf, gdD_ft, gdD_un, psh_nil, psh_cons, Apt_nil, Apt_nilT, Apt_true, Apt_false, Dis_def, runT_val, runT_rd, runT_wr, runT_new, runT_mv, ex, put_some, put_none, ev_t, ev_c, argF_zero, argF_succ, set_g, set_n, cells_v, cells_sl, cells_agg, cells_own, cells_ptr, cells_clo, cells_eptr, cells_mp, putc, exBslice, lfill, exField, exIdxV, exIdxP, exBox, exAlloc, exLoad, exStore, exFieldA, exIdxA, exLen, exPick, exUn, exBeq, exMM, exSeq, seqGo, exExt, binV, intOp, subc, AV.solid, S0, encI, encB, e7]
      rw [Vec.app (xs := l.map encI) (v.frame (fun i hi => rfl)) (cells_I _) (by simp [AV.cells]) (appOk8 (by rw [List.length_map]; omega))]
      simp only [encDet] at hw0
      simp [AW_seq, AW_reg, AW_regD, AW_block, AW_cond, AW_skip, AW_exit, AW_ret, AW_scp, condR_true, condR_false, AThen_normal, AThen_ret, AThen_exit, ABlock_normal, ABlock_ret, ABlock_exit, AScope_normal, AScope_ret, AScope_exit, RetK_ret, RetK_normal, retAV_one, retAV_two, retAV_three, retAV_nil, RG_nil, RG_op, RG_guard, gdR_tt, gdR_ff, gdR_tf, gdR_ft, gdR_un, RG_call, callQ_clo, contK_ap, opR_some, RD_nil, RD_op0, RD_op1, opD0_some, opD1_some, RD_call, callQD_clo, RD_guard, gdD_tt, gdD_ff, gdD_tf, gdD_ft, gdD_un, psh_nil, psh_cons, Apt_nil, Apt_nilT, Apt_true, Apt_false, Dis_def, runT_val, runT_rd, runT_wr, runT_new, runT_mv, ex, put_some, put_none, ev_t, ev_c, argF_zero, argF_succ, set_g, set_n, cells_v, cells_sl, cells_agg, cells_own, cells_ptr, cells_clo, cells_eptr, cells_mp, putc, exBslice, lfill, exField, exIdxV, exIdxP, exBox, exAlloc, exLoad, exStore, exFieldA, exIdxA, exLen, exPick, exUn, exBeq, exMM, exSeq, seqGo, exExt, binV, intOp, subc, AV.solid, S0, encI, encB, e1, e4, e6, e7, hw0, encIs, encIss, hgn, hgj, hj, without_n]
      have hnr : rd far (d.next[at_][j]).toNat = (m : Int) := by
        have := hj2
        unfold nearP at this
        rw [beq_iff_eq, hm] at this
        omega
      refine ⟨m, by omega, (d.next[at_][j]).toNat, l ++ [(j : Int)], ⟨?_, ?_, ?_, ?_, ?_, ?_, ?_⟩, by omega, hnr, ?_, ?_⟩
      · simp [put_some, e1]
      · simp [put_some, e4, encIs]
      · simp [put_some, encI]; omega
      · have hne : ¬ (0 = S.n + 3) := by omega
        simp [set_g, hw0, encDet]
      · simp only [put_some]
        simp only [Nat.reduceEqDiff, if_false, if_true]
        refine .mk' ?_ (by simp)
        simp [set_g, encI]
      · simp [put_some, AV.ids]
      · simp
      · rw [← hl, List.append_assoc, firstFrom]
        have e1 : d.next.getD at_ [] = d.next[at_] := by simp [List.getD_eq_getElem?_getD, hgn]
        rw [e1, hj1]
        have e2 : (d.next[at_]).getD ((j : Nat) : Int).toNat 0 = (d.next[at_])[j] := by simp [List.getD_eq_getElem?_getD, hgj]
        rw [e2]; rfl
      · simp; omega
theorem caesuraref18_First_body {P : Program} {ff : FuncId} (d : Det) (hf : PureC P ff [encDet d] (encIs (farD d))) :
    AW P (c_caesuraref18_First ff) (RetK [2, 3] (FzK (.tup [encIs (firstS d), encB (firstOk d)]))) (argF [encDet d]) S0 := by
  have no : firstOk d = false → ∀ S, FzK (.tup [encIs (firstS d), encB (firstOk d)]) (.tup [.sl true [], .v (.bool false)]) S := by
    intro hok S
    have hS : firstS d = [] := by unfold firstS; rw [hok]; rfl
    rw [hS, hok]
    exact .tup _ _ rfl (by
        intro j h1 h2
        match j, h1 with
        | 0, _ => exact .loose true [] (.sl _ _ (by simp))
        | 1, _ => exact .closed _ (.v _))
  simp [AW_seq, AW_reg, AW_regD, AW_block, AW_cond, AW_skip, AW_exit, AW_ret, AW_scp, condR_true, condR_false, AThen_normal, AThen_ret, AThen_exit, ABlock_normal, ABlock_ret, ABlock_exit, AScope_normal, AScope_ret, AScope_exit, RetK_ret, RetK_normal, retAV_one, retAV_two, retAV_three, retAV_nil, RG_nil, RG_op, RG_guard, gdR_tt, gdR_ff, gdR_tf, gdR_ft, gdR_un, RG_call, callQ_clo, contK_ap, opR_some, RD_nil, RD_op0, RD_op1, opD0_some, opD1_some, RD_call, callQD_clo, RD_guard, gdD_tt, gdD_ff, gdD_tf, gdD_ft, gdD_un, psh_nil, psh_cons, Apt_nil, Apt_nilT, Apt_true, Apt_false, Dis_def, runT_val, runT_rd, runT_wr, runT_new, runT_mv, ex, put_some, put_none, ev_t, ev_c, argF_zero, argF_succ, set_g, set_n, cells_v, cells_sl, cells_agg, cells_own, cells_ptr, cells_clo, cells_eptr, cells_mp, putc, exBslice, lfill, exField, exIdxV, exIdxP, exBox, exAlloc, exLoad, exStore, exFieldA, exIdxA, exLen, exPick, exUn, exBeq, exMM, exSeq, seqGo, exExt, binV, intOp, subc, AV.solid, S0, encI, encB, c_caesuraref18_First, encDet]
  refine CallR.pure hf (cl_cons (closed_Det d) cl_nil) (closed_Is _) ?_
  by_cases hr : rightD d = true
  · have R := (right_iff d).mp hr
    have hfd : farD d = farS ⟨d.next, d.fin⟩ := by unfold farD; rw [if_pos hr]
    have fo := farS_ok ⟨d.next, d.fin⟩
    rw [← hfd] at fo
    have hn1 := R.n1
    have hlen : (farD d).length = d.next.length := fo.len
    have h0 : 0 < (farD d).length := by omega
    have h0e : (((farD d).length : Int) == 0) = false := beq_false_of_ne (by omega)
    have hrd0 : (farD d)[0] = rd (farD d) 0 := rd_get h0
    have hg0 : (farD d)[0]? = some (farD d)[0] := List.getElem?_eq_getElem h0
    by_cases hno : rd (farD d) 0 < 0
    · have hok : firstOk d = false := by unfold firstOk; simp; omega
      simp [AW_seq, AW_reg, AW_regD, AW_block, AW_cond, AW_skip, AW_exit, AW_ret, AW_scp, condR_true, condR_false, AThen_normal, AThen_ret, AThen_exit, ABlock_normal, ABlock_ret, ABlock_exit, AScope_normal, AScope_ret, AScope_exit, RetK_ret, RetK_normal, retAV_one, retAV_two, retAV_three, retAV_nil, RG_nil, RG_op, RG_guard, gdR_tt, gdR_ff, gdR_tf, gdR_ft, gdR_un, RG_call, callQ_clo, contK_ap, opR_some, RD_nil, RD_op0, RD_op1, opD0_some, opD1_some, RD_call, callQD_clo, RD_guard, gdD_tt, gdD_ff, gdD_tf, gdD_ft, gdD_un, psh_nil, psh_cons, Apt_nil, Apt_nilT, Apt_true, Apt_false, Dis_def, runT_val, runT_rd, runT_wr, runT_new, runT_mv, ex, put_some, put_none, ev_t, ev_c, argF_zero, argF_succ, set_g, set_n, cells_v, cells_sl, cells_agg, cells_own, cells_ptr, cells_clo, cells_eptr, cells_mp, putc, exBslice, lfill, exField, exIdxV, exIdxP, exBox, exAlloc, exLoad, exStore, exFieldA, exIdxA, exLen, exPick, exUn, exBeq, exMM, exSeq, seqGo, exExt, binV, intOp, subc, AV.solid, S0, encI, encB, encIs, h0, h0e, hg0, hrd0, hno]
      exact no hok _
    · have hok : firstOk d = true := by unfold firstOk; simp; omega
      have hS : firstS d = firstL d (farD d) := by unfold firstS; rw [hok, if_pos rfl]
      simp [AW_seq, AW_reg, AW_regD, AW_block, AW_cond, AW_skip, AW_exit, AW_ret, AW_scp, condR_true, condR_false, AThen_normal, AThen_ret, AThen_exit, ABlock_normal, ABlock_ret, ABlock_exit, AScope_normal, AScope_ret, AScope_exit, RetK_ret, RetK_normal, retAV_one, retAV_two, retAV_three, retAV_nil, RG_nil, RG_op, RG_guard, gdR_tt, gdR_ff, gdR_tf, gdR_ft, gdR_un, RG_call, callQ_clo, contK_ap, opR_some, RD_nil, RD_op0, RD_op1, opD0_some, opD1_some, RD_call, callQD_clo, RD_guard, gdD_tt, gdD_ff, gdD_tf, gdD_ft, gdD_un, psh_nil, psh_cons, Apt_nil, Apt_nilT, Apt_true, Apt_false, Dis_def, runT_val, runT_rd, runT_wr, runT_new, runT_mv, ex, put_some, put_none, ev_t, ev_c, argF_zero, argF_succ, set_g, set_n, cells_v, cells_sl, cells_agg, cells_own, cells_ptr, cells_clo, cells_eptr, cells_mp, putc, exBslice, lfill, exField, exIdxV, exIdxP, exBox, exAlloc, exLoad, exStore, exFieldA, exIdxA, exLen, exPick, exUn, exBeq, exMM, exSeq, seqGo, exExt, binV, intOp, subc, AV.solid, S0, encI, encB, encIs, h0, h0e, hg0, hrd0, hno]
      refine rfst_out R fo (m0 := (rd (farD d) 0).toNat) ?_ ?_
      · refine ⟨0, [], ⟨?_, ?_, ?_, ?_, ?_, ?_, ?_⟩, by omega, by omega, rfl, ?_⟩
        · simp [put_some]
        · simp [put_some, encIs]
        · simp [put_some, encI]
        · simp [set_g, encDet, encI]
        · simp [put_some]; exact .nil
        · simp [put_some, AV.ids]
        · simp
        · have := fo.lt 0 (by show 0 < d.next.length; omega)
          have e : (Gr.mk d.next d.fin).n = d.next.length := rfl
          have := R.n2
          simp; omega
      · intro f S v
        simp [AW_seq, AW_reg, AW_regD, AW_block, AW_cond, AW_skip, AW_exit, AW_ret, AW_scp, condR_true, condR_false, AThen_normal, AThen_ret, AThen_exit, ABlock_normal, ABlock_ret, ABlock_exit, AScope_normal, AScope_ret, AScope_exit, RetK_ret, RetK_normal, retAV_one, retAV_two, retAV_three, retAV_nil, RG_nil, RG_op, RG_guard, gdR_tt, gdR_ff, gdR_tf, gdR_ft, gdR_un, RG_call, callQ_clo, contK_ap, opR_some, RD_nil, RD_op0, RD_op1, opD0_some, opD1_some, RD_call, callQD_clo, RD_guard, gdD_tt, gdD_ff, gdD_tf, gdD_ft, gdD_un, psh_nil, psh_cons, Apt_nil, Apt_nilT, Apt_true, Apt_false, Dis_def, runT_val, runT_rd, runT_wr, runT_new, runT_mv, ex, put_some, put_none, ev_t, ev_c, argF_zero, argF_succ, set_g, set_n, cells_v, cells_sl, cells_agg, cells_own, cells_ptr, cells_clo, cells_eptr, cells_mp, putc, exBslice, lfill, exField, exIdxV, exIdxP, exBox, exAlloc, exLoad, exStore, exFieldA, exIdxA, exLen, exPick, exUn, exBeq, exMM, exSeq, seqGo, exExt, binV, intOp, subc, AV.solid, S0, encI, encB]
        rw [hS, hok]
        exact .tup _ _ rfl (by
            intro j h1 h2
            match j, h1 with
            | 0, _ => exact v.fz closed_I
            | 1, _ => exact .closed _ (.v _))
  · have hfd : farD d = [] := by unfold farD; rw [if_neg hr]
    have hok : firstOk d = false := by unfold firstOk; rw [hfd]; rfl
    rw [hfd]
    simp [AW_seq, AW_reg, AW_regD, AW_block, AW_cond, AW_skip, AW_exit, AW_ret, AW_scp, condR_true, condR_false, AThen_normal, AThen_ret, AThen_exit, ABlock_normal, ABlock_ret, ABlock_exit, AScope_normal, AScope_ret, AScope_exit, RetK_ret, RetK_normal, retAV_one, retAV_two, retAV_three, retAV_nil, RG_nil, RG_op, RG_guard, gdR_tt, gdR_ff, gdR_tf, gdR_ft, gdR_un, RG_call, callQ_clo, contK_ap, opR_some, RD_nil, RD_op0, RD_op1, opD0_some, opD1_some, RD_call, callQD_clo, RD_guard, gdD_tt, gdD_ff, gdD_tf, gdD_ft, gdD_un, psh_nil, psh_cons, Apt_nil, Apt_nilT, Apt_true, Apt_false, Dis_def, runT_val, runT_rd, runT_wr, runT_new, runT_mv, ex, put_some, put_none, ev_t, ev_c, argF_zero, argF_succ, set_g, set_n, cells_v, cells_sl, cells_agg, cells_own, cells_ptr, cells_clo, cells_eptr, cells_mp, putc, exBslice, lfill, exField, exIdxV, exIdxP, exBox, exAlloc, exLoad, exStore, exFieldA, exIdxA, exLen, exPick, exUn, exBeq, exMM, exSeq, seqGo, exExt, binV, intOp, subc, AV.solid, S0, encI, encB, encIs]
    exact no hok _
end Go.Rf
set_option linter.unusedVariables false
set_option linter.unusedSimpArgs false
namespace Go.Rf
def c_hv1 : AC :=
  (.seq (.reg none [
      ⟨(some 41), .mv (.t 1), none, none⟩,
      ⟨(some 42), .mv (.t 8), none, none⟩,
      ⟨(some 43), .idxA 3 (.t 41) (.t 42), none, none⟩,
      ⟨(some 44), .idxP 3 1 (.t 43) (.c (.v (.int .i64 0))), none, none⟩,
      ⟨(some 45), .load none (.t 44), none, none⟩,
      ⟨(some 46), .mv (.t 45), none, none⟩,
      ⟨(some 47), .mv (.t 1), (some (46, false)), none⟩,
      ⟨(some 48), .mv (.t 8), (some (46, false)), none⟩,
      ⟨(some 49), .idxA 3 (.t 47) (.t 48), (some (46, false)), none⟩,
      ⟨(some 50), .idxP 3 1 (.t 49) (.c (.v (.int .i64 1))), (some (46, false)), none⟩,
      ⟨(some 51), .load none (.t 50), (some (46, false)), none⟩,
      ⟨(some 52), .pick (.t 46) (.c (.v (.bool true))) (.t 51), none, none⟩])
     (.cond (.t 52) (.reg none [
       ⟨(some 53), .mv (.t 7), none, none⟩,
       ⟨(some 54), .mv (.t 9), none, none⟩,
       ⟨(some 55), .idxA 3 (.t 53) (.t 54), none, none⟩,
       ⟨(some 56), .idxP 3 1 (.t 55) (.c (.v (.int .i64 1))), none, none⟩,
       ⟨none, .store 1 (.t 56) (.c (.v (.bool true))), none, none⟩]) .skip))
def c_hv2 : AC :=
  (.seq (.reg none [
      ⟨(some 57), .mv (.t 1), none, none⟩,
      ⟨(some 58), .mv (.t 8), none, none⟩,
      ⟨(some 59), .idxA 3 (.t 57) (.t 58), none, none⟩,
      ⟨(some 60), .idxP 3 1 (.t 59) (.c (.v (.int .i64 1))), none, none⟩,
      ⟨(some 61), .load none (.t 60), none, none⟩])
     (.cond (.t 61) (.reg none [
       ⟨(some 62), .mv (.t 7), none, none⟩,
       ⟨(some 63), .mv (.t 10), none, none⟩,
       ⟨(some 64), .idxA 3 (.t 62) (.t 63), none, none⟩,
       ⟨(some 65), .idxP 3 1 (.t 64) (.c (.v (.int .i64 2))), none, none⟩,
       ⟨none, .store 1 (.t 65) (.c (.v (.bool true))), none, none⟩]) .skip))
def c_hv3 : AC :=
  (.seq (.reg none [
      ⟨(some 66), .mv (.t 1), none, none⟩,
      ⟨(some 67), .mv (.t 8), none, none⟩,
      ⟨(some 68), .idxA 3 (.t 66) (.t 67), none, none⟩,
      ⟨(some 69), .idxP 3 1 (.t 68) (.c (.v (.int .i64 2))), none, none⟩,
      ⟨(some 70), .load none (.t 69), none, none⟩])
     (.cond (.t 70) (.reg none [
       ⟨(some 71), .mv (.t 7), none, none⟩,
       ⟨(some 72), .mv (.t 9), none, none⟩,
       ⟨(some 73), .idxA 3 (.t 71) (.t 72), none, none⟩,
       ⟨(some 74), .idxP 3 1 (.t 73) (.c (.v (.int .i64 2))), none, none⟩,
       ⟨none, .store 1 (.t 74) (.c (.v (.bool true))), none, none⟩]) .skip))
def c_hv_loop : AC :=
  (.block 0 (.loop (.seq (.seq (.reg none [
     ⟨(some 15), .mv (.t 8), none, none⟩,
     ⟨(some 16), .fieldA 1 (.t 3), none, none⟩,
     ⟨(some 17), .load none (.t 16), none, none⟩,
     ⟨(some 18), .len (.t 17), none, none⟩,
     ⟨(some 19), .bin .lss (.t 15) (.t 18), none, none⟩])
    (.cond (.t 19) .skip (.exit 0)))
    (.seq (.block 1 (.seq (.reg (some []) [
      ⟨(some 22), .fieldA 1 (.t 3), none, none⟩,
      ⟨(some 23), .load none (.t 22), none, none⟩,
      ⟨(some 24), .mv (.t 8), none, none⟩,
      ⟨(some 25), .idxA 1 (.t 23) (.t 24), none, none⟩,
      ⟨(some 26), .load none (.t 25), none, none⟩,
      ⟨(some 27), .mv (.t 2), none, none⟩,
      ⟨(some 28), .bin .mul (.c (.v (.int .i64 2))) (.t 27), none, none⟩,
      ⟨(some 29), .idxA 1 (.t 26) (.t 28), none, none⟩,
      ⟨(some 30), .load none (.t 29), none, none⟩,
      ⟨(some 31), .fieldA 1 (.t 3), none, none⟩,
      ⟨(some 32), .load none (.t 31), none, none⟩,
      ⟨(some 33), .mv (.t 8), none, none⟩,
      ⟨(some 34), .idxA 1 (.t 32) (.t 33), none, none⟩,
      ⟨(some 35), .load none (.t 34), none, none⟩,
      ⟨(some 36), .mv (.t 2), none, none⟩,
      ⟨(some 37), .bin .mul (.c (.v (.int .i64 2))) (.t 36), none, none⟩,
      ⟨(some 38), .bin .add (.t 37) (.c (.v (.int .i64 1))), none, none⟩,
      ⟨(some 39), .idxA 1 (.t 35) (.t 38), none, none⟩,
      ⟨(some 40), .load none (.t 39), none, none⟩,
      ⟨(some 9), .mv (.t 30), none, none⟩,
      ⟨(some 10), .mv (.t 40), none, none⟩])
     (.seq c_hv1
     (.seq c_hv2
     c_hv3))))
    (.reg none [
     ⟨(some 20), .mv (.t 8), none, none⟩,
     ⟨(some 21), .bin .add (.t 20) (.c (.v (.int .i64 1))), none, none⟩,
     ⟨(some 8), .mv (.t 21), none, none⟩])))))
def c_caesuraref18_halves : AC :=
  (.seq (.reg none [
   ⟨(some 3), .box 3 (.t 0), none, none⟩,
   ⟨(some 6), .mv (.c (.sl true [])), none, none⟩])
  (.seq (.reg none [
   ⟨(some 11), .fieldA 1 (.t 3), none, none⟩,
   ⟨(some 12), .load none (.t 11), none, none⟩,
   ⟨(some 13), .len (.t 12), none, none⟩,
   ⟨(some 14), .mks 3 3 (.agg [(.v (.bool false)), (.v (.bool false)), (.v (.bool false))]) (.t 13) (.t 13), none, none⟩,
   ⟨(some 7), .mv (.t 14), none, none⟩])
  (.seq (.seq (.reg none [
   ⟨(some 8), .mv (.c (.v (.int .i64 0))), none, none⟩])
  c_hv_loop)
  (.seq (.reg none [
   ⟨(some 75), .mv (.t 7), none, none⟩,
   ⟨(some 6), .mv (.t 75), none, none⟩])
  .ret))))
def c_caesuraref18_ends : AC :=
  (.seq (.reg none [
   ⟨(some 2), .box 3 (.t 0), none, none⟩,
   ⟨(some 4), .mv (.c (.v (.bool false))), none, none⟩])
  (.seq (.seq (.reg none [
   ⟨(some 5), .mv (.c (.v (.int .i64 0))), none, none⟩])
  (.block 0 (.loop (.seq (.seq (.reg none [
     ⟨(some 6), .mv (.t 5), none, none⟩,
     ⟨(some 7), .mv (.t 1), none, none⟩,
     ⟨(some 8), .len (.t 7), none, none⟩,
     ⟨(some 9), .bin .lss (.t 6) (.t 8), none, none⟩])
    (.cond (.t 9) .skip (.exit 0)))
    (.seq (.block 1 (.seq (.reg none [
      ⟨(some 12), .mv (.t 1), none, none⟩,
      ⟨(some 13), .mv (.t 5), none, none⟩,
      ⟨(some 14), .idxA 3 (.t 12) (.t 13), none, none⟩,
      ⟨(some 15), .idxP 3 1 (.t 14) (.c (.v (.int .i64 2))), none, none⟩,
      ⟨(some 16), .load none (.t 15), none, none⟩,
      ⟨(some 17), .mv (.t 16), none, none⟩,
      ⟨(some 18), .fieldA 2 (.t 2), (some (17, true)), none⟩,
      ⟨(some 19), .load none (.t 18), (some (17, true)), none⟩,
      ⟨(some 20), .mv (.t 5), (some (17, true)), none⟩,
      ⟨(some 21), .idxA 1 (.t 19) (.t 20), (some (17, true)), none⟩,
      ⟨(some 22), .load none (.t 21), (some (17, true)), none⟩,
      ⟨(some 23), .pick (.t 17) (.t 22) (.c (.v (.bool false))), none, none⟩])
     (.cond (.t 23) (.seq (.reg none [
       ⟨(some 4), .mv (.c (.v (.bool true))), none, none⟩])
      .ret) .skip)))
    (.reg none [
     ⟨(some 10), .mv (.t 5), none, none⟩,
     ⟨(some 11), .bin .add (.t 10) (.c (.v (.int .i64 1))), none, none⟩,
     ⟨(some 5), .mv (.t 11), none, none⟩]))))))
  (.seq (.reg none [
   ⟨(some 4), .mv (.c (.v (.bool false))), none, none⟩])
  .ret)))
def c_ah_in : AC :=
  (.block 4 (.loop (.seq (.seq (.reg none [
           ⟨(some 30), .mv (.t 9), none, none⟩,
           ⟨(some 31), .bin .lss (.t 30) (.c (.v (.int .i64 3))), none, none⟩])
          (.cond (.t 31) .skip (.exit 4)))
          (.seq (.block 5 (.reg (some []) [
            ⟨(some 34), .mv (.t 5), none, none⟩,
            ⟨(some 35), .mv (.t 8), none, none⟩,
            ⟨(some 36), .mv (.t 9), none, none⟩,
            ⟨(some 37), .mv (.t 5), none, none⟩,
            ⟨(some 38), .mv (.t 8), none, none⟩,
            ⟨(some 39), .mv (.t 9), none, none⟩,
            ⟨(some 40), .idxA 3 (.t 37) (.t 38), none, none⟩,
            ⟨(some 41), .idxP 3 1 (.t 40) (.t 39), none, none⟩,
            ⟨(some 42), .load none (.t 41), none, none⟩,
            ⟨(some 43), .mv (.t 42), none, none⟩,
            ⟨(some 44), .mv (.t 7), (some (43, false)), none⟩,
            ⟨(some 45), .mv (.t 8), (some (43, false)), none⟩,
            ⟨(some 46), .mv (.t 9), (some (43, false)), none⟩,
            ⟨(some 47), .idxA 3 (.t 44) (.t 45), (some (43, false)), none⟩,
            ⟨(some 48), .idxP 3 1 (.t 47) (.t 46), (some (43, false)), none⟩,
            ⟨(some 49), .load none (.t 48), (some (43, false)), none⟩,
            ⟨(some 50), .pick (.t 43) (.c (.v (.bool true))) (.t 49), none, none⟩,
            ⟨(some 51), .idxA 3 (.t 34) (.t 35), none, none⟩,
            ⟨(some 52), .idxP 3 1 (.t 51) (.t 36), none, none⟩,
            ⟨none, .store 1 (.t 52) (.t 50), none, none⟩]))
          (.reg none [
           ⟨(some 32), .mv (.t 9), none, none⟩,
           ⟨(some 33), .bin .add (.t 32) (.c (.v (.int .i64 1))), none, none⟩,
           ⟨(some 9), .mv (.t 33), none, none⟩])))))
def c_ah_mid : AC :=
  (.block 2 (.loop (.seq (.seq (.reg none [
        ⟨(some 24), .mv (.t 8), none, none⟩,
        ⟨(some 25), .mv (.t 7), none, none⟩,
        ⟨(some 26), .len (.t 25), none, none⟩,
        ⟨(some 27), .bin .lss (.t 24) (.t 26), none, none⟩])
       (.cond (.t 27) .skip (.exit 2)))
       (.seq (.block 3 (.seq (.reg none [
         ⟨(some 9), .mv (.c (.v (.int .i64 0))), none, none⟩])
        c_ah_in))
       (.reg none [
        ⟨(some 28), .mv (.t 8), none, none⟩,
        ⟨(some 29), .bin .add (.t 28) (.c (.v (.int .i64 1))), none, none⟩,
        ⟨(some 8), .mv (.t 29), none, none⟩])))))
def c_ah_out (f_caesuraref18_halves : FuncId) : AC :=
  (.block 0 (.loop (.seq (.seq (.reg none [
     ⟨(some 13), .mv (.t 6), none, none⟩,
     ⟨(some 14), .fieldA 0 (.t 2), none, none⟩,
     ⟨(some 15), .load none (.t 14), none, none⟩,
     ⟨(some 16), .bin .quo (.t 15) (.c (.v (.int .i64 2))), none, none⟩,
     ⟨(some 17), .bin .lss (.t 13) (.t 16), none, none⟩])
    (.cond (.t 17) .skip (.exit 0)))
    (.seq (.block 1 (.seq (.reg none [
      ⟨(some 20), .load (some 3) (.t 2), none, none⟩,
      ⟨(some 21), .mv (.t 1), none, none⟩,
      ⟨(some 22), .mv (.t 6), none, none⟩,
      ⟨(some 23), .mv (.c .junk), none, (some ((.c (.clo f_caesuraref18_halves [] [])), [(.t 20), (.t 21), (.t 22)]))⟩,
      ⟨(some 7), .mv (.t 23), none, none⟩])
     (.seq (.reg none [
      ⟨(some 8), .mv (.c (.v (.int .i64 0))), none, none⟩])
     c_ah_mid)))
    (.reg none [
     ⟨(some 18), .mv (.t 6), none, none⟩,
     ⟨(some 19), .bin .add (.t 18) (.c (.v (.int .i64 1))), none, none⟩,
     ⟨(some 6), .mv (.t 19), none, none⟩])))))
def c_caesuraref18_anyHalf (f_caesuraref18_halves : FuncId) : AC :=
  (.seq (.reg none [
   ⟨(some 2), .box 3 (.t 0), none, none⟩,
   ⟨(some 4), .mv (.c (.sl true [])), none, none⟩])
  (.seq (.reg none [
   ⟨(some 10), .mv (.t 1), none, none⟩,
   ⟨(some 11), .len (.t 10), none, none⟩,
   ⟨(some 12), .mks 3 3 (.agg [(.v (.bool false)), (.v (.bool false)), (.v (.bool false))]) (.t 11) (.t 11), none, none⟩,
   ⟨(some 5), .mv (.t 12), none, none⟩])
  (.seq (.seq (.reg none [
   ⟨(some 6), .mv (.c (.v (.int .i64 0))), none, none⟩])
  (c_ah_out f_caesuraref18_halves))
  (.seq (.reg none [
   ⟨(some 53), .mv (.t 5), none, none⟩,
   ⟨(some 4), .mv (.t 53), none, none⟩])
  .ret))))
def c_caesuraref18_length (f_caesuraref18_ends f_caesuraref18_anyHalf : FuncId) : AC :=
  (.seq (.reg none [
   ⟨(some 2), .box 3 (.t 0), none, none⟩,
   ⟨(some 4), .mv (.c (.v (.int .i64 0))), none, none⟩])
  (.seq (.seq (.reg none [
   ⟨(some 5), .mv (.c (.v (.int .i64 0))), none, none⟩])
  (.block 0 (.loop (.seq (.seq (.reg none [
     ⟨(some 6), .mv (.t 5), none, none⟩,
     ⟨(some 7), .fieldA 1 (.t 2), none, none⟩,
     ⟨(some 8), .load none (.t 7), none, none⟩,
     ⟨(some 9), .len (.t 8), none, none⟩,
     ⟨(some 10), .bin .mul (.c (.v (.int .i64 3))) (.t 9), none, none⟩,
     ⟨(some 11), .bin .leq (.t 6) (.t 10), none, none⟩])
    (.cond (.t 11) .skip (.exit 0)))
    (.seq (.block 1 (.seq (.seq (.reg none [
      ⟨(some 14), .load (some 3) (.t 2), none, none⟩,
      ⟨(some 15), .mv (.t 1), none, none⟩,
      ⟨(some 16), .mv (.c .junk), none, (some ((.c (.clo f_caesuraref18_ends [] [])), [(.t 14), (.t 15)]))⟩])
     (.cond (.t 16) (.seq (.reg none [
       ⟨(some 17), .mv (.t 5), none, none⟩,
       ⟨(some 4), .mv (.t 17), none, none⟩])
      .ret) .skip))
     (.reg none [
      ⟨(some 18), .load (some 3) (.t 2), none, none⟩,
      ⟨(some 19), .mv (.t 1), none, none⟩,
      ⟨(some 20), .mv (.c .junk), none, (some ((.c (.clo f_caesuraref18_anyHalf [] [])), [(.t 18), (.t 19)]))⟩,
      ⟨(some 1), .mv (.t 20), none, none⟩])))
    (.reg none [
     ⟨(some 12), .mv (.t 5), none, none⟩,
     ⟨(some 13), .bin .add (.t 12) (.c (.v (.int .i64 1))), none, none⟩,
     ⟨(some 5), .mv (.t 13), none, none⟩]))))))
  (.seq (.reg none [
   ⟨(some 4), .mv (.c (.v (.int .i64 (-1)))), none, none⟩])
  .ret)))
structure Tri where
  a : Bool
  b : Bool
  c : Bool
def Tri.no : Tri := ⟨false, false, false⟩
def Tri.at (t : Tri) (k : Nat) : Bool := if k = 0 then t.a else if k = 1 then t.b else t.c
def Tri.put (t : Tri) (k : Nat) (v : Bool) : Tri := if k = 0 then ⟨v, t.b, t.c⟩ else if k = 1 then ⟨t.a, v, t.c⟩ else ⟨t.a, t.b, v⟩
def encT (t : Tri) : AV := .agg [encB t.a, encB t.b, encB t.c]
def encTs (l : List Tri) : AV := .sl false (l.map encT)
theorem closed_T (t : Tri) : Closed (encT t) := .agg _ (by
  intro y hy
  simp only [List.mem_cons, List.not_mem_nil, or_false] at hy
  rcases hy with rfl | rfl | rfl <;> exact closed_B _)
theorem closed_Ts (l : List Tri) : Closed (encTs l) := closed_map closed_T l
/-- Is a pair of a state and a phase among some? -/
def hs (T : List Tri) (i : Nat) : Bool := (T.getD (i / 3) .no).at (i % 3)
def markT (T : List Tri) (i k : Nat) : List Tri := T.set i ((T.getD i .no).put k true)
def hstep1 (d : Det) (h : Nat) (t : Tri) (e : Nat) (out : List Tri) : List Tri := if t.a || t.b then markT out e 1 else out
def hstep2 (t : Tri) (o : Nat) (out : List Tri) : List Tri := if t.b then markT out o 2 else out
def hstep3 (t : Tri) (e : Nat) (out : List Tri) : List Tri := if t.c then markT out e 2 else out
def evenT (d : Det) (h i : Nat) : Nat := ((d.next.getD i []).getD (2 * h) 0).toNat
def oddT (d : Det) (h i : Nat) : Nat := ((d.next.getD i []).getD (2 * h + 1) 0).toNat
def hstep (d : Det) (h : Nat) (T out : List Tri) (i : Nat) : List Tri :=
  hstep3 (T.getD i .no) (evenT d h i) (hstep2 (T.getD i .no) (oddT d h i) (hstep1 d h (T.getD i .no) (evenT d h i) out))
def halvesF (d : Det) (T : List Tri) (h : Nat) : List Tri := (List.range d.next.length).foldl (hstep d h T) (List.replicate d.next.length .no)
theorem markT_len (T : List Tri) (i k : Nat) : (markT T i k).length = T.length := by simp [markT]
theorem hstep_len (d : Det) (h : Nat) (T out : List Tri) (i : Nat) : (hstep d h T out i).length = out.length := by
  unfold hstep hstep1 hstep2 hstep3
  split <;> split <;> split <;> simp [markT_len]
theorem fold_len (d : Det) (h : Nat) (T : List Tri) : ∀ (l : List Nat) (out : List Tri), (l.foldl (hstep d h T) out).length = out.length
  | [], _ => rfl
  | i :: l, out => by rw [List.foldl_cons, fold_len d h T l, hstep_len]
theorem halvesF_len (d : Det) (T : List Tri) (h : Nat) : (halvesF d T h).length = d.next.length := by
  unfold halvesF; rw [fold_len]; simp
theorem fzN_T {g : Nat → Option Blk} (t : Tri) : FzN g (encT t) (encT t) := by
  refine .agg _ _ rfl (fun i h1 h2 => ?_)
  match i, h1 with
  | 0, _ => exact .v _
  | 1, _ => exact .v _
  | 2, _ => exact .v _
theorem Vec.fzNT {g : Nat → Option Blk} {v : AV} {es : Nat} {l : List Tri} (h : Vec g v es (l.map encT)) : FzN g v (.sl false (l.map encT)) := by
  rcases h with ⟨rfl, h0⟩ | ⟨id, off, ys, rfl, h1, h2, h3⟩
  · rw [h0]; exact .nil true false (by simp)
  · have hl : off + (l.map encT).length = ys.length := by rw [← h3]; simp; omega
    have ht : (ys.drop off).take (l.map encT).length = l.map encT := by rw [h3, List.take_length]
    refine .own id off _ es ys _ h1 (by omega) rfl (fun i h1 h2 => ?_)
    simp only [ht]
    rw [List.getElem_map]; exact fzN_T _
/-! ### the walk of halves -/
structure HSt (d : Det) (T : List Tri) (h q i : Nat) (out : List Tri) (f : AF) (S : St) : Prop where
  e1 : f 1 = encTs T
  e2 : f 2 = encI h
  e3 : f 3 = .ptr 0 0 0
  e7 : f 7 = .own q 0 out.length
  e8 : f 8 = encI i
  g0 : S.g 0 = some (.arr 3 [encDet d])
  gq : S.g q = some (.arr 3 (out.map encT))
  ne : q ≠ 0
theorem hv1 {P : Program} {d : Det} {T out : List Tri} {h q i e o : Nat} (hi : i < T.length) (he : e < out.length) {f : AF} {S : St} {Q : Exit → AF → St → Prop}
    (st : HSt d T h q i out f S) (e9 : f 9 = encI e) (e10 : f 10 = encI o) (hq : ∀ f' S', f' 9 = encI e → f' 10 = encI o → HSt d T h q i (hstep1 d h T[i] e out) f' S' → Q .normal f' S') : AW P c_hv1 Q f S := by
  obtain ⟨e1, e2, e3, e7, e8, g0, gq, ne⟩ := st
  have hgi : T[i]? = some T[i] := List.getElem?_eq_getElem hi
  have hge : out[e]? = some out[e] := List.getElem?_eq_getElem he
  have hgd : out.getD e .no = out[e] := by simp [List.getD_eq_getElem?_getD, hge]
  have hiI : (i : Int) < T.length := by omega
  have heI : (e : Int) < out.length := by omega
  have hm : markT out e 1 = out.set e ⟨out[e].a, true, out[e].c⟩ := by unfold markT; rw [hgd]; rfl
  have hm2 : (out.set e ⟨out[e].a, true, out[e].c⟩).map encT = (out.map encT).set e (encT ⟨out[e].a, true, out[e].c⟩) := List.map_set
  generalize hT : T[i] = t at *
  obtain ⟨a, b, c⟩ := t
  cases a <;> cases b
  · simp [AW_seq, AW_reg, AW_regD, AW_block, AW_cond, AW_skip, AW_exit, AW_ret, AW_scp, condR_true, condR_false, AThen_normal, AThen_ret, AThen_exit, ABlock_normal, ABlock_ret, ABlock_exit, AScope_normal, AScope_ret, AScope_exit, RetK_ret, RetK_normal, retAV_one, retAV_two, retAV_three, retAV_nil, RG_nil, RG_op, RG_guard, gdR_tt, gdR_ff, gdR_tf, gdR_ft, gdR_un, RG_call, callQ_clo, contK_ap, opR_some, RD_nil, RD_op0, RD_op1, opD0_some, opD1_some, RD_call, callQD_clo, RD_guard, gdD_tt, gdD_ff, gdD_tf, gdD_ft, gdD_un, psh_nil, psh_cons, Apt_nil, Apt_nilT, Apt_true, Apt_false, Dis_def, runT_val, runT_rd, runT_wr, runT_new, runT_mv, ex, put_some, put_none, ev_t, ev_c, argF_zero, argF_succ, set_g, set_n, cells_v, cells_sl, cells_agg, cells_own, cells_ptr, cells_clo, cells_eptr, cells_mp, putc, exBslice, lfill, exField, exIdxV, exIdxP, exBox, exAlloc, exLoad, exStore, exFieldA, exIdxA, exLen, exPick, exUn, exBeq, exMM, exSeq, seqGo, exExt, binV, intOp, subc, AV.solid, S0, encI, encB, c_hv1, encTs, e1, e7, e8, hgi, hiI, hi, hT, encT]
    refine hq _ _ ?_ ?_ ⟨?_, ?_, ?_, ?_, ?_, ?_, ?_, ne⟩
    · simp [put_some, e9]
    · simp [put_some, e10]
    · simp [put_some, e1]
    · simp [put_some, e2]
    · simp [put_some, e3]
    · simp [put_some, e7, hstep1]
    · simp [put_some, e8]
    · simp [g0]
    · simp [gq, hstep1]
  · simp [AW_seq, AW_reg, AW_regD, AW_block, AW_cond, AW_skip, AW_exit, AW_ret, AW_scp, condR_true, condR_false, AThen_normal, AThen_ret, AThen_exit, ABlock_normal, ABlock_ret, ABlock_exit, AScope_normal, AScope_ret, AScope_exit, RetK_ret, RetK_normal, retAV_one, retAV_two, retAV_three, retAV_nil, RG_nil, RG_op, RG_guard, gdR_tt, gdR_ff, gdR_tf, gdR_ft, gdR_un, RG_call, callQ_clo, contK_ap, opR_some, RD_nil, RD_op0, RD_op1, opD0_some, opD1_some, RD_call, callQD_clo, RD_guard, gdD_tt, gdD_ff, gdD_tf, gdD_ft, gdD_un, psh_nil, psh_cons, Apt_nil, Apt_nilT, Apt_true, Apt_false, Dis_def, runT_val, runT_rd, runT_wr, runT_new, runT_mv, ex, put_some, put_none, ev_t, ev_c, argF_zero, argF_succ, set_g, set_n, cells_v, cells_sl, cells_agg, cells_own, cells_ptr, cells_clo, cells_eptr, cells_mp, putc, exBslice, lfill, exField, exIdxV, exIdxP, exBox, exAlloc, exLoad, exStore, exFieldA, exIdxA, exLen, exPick, exUn, exBeq, exMM, exSeq, seqGo, exExt, binV, intOp, subc, AV.solid, S0, encI, encB, c_hv1, encTs, e1, e7, e8, e9, e10, hgi, hiI, hi, hT, gq, hge, heI, he, encT]
    refine hq _ _ ?_ ?_ ⟨?_, ?_, ?_, ?_, ?_, ?_, ?_, ne⟩
    · simp [put_some, e9]
    · simp [put_some, e10]
    · simp [put_some, e1, encTs]
    · simp [put_some, e2]
    · simp [put_some, e3]
    · simp [put_some, e7, hstep1, markT_len]
    · simp [put_some, e8]
    · simp [set_g, g0, Ne.symm ne]
    · simp only [hstep1, hm, hm2, if_true, Bool.or_true, Bool.true_or, Bool.or_false, set_g]
      simp [encT, encB]
  · simp [AW_seq, AW_reg, AW_regD, AW_block, AW_cond, AW_skip, AW_exit, AW_ret, AW_scp, condR_true, condR_false, AThen_normal, AThen_ret, AThen_exit, ABlock_normal, ABlock_ret, ABlock_exit, AScope_normal, AScope_ret, AScope_exit, RetK_ret, RetK_normal, retAV_one, retAV_two, retAV_three, retAV_nil, RG_nil, RG_op, RG_guard, gdR_tt, gdR_ff, gdR_tf, gdR_ft, gdR_un, RG_call, callQ_clo, contK_ap, opR_some, RD_nil, RD_op0, RD_op1, opD0_some, opD1_some, RD_call, callQD_clo, RD_guard, gdD_tt, gdD_ff, gdD_tf, gdD_ft, gdD_un, psh_nil, psh_cons, Apt_nil, Apt_nilT, Apt_true, Apt_false, Dis_def, runT_val, runT_rd, runT_wr, runT_new, runT_mv, ex, put_some, put_none, ev_t, ev_c, argF_zero, argF_succ, set_g, set_n, cells_v, cells_sl, cells_agg, cells_own, cells_ptr, cells_clo, cells_eptr, cells_mp, putc, exBslice, lfill, exField, exIdxV, exIdxP, exBox, exAlloc, exLoad, exStore, exFieldA, exIdxA, exLen, exPick, exUn, exBeq, exMM, exSeq, seqGo, exExt, binV, intOp, subc, AV.solid, S0, encI, encB, c_hv1, encTs, e1, e7, e8, e9, e10, hgi, hiI, hi, hT, gq, hge, heI, he, encT]
    refine hq _ _ ?_ ?_ ⟨?_, ?_, ?_, ?_, ?_, ?_, ?_, ne⟩
    · simp [put_some, e9]
    · simp [put_some, e10]
    · simp [put_some, e1, encTs]
    · simp [put_some, e2]
    · simp [put_some, e3]
    · simp [put_some, e7, hstep1, markT_len]
    · simp [put_some, e8]
    · simp [set_g, g0, Ne.symm ne]
    · simp only [hstep1, hm, hm2, if_true, Bool.or_true, Bool.true_or, Bool.or_false, set_g]
      simp [encT, encB]
  · simp [AW_seq, AW_reg, AW_regD, AW_block, AW_cond, AW_skip, AW_exit, AW_ret, AW_scp, condR_true, condR_false, AThen_normal, AThen_ret, AThen_exit, ABlock_normal, ABlock_ret, ABlock_exit, AScope_normal, AScope_ret, AScope_exit, RetK_ret, RetK_normal, retAV_one, retAV_two, retAV_three, retAV_nil, RG_nil, RG_op, RG_guard, gdR_tt, gdR_ff, gdR_tf, gdR_ft, gdR_un, RG_call, callQ_clo, contK_ap, opR_some, RD_nil, RD_op0, RD_op1, opD0_some, opD1_some, RD_call, callQD_clo, RD_guard, gdD_tt, gdD_ff, gdD_tf, gdD_ft, gdD_un, psh_nil, psh_cons, Apt_nil, Apt_nilT, Apt_true, Apt_false, Dis_def, runT_val, runT_rd, runT_wr, runT_new, runT_mv, ex, put_some, put_none, ev_t, ev_c, argF_zero, argF_succ, set_g, set_n, cells_v, cells_sl, cells_agg, cells_own, cells_ptr, cells_clo, cells_eptr, cells_mp, putc, exBslice, lfill, exField, exIdxV, exIdxP, exBox, exAlloc, exLoad, exStore, exFieldA, exIdxA, exLen, exPick, exUn, exBeq, exMM, exSeq, seqGo, exExt, binV, intOp, subc, AV.solid, S0, encI, encB, c_hv1, encTs, e1, e7, e8, e9, e10, hgi, hiI, hi, hT, gq, hge, heI, he, encT]
    refine hq _ _ ?_ ?_ ⟨?_, ?_, ?_, ?_, ?_, ?_, ?_, ne⟩
    · simp [put_some, e9]
    · simp [put_some, e10]
    · simp [put_some, e1, encTs]
    · simp [put_some, e2]
    · simp [put_some, e3]
    · simp [put_some, e7, hstep1, markT_len]
    · simp [put_some, e8]
    · simp [set_g, g0, Ne.symm ne]
    · simp only [hstep1, hm, hm2, if_true, Bool.or_true, Bool.true_or, Bool.or_false, set_g]
      simp [encT, encB]
theorem hv2 {P : Program} {d : Det} {T out : List Tri} {h q i e o : Nat} (hi : i < T.length) (he : o < out.length) {f : AF} {S : St} {Q : Exit → AF → St → Prop}
    (st : HSt d T h q i out f S) (e9 : f 9 = encI e) (e10 : f 10 = encI o) (hq : ∀ f' S', f' 9 = encI e → f' 10 = encI o → HSt d T h q i (hstep2 T[i] o out) f' S' → Q .normal f' S') : AW P c_hv2 Q f S := by
  obtain ⟨e1, e2, e3, e7, e8, g0, gq, ne⟩ := st
  have hgi : T[i]? = some T[i] := List.getElem?_eq_getElem hi
  have hge : out[o]? = some out[o] := List.getElem?_eq_getElem he
  have hgd : out.getD o .no = out[o] := by simp [List.getD_eq_getElem?_getD, hge]
  have hiI : (i : Int) < T.length := by omega
  have heI : (o : Int) < out.length := by omega
  have hm : markT out o 2 = out.set o ⟨out[o].a, out[o].b, true⟩ := by unfold markT; rw [hgd]; rfl
  have hm2 : (out.set o ⟨out[o].a, out[o].b, true⟩).map encT = (out.map encT).set o (encT ⟨out[o].a, out[o].b, true⟩) := List.map_set
  generalize hT : T[i] = t at *
  obtain ⟨a, b, c⟩ := t
  cases b
  · simp [AW_seq, AW_reg, AW_regD, AW_block, AW_cond, AW_skip, AW_exit, AW_ret, AW_scp, condR_true, condR_false, AThen_normal, AThen_ret, AThen_exit, ABlock_normal, ABlock_ret, ABlock_exit, AScope_normal, AScope_ret, AScope_exit, RetK_ret, RetK_normal, retAV_one, retAV_two, retAV_three, retAV_nil, RG_nil, RG_op, RG_guard, gdR_tt, gdR_ff, gdR_tf, gdR_ft, gdR_un, RG_call, callQ_clo, contK_ap, opR_some, RD_nil, RD_op0, RD_op1, opD0_some, opD1_some, RD_call, callQD_clo, RD_guard, gdD_tt, gdD_ff, gdD_tf, gdD_ft, gdD_un, psh_nil, psh_cons, Apt_nil, Apt_nilT, Apt_true, Apt_false, Dis_def, runT_val, runT_rd, runT_wr, runT_new, runT_mv, ex, put_some, put_none, ev_t, ev_c, argF_zero, argF_succ, set_g, set_n, cells_v, cells_sl, cells_agg, cells_own, cells_ptr, cells_clo, cells_eptr, cells_mp, putc, exBslice, lfill, exField, exIdxV, exIdxP, exBox, exAlloc, exLoad, exStore, exFieldA, exIdxA, exLen, exPick, exUn, exBeq, exMM, exSeq, seqGo, exExt, binV, intOp, subc, AV.solid, S0, encI, encB, c_hv2, encTs, e1, e7, e8, hgi, hiI, hi, hT, encT]
    refine hq _ _ ?_ ?_ ⟨?_, ?_, ?_, ?_, ?_, ?_, ?_, ne⟩
    · simp [put_some, e9]
    · simp [put_some, e10]
    · simp [put_some, e1]
    · simp [put_some, e2]
    · simp [put_some, e3]
    · simp [put_some, e7, hstep2]
    · simp [put_some, e8]
    · simp [g0]
    · simp [gq, hstep2]
  · simp [AW_seq, AW_reg, AW_regD, AW_block, AW_cond, AW_skip, AW_exit, AW_ret, AW_scp, condR_true, condR_false, AThen_normal, AThen_ret, AThen_exit, ABlock_normal, ABlock_ret, ABlock_exit, AScope_normal, AScope_ret, AScope_exit, RetK_ret, RetK_normal, retAV_one, retAV_two, retAV_three, retAV_nil, RG_nil, RG_op, RG_guard, gdR_tt, gdR_ff, gdR_tf, gdR_ft, gdR_un, RG_call, callQ_clo, contK_ap, opR_some, RD_nil, RD_op0, RD_op1, opD0_some, opD1_some, RD_call, callQD_clo, RD_guard, gdD_tt, gdD_ff, gdD_tf, gdD_ft, gdD_un, psh_nil, psh_cons, Apt_nil, Apt_nilT, Apt_true, Apt_false, Dis_def, runT_val, runT_rd, runT_wr, runT_new, runT_mv, ex, put_some, put_none, ev_t, ev_c, argF_zero, argF_succ, set_g, set_n, cells_v, cells_sl, cells_agg, cells_own, cells_ptr, cells_clo, cells_eptr, cells_mp, putc, exBslice, lfill, exField, exIdxV, exIdxP, exBox, exAlloc, exLoad, exStore, exFieldA, exIdxA, exLen, exPick, exUn, exBeq, exMM, exSeq, seqGo, exExt, binV, intOp, subc, AV.solid, S0, encI, encB, c_hv2, encTs, e1, e7, e8, e9, e10, hgi, hiI, hi, hT, gq, hge, heI, he, encT]
    refine hq _ _ ?_ ?_ ⟨?_, ?_, ?_, ?_, ?_, ?_, ?_, ne⟩
    · simp [put_some, e9]
    · simp [put_some, e10]
    · simp [put_some, e1, encTs]
    · simp [put_some, e2]
    · simp [put_some, e3]
    · simp [put_some, e7, hstep2, markT_len]
    · simp [put_some, e8]
    · simp [set_g, g0, Ne.symm ne]
    · simp only [hstep2, hm, hm2, if_true, Bool.or_true, Bool.true_or, Bool.or_false, set_g]
      simp [encT, encB]
theorem hv3 {P : Program} {d : Det} {T out : List Tri} {h q i e o : Nat} (hi : i < T.length) (he : e < out.length) {f : AF} {S : St} {Q : Exit → AF → St → Prop}
    (st : HSt d T h q i out f S) (e9 : f 9 = encI e) (e10 : f 10 = encI o) (hq : ∀ f' S', f' 9 = encI e → f' 10 = encI o → HSt d T h q i (hstep3 T[i] e out) f' S' → Q .normal f' S') : AW P c_hv3 Q f S := by
  obtain ⟨e1, e2, e3, e7, e8, g0, gq, ne⟩ := st
  have hgi : T[i]? = some T[i] := List.getElem?_eq_getElem hi
  have hge : out[e]? = some out[e] := List.getElem?_eq_getElem he
  have hgd : out.getD e .no = out[e] := by simp [List.getD_eq_getElem?_getD, hge]
  have hiI : (i : Int) < T.length := by omega
  have heI : (e : Int) < out.length := by omega
  have hm : markT out e 2 = out.set e ⟨out[e].a, out[e].b, true⟩ := by unfold markT; rw [hgd]; rfl
  have hm2 : (out.set e ⟨out[e].a, out[e].b, true⟩).map encT = (out.map encT).set e (encT ⟨out[e].a, out[e].b, true⟩) := List.map_set
  generalize hT : T[i] = t at *
  obtain ⟨a, b, c⟩ := t
  cases c
  · simp [AW_seq, AW_reg, AW_regD, AW_block, AW_cond, AW_skip, AW_exit, AW_ret, AW_scp, condR_true, condR_false, AThen_normal, AThen_ret, AThen_exit, ABlock_normal, ABlock_ret, ABlock_exit, AScope_normal, AScope_ret, AScope_exit, RetK_ret, RetK_normal, retAV_one, retAV_two, retAV_three, retAV_nil, RG_nil, RG_op, RG_guard, gdR_tt, gdR_ff, gdR_tf, gdR_ft, gdR_un, RG_call, callQ_clo, contK_ap, opR_some, RD_nil, RD_op0, RD_op1, opD0_some, opD1_some, RD_call, callQD_clo, RD_guard, gdD_tt, gdD_ff, gdD_tf, gdD_ft, gdD_un, psh_nil, psh_cons, Apt_nil, Apt_nilT, Apt_true, Apt_false, Dis_def, runT_val, runT_rd, runT_wr, runT_new, runT_mv, ex, put_some, put_none, ev_t, ev_c, argF_zero, argF_succ, set_g, set_n, cells_v, cells_sl, cells_agg, cells_own, cells_ptr, cells_clo, cells_eptr, cells_mp, putc, exBslice, lfill, exField, exIdxV, exIdxP, exBox, exAlloc, exLoad, exStore, exFieldA, exIdxA, exLen, exPick, exUn, exBeq, exMM, exSeq, seqGo, exExt, binV, intOp, subc, AV.solid, S0, encI, encB, c_hv3, encTs, e1, e7, e8, hgi, hiI, hi, hT, encT]
    refine hq _ _ ?_ ?_ ⟨?_, ?_, ?_, ?_, ?_, ?_, ?_, ne⟩
    · simp [put_some, e9]
    · simp [put_some, e10]
    · simp [put_some, e1]
    · simp [put_some, e2]
    · simp [put_some, e3]
    · simp [put_some, e7, hstep3]
    · simp [put_some, e8]
    · simp [g0]
    · simp [gq, hstep3]
  · simp [AW_seq, AW_reg, AW_regD, AW_block, AW_cond, AW_skip, AW_exit, AW_ret, AW_scp, condR_true, condR_false, AThen_normal, AThen_ret, AThen_exit, ABlock_normal, ABlock_ret, ABlock_exit, AScope_normal, AScope_ret, AScope_exit, RetK_ret, RetK_normal, retAV_one, retAV_two, retAV_three, retAV_nil, RG_nil, RG_op, RG_guard, gdR_tt, gdR_ff, gdR_tf, gdR_ft, gdR_un, RG_call, callQ_clo, contK_ap, opR_some, RD_nil, RD_op0, RD_op1, opD0_some, opD1_some, RD_call, callQD_clo, RD_guard, gdD_tt, gdD_ff, gdD_tf, gdD_ft, gdD_un, psh_nil, psh_cons, Apt_nil, Apt_nilT, Apt_true, Apt_false, Dis_def, runT_val, runT_rd, runT_wr, runT_new, runT_mv, ex, put_some, put_none, ev_t, ev_c, argF_zero, argF_succ, set_g, set_n, cells_v, cells_sl, cells_agg, cells_own, cells_ptr, cells_clo, cells_eptr, cells_mp, putc, exBslice, lfill, exField, exIdxV, exIdxP, exBox, exAlloc, exLoad, exStore, exFieldA, exIdxA, exLen, exPick, exUn, exBeq, exMM, exSeq, seqGo, exExt, binV, intOp, subc, AV.solid, S0, encI, encB, c_hv3, encTs, e1, e7, e8, e9, e10, hgi, hiI, hi, hT, gq, hge, heI, he, encT]
    refine hq _ _ ?_ ?_ ⟨?_, ?_, ?_, ?_, ?_, ?_, ?_, ne⟩
    · simp [put_some, e9]
    · simp [put_some, e10]
    · simp [put_some, e1, encTs]
    · simp [put_some, e2]
    · simp [put_some, e3]
    · simp [put_some, e7, hstep3, markT_len]
    · simp [put_some, e8]
    · simp [set_g, g0, Ne.symm ne]
    · simp only [hstep3, hm, hm2, if_true, Bool.or_true, Bool.true_or, Bool.or_false, set_g]
      simp [encT, encB]
def hvI (d : Det) (T : List Tri) (h q : Nat) (m : Nat) (f : AF) (S : St) : Prop :=
  ∃ i, i ≤ d.next.length ∧ m = d.next.length - i ∧ HSt d T h q i ((List.range i).foldl (hstep d h T) (List.replicate d.next.length .no)) f S
theorem hv_loop {P : Program} {d : Det} (R : RightD d) {T : List Tri} (hT : T.length = d.next.length) {h q : Nat} (hh : ((2 * h + 1 : Nat) : Int) < d.signs) {f : AF} {S : St} {Q : Exit → AF → St → Prop}
    (h0 : hvI d T h q d.next.length f S) (hq : ∀ f' S', HSt d T h q d.next.length (halvesF d T h) f' S' → Q .normal f' S') : AW P c_hv_loop Q f S := by
  simp [AW_seq, AW_reg, AW_regD, AW_block, AW_cond, AW_skip, AW_exit, AW_ret, AW_scp, condR_true, condR_false, AThen_normal, AThen_ret, AThen_exit, ABlock_normal, ABlock_ret, ABlock_exit, AScope_normal, AScope_ret, AScope_exit, RetK_ret, RetK_normal, retAV_one, retAV_two, retAV_three, retAV_nil, RG_nil, RG_op, RG_guard, gdR_tt, gdR_ff, gdR_tf, gdR_ft, gdR_un, RG_call, callQ_clo, contK_ap, opR_some, RD_nil, RD_op0, RD_op1, opD0_some, opD1_some, RD_call, callQD_clo, RD_guard, gdD_tt, gdD_ff, gdD_tf, gdD_ft, gdD_un, psh_nil, psh_cons, Apt_nil, Apt_nilT, Apt_true, Apt_false, Dis_def, runT_val, runT_rd, runT_wr, runT_new, runT_mv, ex, put_some, put_none, ev_t, ev_c, argF_zero, argF_succ, set_g, set_n, cells_v, cells_sl, cells_agg, cells_own, cells_ptr, cells_clo, cells_eptr, cells_mp, putc, exBslice, lfill, exField, exIdxV, exIdxP, exBox, exAlloc, exLoad, exStore, exFieldA, exIdxA, exLen, exPick, exUn, exBeq, exMM, exSeq, seqGo, exExt, binV, intOp, subc, AV.solid, S0, encI, encB, c_hv_loop]
  refine AW_loop (hvI d T h q) d.next.length h0 ?_
  rintro m f S ⟨i, hi, rfl, st⟩
  have hn2 := R.n2
  have hs2 := R.s2
  have hol : ((List.range i).foldl (hstep d h T) (List.replicate d.next.length .no)).length = d.next.length := by rw [fold_len]; simp
  by_cases hlt : i < d.next.length
  · obtain ⟨e1, e2, e3, e7, e8, g0, gq, ne⟩ := id st
    have hlI : (i : Int) < d.next.length := by omega
    have hgn : d.next[i]? = some d.next[i] := List.getElem?_eq_getElem hlt
    have hrl : ((d.next[i]).length : Int) = d.signs := R.row i hlt
    have h1 : 2 * h < (d.next[i]).length := by omega
    have h2 : 2 * h + 1 < (d.next[i]).length := by omega
    have hI1 : 2 * (h : Int) < (d.next[i]).length := by omega
    have hI2 : 2 * (h : Int) + 1 < (d.next[i]).length := by omega
    have hI3 : 0 ≤ 2 * (h : Int) := by omega
    have hI4 : 0 ≤ 2 * (h : Int) + 1 := by omega
    have hN1 : (2 * (h : Int)).toNat = 2 * h := by omega
    have hN2 : (2 * (h : Int) + 1).toNat = 2 * h + 1 := by omega
    obtain ⟨a1, a2⟩ := R.at_ i hlt (2 * h) h1
    obtain ⟨b1, b2⟩ := R.at_ i hlt (2 * h + 1) h2
    have w1 : IntKind.i64.wrap (2 * (h : Int)) = 2 * (h : Int) := wrap_in _ (by omega)
    have w2 : IntKind.i64.wrap (2 * (h : Int) + 1) = 2 * (h : Int) + 1 := wrap_in _ (by omega)
    have g1 : (d.next[i])[2 * h]? = some (d.next[i])[2 * h] := List.getElem?_eq_getElem h1
    have g2 : (d.next[i])[2 * h + 1]? = some (d.next[i])[2 * h + 1] := List.getElem?_eq_getElem h2
    have hev : evenT d h i = ((d.next[i])[2 * h]).toNat := by simp [evenT, List.getD_eq_getElem?_getD, hgn, g1]
    have hod : oddT d h i = ((d.next[i])[2 * h + 1]).toNat := by simp [oddT, List.getD_eq_getElem?_getD, hgn, g2]
    simp [AW_seq, AW_reg, AW_regD, AW_block, AW_cond, AW_skip, AW_exit, AW_ret, AW_scp, condR_true, condR_false, AThen_normal, AThen_ret, AThen_exit, ABlock_normal, ABlock_ret, ABlock_exit, AScope_normal, AScope_ret, AScope_exit, RetK_ret, RetK_normal, retAV_one, retAV_two, retAV_three, retAV_nil, RG_nil, RG_op, RG_guard, gdR_tt, gdR_ff, gdR_tf, gdR_ft, gdR_un, RG_call, callQ_clo, contK_ap, opR_some, RD_nil, RD_op0, RD_op1, opD0_some, opD1_some, RD_call, callQD_clo, RD_guard, gdD_tt, gdD_ff, gdD_tf, gdD_ft, gdD_un, psh_nil, psh_cons, Apt_nil, Apt_nilT, Apt_true, Apt_false, Dis_def, runT_val, runT_rd, runT_wr, runT_new, runT_mv, ex, put_some, put_none, ev_t, ev_c, argF_zero, argF_succ, set_g, set_n, cells_v, cells_sl, cells_agg, cells_own, cells_ptr, cells_clo, cells_eptr, cells_mp, putc, exBslice, lfill, exField, exIdxV, exIdxP, exBox, exAlloc, exLoad, exStore, exFieldA, exIdxA, exLen, exPick, exUn, exBeq, exMM, exSeq, seqGo, exExt, binV, intOp, subc, AV.solid, S0, encI, encB, e2, e3, e8, g0, hlI, encDet, encIss, encIs, hgn, w1, w2, hI1, hI2, hI3, hI4, hN1, hN2, h1, h2, g1, g2]
    have hTi : i < T.length := by omega
    have hTd : T.getD i .no = T[i] := by simp [List.getD_eq_getElem?_getD, List.getElem?_eq_getElem hTi]
    refine hv1 (d := d) (T := T) (out := (List.range i).foldl (hstep d h T) (List.replicate d.next.length .no)) (h := h) (q := q) (i := i) (e := evenT d h i) (o := oddT d h i) hTi (by omega) ⟨?_, ?_, ?_, ?_, ?_, ?_, ?_, ne⟩ ?_ ?_ ?_
    · simp [put_some, e1]
    · simp [put_some, e2]
    · simp [put_some, e3]
    · simp [put_some, e7]
    · simp [put_some, e8]
    · simp [g0]
    · simp [gq]
    · simp [put_some, encI]; omega
    · simp [put_some, encI]; omega
    · intro f1 S1 q9 q10 st1
      simp [AW_seq, AW_reg, AW_regD, AW_block, AW_cond, AW_skip, AW_exit, AW_ret, AW_scp, condR_true, condR_false, AThen_normal, AThen_ret, AThen_exit, ABlock_normal, ABlock_ret, ABlock_exit, AScope_normal, AScope_ret, AScope_exit, RetK_ret, RetK_normal, retAV_one, retAV_two, retAV_three, retAV_nil, RG_nil, RG_op, RG_guard, gdR_tt, gdR_ff, gdR_tf, gdR_ft, gdR_un, RG_call, callQ_clo, contK_ap, opR_some, RD_nil, RD_op0, RD_op1, opD0_some, opD1_some, RD_call, callQD_clo, RD_guard, gdD_tt, gdD_ff, gdD_tf, gdD_ft, gdD_un, psh_nil, psh_cons, Apt_nil, Apt_nilT, Apt_true, Apt_false, Dis_def, runT_val, runT_rd, runT_wr, runT_new, runT_mv, ex, put_some, put_none, ev_t, ev_c, argF_zero, argF_succ, set_g, set_n, cells_v, cells_sl, cells_agg, cells_own, cells_ptr, cells_clo, cells_eptr, cells_mp, putc, exBslice, lfill, exField, exIdxV, exIdxP, exBox, exAlloc, exLoad, exStore, exFieldA, exIdxA, exLen, exPick, exUn, exBeq, exMM, exSeq, seqGo, exExt, binV, intOp, subc, AV.solid, S0, encI, encB]
      have hl1 : (hstep1 d h T[i] (evenT d h i) ((List.range i).foldl (hstep d h T) (List.replicate d.next.length .no))).length = d.next.length := by
        unfold hstep1; split <;> simp [markT_len, hol]
      refine hv2 hTi (by omega) st1 q9 q10 ?_
      intro f2 S2 q9 q10 st2
      simp [AW_seq, AW_reg, AW_regD, AW_block, AW_cond, AW_skip, AW_exit, AW_ret, AW_scp, condR_true, condR_false, AThen_normal, AThen_ret, AThen_exit, ABlock_normal, ABlock_ret, ABlock_exit, AScope_normal, AScope_ret, AScope_exit, RetK_ret, RetK_normal, retAV_one, retAV_two, retAV_three, retAV_nil, RG_nil, RG_op, RG_guard, gdR_tt, gdR_ff, gdR_tf, gdR_ft, gdR_un, RG_call, callQ_clo, contK_ap, opR_some, RD_nil, RD_op0, RD_op1, opD0_some, opD1_some, RD_call, callQD_clo, RD_guard, gdD_tt, gdD_ff, gdD_tf, gdD_ft, gdD_un, psh_nil, psh_cons, Apt_nil, Apt_nilT, Apt_true, Apt_false, Dis_def, runT_val, runT_rd, runT_wr, runT_new, runT_mv, ex, put_some, put_none, ev_t, ev_c, argF_zero, argF_succ, set_g, set_n, cells_v, cells_sl, cells_agg, cells_own, cells_ptr, cells_clo, cells_eptr, cells_mp, putc, exBslice, lfill, exField, exIdxV, exIdxP, exBox, exAlloc, exLoad, exStore, exFieldA, exIdxA, exLen, exPick, exUn, exBeq, exMM, exSeq, seqGo, exExt, binV, intOp, subc, AV.solid, S0, encI, encB]
      have hl2 : (hstep2 T[i] (oddT d h i) (hstep1 d h T[i] (evenT d h i) ((List.range i).foldl (hstep d h T) (List.replicate d.next.length .no)))).length = d.next.length := by
        unfold hstep2; split <;> simp [markT_len, hl1]
      refine hv3 hTi (by omega) st2 q9 q10 ?_
      intro f3 S3 q9 q10 st3
      simp [AW_seq, AW_reg, AW_regD, AW_block, AW_cond, AW_skip, AW_exit, AW_ret, AW_scp, condR_true, condR_false, AThen_normal, AThen_ret, AThen_exit, ABlock_normal, ABlock_ret, ABlock_exit, AScope_normal, AScope_ret, AScope_exit, RetK_ret, RetK_normal, retAV_one, retAV_two, retAV_three, retAV_nil, RG_nil, RG_op, RG_guard, gdR_tt, gdR_ff, gdR_tf, gdR_ft, gdR_un, RG_call, callQ_clo, contK_ap, opR_some, RD_nil, RD_op0, RD_op1, opD0_some, opD1_some, RD_call, callQD_clo, RD_guard, gdD_tt, gdD_ff, gdD_tf, gdD_ft, gdD_un, psh_nil, psh_cons, Apt_nil, Apt_nilT, Apt_true, Apt_false, Dis_def, runT_val, runT_rd, runT_wr, runT_new, runT_mv, ex, put_some, put_none, ev_t, ev_c, argF_zero, argF_succ, set_g, set_n, cells_v, cells_sl, cells_agg, cells_own, cells_ptr, cells_clo, cells_eptr, cells_mp, putc, exBslice, lfill, exField, exIdxV, exIdxP, exBox, exAlloc, exLoad, exStore, exFieldA, exIdxA, exLen, exPick, exUn, exBeq, exMM, exSeq, seqGo, exExt, binV, intOp, subc, AV.solid, S0, encI, encB, st3.e8]
      rw [wrap_in _ (by omega)]
      have hfold : (List.range (i + 1)).foldl (hstep d h T) (List.replicate d.next.length .no) = hstep3 T[i] (evenT d h i) (hstep2 T[i] (oddT d h i) (hstep1 d h T[i] (evenT d h i) ((List.range i).foldl (hstep d h T) (List.replicate d.next.length .no)))) := by
        rw [List.range_succ, List.foldl_append, List.foldl_cons, List.foldl_nil]
        unfold hstep
        rw [hTd]
      refine ⟨d.next.length - (i + 1), by omega, i + 1, by omega, rfl, ?_⟩
      rw [hfold]
      refine ⟨?_, ?_, ?_, ?_, ?_, ?_, ?_, ne⟩
      · simp [put_some, st3.e1]
      · simp [put_some, st3.e2]
      · simp [put_some, st3.e3]
      · simp [put_some, st3.e7]
      · simp [put_some, encI]
      · simp [st3.g0]
      · simp [st3.gq]
  · have : i = d.next.length := by omega
    subst this
    obtain ⟨e1, e2, e3, e7, e8, g0, gq, ne⟩ := id st
    simp [AW_seq, AW_reg, AW_regD, AW_block, AW_cond, AW_skip, AW_exit, AW_ret, AW_scp, condR_true, condR_false, AThen_normal, AThen_ret, AThen_exit, ABlock_normal, ABlock_ret, ABlock_exit, AScope_normal, AScope_ret, AScope_exit, RetK_ret, RetK_normal, retAV_one, retAV_two, retAV_three, retAV_nil, RG_nil, RG_op, RG_guard, gdR_tt, gdR_ff, gdR_tf, gdR_ft, gdR_un, RG_call, callQ_clo, contK_ap, opR_some, RD_nil, RD_op0, RD_op1, opD0_some, opD1_some, RD_call, callQD_clo, RD_guard, gdD_tt, gdD_ff, gdD_tf, gdD_ft, gdD_un, psh_nil, psh_cons, Apt_nil, Apt_nilT, Apt_true, Apt_false, Dis_def, runT_val, runT_rd, runT_wr, runT_new, runT_mv, ex, put_some, put_none, ev_t, ev_c, argF_zero, argF_succ, set_g, set_n, cells_v, cells_sl, cells_agg, cells_own, cells_ptr, cells_clo, cells_eptr, cells_mp, putc, exBslice, lfill, exField, exIdxV, exIdxP, exBox, exAlloc, exLoad, exStore, exFieldA, exIdxA, exLen, exPick, exUn, exBeq, exMM, exSeq, seqGo, exExt, binV, intOp, subc, AV.solid, S0, encI, encB, e3, e8, g0, encDet, encIss]
    refine hq _ _ ⟨?_, ?_, ?_, ?_, ?_, ?_, ?_, ne⟩
    · simp [put_some, e1]
    · simp [put_some, e2]
    · simp [put_some, e3]
    · simp [put_some, e7, halvesF]
    · simp [put_some, e8]
    · simp [g0]
    · simp [gq, halvesF]
theorem caesuraref18_halves_body {P : Program} {d : Det} (R : RightD d) {T : List Tri} (hT : T.length = d.next.length) {h : Nat} (hh : ((2 * h + 1 : Nat) : Int) < d.signs) :
    AW P c_caesuraref18_halves (RetK [6] (FzNK (encTs (halvesF d T h)))) (argF [encDet d, encTs T, encI h]) S0 := by
  have hn2 := R.n2
  have q1 : (d.next.length : Int) ≤ 9223372036854775807 := by omega
  have q2 : 3 * (d.next.length : Int) ≤ 281474976710656 := by omega
  simp [AW_seq, AW_reg, AW_regD, AW_block, AW_cond, AW_skip, AW_exit, AW_ret, AW_scp, condR_true, condR_false, AThen_normal, AThen_ret, AThen_exit, ABlock_normal, ABlock_ret, ABlock_exit, AScope_normal, AScope_ret, AScope_exit, RetK_ret, RetK_normal, retAV_one, retAV_two, retAV_three, retAV_nil, RG_nil, RG_op, RG_guard, gdR_tt, gdR_ff, gdR_tf, gdR_ft, gdR_un, RG_call, callQ_clo, contK_ap, opR_some, RD_nil, RD_op0, RD_op1, opD0_some, opD1_some, RD_call, callQD_clo, RD_guard, gdD_tt, gdD_ff, gdD_tf, gdD_ft, gdD_un, psh_nil, psh_cons, Apt_nil, Apt_nilT, Apt_true, Apt_false, Dis_def, runT_val, runT_rd, runT_wr, runT_new, runT_mv, ex, put_some, put_none, ev_t, ev_c, argF_zero, argF_succ, set_g, set_n, cells_v, cells_sl, cells_agg, cells_own, cells_ptr, cells_clo, cells_eptr, cells_mp, putc, exBslice, lfill, exField, exIdxV, exIdxP, exBox, exAlloc, exLoad, exStore, exFieldA, exIdxA, exLen, exPick, exUn, exBeq, exMM, exSeq, seqGo, exExt, binV, intOp, subc, AV.solid, S0, encI, encB, c_caesuraref18_halves, encDet, encIss, exMks, q1, q2]
  refine hv_loop R hT hh (q := 5) ?_ ?_
  · refine ⟨0, by omega, rfl, ⟨?_, ?_, ?_, ?_, ?_, ?_, ?_, by omega⟩⟩
    · simp [put_some, argF_zero, argF_succ]
    · simp [put_some, argF_zero, argF_succ, encI]
    · simp [put_some]
    · simp [put_some]
    · simp [put_some, encI]
    · simp [set_g, encDet, encI, encIss]
    · simp [set_g, Tri.no, encT, encB]
  · intro f S st
    simp [AW_seq, AW_reg, AW_regD, AW_block, AW_cond, AW_skip, AW_exit, AW_ret, AW_scp, condR_true, condR_false, AThen_normal, AThen_ret, AThen_exit, ABlock_normal, ABlock_ret, ABlock_exit, AScope_normal, AScope_ret, AScope_exit, RetK_ret, RetK_normal, retAV_one, retAV_two, retAV_three, retAV_nil, RG_nil, RG_op, RG_guard, gdR_tt, gdR_ff, gdR_tf, gdR_ft, gdR_un, RG_call, callQ_clo, contK_ap, opR_some, RD_nil, RD_op0, RD_op1, opD0_some, opD1_some, RD_call, callQD_clo, RD_guard, gdD_tt, gdD_ff, gdD_tf, gdD_ft, gdD_un, psh_nil, psh_cons, Apt_nil, Apt_nilT, Apt_true, Apt_false, Dis_def, runT_val, runT_rd, runT_wr, runT_new, runT_mv, ex, put_some, put_none, ev_t, ev_c, argF_zero, argF_succ, set_g, set_n, cells_v, cells_sl, cells_agg, cells_own, cells_ptr, cells_clo, cells_eptr, cells_mp, putc, exBslice, lfill, exField, exIdxV, exIdxP, exBox, exAlloc, exLoad, exStore, exFieldA, exIdxA, exLen, exPick, exUn, exBeq, exMM, exSeq, seqGo, exExt, binV, intOp, subc, AV.solid, S0, encI, encB, st.e7]
    exact Vec.fzNT (Vec.mk' st.gq (by simp))
def endsF (d : Det) (T : List Tri) : Bool := (List.range d.next.length).any fun i => (T.getD i .no).c && d.fin.getD i false
def enI (d : Det) (T : List Tri) (m : Nat) (f : AF) (S : St) : Prop :=
  ∃ i, i ≤ d.next.length ∧ m = d.next.length - i ∧ f 1 = encTs T ∧ f 2 = .ptr 0 0 0 ∧ f 5 = encI i ∧ S.g 0 = some (.arr 3 [encDet d]) ∧ ∀ k, k < i → ((T.getD k .no).c && d.fin.getD k false) = false
theorem caesuraref18_ends_body {P : Program} {d : Det} (R : RightD d) {T : List Tri} (hT : T.length = d.next.length) :
    AW P c_caesuraref18_ends (RetK [4] (FzK (encB (endsF d T)))) (argF [encDet d, encTs T]) S0 := by
  have hn2 := R.n2
  have hfl := R.fin
  simp [AW_seq, AW_reg, AW_regD, AW_block, AW_cond, AW_skip, AW_exit, AW_ret, AW_scp, condR_true, condR_false, AThen_normal, AThen_ret, AThen_exit, ABlock_normal, ABlock_ret, ABlock_exit, AScope_normal, AScope_ret, AScope_exit, RetK_ret, RetK_normal, retAV_one, retAV_two, retAV_three, retAV_nil, RG_nil, RG_op, RG_guard, gdR_tt, gdR_ff, gdR_tf, gdR_ft, gdR_un, RG_call, callQ_clo, contK_ap, opR_some, RD_nil, RD_op0, RD_op1, opD0_some, opD1_some, RD_call, callQD_clo, RD_guard, gdD_tt, gdD_ff, gdD_tf, gdD_ft, gdD_un, psh_nil, psh_cons, Apt_nil, Apt_nilT, Apt_true, Apt_false, Dis_def, runT_val, runT_rd, runT_wr, runT_new, runT_mv, ex, put_some, put_none, ev_t, ev_c, argF_zero, argF_succ, set_g, set_n, cells_v, cells_sl, cells_agg, cells_own, cells_ptr, cells_clo, cells_eptr, cells_mp, putc, exBslice, lfill, exField, exIdxV, exIdxP, exBox, exAlloc, exLoad, exStore, exFieldA, exIdxA, exLen, exPick, exUn, exBeq, exMM, exSeq, seqGo, exExt, binV, intOp, subc, AV.solid, S0, encI, encB, c_caesuraref18_ends, encDet]
  refine AW_loop (enI d T) d.next.length ?_ ?_
  · refine ⟨0, by omega, rfl, ?_, ?_, ?_, ?_, fun k hk => by omega⟩
    · simp [put_some, argF_zero, argF_succ]
    · simp [put_some]
    · simp [put_some, encI]
    · simp [set_g, encDet, encI]
  · rintro m f S ⟨i, hi, rfl, e1, e2, e5, g0, hno⟩
    by_cases hlt : i < d.next.length
    · have hiT : i < T.length := by omega
      have hiI : (i : Int) < T.length := by omega
      have hgT : T[i]? = some T[i] := List.getElem?_eq_getElem hiT
      have hif : i < d.fin.length := by omega
      have hiF : (i : Int) < d.fin.length := by omega
      have hgf : d.fin[i]? = some d.fin[i] := List.getElem?_eq_getElem hif
      have hd1 : T.getD i .no = T[i] := by simp [List.getD_eq_getElem?_getD, hgT]
      have hd2 : d.fin.getD i false = d.fin[i] := by simp [List.getD_eq_getElem?_getD, hgf]
      have hw : IntKind.i64.wrap ((i : Int) + 1) = (i : Int) + 1 := wrap_in _ (by omega)
      have next : ∀ {f' : AF} {S' : St}, f' 1 = encTs T → f' 2 = .ptr 0 0 0 → f' 5 = encI ((i : Int) + 1) → S'.g 0 = some (.arr 3 [encDet d]) → ((T.getD i .no).c && d.fin.getD i false) = false → INext (enI d T) (d.next.length - i) f' S' := by
        intro f' S' q1 q2 q5 q0 hz
        refine ⟨d.next.length - (i + 1), by omega, i + 1, by omega, rfl, q1, q2, by rw [q5]; simp [encI], q0, fun k hk => ?_⟩
        by_cases hki : k = i
        · subst hki; exact hz
        · exact hno k (by omega)
      rw [hd1, hd2] at next
      have hlast : T[i].c = true → d.fin[i] = true → endsF d T = true := by
        intro h1 h2
        unfold endsF
        rw [List.any_eq_true]
        exact ⟨i, by simpa using hlt, by rw [hd1, hd2, h1, h2]; rfl⟩
      generalize hTi : T[i] = t at *
      obtain ⟨a, b, c⟩ := t
      cases c with
      | false =>
        simp [AW_seq, AW_reg, AW_regD, AW_block, AW_cond, AW_skip, AW_exit, AW_ret, AW_scp, condR_true, condR_false, AThen_normal, AThen_ret, AThen_exit, ABlock_normal, ABlock_ret, ABlock_exit, AScope_normal, AScope_ret, AScope_exit, RetK_ret, RetK_normal, retAV_one, retAV_two, retAV_three, retAV_nil, RG_nil, RG_op, RG_guard, gdR_tt, gdR_ff, gdR_tf, gdR_ft, gdR_un, RG_call, callQ_clo, contK_ap, opR_some, RD_nil, RD_op0, RD_op1, opD0_some, opD1_some, RD_call, callQD_clo, RD_guard, gdD_tt, gdD_ff, gdD_tf, gdD_ft, gdD_un, psh_nil, psh_cons, Apt_nil, Apt_nilT, Apt_true, Apt_false, Dis_def, runT_val, runT_rd, runT_wr, runT_new, runT_mv, ex, put_some, put_none, ev_t, ev_c, argF_zero, argF_succ, set_g, set_n, cells_v, cells_sl, cells_agg, cells_own, cells_ptr, cells_clo, cells_eptr, cells_mp, putc, exBslice, lfill, exField, exIdxV, exIdxP, exBox, exAlloc, exLoad, exStore, exFieldA, exIdxA, exLen, exPick, exUn, exBeq, exMM, exSeq, seqGo, exExt, binV, intOp, subc, AV.solid, S0, encI, encB, e1, e2, e5, g0, hiI, hiT, hTi, hgT, encTs, encT, encDet, hw]
        refine next ?_ ?_ ?_ ?_ rfl
        · simp [put_some, e1, encTs]
        · simp [put_some, e2]
        · simp [put_some, encI]
        · simp [g0, encDet, encI]
      | true =>
        cases hfi : d.fin[i] with
        | false =>
          simp [AW_seq, AW_reg, AW_regD, AW_block, AW_cond, AW_skip, AW_exit, AW_ret, AW_scp, condR_true, condR_false, AThen_normal, AThen_ret, AThen_exit, ABlock_normal, ABlock_ret, ABlock_exit, AScope_normal, AScope_ret, AScope_exit, RetK_ret, RetK_normal, retAV_one, retAV_two, retAV_three, retAV_nil, RG_nil, RG_op, RG_guard, gdR_tt, gdR_ff, gdR_tf, gdR_ft, gdR_un, RG_call, callQ_clo, contK_ap, opR_some, RD_nil, RD_op0, RD_op1, opD0_some, opD1_some, RD_call, callQD_clo, RD_guard, gdD_tt, gdD_ff, gdD_tf, gdD_ft, gdD_un, psh_nil, psh_cons, Apt_nil, Apt_nilT, Apt_true, Apt_false, Dis_def, runT_val, runT_rd, runT_wr, runT_new, runT_mv, ex, put_some, put_none, ev_t, ev_c, argF_zero, argF_succ, set_g, set_n, cells_v, cells_sl, cells_agg, cells_own, cells_ptr, cells_clo, cells_eptr, cells_mp, putc, exBslice, lfill, exField, exIdxV, exIdxP, exBox, exAlloc, exLoad, exStore, exFieldA, exIdxA, exLen, exPick, exUn, exBeq, exMM, exSeq, seqGo, exExt, binV, intOp, subc, AV.solid, S0, encI, encB, e1, e2, e5, g0, hiI, hiT, hTi, hgT, hiF, hif, hgf, hfi, encTs, encT, encDet, encBs, hw]
          refine next ?_ ?_ ?_ ?_ (by simp [hfi])
          · simp [put_some, e1, encTs]
          · simp [put_some, e2]
          · simp [put_some, encI]
          · simp [g0, encDet, encI, encBs]
        | true =>
          simp [AW_seq, AW_reg, AW_regD, AW_block, AW_cond, AW_skip, AW_exit, AW_ret, AW_scp, condR_true, condR_false, AThen_normal, AThen_ret, AThen_exit, ABlock_normal, ABlock_ret, ABlock_exit, AScope_normal, AScope_ret, AScope_exit, RetK_ret, RetK_normal, retAV_one, retAV_two, retAV_three, retAV_nil, RG_nil, RG_op, RG_guard, gdR_tt, gdR_ff, gdR_tf, gdR_ft, gdR_un, RG_call, callQ_clo, contK_ap, opR_some, RD_nil, RD_op0, RD_op1, opD0_some, opD1_some, RD_call, callQD_clo, RD_guard, gdD_tt, gdD_ff, gdD_tf, gdD_ft, gdD_un, psh_nil, psh_cons, Apt_nil, Apt_nilT, Apt_true, Apt_false, Dis_def, runT_val, runT_rd, runT_wr, runT_new, runT_mv, ex, put_some, put_none, ev_t, ev_c, argF_zero, argF_succ, set_g, set_n, cells_v, cells_sl, cells_agg, cells_own, cells_ptr, cells_clo, cells_eptr, cells_mp, putc, exBslice, lfill, exField, exIdxV, exIdxP, exBox, exAlloc, exLoad, exStore, exFieldA, exIdxA, exLen, exPick, exUn, exBeq, exMM, exSeq, seqGo, exExt, binV, intOp, subc, AV.solid, S0, encI, encB, e1, e2, e5, g0, hiI, hiT, hTi, hgT, hiF, hif, hgf, hfi, encTs, encT, encDet, encBs, hlast rfl hfi]
          exact FzK_B _ _
    · have : i = d.next.length := by omega
      subst this
      have hiI : ¬ (d.next.length : Int) < T.length := by omega
      have hiN : ¬ d.next.length < T.length := by omega
      have hend : endsF d T = false := by
        unfold endsF
        rw [List.any_eq_false]
        intro k hk
        rw [hno k (by simpa using hk)]; simp
      simp [AW_seq, AW_reg, AW_regD, AW_block, AW_cond, AW_skip, AW_exit, AW_ret, AW_scp, condR_true, condR_false, AThen_normal, AThen_ret, AThen_exit, ABlock_normal, ABlock_ret, ABlock_exit, AScope_normal, AScope_ret, AScope_exit, RetK_ret, RetK_normal, retAV_one, retAV_two, retAV_three, retAV_nil, RG_nil, RG_op, RG_guard, gdR_tt, gdR_ff, gdR_tf, gdR_ft, gdR_un, RG_call, callQ_clo, contK_ap, opR_some, RD_nil, RD_op0, RD_op1, opD0_some, opD1_some, RD_call, callQD_clo, RD_guard, gdD_tt, gdD_ff, gdD_tf, gdD_ft, gdD_un, psh_nil, psh_cons, Apt_nil, Apt_nilT, Apt_true, Apt_false, Dis_def, runT_val, runT_rd, runT_wr, runT_new, runT_mv, ex, put_some, put_none, ev_t, ev_c, argF_zero, argF_succ, set_g, set_n, cells_v, cells_sl, cells_agg, cells_own, cells_ptr, cells_clo, cells_eptr, cells_mp, putc, exBslice, lfill, exField, exIdxV, exIdxP, exBox, exAlloc, exLoad, exStore, exFieldA, exIdxA, exLen, exPick, exUn, exBeq, exMM, exSeq, seqGo, exExt, binV, intOp, subc, AV.solid, S0, encI, encB, e1, e2, e5, hiI, hiN, encTs, hend]
      exact FzK_B _ _
def orT (x y : Tri) : Tri := ⟨x.a || y.a, x.b || y.b, x.c || y.c⟩
def orK (k : Nat) (x y : Tri) : Tri := ⟨x.a || (decide (0 < k) && y.a), x.b || (decide (1 < k) && y.b), x.c || (decide (2 < k) && y.c)⟩
theorem orK_zero (x y : Tri) : orK 0 x y = x := by simp [orK]
theorem orK_three (x y : Tri) : orK 3 x y = orT x y := by simp [orK, orT]
/-- The first i rows are joined. -/
def mixT (i : Nat) (out x : List Tri) : List Tri := out.mapIdx fun j t => if j < i then orT t (x.getD j .no) else t
theorem mixT_len (i : Nat) (out x : List Tri) : (mixT i out x).length = out.length := by simp [mixT]
theorem mixT_zero (out x : List Tri) : mixT 0 out x = out := by
  apply List.ext_getElem
  · simp [mixT]
  · intro j h1 h2; simp [mixT]
theorem mixT_at {i : Nat} {out x : List Tri} (h : i < out.length) : (mixT i out x)[i]'(by rw [mixT_len]; exact h) = out[i] := by simp [mixT]
theorem mixT_succ {i : Nat} {out x : List Tri} (h : i < out.length) : (mixT i out x).set i (orT out[i] (x.getD i .no)) = mixT (i + 1) out x := by
  apply List.ext_getElem
  · simp [mixT]
  · intro j h1 h2
    rw [List.getElem_set]
    simp only [mixT, List.getElem_mapIdx]
    by_cases hij : i = j
    · subst hij; simp
    · rw [if_neg hij]
      by_cases hj : j < i
      · rw [if_pos hj, if_pos (by omega)]
      · rw [if_neg hj, if_neg (by omega)]
def orTs (out x : List Tri) : List Tri := mixT out.length out x
def anyF (d : Det) (T : List Tri) : List Tri := (List.range (d.signs / 2).toNat).foldl (fun out h => orTs out (halvesF d T h)) (List.replicate T.length .no)
theorem orTs_len (out x : List Tri) : (orTs out x).length = out.length := mixT_len _ _ _
theorem anyFold_len (d : Det) (T : List Tri) : ∀ (l : List Nat) (out : List Tri), (l.foldl (fun out h => orTs out (halvesF d T h)) out).length = out.length
  | [], _ => rfl
  | h :: l, out => by rw [List.foldl_cons, anyFold_len d T l, orTs_len]
theorem anyF_len (d : Det) (T : List Tri) : (anyF d T).length = T.length := by unfold anyF; rw [anyFold_len]; simp
structure ASt (d : Det) (T x : List Tri) (h q i : Nat) (cur : List Tri) (f : AF) (S : St) : Prop where
  e1 : f 1 = encTs T
  e2 : f 2 = .ptr 0 0 0
  e5 : f 5 = .own q 0 cur.length
  e6 : f 6 = encI h
  e7 : f 7 = encTs x
  e8 : f 8 = encI i
  g0 : S.g 0 = some (.arr 3 [encDet d])
  gq : S.g q = some (.arr 3 (cur.map encT))
  ne : q ≠ 0
def ahJ (d : Det) (T x : List Tri) (h q i : Nat) (out : List Tri) (t : Tri) (m : Nat) (f : AF) (S : St) : Prop :=
  ∃ k, k ≤ 3 ∧ m = 3 - k ∧ f 9 = encI k ∧ ASt d T x h q i (out.set i (orK k t (x.getD i .no))) f S
theorem ah_in {P : Program} {d : Det} {T x out : List Tri} {h q i : Nat} {t : Tri} (hi : i < out.length) (hx : i < x.length) {f : AF} {S : St} {Q : Exit → AF → St → Prop}
    (h0 : ahJ d T x h q i out t 3 f S) (hq : ∀ f' S', ASt d T x h q i (out.set i (orT t (x.getD i .no))) f' S' → Q .normal f' S') : AW P c_ah_in Q f S := by
  simp [AW_seq, AW_reg, AW_regD, AW_block, AW_cond, AW_skip, AW_exit, AW_ret, AW_scp, condR_true, condR_false, AThen_normal, AThen_ret, AThen_exit, ABlock_normal, ABlock_ret, ABlock_exit, AScope_normal, AScope_ret, AScope_exit, RetK_ret, RetK_normal, retAV_one, retAV_two, retAV_three, retAV_nil, RG_nil, RG_op, RG_guard, gdR_tt, gdR_ff, gdR_tf, gdR_ft, gdR_un, RG_call, callQ_clo, contK_ap, opR_some, RD_nil, RD_op0, RD_op1, opD0_some, opD1_some, RD_call, callQD_clo, RD_guard, gdD_tt, gdD_ff, gdD_tf, gdD_ft, gdD_un, psh_nil, psh_cons, Apt_nil, Apt_nilT, Apt_true, Apt_false, Dis_def, runT_val, runT_rd, runT_wr, runT_new, runT_mv, ex, put_some, put_none, ev_t, ev_c, argF_zero, argF_succ, set_g, set_n, cells_v, cells_sl, cells_agg, cells_own, cells_ptr, cells_clo, cells_eptr, cells_mp, putc, exBslice, lfill, exField, exIdxV, exIdxP, exBox, exAlloc, exLoad, exStore, exFieldA, exIdxA, exLen, exPick, exUn, exBeq, exMM, exSeq, seqGo, exExt, binV, intOp, subc, AV.solid, S0, encI, encB, c_ah_in]
  refine AW_loop (ahJ d T x h q i out t) 3 h0 ?_
  rintro m f S ⟨k, hk, rfl, e9, st⟩
  have hgx : x.getD i .no = x[i] := by simp [List.getD_eq_getElem?_getD, List.getElem?_eq_getElem hx]
  rw [hgx] at st hq
  have hxg : x[i]? = some x[i] := List.getElem?_eq_getElem hx
  have hxI : (i : Int) < x.length := by omega
  have hiI : (i : Int) < out.length := by omega
  obtain ⟨e1, e2, e5, e6, e7, e8, g0, gq, ne⟩ := id st
  have step : ∀ {k' : Nat} {f' : AF} {S' : St}, k' = k + 1 → k' ≤ 3 → f' 9 = encI k' → f' 1 = encTs T → f' 2 = .ptr 0 0 0 → f' 5 = .own q 0 out.length → f' 6 = encI h → f' 7 = encTs x → f' 8 = encI i → S'.g 0 = some (.arr 3 [encDet d]) →
      S'.g q = some (.arr 3 ((out.set i (orK k' t x[i])).map encT)) → INext (ahJ d T x h q i out t) (3 - k) f' S' := by
    intro k' f' S' hkk hk3 q9 q1 q2 q5 q6 q7 q8 q0 qq
    exact ⟨3 - k', by omega, k', hk3, rfl, q9, ⟨q1, q2, by rw [q5]; simp, q6, q7, q8, q0, by rw [hgx]; exact qq, ne⟩⟩
  have hm : ∀ z, (out.set i z).map encT = (out.map encT).set i (encT z) := fun z => List.map_set
  rw [hm] at gq
  have hl5 : f 5 = .own q 0 out.length := by rw [e5]; simp
  generalize hxi : x[i] = y at *
  obtain ⟨a, b, c⟩ := t
  obtain ⟨a', b', c'⟩ := y
  have w1 : IntKind.i64.wrap 1 = 1 := wrap_in _ (by omega)
  have w2 : IntKind.i64.wrap 2 = 2 := wrap_in _ (by omega)
  have w3 : IntKind.i64.wrap 3 = 3 := wrap_in _ (by omega)
  match k, hk with
  | 0, _ =>
    simp [orK] at gq
    cases a
    · simp [AW_seq, AW_reg, AW_regD, AW_block, AW_cond, AW_skip, AW_exit, AW_ret, AW_scp, condR_true, condR_false, AThen_normal, AThen_ret, AThen_exit, ABlock_normal, ABlock_ret, ABlock_exit, AScope_normal, AScope_ret, AScope_exit, RetK_ret, RetK_normal, retAV_one, retAV_two, retAV_three, retAV_nil, RG_nil, RG_op, RG_guard, gdR_tt, gdR_ff, gdR_tf, gdR_ft, gdR_un, RG_call, callQ_clo, contK_ap, opR_some, RD_nil, RD_op0, RD_op1, opD0_some, opD1_some, RD_call, callQD_clo, RD_guard, gdD_tt, gdD_ff, gdD_tf, gdD_ft, gdD_un, psh_nil, psh_cons, Apt_nil, Apt_nilT, Apt_true, Apt_false, Dis_def, runT_val, runT_rd, runT_wr, runT_new, runT_mv, ex, put_some, put_none, ev_t, ev_c, argF_zero, argF_succ, set_g, set_n, cells_v, cells_sl, cells_agg, cells_own, cells_ptr, cells_clo, cells_eptr, cells_mp, putc, exBslice, lfill, exField, exIdxV, exIdxP, exBox, exAlloc, exLoad, exStore, exFieldA, exIdxA, exLen, exPick, exUn, exBeq, exMM, exSeq, seqGo, exExt, binV, intOp, subc, AV.solid, S0, encI, encB, e9, hl5, e7, e8, gq, hiI, hi, hxI, hx, hxg, hxi, encTs, encT, w1, w2, w3]
      refine step rfl (by omega) ?_ ?_ ?_ ?_ ?_ ?_ ?_ ?_ ?_
      · simp [put_some, encI]
      · simp [put_some, e1]
      · simp [put_some, e2]
      · simp [put_some, hl5]
      · simp [put_some, e6]
      · simp [put_some, e7, encTs]
      · simp [put_some, e8, encI]
      · simp [set_g, g0, Ne.symm ne]
      · simp [set_g, hm, orK, encT, encB]
    · simp [AW_seq, AW_reg, AW_regD, AW_block, AW_cond, AW_skip, AW_exit, AW_ret, AW_scp, condR_true, condR_false, AThen_normal, AThen_ret, AThen_exit, ABlock_normal, ABlock_ret, ABlock_exit, AScope_normal, AScope_ret, AScope_exit, RetK_ret, RetK_normal, retAV_one, retAV_two, retAV_three, retAV_nil, RG_nil, RG_op, RG_guard, gdR_tt, gdR_ff, gdR_tf, gdR_ft, gdR_un, RG_call, callQ_clo, contK_ap, opR_some, RD_nil, RD_op0, RD_op1, opD0_some, opD1_some, RD_call, callQD_clo, RD_guard, gdD_tt, gdD_ff, gdD_tf, gdD_ft, gdD_un, psh_nil, psh_cons, Apt_nil, Apt_nilT, Apt_true, Apt_false, Dis_def, runT_val, runT_rd, runT_wr, runT_new, runT_mv, ex, put_some, put_none, ev_t, ev_c, argF_zero, argF_succ, set_g, set_n, cells_v, cells_sl, cells_agg, cells_own, cells_ptr, cells_clo, cells_eptr, cells_mp, putc, exBslice, lfill, exField, exIdxV, exIdxP, exBox, exAlloc, exLoad, exStore, exFieldA, exIdxA, exLen, exPick, exUn, exBeq, exMM, exSeq, seqGo, exExt, binV, intOp, subc, AV.solid, S0, encI, encB, e9, hl5, e7, e8, gq, hiI, hi, hxI, hx, hxg, hxi, encTs, encT, w1, w2, w3]
      refine step rfl (by omega) ?_ ?_ ?_ ?_ ?_ ?_ ?_ ?_ ?_
      · simp [put_some, encI]
      · simp [put_some, e1]
      · simp [put_some, e2]
      · simp [put_some, hl5]
      · simp [put_some, e6]
      · simp [put_some, e7, encTs]
      · simp [put_some, e8, encI]
      · simp [set_g, g0, Ne.symm ne]
      · simp [set_g, hm, orK, encT, encB]
  | 1, _ =>
    simp [orK] at gq
    cases b
    · simp [AW_seq, AW_reg, AW_regD, AW_block, AW_cond, AW_skip, AW_exit, AW_ret, AW_scp, condR_true, condR_false, AThen_normal, AThen_ret, AThen_exit, ABlock_normal, ABlock_ret, ABlock_exit, AScope_normal, AScope_ret, AScope_exit, RetK_ret, RetK_normal, retAV_one, retAV_two, retAV_three, retAV_nil, RG_nil, RG_op, RG_guard, gdR_tt, gdR_ff, gdR_tf, gdR_ft, gdR_un, RG_call, callQ_clo, contK_ap, opR_some, RD_nil, RD_op0, RD_op1, opD0_some, opD1_some, RD_call, callQD_clo, RD_guard, gdD_tt, gdD_ff, gdD_tf, gdD_ft, gdD_un, psh_nil, psh_cons, Apt_nil, Apt_nilT, Apt_true, Apt_false, Dis_def, runT_val, runT_rd, runT_wr, runT_new, runT_mv, ex, put_some, put_none, ev_t, ev_c, argF_zero, argF_succ, set_g, set_n, cells_v, cells_sl, cells_agg, cells_own, cells_ptr, cells_clo, cells_eptr, cells_mp, putc, exBslice, lfill, exField, exIdxV, exIdxP, exBox, exAlloc, exLoad, exStore, exFieldA, exIdxA, exLen, exPick, exUn, exBeq, exMM, exSeq, seqGo, exExt, binV, intOp, subc, AV.solid, S0, encI, encB, e9, hl5, e7, e8, gq, hiI, hi, hxI, hx, hxg, hxi, encTs, encT, w1, w2, w3]
      refine step rfl (by omega) ?_ ?_ ?_ ?_ ?_ ?_ ?_ ?_ ?_
      · simp [put_some, encI]
      · simp [put_some, e1]
      · simp [put_some, e2]
      · simp [put_some, hl5]
      · simp [put_some, e6]
      · simp [put_some, e7, encTs]
      · simp [put_some, e8, encI]
      · simp [set_g, g0, Ne.symm ne]
      · simp [set_g, hm, orK, encT, encB]
    · simp [AW_seq, AW_reg, AW_regD, AW_block, AW_cond, AW_skip, AW_exit, AW_ret, AW_scp, condR_true, condR_false, AThen_normal, AThen_ret, AThen_exit, ABlock_normal, ABlock_ret, ABlock_exit, AScope_normal, AScope_ret, AScope_exit, RetK_ret, RetK_normal, retAV_one, retAV_two, retAV_three, retAV_nil, RG_nil, RG_op, RG_guard, gdR_tt, gdR_ff, gdR_tf, gdR_ft, gdR_un, RG_call, callQ_clo, contK_ap, opR_some, RD_nil, RD_op0, RD_op1, opD0_some, opD1_some, RD_call, callQD_clo, RD_guard, gdD_tt, gdD_ff, gdD_tf, gdD_ft, gdD_un, psh_nil, psh_cons, Apt_nil, Apt_nilT, Apt_true, Apt_false, Dis_def, runT_val, runT_rd, runT_wr, runT_new, runT_mv, ex, put_some, put_none, ev_t, ev_c, argF_zero, argF_succ, set_g, set_n, cells_v, cells_sl, cells_agg, cells_own, cells_ptr, cells_clo, cells_eptr, cells_mp, putc, exBslice, lfill, exField, exIdxV, exIdxP, exBox, exAlloc, exLoad, exStore, exFieldA, exIdxA, exLen, exPick, exUn, exBeq, exMM, exSeq, seqGo, exExt, binV, intOp, subc, AV.solid, S0, encI, encB, e9, hl5, e7, e8, gq, hiI, hi, hxI, hx, hxg, hxi, encTs, encT, w1, w2, w3]
      refine step rfl (by omega) ?_ ?_ ?_ ?_ ?_ ?_ ?_ ?_ ?_
      · simp [put_some, encI]
      · simp [put_some, e1]
      · simp [put_some, e2]
      · simp [put_some, hl5]
      · simp [put_some, e6]
      · simp [put_some, e7, encTs]
      · simp [put_some, e8, encI]
      · simp [set_g, g0, Ne.symm ne]
      · simp [set_g, hm, orK, encT, encB]
  | 2, _ =>
    simp [orK] at gq
    cases c
    · simp [AW_seq, AW_reg, AW_regD, AW_block, AW_cond, AW_skip, AW_exit, AW_ret, AW_scp, condR_true, condR_false, AThen_normal, AThen_ret, AThen_exit, ABlock_normal, ABlock_ret, ABlock_exit, AScope_normal, AScope_ret, AScope_exit, RetK_ret, RetK_normal, retAV_one, retAV_two, retAV_three, retAV_nil, RG_nil, RG_op, RG_guard, gdR_tt, gdR_ff, gdR_tf, gdR_ft, gdR_un, RG_call, callQ_clo, contK_ap, opR_some, RD_nil, RD_op0, RD_op1, opD0_some, opD1_some, RD_call, callQD_clo, RD_guard, gdD_tt, gdD_ff, gdD_tf, gdD_ft, gdD_un, psh_nil, psh_cons, Apt_nil, Apt_nilT, Apt_true, Apt_false, Dis_def, runT_val, runT_rd, runT_wr, runT_new, runT_mv, ex, put_some, put_none, ev_t, ev_c, argF_zero, argF_succ, set_g, set_n, cells_v, cells_sl, cells_agg, cells_own, cells_ptr, cells_clo, cells_eptr, cells_mp, putc, exBslice, lfill, exField, exIdxV, exIdxP, exBox, exAlloc, exLoad, exStore, exFieldA, exIdxA, exLen, exPick, exUn, exBeq, exMM, exSeq, seqGo, exExt, binV, intOp, subc, AV.solid, S0, encI, encB, e9, hl5, e7, e8, gq, hiI, hi, hxI, hx, hxg, hxi, encTs, encT, w1, w2, w3]
      refine step rfl (by omega) ?_ ?_ ?_ ?_ ?_ ?_ ?_ ?_ ?_
      · simp [put_some, encI]
      · simp [put_some, e1]
      · simp [put_some, e2]
      · simp [put_some, hl5]
      · simp [put_some, e6]
      · simp [put_some, e7, encTs]
      · simp [put_some, e8, encI]
      · simp [set_g, g0, Ne.symm ne]
      · simp [set_g, hm, orK, encT, encB]
    · simp [AW_seq, AW_reg, AW_regD, AW_block, AW_cond, AW_skip, AW_exit, AW_ret, AW_scp, condR_true, condR_false, AThen_normal, AThen_ret, AThen_exit, ABlock_normal, ABlock_ret, ABlock_exit, AScope_normal, AScope_ret, AScope_exit, RetK_ret, RetK_normal, retAV_one, retAV_two, retAV_three, retAV_nil, RG_nil, RG_op, RG_guard, gdR_tt, gdR_ff, gdR_tf, gdR_ft, gdR_un, RG_call, callQ_clo, contK_ap, opR_some, RD_nil, RD_op0, RD_op1, opD0_some, opD1_some, RD_call, callQD_clo, RD_guard, gdD_tt, gdD_ff, gdD_tf, gdD_ft, gdD_un, psh_nil, psh_cons, Apt_nil, Apt_nilT, Apt_true, Apt_false, Dis_def, runT_val, runT_rd, runT_wr, runT_new, runT_mv, ex, put_some, put_none, ev_t, ev_c, argF_zero, argF_succ, set_g, set_n, cells_v, cells_sl, cells_agg, cells_own, cells_ptr, cells_clo, cells_eptr, cells_mp, putc, exBslice, lfill, exField, exIdxV, exIdxP, exBox, exAlloc, exLoad, exStore, exFieldA, exIdxA, exLen, exPick, exUn, exBeq, exMM, exSeq, seqGo, exExt, binV, intOp, subc, AV.solid, S0, encI, encB, e9, hl5, e7, e8, gq, hiI, hi, hxI, hx, hxg, hxi, encTs, encT, w1, w2, w3]
      refine step rfl (by omega) ?_ ?_ ?_ ?_ ?_ ?_ ?_ ?_ ?_
      · simp [put_some, encI]
      · simp [put_some, e1]
      · simp [put_some, e2]
      · simp [put_some, hl5]
      · simp [put_some, e6]
      · simp [put_some, e7, encTs]
      · simp [put_some, e8, encI]
      · simp [set_g, g0, Ne.symm ne]
      · simp [set_g, hm, orK, encT, encB]
  | 3, _ =>
    simp [AW_seq, AW_reg, AW_regD, AW_block, AW_cond, AW_skip, AW_exit, AW_ret, AW_scp, condR_true, condR_false, AThen_normal, AThen_ret, AThen_exit, ABlock_normal, ABlock_ret, ABlock_exit, AScope_normal, AScope_ret, AScope_exit, RetK_ret, RetK_normal, retAV_one, retAV_two, retAV_three, retAV_nil, RG_nil, RG_op, RG_guard, gdR_tt, gdR_ff, gdR_tf, gdR_ft, gdR_un, RG_call, callQ_clo, contK_ap, opR_some, RD_nil, RD_op0, RD_op1, opD0_some, opD1_some, RD_call, callQD_clo, RD_guard, gdD_tt, gdD_ff, gdD_tf, gdD_ft, gdD_un, psh_nil, psh_cons, Apt_nil, Apt_nilT, Apt_true, Apt_false, Dis_def, runT_val, runT_rd, runT_wr, runT_new, runT_mv, ex, put_some, put_none, ev_t, ev_c, argF_zero, argF_succ, set_g, set_n, cells_v, cells_sl, cells_agg, cells_own, cells_ptr, cells_clo, cells_eptr, cells_mp, putc, exBslice, lfill, exField, exIdxV, exIdxP, exBox, exAlloc, exLoad, exStore, exFieldA, exIdxA, exLen, exPick, exUn, exBeq, exMM, exSeq, seqGo, exExt, binV, intOp, subc, AV.solid, S0, encI, encB, e9]
    refine hq _ _ ⟨?_, ?_, ?_, ?_, ?_, ?_, ?_, ?_, ne⟩
    · simp [put_some, e1]
    · simp [put_some, e2]
    · simp [put_some, hl5]
    · simp [put_some, e6]
    · simp [put_some, e7, encTs]
    · simp [put_some, e8, encI]
    · simp [g0]
    · rw [orK_three] at gq
      rw [hm]; exact gq
def ahI (d : Det) (T x : List Tri) (h q : Nat) (out : List Tri) (m : Nat) (f : AF) (S : St) : Prop :=
  ∃ i, i ≤ out.length ∧ m = out.length - i ∧ ASt d T x h q i (mixT i out x) f S
theorem ah_mid {P : Program} {d : Det} {T x out : List Tri} {h q : Nat} (hx : x.length = out.length) (ho : out.length ≤ 3000) {f : AF} {S : St} {Q : Exit → AF → St → Prop}
    (h0 : ahI d T x h q out out.length f S) (hq : ∀ f' S', ASt d T x h q out.length (orTs out x) f' S' → Q .normal f' S') : AW P c_ah_mid Q f S := by
  simp [AW_seq, AW_reg, AW_regD, AW_block, AW_cond, AW_skip, AW_exit, AW_ret, AW_scp, condR_true, condR_false, AThen_normal, AThen_ret, AThen_exit, ABlock_normal, ABlock_ret, ABlock_exit, AScope_normal, AScope_ret, AScope_exit, RetK_ret, RetK_normal, retAV_one, retAV_two, retAV_three, retAV_nil, RG_nil, RG_op, RG_guard, gdR_tt, gdR_ff, gdR_tf, gdR_ft, gdR_un, RG_call, callQ_clo, contK_ap, opR_some, RD_nil, RD_op0, RD_op1, opD0_some, opD1_some, RD_call, callQD_clo, RD_guard, gdD_tt, gdD_ff, gdD_tf, gdD_ft, gdD_un, psh_nil, psh_cons, Apt_nil, Apt_nilT, Apt_true, Apt_false, Dis_def, runT_val, runT_rd, runT_wr, runT_new, runT_mv, ex, put_some, put_none, ev_t, ev_c, argF_zero, argF_succ, set_g, set_n, cells_v, cells_sl, cells_agg, cells_own, cells_ptr, cells_clo, cells_eptr, cells_mp, putc, exBslice, lfill, exField, exIdxV, exIdxP, exBox, exAlloc, exLoad, exStore, exFieldA, exIdxA, exLen, exPick, exUn, exBeq, exMM, exSeq, seqGo, exExt, binV, intOp, subc, AV.solid, S0, encI, encB, c_ah_mid]
  refine AW_loop (ahI d T x h q out) out.length h0 ?_
  rintro m f S ⟨i, hi, rfl, st⟩
  obtain ⟨e1, e2, e5, e6, e7, e8, g0, gq, ne⟩ := id st
  by_cases hlt : i < out.length
  · have hxi : i < x.length := by omega
    have hxI : (i : Int) < x.length := by omega
    have hml : i < (mixT i out x).length := by rw [mixT_len]; exact hlt
    have hat := mixT_at (x := x) hlt
    simp [AW_seq, AW_reg, AW_regD, AW_block, AW_cond, AW_skip, AW_exit, AW_ret, AW_scp, condR_true, condR_false, AThen_normal, AThen_ret, AThen_exit, ABlock_normal, ABlock_ret, ABlock_exit, AScope_normal, AScope_ret, AScope_exit, RetK_ret, RetK_normal, retAV_one, retAV_two, retAV_three, retAV_nil, RG_nil, RG_op, RG_guard, gdR_tt, gdR_ff, gdR_tf, gdR_ft, gdR_un, RG_call, callQ_clo, contK_ap, opR_some, RD_nil, RD_op0, RD_op1, opD0_some, opD1_some, RD_call, callQD_clo, RD_guard, gdD_tt, gdD_ff, gdD_tf, gdD_ft, gdD_un, psh_nil, psh_cons, Apt_nil, Apt_nilT, Apt_true, Apt_false, Dis_def, runT_val, runT_rd, runT_wr, runT_new, runT_mv, ex, put_some, put_none, ev_t, ev_c, argF_zero, argF_succ, set_g, set_n, cells_v, cells_sl, cells_agg, cells_own, cells_ptr, cells_clo, cells_eptr, cells_mp, putc, exBslice, lfill, exField, exIdxV, exIdxP, exBox, exAlloc, exLoad, exStore, exFieldA, exIdxA, exLen, exPick, exUn, exBeq, exMM, exSeq, seqGo, exExt, binV, intOp, subc, AV.solid, S0, encI, encB, e7, e8, encTs, hxI, hxi]
    refine ah_in (out := mixT i out x) (t := out[i]) (x := x) (T := T) (d := d) (h := h) (q := q) (i := i) hml hxi ?_ ?_
    · refine ⟨0, by omega, rfl, ?_, ⟨?_, ?_, ?_, ?_, ?_, ?_, ?_, ?_, ne⟩⟩
      · simp [put_some, encI]
      · simp [put_some, e1]
      · simp [put_some, e2]
      · simp [put_some, e5]
      · simp [put_some, e6]
      · simp [put_some, e7, encTs]
      · simp [put_some, e8]
      · simp [g0]
      · rw [orK_zero, ← hat, List.set_getElem_self]; simp [gq]
    · intro f' S' st'
      rw [mixT_succ hlt] at st'
      simp [AW_seq, AW_reg, AW_regD, AW_block, AW_cond, AW_skip, AW_exit, AW_ret, AW_scp, condR_true, condR_false, AThen_normal, AThen_ret, AThen_exit, ABlock_normal, ABlock_ret, ABlock_exit, AScope_normal, AScope_ret, AScope_exit, RetK_ret, RetK_normal, retAV_one, retAV_two, retAV_three, retAV_nil, RG_nil, RG_op, RG_guard, gdR_tt, gdR_ff, gdR_tf, gdR_ft, gdR_un, RG_call, callQ_clo, contK_ap, opR_some, RD_nil, RD_op0, RD_op1, opD0_some, opD1_some, RD_call, callQD_clo, RD_guard, gdD_tt, gdD_ff, gdD_tf, gdD_ft, gdD_un, psh_nil, psh_cons, Apt_nil, Apt_nilT, Apt_true, Apt_false, Dis_def, runT_val, runT_rd, runT_wr, runT_new, runT_mv, ex, put_some, put_none, ev_t, ev_c, argF_zero, argF_succ, set_g, set_n, cells_v, cells_sl, cells_agg, cells_own, cells_ptr, cells_clo, cells_eptr, cells_mp, putc, exBslice, lfill, exField, exIdxV, exIdxP, exBox, exAlloc, exLoad, exStore, exFieldA, exIdxA, exLen, exPick, exUn, exBeq, exMM, exSeq, seqGo, exExt, binV, intOp, subc, AV.solid, S0, encI, encB, st'.e8]
      rw [wrap_in _ (by omega)]
      refine ⟨out.length - (i + 1), by omega, i + 1, by omega, rfl, ⟨?_, ?_, ?_, ?_, ?_, ?_, ?_, ?_, ne⟩⟩
      · simp [put_some, st'.e1]
      · simp [put_some, st'.e2]
      · simp [put_some, st'.e5]
      · simp [put_some, st'.e6]
      · simp [put_some, st'.e7]
      · simp [put_some, encI]
      · simp [st'.g0]
      · simp [st'.gq]
  · have : i = out.length := by omega
    subst this
    have hxI : ¬ (out.length : Int) < x.length := by omega
    have hxN : ¬ out.length < x.length := by omega
    simp [AW_seq, AW_reg, AW_regD, AW_block, AW_cond, AW_skip, AW_exit, AW_ret, AW_scp, condR_true, condR_false, AThen_normal, AThen_ret, AThen_exit, ABlock_normal, ABlock_ret, ABlock_exit, AScope_normal, AScope_ret, AScope_exit, RetK_ret, RetK_normal, retAV_one, retAV_two, retAV_three, retAV_nil, RG_nil, RG_op, RG_guard, gdR_tt, gdR_ff, gdR_tf, gdR_ft, gdR_un, RG_call, callQ_clo, contK_ap, opR_some, RD_nil, RD_op0, RD_op1, opD0_some, opD1_some, RD_call, callQD_clo, RD_guard, gdD_tt, gdD_ff, gdD_tf, gdD_ft, gdD_un, psh_nil, psh_cons, Apt_nil, Apt_nilT, Apt_true, Apt_false, Dis_def, runT_val, runT_rd, runT_wr, runT_new, runT_mv, ex, put_some, put_none, ev_t, ev_c, argF_zero, argF_succ, set_g, set_n, cells_v, cells_sl, cells_agg, cells_own, cells_ptr, cells_clo, cells_eptr, cells_mp, putc, exBslice, lfill, exField, exIdxV, exIdxP, exBox, exAlloc, exLoad, exStore, exFieldA, exIdxA, exLen, exPick, exUn, exBeq, exMM, exSeq, seqGo, exExt, binV, intOp, subc, AV.solid, S0, encI, encB, e7, e8, encTs, hxI, hxN]
    refine hq _ _ ⟨?_, ?_, ?_, ?_, ?_, ?_, ?_, ?_, ne⟩
    · simp [put_some, e1]
    · simp [put_some, e2]
    · simp [put_some, e5, orTs]
    · simp [put_some, e6]
    · simp [put_some, e7, encTs]
    · simp [put_some, e8]
    · simp [g0]
    · simp [gq, orTs]
structure AOut (d : Det) (T : List Tri) (q h : Nat) (cur : List Tri) (f : AF) (S : St) : Prop where
  e1 : f 1 = encTs T
  e2 : f 2 = .ptr 0 0 0
  e5 : f 5 = .own q 0 cur.length
  e6 : f 6 = encI h
  g0 : S.g 0 = some (.arr 3 [encDet d])
  gq : S.g q = some (.arr 3 (cur.map encT))
  ne : q ≠ 0
def anyAt (d : Det) (T : List Tri) (h : Nat) : List Tri := (List.range h).foldl (fun out h => orTs out (halvesF d T h)) (List.replicate T.length .no)
theorem anyAt_succ (d : Det) (T : List Tri) (h : Nat) : anyAt d T (h + 1) = orTs (anyAt d T h) (halvesF d T h) := by
  unfold anyAt; rw [List.range_succ, List.foldl_append]; rfl
theorem anyAt_len (d : Det) (T : List Tri) (h : Nat) : (anyAt d T h).length = T.length := by unfold anyAt; rw [anyFold_len]; simp
def ahO (d : Det) (T : List Tri) (q : Nat) (m : Nat) (f : AF) (S : St) : Prop :=
  ∃ h, h ≤ (d.signs / 2).toNat ∧ m = (d.signs / 2).toNat - h ∧ AOut d T q h (anyAt d T h) f S
theorem ah_out {P : Program} {fh : FuncId} {d : Det} (R : RightD d) {T : List Tri} (hT : T.length = d.next.length) {q : Nat}
    (hh : ∀ h : Nat, ((2 * h + 1 : Nat) : Int) < d.signs → PureC P fh [encDet d, encTs T, encI h] (encTs (halvesF d T h))) {f : AF} {S : St} {Q : Exit → AF → St → Prop}
    (h0 : ahO d T q (d.signs / 2).toNat f S) (hq : ∀ f' S', AOut d T q (d.signs / 2).toNat (anyF d T) f' S' → Q .normal f' S') : AW P (c_ah_out fh) Q f S := by
  simp [AW_seq, AW_reg, AW_regD, AW_block, AW_cond, AW_skip, AW_exit, AW_ret, AW_scp, condR_true, condR_false, AThen_normal, AThen_ret, AThen_exit, ABlock_normal, ABlock_ret, ABlock_exit, AScope_normal, AScope_ret, AScope_exit, RetK_ret, RetK_normal, retAV_one, retAV_two, retAV_three, retAV_nil, RG_nil, RG_op, RG_guard, gdR_tt, gdR_ff, gdR_tf, gdR_ft, gdR_un, RG_call, callQ_clo, contK_ap, opR_some, RD_nil, RD_op0, RD_op1, opD0_some, opD1_some, RD_call, callQD_clo, RD_guard, gdD_tt, gdD_ff, gdD_tf, gdD_ft, gdD_un, psh_nil, psh_cons, Apt_nil, Apt_nilT, Apt_true, Apt_false, Dis_def, runT_val, runT_rd, runT_wr, runT_new, runT_mv, ex, put_some, put_none, ev_t, ev_c, argF_zero, argF_succ, set_g, set_n, cells_v, cells_sl, cells_agg, cells_own, cells_ptr, cells_clo, cells_eptr, cells_mp, putc, exBslice, lfill, exField, exIdxV, exIdxP, exBox, exAlloc, exLoad, exStore, exFieldA, exIdxA, exLen, exPick, exUn, exBeq, exMM, exSeq, seqGo, exExt, binV, intOp, subc, AV.solid, S0, encI, encB, c_ah_out]
  refine AW_loop (ahO d T q) (d.signs / 2).toNat h0 ?_
  rintro m f S ⟨h, hi, rfl, ⟨e1, e2, e5, e6, g0, gq, ne⟩⟩
  have hs1 := R.s1
  have hs2 := R.s2
  have hn2 := R.n2
  have hdiv : d.signs.tdiv 2 = d.signs / 2 := Int.tdiv_eq_ediv_of_nonneg (by omega)
  have w0 : IntKind.i64.wrap (d.signs / 2) = d.signs / 2 := wrap_in _ (by omega)
  by_cases hlt : h < (d.signs / 2).toNat
  · have hI : (h : Int) < d.signs / 2 := by omega
    simp [AW_seq, AW_reg, AW_regD, AW_block, AW_cond, AW_skip, AW_exit, AW_ret, AW_scp, condR_true, condR_false, AThen_normal, AThen_ret, AThen_exit, ABlock_normal, ABlock_ret, ABlock_exit, AScope_normal, AScope_ret, AScope_exit, RetK_ret, RetK_normal, retAV_one, retAV_two, retAV_three, retAV_nil, RG_nil, RG_op, RG_guard, gdR_tt, gdR_ff, gdR_tf, gdR_ft, gdR_un, RG_call, callQ_clo, contK_ap, opR_some, RD_nil, RD_op0, RD_op1, opD0_some, opD1_some, RD_call, callQD_clo, RD_guard, gdD_tt, gdD_ff, gdD_tf, gdD_ft, gdD_un, psh_nil, psh_cons, Apt_nil, Apt_nilT, Apt_true, Apt_false, Dis_def, runT_val, runT_rd, runT_wr, runT_new, runT_mv, ex, put_some, put_none, ev_t, ev_c, argF_zero, argF_succ, set_g, set_n, cells_v, cells_sl, cells_agg, cells_own, cells_ptr, cells_clo, cells_eptr, cells_mp, putc, exBslice, lfill, exField, exIdxV, exIdxP, exBox, exAlloc, exLoad, exStore, exFieldA, exIdxA, exLen, exPick, exUn, exBeq, exMM, exSeq, seqGo, exExt, binV, intOp, subc, AV.solid, S0, encI, encB, e1, e2, e5, e6, g0, encDet, hdiv, w0, hI]
    refine CallR.pure (hh h (by omega)) (cl_cons (closed_Det d) (cl_cons (closed_Ts T) (cl_cons (closed_I _) cl_nil))) (closed_Ts _) ?_
    simp [AW_seq, AW_reg, AW_regD, AW_block, AW_cond, AW_skip, AW_exit, AW_ret, AW_scp, condR_true, condR_false, AThen_normal, AThen_ret, AThen_exit, ABlock_normal, ABlock_ret, ABlock_exit, AScope_normal, AScope_ret, AScope_exit, RetK_ret, RetK_normal, retAV_one, retAV_two, retAV_three, retAV_nil, RG_nil, RG_op, RG_guard, gdR_tt, gdR_ff, gdR_tf, gdR_ft, gdR_un, RG_call, callQ_clo, contK_ap, opR_some, RD_nil, RD_op0, RD_op1, opD0_some, opD1_some, RD_call, callQD_clo, RD_guard, gdD_tt, gdD_ff, gdD_tf, gdD_ft, gdD_un, psh_nil, psh_cons, Apt_nil, Apt_nilT, Apt_true, Apt_false, Dis_def, runT_val, runT_rd, runT_wr, runT_new, runT_mv, ex, put_some, put_none, ev_t, ev_c, argF_zero, argF_succ, set_g, set_n, cells_v, cells_sl, cells_agg, cells_own, cells_ptr, cells_clo, cells_eptr, cells_mp, putc, exBslice, lfill, exField, exIdxV, exIdxP, exBox, exAlloc, exLoad, exStore, exFieldA, exIdxA, exLen, exPick, exUn, exBeq, exMM, exSeq, seqGo, exExt, binV, intOp, subc, AV.solid, S0, encI, encB]
    refine ah_mid (out := anyAt d T h) (x := halvesF d T h) (T := T) (d := d) (h := h) (q := q) (by rw [halvesF_len, anyAt_len, hT]) (by rw [anyAt_len, hT]; exact hn2) ?_ ?_
    · refine ⟨0, by omega, rfl, ⟨?_, ?_, ?_, ?_, ?_, ?_, ?_, ?_, ne⟩⟩
      · simp [put_some, e1]
      · simp [put_some, e2]
      · simp [put_some, e5, mixT_len]
      · simp [put_some, e6]
      · simp [put_some]
      · simp [put_some, encI]
      · simp [g0]
      · simp [gq, mixT_zero]
    · intro f' S' st
      obtain ⟨e1, e2, e5, e6, e7, e8, g0, gq, ne⟩ := st
      simp [AW_seq, AW_reg, AW_regD, AW_block, AW_cond, AW_skip, AW_exit, AW_ret, AW_scp, condR_true, condR_false, AThen_normal, AThen_ret, AThen_exit, ABlock_normal, ABlock_ret, ABlock_exit, AScope_normal, AScope_ret, AScope_exit, RetK_ret, RetK_normal, retAV_one, retAV_two, retAV_three, retAV_nil, RG_nil, RG_op, RG_guard, gdR_tt, gdR_ff, gdR_tf, gdR_ft, gdR_un, RG_call, callQ_clo, contK_ap, opR_some, RD_nil, RD_op0, RD_op1, opD0_some, opD1_some, RD_call, callQD_clo, RD_guard, gdD_tt, gdD_ff, gdD_tf, gdD_ft, gdD_un, psh_nil, psh_cons, Apt_nil, Apt_nilT, Apt_true, Apt_false, Dis_def, runT_val, runT_rd, runT_wr, runT_new, runT_mv, ex, put_some, put_none, ev_t, ev_c, argF_zero, argF_succ, set_g, set_n, cells_v, cells_sl, cells_agg, cells_own, cells_ptr, cells_clo, cells_eptr, cells_mp, putc, exBslice, lfill, exField, exIdxV, exIdxP, exBox, exAlloc, exLoad, exStore, exFieldA, exIdxA, exLen, exPick, exUn, exBeq, exMM, exSeq, seqGo, exExt, binV, intOp, subc, AV.solid, S0, encI, encB, e6]
      rw [wrap_in _ (by omega)]
      refine ⟨(d.signs / 2).toNat - (h + 1), by omega, h + 1, by omega, rfl, ?_⟩
      rw [anyAt_succ]
      refine ⟨?_, ?_, ?_, ?_, ?_, ?_, ne⟩
      · simp [put_some, e1]
      · simp [put_some, e2]
      · simp [put_some, e5]
      · simp [put_some, encI]
      · simp [g0]
      · simp [gq]
  · have : h = (d.signs / 2).toNat := by omega
    subst this
    have hI : ¬ max (d.signs / 2) 0 < d.signs / 2 := by omega
    simp [AW_seq, AW_reg, AW_regD, AW_block, AW_cond, AW_skip, AW_exit, AW_ret, AW_scp, condR_true, condR_false, AThen_normal, AThen_ret, AThen_exit, ABlock_normal, ABlock_ret, ABlock_exit, AScope_normal, AScope_ret, AScope_exit, RetK_ret, RetK_normal, retAV_one, retAV_two, retAV_three, retAV_nil, RG_nil, RG_op, RG_guard, gdR_tt, gdR_ff, gdR_tf, gdR_ft, gdR_un, RG_call, callQ_clo, contK_ap, opR_some, RD_nil, RD_op0, RD_op1, opD0_some, opD1_some, RD_call, callQD_clo, RD_guard, gdD_tt, gdD_ff, gdD_tf, gdD_ft, gdD_un, psh_nil, psh_cons, Apt_nil, Apt_nilT, Apt_true, Apt_false, Dis_def, runT_val, runT_rd, runT_wr, runT_new, runT_mv, ex, put_some, put_none, ev_t, ev_c, argF_zero, argF_succ, set_g, set_n, cells_v, cells_sl, cells_agg, cells_own, cells_ptr, cells_clo, cells_eptr, cells_mp, putc, exBslice, lfill, exField, exIdxV, exIdxP, exBox, exAlloc, exLoad, exStore, exFieldA, exIdxA, exLen, exPick, exUn, exBeq, exMM, exSeq, seqGo, exExt, binV, intOp, subc, AV.solid, S0, encI, encB, e1, e2, e5, e6, g0, encDet, hdiv, w0, hI]
    refine hq _ _ ⟨?_, ?_, ?_, ?_, ?_, ?_, ne⟩
    · simp [put_some, e1]
    · simp [put_some, e2]
    · simp [put_some, e5, anyAt, anyF]
    · simp [put_some, e6]
    · simp [g0]
    · simp [gq, anyAt, anyF]
theorem caesuraref18_anyHalf_body {P : Program} {fh : FuncId} {d : Det} (R : RightD d) {T : List Tri} (hT : T.length = d.next.length)
    (hh : ∀ h : Nat, ((2 * h + 1 : Nat) : Int) < d.signs → PureC P fh [encDet d, encTs T, encI h] (encTs (halvesF d T h))) :
    AW P (c_caesuraref18_anyHalf fh) (RetK [4] (FzK (encTs (anyF d T)))) (argF [encDet d, encTs T]) S0 := by
  have hn2 := R.n2
  have q1 : (T.length : Int) ≤ 9223372036854775807 := by omega
  have q2 : 3 * (T.length : Int) ≤ 281474976710656 := by omega
  simp [AW_seq, AW_reg, AW_regD, AW_block, AW_cond, AW_skip, AW_exit, AW_ret, AW_scp, condR_true, condR_false, AThen_normal, AThen_ret, AThen_exit, ABlock_normal, ABlock_ret, ABlock_exit, AScope_normal, AScope_ret, AScope_exit, RetK_ret, RetK_normal, retAV_one, retAV_two, retAV_three, retAV_nil, RG_nil, RG_op, RG_guard, gdR_tt, gdR_ff, gdR_tf, gdR_ft, gdR_un, RG_call, callQ_clo, contK_ap, opR_some, RD_nil, RD_op0, RD_op1, opD0_some, opD1_some, RD_call, callQD_clo, RD_guard, gdD_tt, gdD_ff, gdD_tf, gdD_ft, gdD_un, psh_nil, psh_cons, Apt_nil, Apt_nilT, Apt_true, Apt_false, Dis_def, runT_val, runT_rd, runT_wr, runT_new, runT_mv, ex, put_some, put_none, ev_t, ev_c, argF_zero, argF_succ, set_g, set_n, cells_v, cells_sl, cells_agg, cells_own, cells_ptr, cells_clo, cells_eptr, cells_mp, putc, exBslice, lfill, exField, exIdxV, exIdxP, exBox, exAlloc, exLoad, exStore, exFieldA, exIdxA, exLen, exPick, exUn, exBeq, exMM, exSeq, seqGo, exExt, binV, intOp, subc, AV.solid, S0, encI, encB, c_caesuraref18_anyHalf, encDet, encTs, exMks, q1, q2]
  change AW _ _ (AThen _ _) _ _
  refine ah_out R hT (q := 4) hh ?_ ?_
  · refine ⟨0, by omega, rfl, ⟨?_, ?_, ?_, ?_, ?_, ?_, by omega⟩⟩
    · simp [put_some, argF_zero, argF_succ, encTs]
    · simp [put_some]
    · simp [put_some, anyAt]
    · simp [put_some, encI]
    · simp [set_g, encDet, encI]
    · simp [set_g, anyAt, Tri.no, encT, encB]
  · intro f S st
    simp [AW_seq, AW_reg, AW_regD, AW_block, AW_cond, AW_skip, AW_exit, AW_ret, AW_scp, condR_true, condR_false, AThen_normal, AThen_ret, AThen_exit, ABlock_normal, ABlock_ret, ABlock_exit, AScope_normal, AScope_ret, AScope_exit, RetK_ret, RetK_normal, retAV_one, retAV_two, retAV_three, retAV_nil, RG_nil, RG_op, RG_guard, gdR_tt, gdR_ff, gdR_tf, gdR_ft, gdR_un, RG_call, callQ_clo, contK_ap, opR_some, RD_nil, RD_op0, RD_op1, opD0_some, opD1_some, RD_call, callQD_clo, RD_guard, gdD_tt, gdD_ff, gdD_tf, gdD_ft, gdD_un, psh_nil, psh_cons, Apt_nil, Apt_nilT, Apt_true, Apt_false, Dis_def, runT_val, runT_rd, runT_wr, runT_new, runT_mv, ex, put_some, put_none, ev_t, ev_c, argF_zero, argF_succ, set_g, set_n, cells_v, cells_sl, cells_agg, cells_own, cells_ptr, cells_clo, cells_eptr, cells_mp, putc, exBslice, lfill, exField, exIdxV, exIdxP, exBox, exAlloc, exLoad, exStore, exFieldA, exIdxA, exLen, exPick, exUn, exBeq, exMM, exSeq, seqGo, exExt, binV, intOp, subc, AV.solid, S0, encI, encB, st.e5]
    exact Vec.fz (Vec.mk' st.gq (by simp)) closed_T
def lenG (d : Det) : Nat → Nat → List Tri → Int
  | 0, _, _ => -1
  | f + 1, n, T => if endsF d T = true then (n : Int) else lenG d f (n + 1) (anyF d T)
def lenF (d : Det) (T : List Tri) : Int := lenG d (3 * d.next.length + 1) 0 T
def lnI (d : Det) (r : Int) (m : Nat) (f : AF) (S : St) : Prop :=
  ∃ (n : Nat) (T : List Tri), n ≤ 3 * d.next.length + 1 ∧ m = 3 * d.next.length + 1 - n ∧ f 1 = encTs T ∧ f 2 = .ptr 0 0 0 ∧ f 5 = encI n ∧ S.g 0 = some (.arr 3 [encDet d]) ∧ T.length = d.next.length ∧ lenG d (3 * d.next.length + 1 - n) n T = r
theorem caesuraref18_length_body {P : Program} {fe fa : FuncId} {d : Det} (R : RightD d) {T : List Tri} (hT : T.length = d.next.length)
    (he : ∀ T : List Tri, T.length = d.next.length → PureC P fe [encDet d, encTs T] (encB (endsF d T))) (ha : ∀ T : List Tri, T.length = d.next.length → PureC P fa [encDet d, encTs T] (encTs (anyF d T))) :
    AW P (c_caesuraref18_length fe fa) (RetK [4] (FzK (encI (lenF d T)))) (argF [encDet d, encTs T]) S0 := by
  have hn2 := R.n2
  have cd := closed_Det d
  simp [AW_seq, AW_reg, AW_regD, AW_block, AW_cond, AW_skip, AW_exit, AW_ret, AW_scp, condR_true, condR_false, AThen_normal, AThen_ret, AThen_exit, ABlock_normal, ABlock_ret, ABlock_exit, AScope_normal, AScope_ret, AScope_exit, RetK_ret, RetK_normal, retAV_one, retAV_two, retAV_three, retAV_nil, RG_nil, RG_op, RG_guard, gdR_tt, gdR_ff, gdR_tf, gdR_ft, gdR_un, RG_call, callQ_clo, contK_ap, opR_some, RD_nil, RD_op0, RD_op1, opD0_some, opD1_some, RD_call, callQD_clo, RD_guard, gdD_tt, gdD_ff, gdD_tf, gdD_ft, gdD_un, psh_nil, psh_cons, Apt_nil, Apt_nilT, Apt_true, Apt_false, Dis_def, runT_val, runT_rd, runT_wr, runT_new, runT_mv, ex, put_some, put_none, ev_t, ev_c, argF_zero, argF_succ, set_g, set_n, cells_v, cells_sl, cells_agg, cells_own, cells_ptr, cells_clo, cells_eptr, cells_mp, putc, exBslice, lfill, exField, exIdxV, exIdxP, exBox, exAlloc, exLoad, exStore, exFieldA, exIdxA, exLen, exPick, exUn, exBeq, exMM, exSeq, seqGo, exExt, binV, intOp, subc, AV.solid, S0, encI, encB, c_caesuraref18_length, encDet]
  refine AW_loop (lnI d (lenF d T)) (3 * d.next.length + 1) ?_ ?_
  · refine ⟨0, T, by omega, rfl, ?_, ?_, ?_, ?_, hT, rfl⟩
    · simp [put_some, argF_zero, argF_succ]
    · simp [put_some]
    · simp [put_some, encI]
    · simp [set_g, encDet, encI]
  · rintro m f S ⟨n, U, hn, rfl, e1, e2, e5, g0, hU, hr⟩
    have w0 : IntKind.i64.wrap (3 * (d.next.length : Int)) = 3 * (d.next.length : Int) := wrap_in _ (by omega)
    by_cases hlt : n ≤ 3 * d.next.length
    · have hI : (n : Int) ≤ 3 * d.next.length := by omega
      obtain ⟨k, hk⟩ : ∃ k, 3 * d.next.length + 1 - n = k + 1 := ⟨3 * d.next.length - n, by omega⟩
      rw [hk, lenG] at hr
      simp [AW_seq, AW_reg, AW_regD, AW_block, AW_cond, AW_skip, AW_exit, AW_ret, AW_scp, condR_true, condR_false, AThen_normal, AThen_ret, AThen_exit, ABlock_normal, ABlock_ret, ABlock_exit, AScope_normal, AScope_ret, AScope_exit, RetK_ret, RetK_normal, retAV_one, retAV_two, retAV_three, retAV_nil, RG_nil, RG_op, RG_guard, gdR_tt, gdR_ff, gdR_tf, gdR_ft, gdR_un, RG_call, callQ_clo, contK_ap, opR_some, RD_nil, RD_op0, RD_op1, opD0_some, opD1_some, RD_call, callQD_clo, RD_guard, gdD_tt, gdD_ff, gdD_tf, gdD_ft, gdD_un, psh_nil, psh_cons, Apt_nil, Apt_nilT, Apt_true, Apt_false, Dis_def, runT_val, runT_rd, runT_wr, runT_new, runT_mv, ex, put_some, put_none, ev_t, ev_c, argF_zero, argF_succ, set_g, set_n, cells_v, cells_sl, cells_agg, cells_own, cells_ptr, cells_clo, cells_eptr, cells_mp, putc, exBslice, lfill, exField, exIdxV, exIdxP, exBox, exAlloc, exLoad, exStore, exFieldA, exIdxA, exLen, exPick, exUn, exBeq, exMM, exSeq, seqGo, exExt, binV, intOp, subc, AV.solid, S0, encI, encB, e1, e2, e5, g0, encDet, encIss, w0, hI]
      refine CallR.pure (he U hU) (cl_cons cd (cl_cons (closed_Ts U) cl_nil)) (closed_B _) ?_
      cases hend : endsF d U with
      | true =>
        rw [hend, if_pos rfl] at hr
        simp [AW_seq, AW_reg, AW_regD, AW_block, AW_cond, AW_skip, AW_exit, AW_ret, AW_scp, condR_true, condR_false, AThen_normal, AThen_ret, AThen_exit, ABlock_normal, ABlock_ret, ABlock_exit, AScope_normal, AScope_ret, AScope_exit, RetK_ret, RetK_normal, retAV_one, retAV_two, retAV_three, retAV_nil, RG_nil, RG_op, RG_guard, gdR_tt, gdR_ff, gdR_tf, gdR_ft, gdR_un, RG_call, callQ_clo, contK_ap, opR_some, RD_nil, RD_op0, RD_op1, opD0_some, opD1_some, RD_call, callQD_clo, RD_guard, gdD_tt, gdD_ff, gdD_tf, gdD_ft, gdD_un, psh_nil, psh_cons, Apt_nil, Apt_nilT, Apt_true, Apt_false, Dis_def, runT_val, runT_rd, runT_wr, runT_new, runT_mv, ex, put_some, put_none, ev_t, ev_c, argF_zero, argF_succ, set_g, set_n, cells_v, cells_sl, cells_agg, cells_own, cells_ptr, cells_clo, cells_eptr, cells_mp, putc, exBslice, lfill, exField, exIdxV, exIdxP, exBox, exAlloc, exLoad, exStore, exFieldA, exIdxA, exLen, exPick, exUn, exBeq, exMM, exSeq, seqGo, exExt, binV, intOp, subc, AV.solid, S0, encI, encB, e5]
        rw [← hr]
        exact FzK_I _ _
      | false =>
        rw [hend] at hr
        simp only [Bool.false_eq_true, if_false] at hr
        simp [AW_seq, AW_reg, AW_regD, AW_block, AW_cond, AW_skip, AW_exit, AW_ret, AW_scp, condR_true, condR_false, AThen_normal, AThen_ret, AThen_exit, ABlock_normal, ABlock_ret, ABlock_exit, AScope_normal, AScope_ret, AScope_exit, RetK_ret, RetK_normal, retAV_one, retAV_two, retAV_three, retAV_nil, RG_nil, RG_op, RG_guard, gdR_tt, gdR_ff, gdR_tf, gdR_ft, gdR_un, RG_call, callQ_clo, contK_ap, opR_some, RD_nil, RD_op0, RD_op1, opD0_some, opD1_some, RD_call, callQD_clo, RD_guard, gdD_tt, gdD_ff, gdD_tf, gdD_ft, gdD_un, psh_nil, psh_cons, Apt_nil, Apt_nilT, Apt_true, Apt_false, Dis_def, runT_val, runT_rd, runT_wr, runT_new, runT_mv, ex, put_some, put_none, ev_t, ev_c, argF_zero, argF_succ, set_g, set_n, cells_v, cells_sl, cells_agg, cells_own, cells_ptr, cells_clo, cells_eptr, cells_mp, putc, exBslice, lfill, exField, exIdxV, exIdxP, exBox, exAlloc, exLoad, exStore, exFieldA, exIdxA, exLen, exPick, exUn, exBeq, exMM, exSeq, seqGo, exExt, binV, intOp, subc, AV.solid, S0, encI, encB, e1, e2, e5, g0, encDet, encIss]
        refine CallR.pure (ha U hU) (cl_cons cd (cl_cons (closed_Ts U) cl_nil)) (closed_Ts _) ?_
        simp [AW_seq, AW_reg, AW_regD, AW_block, AW_cond, AW_skip, AW_exit, AW_ret, AW_scp, condR_true, condR_false, AThen_normal, AThen_ret, AThen_exit, ABlock_normal, ABlock_ret, ABlock_exit, AScope_normal, AScope_ret, AScope_exit, RetK_ret, RetK_normal, retAV_one, retAV_two, retAV_three, retAV_nil, RG_nil, RG_op, RG_guard, gdR_tt, gdR_ff, gdR_tf, gdR_ft, gdR_un, RG_call, callQ_clo, contK_ap, opR_some, RD_nil, RD_op0, RD_op1, opD0_some, opD1_some, RD_call, callQD_clo, RD_guard, gdD_tt, gdD_ff, gdD_tf, gdD_ft, gdD_un, psh_nil, psh_cons, Apt_nil, Apt_nilT, Apt_true, Apt_false, Dis_def, runT_val, runT_rd, runT_wr, runT_new, runT_mv, ex, put_some, put_none, ev_t, ev_c, argF_zero, argF_succ, set_g, set_n, cells_v, cells_sl, cells_agg, cells_own, cells_ptr, cells_clo, cells_eptr, cells_mp, putc, exBslice, lfill, exField, exIdxV, exIdxP, exBox, exAlloc, exLoad, exStore, exFieldA, exIdxA, exLen, exPick, exUn, exBeq, exMM, exSeq, seqGo, exExt, binV, intOp, subc, AV.solid, S0, encI, encB, e5]
        rw [wrap_in _ (by omega)]
        refine ⟨k, by omega, n + 1, anyF d U, by omega, by omega, ?_, ?_, ?_, ?_, by rw [anyF_len, hU], ?_⟩
        · simp [put_some]
        · simp [put_some, e2]
        · simp [put_some, encI]
        · simp [g0, encDet, encI, encIss]
        · have : 3 * d.next.length + 1 - (n + 1) = k := by omega
          rw [this]; exact hr
    · have hI : ¬ (n : Int) ≤ 3 * d.next.length := by omega
      have hz : 3 * d.next.length + 1 - n = 0 := by omega
      rw [hz, lenG] at hr
      simp [AW_seq, AW_reg, AW_regD, AW_block, AW_cond, AW_skip, AW_exit, AW_ret, AW_scp, condR_true, condR_false, AThen_normal, AThen_ret, AThen_exit, ABlock_normal, ABlock_ret, ABlock_exit, AScope_normal, AScope_ret, AScope_exit, RetK_ret, RetK_normal, retAV_one, retAV_two, retAV_three, retAV_nil, RG_nil, RG_op, RG_guard, gdR_tt, gdR_ff, gdR_tf, gdR_ft, gdR_un, RG_call, callQ_clo, contK_ap, opR_some, RD_nil, RD_op0, RD_op1, opD0_some, opD1_some, RD_call, callQD_clo, RD_guard, gdD_tt, gdD_ff, gdD_tf, gdD_ft, gdD_un, psh_nil, psh_cons, Apt_nil, Apt_nilT, Apt_true, Apt_false, Dis_def, runT_val, runT_rd, runT_wr, runT_new, runT_mv, ex, put_some, put_none, ev_t, ev_c, argF_zero, argF_succ, set_g, set_n, cells_v, cells_sl, cells_agg, cells_own, cells_ptr, cells_clo, cells_eptr, cells_mp, putc, exBslice, lfill, exField, exIdxV, exIdxP, exBox, exAlloc, exLoad, exStore, exFieldA, exIdxA, exLen, exPick, exUn, exBeq, exMM, exSeq, seqGo, exExt, binV, intOp, subc, AV.solid, S0, encI, encB, e1, e2, e5, g0, encDet, encIss, w0, hI]
      rw [← hr]
      exact FzK_I _ _
end Go.Rf
set_option linter.unusedVariables false
set_option linter.unusedSimpArgs false
namespace Go.Rf
theorem evenT_eq (d : Det) (h i : Nat) : evenT d h i = stepD d i (2 * (h : Int)) := by
  unfold evenT stepD
  have : (2 * (h : Int)).toNat = 2 * h := by omega
  rw [this]
theorem oddT_eq (d : Det) (h i : Nat) : oddT d h i = stepD d i (2 * (h : Int) + 1) := by
  unfold oddT stepD
  have : (2 * (h : Int) + 1).toNat = 2 * h + 1 := by omega
  rw [this]
theorem hs_markT {T : List Tri} {i k : Nat} (hi : i < T.length) (hk : k < 3) (j : Nat) : hs (markT T i k) j = (hs T j || decide (j = 3 * i + k)) := by
  unfold hs markT
  simp only [List.getD_eq_getElem?_getD, List.getElem?_set]
  by_cases hji : i = j / 3
  · subst hji
    rw [if_pos rfl, if_pos hi]
    simp only [Option.getD_some]
    generalize (T[j / 3]?).getD Tri.no = t
    unfold Tri.put Tri.at
    have hj3 : j % 3 < 3 := Nat.mod_lt _ (by omega)
    by_cases hjk : j % 3 = k
    · have : j = 3 * (j / 3) + k := by omega
      rw [decide_eq_true this]
      subst hjk
      rcases (by omega : j % 3 = 0 ∨ j % 3 = 1 ∨ j % 3 = 2) with h | h | h <;> simp [h]
    · have : ¬ j = 3 * (j / 3) + k := by omega
      rw [decide_eq_false this]
      rcases (by omega : j % 3 = 0 ∨ j % 3 = 1 ∨ j % 3 = 2) with h | h | h <;> rcases (by omega : k = 0 ∨ k = 1 ∨ k = 2) with g | g | g <;> simp_all
  · rw [if_neg hji]
    have : ¬ j = 3 * i + k := by omega
    rw [decide_eq_false this, Bool.or_false]
theorem hs_no (n j : Nat) : hs (List.replicate n .no) j = false := by
  unfold hs
  have : (List.replicate n Tri.no).getD (j / 3) .no = .no := by
    simp only [List.getD_eq_getElem?_getD, List.getElem?_replicate]; split <;> rfl
  rw [this]
  unfold Tri.at Tri.no
  split <;> (try split) <;> rfl
theorem hs_at (T : List Tri) (i : Nat) : hs T (3 * i) = (T.getD i .no).a ∧ hs T (3 * i + 1) = (T.getD i .no).b ∧ hs T (3 * i + 2) = (T.getD i .no).c := by
  refine ⟨?_, ?_, ?_⟩
  · unfold hs; have h1 : 3 * i / 3 = i := by omega
    have h2 : 3 * i % 3 = 0 := by omega
    rw [h1, h2]; rfl
  · unfold hs; have h1 : (3 * i + 1) / 3 = i := by omega
    have h2 : (3 * i + 1) % 3 = 1 := by omega
    rw [h1, h2]; rfl
  · unfold hs; have h1 : (3 * i + 2) / 3 = i := by omega
    have h2 : (3 * i + 2) % 3 = 2 := by omega
    rw [h1, h2]; rfl
theorem hs_hstep {d : Det} (R : RightD d) {h : Nat} (hh : ((2 * h + 1 : Nat) : Int) < d.signs) {T out : List Tri} (ho : out.length = d.next.length) {i : Nat} (hi : i < d.next.length) (j : Nat) :
    hs (hstep d h T out i) j = true ↔ hs out j = true ∨ ∃ ph, ph < 3 ∧ hs T (3 * i + ph) = true ∧ stepH d (3 * i + ph) h j := by
  have he : evenT d h i < d.next.length := by rw [evenT_eq]; exact stepD_lt R hi (by omega) (by omega)
  have hod : oddT d h i < d.next.length := by rw [oddT_eq]; exact stepD_lt R hi (by omega) (by omega)
  obtain ⟨a0, a1, a2⟩ := hs_at T i
  have l1 : (hstep1 d h (T.getD i .no) (evenT d h i) out).length = d.next.length := by unfold hstep1; split <;> simp [markT_len, ho]
  have l2 : (hstep2 (T.getD i .no) (oddT d h i) (hstep1 d h (T.getD i .no) (evenT d h i) out)).length = d.next.length := by
    unfold hstep2; split
    · rw [markT_len]; exact l1
    · exact l1
  have s1 : hs (hstep1 d h (T.getD i .no) (evenT d h i) out) j = (hs out j || (((T.getD i .no).a || (T.getD i .no).b) && decide (j = 3 * evenT d h i + 1))) := by
    unfold hstep1; split
    · rename_i hc; rw [hs_markT (by omega) (by omega), hc, Bool.true_and]
    · rename_i hc; simp only [Bool.not_eq_true] at hc; rw [hc]; simp
  have s2 : hs (hstep2 (T.getD i .no) (oddT d h i) (hstep1 d h (T.getD i .no) (evenT d h i) out)) j = (hs (hstep1 d h (T.getD i .no) (evenT d h i) out) j || ((T.getD i .no).b && decide (j = 3 * oddT d h i + 2))) := by
    unfold hstep2; split
    · rename_i hc; rw [hs_markT (by omega) (by omega), hc, Bool.true_and]
    · rename_i hc; simp only [Bool.not_eq_true] at hc; rw [hc]; simp
  have s3 : hs (hstep d h T out i) j = (hs (hstep2 (T.getD i .no) (oddT d h i) (hstep1 d h (T.getD i .no) (evenT d h i) out)) j || ((T.getD i .no).c && decide (j = 3 * evenT d h i + 2))) := by
    unfold hstep hstep3; split
    · rename_i hc; rw [hs_markT (by omega) (by omega), hc, Bool.true_and]
    · rename_i hc; simp only [Bool.not_eq_true] at hc; rw [hc]; simp
  rw [s3, s2, s1]
  simp only [Bool.or_eq_true, Bool.and_eq_true, decide_eq_true_eq]
  rw [← a0, ← a1, ← a2, evenT_eq, oddT_eq]
  have st := fun ph (hp : ph < 3) => stepH_iff R hi hp (h := (h : Int)) (j := j)
  constructor
  · rintro (((h1 | ⟨h1, h2⟩) | ⟨h1, h2⟩) | ⟨h1, h2⟩)
    · exact .inl h1
    · rcases h1 with h1 | h1
      · exact .inr ⟨0, by omega, h1, (st 0 (by omega)).mpr (.inl ⟨by omega, by rw [h2]; rfl⟩)⟩
      · exact .inr ⟨1, by omega, h1, (st 1 (by omega)).mpr (.inl ⟨by omega, by rw [h2]; rfl⟩)⟩
    · exact .inr ⟨1, by omega, h1, (st 1 (by omega)).mpr (.inr ⟨rfl, by omega, h2⟩)⟩
    · exact .inr ⟨2, by omega, h1, (st 2 (by omega)).mpr (.inl ⟨by omega, by rw [h2]; rfl⟩)⟩
  · rintro (h1 | ⟨ph, hp, h1, h2⟩)
    · exact .inl (.inl (.inl h1))
    · rcases (by omega : ph = 0 ∨ ph = 1 ∨ ph = 2) with rfl | rfl | rfl
      · rcases (st 0 (by omega)).mp h2 with ⟨_, h3⟩ | ⟨h3, _⟩
        · exact .inl (.inl (.inr ⟨.inl h1, by rw [h3]; rfl⟩))
        · omega
      · rcases (st 1 (by omega)).mp h2 with ⟨_, h3⟩ | ⟨_, _, h3⟩
        · exact .inl (.inl (.inr ⟨.inr h1, by rw [h3]; rfl⟩))
        · exact .inl (.inr ⟨h1, h3⟩)
      · rcases (st 2 (by omega)).mp h2 with ⟨_, h3⟩ | ⟨h3, _⟩
        · exact .inr ⟨h1, by rw [h3]; rfl⟩
        · omega
theorem hs_fold {d : Det} (R : RightD d) {h : Nat} (hh : ((2 * h + 1 : Nat) : Int) < d.signs) {T : List Tri} (j : Nat) : ∀ (k : Nat), k ≤ d.next.length →
    (hs ((List.range k).foldl (hstep d h T) (List.replicate d.next.length .no)) j = true ↔ ∃ i, i < 3 * k ∧ hs T i = true ∧ stepH d i h j)
  | 0, _ => by simp [hs_no]
  | k + 1, hk => by
    rw [List.range_succ, List.foldl_append, List.foldl_cons, List.foldl_nil, hs_hstep R hh (by rw [fold_len]; simp) (by omega), hs_fold R hh j k (by omega)]
    constructor
    · rintro (⟨i, h1, h2, h3⟩ | ⟨ph, h1, h2, h3⟩)
      · exact ⟨i, by omega, h2, h3⟩
      · exact ⟨3 * k + ph, by omega, h2, h3⟩
    · rintro ⟨i, h1, h2, h3⟩
      by_cases hik : i < 3 * k
      · exact .inl ⟨i, hik, h2, h3⟩
      · exact .inr ⟨i - 3 * k, by omega, by rw [show 3 * k + (i - 3 * k) = i by omega]; exact h2, by rw [show 3 * k + (i - 3 * k) = i by omega]; exact h3⟩
theorem hs_halves {d : Det} (R : RightD d) {h : Nat} (hh : ((2 * h + 1 : Nat) : Int) < d.signs) (T : List Tri) (j : Nat) : hs (halvesF d T h) j = true ↔ ∃ i, i < 3 * d.next.length ∧ hs T i = true ∧ stepH d i h j :=
  hs_fold R hh j d.next.length (Nat.le_refl _)
theorem hs_orTs {out x : List Tri} (hl : x.length = out.length) (j : Nat) : hs (orTs out x) j = (hs out j || hs x j) := by
  unfold hs orTs mixT
  simp only [List.getD_eq_getElem?_getD, List.getElem?_mapIdx]
  by_cases hj : j / 3 < out.length
  · have hx : j / 3 < x.length := by omega
    simp only [List.getElem?_eq_getElem hj, List.getElem?_eq_getElem hx, Option.map_some, Option.getD_some, if_pos hj]
    unfold Tri.at orT
    split <;> (try split) <;> rfl
  · have hx : ¬ j / 3 < x.length := by omega
    simp only [List.getElem?_eq_none (Nat.le_of_not_lt hj), List.getElem?_eq_none (Nat.le_of_not_lt hx), Option.map_none, Option.getD_none]
    unfold Tri.at Tri.no
    split <;> (try split) <;> rfl
theorem hs_anyAt {d : Det} (R : RightD d) {T : List Tri} (hT : T.length = d.next.length) (j : Nat) : ∀ (k : Nat), k ≤ (d.signs / 2).toNat → (hs (anyAt d T k) j = true ↔ ∃ h : Nat, h < k ∧ ∃ i, i < 3 * d.next.length ∧ hs T i = true ∧ stepH d i h j)
  | 0, _ => by simp [anyAt, hs_no]
  | k + 1, hk => by
    rw [anyAt_succ, hs_orTs (by rw [halvesF_len, anyAt_len, hT]), Bool.or_eq_true, hs_anyAt R hT j k (by omega), hs_halves R (by have := R.s1; omega)]
    constructor
    · rintro (⟨h, h1, h2⟩ | h2)
      · exact ⟨h, by omega, h2⟩
      · exact ⟨k, by omega, h2⟩
    · rintro ⟨h, h1, h2⟩
      by_cases hhk : h < k
      · exact .inl ⟨h, hhk, h2⟩
      · obtain rfl : h = k := by omega
        exact .inr h2
theorem edge_half {d : Det} (R : RightD d) (hev : d.signs % 2 = 0) {i j : Nat} (hi : i < 3 * d.next.length) : (pg d).edge i j ↔ ∃ h : Nat, h < (d.signs / 2).toNat ∧ stepH d i h j := by
  constructor
  · rintro ⟨row, r1, r2⟩
    rw [pg_row hi] at r1; cases r1
    obtain ⟨a, ha, he⟩ := List.mem_iff_getElem.mp r2
    have hg : (pgRow d i)[a]? = some (j : Int) := by rw [List.getElem?_eq_getElem ha, he]
    have hp := pgRow_at R (s := i / 3) (ph := i % 3) (by omega) (by omega) a
    rw [show 3 * (i / 3) + i % 3 = i by omega, hg] at hp
    split at hp
    · rename_i hs
      exact ⟨a / 2, by have := R.s1; omega, a, rfl, hg⟩
    · cases hp
  · rintro ⟨h, _, hs⟩
    exact (stepH_lt R hi hs).2.1
theorem hs_any {d : Det} (R : RightD d) (hev : d.signs % 2 = 0) {T : List Tri} (hT : T.length = d.next.length) (j : Nat) : hs (anyF d T) j = true ↔ ∃ i, i < 3 * d.next.length ∧ hs T i = true ∧ (pg d).edge i j := by
  have h := hs_anyAt R hT j (d.signs / 2).toNat (Nat.le_refl _)
  rw [show anyF d T = anyAt d T (d.signs / 2).toNat from rfl, h]
  constructor
  · rintro ⟨h, h1, i, h2, h3, h4⟩
    exact ⟨i, h2, h3, (edge_half R hev h2).mpr ⟨h, h1, h4⟩⟩
  · rintro ⟨i, h2, h3, h4⟩
    obtain ⟨h, h1, h5⟩ := (edge_half R hev h2).mp h4
    exact ⟨h, h1, i, h2, h3, h5⟩
theorem ends_iff {d : Det} (T : List Tri) : endsF d T = true ↔ ∃ i, i < 3 * d.next.length ∧ hs T i = true ∧ (pg d).isEnd i = true := by
  unfold endsF
  rw [List.any_eq_true]
  constructor
  · rintro ⟨i, h1, h2⟩
    simp only [List.mem_range] at h1
    rw [Bool.and_eq_true] at h2
    refine ⟨3 * i + 2, by omega, by rw [(hs_at T i).2.2]; exact h2.1, ?_⟩
    rw [pg_end (by omega)]
    unfold pgEnd
    rw [show (3 * i + 2) % 3 = 2 by omega, show (3 * i + 2) / 3 = i by omega, h2.2]
    rfl
  · rintro ⟨i, h1, h2, h3⟩
    rw [pg_end h1] at h3
    unfold pgEnd at h3
    simp only [Bool.and_eq_true, decide_eq_true_eq] at h3
    refine ⟨i / 3, by simp; omega, ?_⟩
    have := (hs_at T (i / 3)).2.2
    rw [show 3 * (i / 3) + 2 = i by omega, h2] at this
    rw [← this, h3.2]; rfl
/-- The nearest of some pairs are at k. -/
structure IsMin (d : Det) (far : List Int) (T : List Tri) (k : Nat) : Prop where
  ex : ∃ i, i < 3 * d.next.length ∧ hs T i = true ∧ rd far i = (k : Int)
  min : ∀ i, i < 3 * d.next.length → hs T i = true → 0 ≤ rd far i → (k : Int) ≤ rd far i
def IsNone (d : Det) (far : List Int) (T : List Tri) : Prop := ∀ i, i < 3 * d.next.length → hs T i = true → rd far i < 0
theorem IsMin.zero {d : Det} {far : List Int} (fo : FarOk (pg d) far) {T : List Tri} (h : IsMin d far T 0) : endsF d T = true := by
  obtain ⟨i, h1, h2, h3⟩ := h.ex
  exact (ends_iff T).mpr ⟨i, h1, h2, (fo.zero i (by rw [pg_n]; exact h1)).mp h3⟩
theorem IsMin.succ {d : Det} (R : RightD d) (hev : d.signs % 2 = 0) {far : List Int} (fo : FarOk (pg d) far) {T : List Tri} (hT : T.length = d.next.length) {k : Nat} (h : IsMin d far T (k + 1)) : endsF d T = false ∧ IsMin d far (anyF d T) k := by
  have hn := pg_n d
  refine ⟨?_, ?_, ?_⟩
  · cases e : endsF d T with
    | false => rfl
    | true =>
      obtain ⟨i, h1, h2, h3⟩ := (ends_iff T).mp e
      have h4 := (fo.zero i (by omega)).mpr h3
      have := h.min i h1 h2 (by omega)
      omega
  · obtain ⟨i, h1, h2, h3⟩ := h.ex
    obtain ⟨t, t1, t2, t3⟩ := fo.pre i (by omega) (by omega)
    exact ⟨t, by omega, (hs_any R hev hT t).mpr ⟨i, h1, h2, t2⟩, by omega⟩
  · intro j h1 h2 h3
    obtain ⟨i, g1, g2, g3⟩ := (hs_any R hev hT j).mp h2
    obtain ⟨s1, s2⟩ := fo.suc i j (by omega) (by omega) g3 h3
    have := h.min i g1 g2 s1
    omega
theorem IsNone.next {d : Det} (R : RightD d) (hev : d.signs % 2 = 0) {far : List Int} (fo : FarOk (pg d) far) {T : List Tri} (hT : T.length = d.next.length) (h : IsNone d far T) : endsF d T = false ∧ IsNone d far (anyF d T) := by
  have hn := pg_n d
  refine ⟨?_, ?_⟩
  · cases e : endsF d T with
    | false => rfl
    | true =>
      obtain ⟨i, h1, h2, h3⟩ := (ends_iff T).mp e
      have h4 := (fo.zero i (by omega)).mpr h3
      have := h i h1 h2
      omega
  · intro j h1 h2
    obtain ⟨i, g1, g2, g3⟩ := (hs_any R hev hT j).mp h2
    have hi := h i g1 g2
    by_cases hc : 0 ≤ rd far j
    · have := (fo.suc i j (by omega) (by omega) g3 hc).1; omega
    · omega
theorem lenG_min {d : Det} (R : RightD d) (hev : d.signs % 2 = 0) {far : List Int} (fo : FarOk (pg d) far) : ∀ (fuel k n : Nat) (T : List Tri), T.length = d.next.length → IsMin d far T k → k < fuel → lenG d fuel n T = ((n + k : Nat) : Int)
  | 0, _, _, _, _, _, h => by omega
  | f + 1, 0, n, T, hT, hm, _ => by rw [lenG, if_pos (hm.zero fo)]; rfl
  | f + 1, k + 1, n, T, hT, hm, hk => by
    obtain ⟨h1, h2⟩ := hm.succ R hev fo hT
    rw [lenG, h1]
    simp only [Bool.false_eq_true, if_false]
    rw [lenG_min R hev fo f k (n + 1) _ (by rw [anyF_len, hT]) h2 (by omega)]
    congr 1; omega
theorem lenG_none {d : Det} (R : RightD d) (hev : d.signs % 2 = 0) {far : List Int} (fo : FarOk (pg d) far) : ∀ (fuel n : Nat) (T : List Tri), T.length = d.next.length → IsNone d far T → lenG d fuel n T = -1
  | 0, _, _, _, _ => rfl
  | f + 1, n, T, hT, hm => by
    obtain ⟨h1, h2⟩ := hm.next R hev fo hT
    rw [lenG, h1]
    simp only [Bool.false_eq_true, if_false]
    exact lenG_none R hev fo f (n + 1) _ (by rw [anyF_len, hT]) h2
theorem min_or {d : Det} (far : List Int) (T : List Tri) : IsNone d far T ∨ ∃ k, IsMin d far T k := by
  by_cases h : ∃ k : Nat, ∃ i, i < 3 * d.next.length ∧ hs T i = true ∧ rd far i = (k : Int)
  · obtain ⟨k, h1, h2⟩ := least_nat h
    refine .inr ⟨k, h1, fun i g1 g2 g3 => ?_⟩
    by_cases hc : (k : Int) ≤ rd far i
    · exact hc
    · exact (h2 (rd far i).toNat (by omega) ⟨i, g1, g2, by omega⟩).elim
  · refine .inl fun i g1 g2 => ?_
    by_cases hc : rd far i < 0
    · exact hc
    · exact (h ⟨(rd far i).toNat, i, g1, g2, by omega⟩).elim
theorem lenF_iff {d : Det} (R : RightD d) (hev : d.signs % 2 = 0) {far : List Int} (fo : FarOk (pg d) far) {T : List Tri} (hT : T.length = d.next.length) (k : Nat) : lenF d T = (k : Int) ↔ IsMin d far T k := by
  have hmin : ∀ k, IsMin d far T k → lenF d T = (k : Int) := by
    intro k hm
    obtain ⟨i, h1, _, h3⟩ := hm.ex
    have := fo.lt i (by rw [pg_n]; exact h1)
    rw [pg_n] at this
    unfold lenF
    rw [lenG_min R hev fo _ k 0 T hT hm (by omega)]
    congr 1; omega
  constructor
  · intro h
    rcases min_or far T with hn | ⟨k', hk⟩
    · have : lenF d T = -1 := lenG_none R hev fo _ 0 T hT hn
      omega
    · have := hmin k' hk
      have e : k' = k := by omega
      rw [← e]; exact hk
  · exact hmin k
theorem lenF_neg {d : Det} (R : RightD d) (hev : d.signs % 2 = 0) {far : List Int} (fo : FarOk (pg d) far) {T : List Tri} (hT : T.length = d.next.length) : (lenF d T = -1 ∧ IsNone d far T) ∨ ∃ k, lenF d T = ((k : Nat) : Int) ∧ IsMin d far T k := by
  rcases min_or far T with hn | ⟨k, hk⟩
  · exact .inl ⟨lenG_none R hev fo _ 0 T hT hn, hn⟩
  · exact .inr ⟨k, (lenF_iff R hev fo hT k).mpr hk, hk⟩
/-- The pairs that path.Marked keeps: the nearest. -/
structure Keeps (d : Det) (far : List Int) (T : List Tri) (at_ : List Int) (k : Nat) : Prop where
  ok : AtOk d far at_ k
  min : IsMin d far T k
  mem : ∀ i : Nat, i < 3 * d.next.length → ((i : Int) ∈ at_ ↔ hs T i = true ∧ rd far i = (k : Int))
theorem Keeps.half {d : Det} (R : RightD d) (hev : d.signs % 2 = 0) {far : List Int} (fo : FarOk (pg d) far) {T : List Tri} (hT : T.length = d.next.length) {at_ : List Int} {k : Nat} (K : Keeps d far T at_ (k + 1)) {h : Nat} (hh : ((2 * h + 1 : Nat) : Int) < d.signs) :
    lenF d (halvesF d T h) = (k : Int) ↔ toL d far at_ h k ≠ [] := by
  have hn := pg_n d
  rw [lenF_iff R hev fo (halvesF_len d T h)]
  constructor
  · intro hm e
    obtain ⟨j, h1, h2, h3⟩ := hm.ex
    obtain ⟨i, g1, g2, g3⟩ := (hs_halves R hh T j).mp h2
    obtain ⟨s1, s2, _⟩ := stepH_lt R g1 g3
    obtain ⟨u1, u2⟩ := fo.suc i j (by omega) (by omega) s2 (by omega)
    have := K.min.min i g1 g2 u1
    have hia : (i : Int) ∈ at_ := (K.mem i g1).mpr ⟨g2, by omega⟩
    have : (j : Int) ∈ toL d far at_ h k := (mem_toL (K.ok.low R)).mpr ⟨j, rfl, h3, i, hia, by simpa using g3⟩
    rw [e] at this; simp at this
  · intro hne
    obtain ⟨x, hx⟩ := List.exists_mem_of_ne_nil _ hne
    obtain ⟨j, rfl, h3, i, hia, h4⟩ := (mem_toL (K.ok.low R)).mp hx
    obtain ⟨r1, r2⟩ := K.ok.rng i hia
    have hit : ((i.toNat : Nat) : Int) = i := by omega
    have hi3 : i.toNat < 3 * d.next.length := by omega
    obtain ⟨m1, m2⟩ := (K.mem i.toNat hi3).mp (by rw [hit]; exact hia)
    obtain ⟨s1, s2, _⟩ := stepH_lt R hi3 h4
    refine ⟨⟨j, s1, (hs_halves R hh T j).mpr ⟨i.toNat, hi3, m1, h4⟩, h3⟩, fun j' g1 g2 g3 => ?_⟩
    obtain ⟨i', g4, g5, g6⟩ := (hs_halves R hh T j').mp g2
    obtain ⟨t1, t2, _⟩ := stepH_lt R g4 g6
    obtain ⟨u1, u2⟩ := fo.suc i' j' (by omega) (by omega) t2 g3
    have := K.min.min i' g4 g5 u1
    omega
theorem Keeps.next {d : Det} (R : RightD d) (hev : d.signs % 2 = 0) {far : List Int} (fo : FarOk (pg d) far) {T : List Tri} (hT : T.length = d.next.length) {at_ : List Int} {k : Nat} (K : Keeps d far T at_ (k + 1)) {h : Nat} (hh : ((2 * h + 1 : Nat) : Int) < d.signs)
    (hne : toL d far at_ h k ≠ []) : Keeps d far (halvesF d T h) (nextAt d far at_ h k) k := by
  have hn := pg_n d
  refine ⟨K.ok.next R hne, (lenF_iff R hev fo (halvesF_len d T h) k).mp ((K.half R hev fo hT hh).mpr hne), fun j hj => ?_⟩
  rw [mem_nextAt, mem_toL (K.ok.low R), hs_halves R hh]
  constructor
  · rintro ⟨j', e, h3, i, hia, h4⟩
    obtain rfl : j = j' := by omega
    obtain ⟨r1, r2⟩ := K.ok.rng i hia
    have hit : ((i.toNat : Nat) : Int) = i := by omega
    obtain ⟨m1, m2⟩ := (K.mem i.toNat (by omega)).mp (by rw [hit]; exact hia)
    exact ⟨⟨i.toNat, by omega, m1, h4⟩, h3⟩
  · rintro ⟨⟨i, g1, g2, g3⟩, h3⟩
    obtain ⟨s1, s2, _⟩ := stepH_lt R g1 g3
    obtain ⟨u1, u2⟩ := fo.suc i j (by omega) (by omega) s2 (by omega)
    have := K.min.min i g1 g2 u1
    exact ⟨j, rfl, h3, (i : Int), (K.mem i g1).mpr ⟨g2, by omega⟩, by simpa using g3⟩
end Go.Rf

set_option linter.unusedVariables false
set_option linter.unusedSimpArgs false
namespace Go.Rf
def c_rm_in (f_caesuraref18_length f_caesuraref18_halves : FuncId) : AC :=
  (.block 2 (.loop (.seq (.seq (.reg (some []) [
        ⟨(some 35), .load (some 3) (.t 1), none, none⟩,
        ⟨(some 36), .load (some 3) (.t 1), none, none⟩,
        ⟨(some 37), .mv (.t 5), none, none⟩,
        ⟨(some 38), .mv (.t 8), none, none⟩,
        ⟨(some 39), .mv (.c .junk), none, (some ((.c (.clo f_caesuraref18_halves [] [])), [(.t 36), (.t 37), (.t 38)]))⟩,
        ⟨(some 40), .mv (.c .junk), none, (some ((.c (.clo f_caesuraref18_length [] [])), [(.t 35), (.t 39)]))⟩,
        ⟨(some 41), .mv (.t 6), none, none⟩,
        ⟨(some 42), .bin .sub (.t 41) (.c (.v (.int .i64 1))), none, none⟩,
        ⟨(some 43), .bin .neq (.t 40) (.t 42), none, none⟩])
       (.cond (.t 43) .skip (.exit 2)))
       (.block 3 (.reg none [
         ⟨(some 44), .mv (.t 8), none, none⟩,
         ⟨(some 45), .bin .add (.t 44) (.c (.v (.int .i64 1))), none, none⟩,
         ⟨(some 8), .mv (.t 45), none, none⟩])))))
def c_rm_out (f_caesuraref18_length f_caesuraref18_halves : FuncId) : AC :=
  (.block 0 (.loop (.seq (.seq (.reg none [
     ⟨(some 31), .mv (.t 6), none, none⟩,
     ⟨(some 32), .bin .gtr (.t 31) (.c (.v (.int .i64 0))), none, none⟩])
    (.cond (.t 32) .skip (.exit 0)))
    (.seq (.block 1 (.seq (.reg none [
      ⟨(some 8), .mv (.c (.v (.int .i64 0))), none, none⟩])
     (.seq (c_rm_in f_caesuraref18_length f_caesuraref18_halves)
     (.seq (.reg none [
      ⟨(some 46), .mv (.t 7), none, none⟩,
      ⟨(some 47), .mv (.t 8), none, none⟩,
      ⟨(some 48), .bslice 1 1 (.v (.int .i64 0)) [(0, (.t 47))], none, none⟩,
      ⟨(some 49), .app 1 8 (.t 46) (.t 48), none, none⟩,
      ⟨(some 7), .mv (.t 49), none, none⟩])
     (.reg none [
      ⟨(some 50), .load (some 3) (.t 1), none, none⟩,
      ⟨(some 51), .mv (.t 5), none, none⟩,
      ⟨(some 52), .mv (.t 8), none, none⟩,
      ⟨(some 53), .mv (.c .junk), none, (some ((.c (.clo f_caesuraref18_halves [] [])), [(.t 50), (.t 51), (.t 52)]))⟩,
      ⟨(some 5), .mv (.t 53), none, none⟩])))))
    (.reg none [
     ⟨(some 33), .mv (.t 6), none, none⟩,
     ⟨(some 34), .bin .sub (.t 33) (.c (.v (.int .i64 1))), none, none⟩,
     ⟨(some 6), .mv (.t 34), none, none⟩])))))
def c_rm_tail (f_caesuraref18_Write f_caesuraref15_Accepts : FuncId) : AC :=
  (.seq (.seq (.reg none [
   ⟨(some 9), .mv (.c (.v (.int .i64 1))), none, none⟩])
  (.block 4 (.loop (.seq (.seq (.reg none [
     ⟨(some 54), .mv (.t 9), none, none⟩,
     ⟨(some 55), .mv (.t 7), none, none⟩,
     ⟨(some 56), .len (.t 55), none, none⟩,
     ⟨(some 57), .bin .lss (.t 54) (.t 56), none, none⟩])
    (.cond (.t 57) .skip (.exit 4)))
    (.seq (.block 5 (.seq (.reg (some []) [
      ⟨(some 60), .load (some 3) (.t 1), none, none⟩,
      ⟨(some 61), .mv (.t 7), none, none⟩,
      ⟨(some 62), .mv (.t 9), none, none⟩,
      ⟨(some 63), .mv (.c .junk), none, (some ((.c (.clo f_caesuraref18_Write [] [])), [(.t 61), (.t 62)]))⟩,
      ⟨(some 64), .mv (.c .junk), none, (some ((.c (.clo f_caesuraref15_Accepts [] [])), [(.t 60), (.t 63)]))⟩])
     (.cond (.t 64) (.seq (.reg none [
       ⟨(some 65), .mv (.t 7), none, none⟩,
       ⟨(some 66), .mv (.t 9), none, none⟩,
       ⟨(some 2), .mv (.t 65), none, none⟩,
       ⟨(some 3), .mv (.t 66), none, none⟩,
       ⟨(some 4), .mv (.c (.v (.bool true))), none, none⟩])
      .ret) .skip)))
    (.reg none [
     ⟨(some 58), .mv (.t 9), none, none⟩,
     ⟨(some 59), .bin .add (.t 58) (.c (.v (.int .i64 1))), none, none⟩,
     ⟨(some 9), .mv (.t 59), none, none⟩]))))))
  (.seq (.reg none [
   ⟨(some 2), .mv (.c (.sl true [])), none, none⟩,
   ⟨(some 3), .mv (.c (.v (.int .i64 0))), none, none⟩,
   ⟨(some 4), .mv (.c (.v (.bool false))), none, none⟩])
  .ret))
def c_caesuraref18_Marked (f_caesuraref15_Right f_caesuraref18_length f_caesuraref18_halves f_caesuraref18_Write f_caesuraref15_Accepts : FuncId) : AC :=
  (.seq (.reg none [
   ⟨(some 1), .box 3 (.t 0), none, none⟩,
   ⟨(some 2), .mv (.c (.sl true [])), none, none⟩,
   ⟨(some 3), .mv (.c (.v (.int .i64 0))), none, none⟩,
   ⟨(some 4), .mv (.c (.v (.bool false))), none, none⟩])
  (.seq (.seq (.reg none [
   ⟨(some 10), .load (some 3) (.t 1), none, none⟩,
   ⟨(some 11), .mv (.c .junk), none, (some ((.c (.clo f_caesuraref15_Right [] [])), [(.t 10)]))⟩,
   ⟨(some 12), .un .not (.t 11), none, none⟩,
   ⟨(some 13), .mv (.t 12), none, none⟩,
   ⟨(some 14), .fieldA 0 (.t 1), (some (13, false)), none⟩,
   ⟨(some 15), .load none (.t 14), (some (13, false)), none⟩,
   ⟨(some 16), .bin .rem (.t 15) (.c (.v (.int .i64 2))), (some (13, false)), none⟩,
   ⟨(some 17), .bin .neq (.t 16) (.c (.v (.int .i64 0))), (some (13, false)), none⟩,
   ⟨(some 18), .pick (.t 13) (.c (.v (.bool true))) (.t 17), none, none⟩])
  (.cond (.t 18) (.seq (.reg none [
    ⟨(some 2), .mv (.c (.sl true [])), none, none⟩,
    ⟨(some 3), .mv (.c (.v (.int .i64 0))), none, none⟩,
    ⟨(some 4), .mv (.c (.v (.bool false))), none, none⟩])
   .ret) .skip))
  (.seq (.reg none [
   ⟨(some 19), .fieldA 1 (.t 1), none, none⟩,
   ⟨(some 20), .load none (.t 19), none, none⟩,
   ⟨(some 21), .len (.t 20), none, none⟩,
   ⟨(some 22), .mks 3 3 (.agg [(.v (.bool false)), (.v (.bool false)), (.v (.bool false))]) (.t 21) (.t 21), none, none⟩,
   ⟨(some 5), .mv (.t 22), none, none⟩])
  (.seq (.reg none [
   ⟨(some 23), .mv (.t 5), none, none⟩,
   ⟨(some 24), .idxA 3 (.t 23) (.c (.v (.int .i64 0))), none, none⟩,
   ⟨(some 25), .idxP 3 1 (.t 24) (.c (.v (.int .i64 0))), none, none⟩,
   ⟨none, .store 1 (.t 25) (.c (.v (.bool true))), none, none⟩])
  (.seq (.reg none [
   ⟨(some 26), .load (some 3) (.t 1), none, none⟩,
   ⟨(some 27), .mv (.t 5), none, none⟩,
   ⟨(some 28), .mv (.c .junk), none, (some ((.c (.clo f_caesuraref18_length [] [])), [(.t 26), (.t 27)]))⟩,
   ⟨(some 6), .mv (.t 28), none, none⟩])
  (.seq (.seq (.reg none [
   ⟨(some 29), .mv (.t 6), none, none⟩,
   ⟨(some 30), .bin .lss (.t 29) (.c (.v (.int .i64 0))), none, none⟩])
  (.cond (.t 30) (.seq (.reg none [
    ⟨(some 2), .mv (.c (.sl true [])), none, none⟩,
    ⟨(some 3), .mv (.c (.v (.int .i64 0))), none, none⟩,
    ⟨(some 4), .mv (.c (.v (.bool false))), none, none⟩])
   .ret) .skip))
  (.seq (.reg none [
   ⟨(some 7), .mv (.c (.sl true [])), none, none⟩])
  (.seq (c_rm_out f_caesuraref18_length f_caesuraref18_halves)
  (c_rm_tail f_caesuraref18_Write f_caesuraref15_Accepts)))))))))
/-- Some pairs, in memory of one's own or not. -/
def Tv (g : Nat → Option Blk) (v : AV) (T : List Tri) : Prop := v = encTs T ∨ Vec g v 3 (T.map encT)
theorem Tv.frame {g g' : Nat → Option Blk} {v : AV} {T : List Tri} (h : Tv g v T) (hs : ∀ i ∈ v.ids, g' i = g i) : Tv g' v T := by
  rcases h with h | h
  · exact .inl h
  · exact .inr (h.frame hs)
theorem Tv.fz {g : Nat → Option Blk} {v : AV} {T : List Tri} (h : Tv g v T) : Fz g v (encTs T) := by
  rcases h with rfl | h
  · exact .closed _ (closed_Ts T)
  · exact h.fz closed_T
theorem Tv.only {g : Nat → Option Blk} {v : AV} {T : List Tri} (h : Tv g v T) : Tv (only v.ids g) v T := h.frame (fun i hi => by rw [only_g, if_pos hi])
structure RMSt (d : Det) (T : List Tri) (k : Nat) (v5 v7 : AV) (sgs : List Int) (f : AF) (S : St) : Prop where
  e1 : f 1 = .ptr 0 0 0
  e5 : f 5 = v5
  tv : Tv S.g v5 T
  e6 : f 6 = encI k
  e7 : f 7 = v7
  v : Vec S.g v7 1 (sgs.map encI)
  g0 : S.g 0 = some (.arr 3 [encDet d])
  n0 : 0 ∉ v7.ids
  dj : ∀ i ∈ v5.ids, i ∉ v7.ids ∧ i < S.n
  n : 0 < S.n
theorem RMSt.same {d : Det} {T : List Tri} {k : Nat} {v5 v7 : AV} {sgs : List Int} {f f' : AF} {S S' : St} (h : RMSt d T k v5 v7 sgs f S) (h1 : f' 1 = f 1) (h5 : f' 5 = f 5) (h6 : f' 6 = f 6) (h7 : f' 7 = f 7) (hg : S'.g = S.g) (hn : S.n ≤ S'.n) : RMSt d T k v5 v7 sgs f' S' := by
  refine ⟨by rw [h1, h.e1], by rw [h5, h.e5], by rw [hg]; exact h.tv, by rw [h6, h.e6], by rw [h7, h.e7], by rw [hg]; exact h.v, by rw [hg]; exact h.g0, h.n0, fun i hi => ⟨(h.dj i hi).1, by have := (h.dj i hi).2; omega⟩, by have := h.n; omega⟩
/-- The contracts that it rests on. -/
structure RMC (P : Program) (fl fh : FuncId) (d : Det) : Prop where
  l : ∀ T : List Tri, T.length = d.next.length → PureC P fl [encDet d, encTs T] (encI (lenF d T))
  h : ∀ (T : List Tri) (h : Nat), T.length = d.next.length → ((2 * h + 1 : Nat) : Int) < d.signs → PureC P fh [encDet d, encTs T, encI h] (encTs (halvesF d T h)) ∧ PureN P fh [encDet d, encTs T, encI h] (encTs (halvesF d T h))
def rmJ (d : Det) (T : List Tri) (k : Nat) (v5 v7 : AV) (sgs : List Int) (hf : Nat) (m : Nat) (f : AF) (S : St) : Prop :=
  ∃ h, h ≤ hf ∧ m = hf - h ∧ f 8 = encI h ∧ RMSt d T (k + 1) v5 v7 sgs f S
theorem rm_in {P : Program} {fl fh : FuncId} {d : Det} (C : RMC P fl fh d) (R : RightD d) (hev : d.signs % 2 = 0) {far : List Int} (fo : FarOk (pg d) far) {T : List Tri} (hT : T.length = d.next.length) {at_ : List Int} {k : Nat} (hk : k ≤ 100000) (K : Keeps d far T at_ (k + 1))
    {v5 v7 : AV} {sgs : List Int} {f : AF} {S : St} {Q : Exit → AF → St → Prop} (h0 : rmJ d T k v5 v7 sgs (halfOf d far at_ k) (halfOf d far at_ k) f S)
    (hq : ∀ f' S', f' 8 = encI (halfOf d far at_ k) → RMSt d T (k + 1) v5 v7 sgs f' S' → Q .normal f' S') : AW P (c_rm_in fl fh) Q f S := by
  obtain ⟨b1, b2, b3⟩ := half_ex R hev fo K.ok
  have hs1 := R.s1
  have hs2 := R.s2
  simp [AW_seq, AW_reg, AW_regD, AW_block, AW_cond, AW_skip, AW_exit, AW_ret, AW_scp, condR_true, condR_false, AThen_normal, AThen_ret, AThen_exit, ABlock_normal, ABlock_ret, ABlock_exit, AScope_normal, AScope_ret, AScope_exit, RetK_ret, RetK_normal, retAV_one, retAV_two, retAV_three, retAV_nil, RG_nil, RG_op, RG_guard, gdR_tt, gdR_ff, gdR_tf, gdR_ft, gdR_un, RG_call, callQ_clo, contK_ap, opR_some, RD_nil, RD_op0, RD_op1, opD0_some, opD1_some, RD_call, callQD_clo, RD_guard, gdD_tt, gdD_ff, gdD_tf, gdD_ft, gdD_un, psh_nil, psh_cons, Apt_nil, Apt_nilT, Apt_true, Apt_false, Dis_def, runT_val, runT_rd, runT_wr, runT_new, runT_mv, ex, put_some, put_none, ev_t, ev_c, argF_zero, argF_succ, set_g, set_n, cells_v, cells_sl, cells_agg, cells_own, cells_ptr, cells_clo, cells_eptr, cells_mp, putc, exBslice, lfill, exField, exIdxV, exIdxP, exBox, exAlloc, exLoad, exStore, exFieldA, exIdxA, exLen, exPick, exUn, exBeq, exMM, exSeq, seqGo, exExt, binV, intOp, subc, AV.solid, S0, encI, encB, c_rm_in]
  refine AW_loop (rmJ d T k v5 v7 sgs (halfOf d far at_ k)) (halfOf d far at_ k) h0 ?_
  rintro m f S ⟨h, hle, rfl, e8, st⟩
  obtain ⟨e1, e5, tv, e6, e7, v, g0, n0, dj, n⟩ := id st
  have hh : ((2 * h + 1 : Nat) : Int) < d.signs := by omega
  have hw1 : IntKind.i64.wrap (k : Int) = (k : Int) := wrap_in _ (by omega)
  have hcd1 : ∀ n, CallD P fh [.agg [.v (.int .i64 d.signs), encIss d.next, encBs d.fin], v5, .v (.int .i64 h)] ⟨n, S.g⟩ v5.ids (encTs (halvesF d T h)) := fun n => by
    refine ⟨[encDet d, encTs T, encI h], (C.h T h hT hh).1, rfl, fun j h1 h2 => ?_, .inr (.inr ⟨closed_Ts _, (C.h T h hT hh).2⟩)⟩
    match j, h1 with
    | 0, _ => exact .closed _ (closed_Det d)
    | 1, _ => exact tv.only.fz
    | 2, _ => exact .closed _ (.v _)
  have hcd2 : ∀ n, CallD P fl [.agg [.v (.int .i64 d.signs), encIss d.next, encBs d.fin], encTs (halvesF d T h)] ⟨n, S.g⟩ [] (encI (lenF d (halvesF d T h))) := fun n => by
    refine ⟨[encDet d, encTs (halvesF d T h)], C.l _ (halvesF_len d T h), rfl, fun j h1 h2 => ?_, .inl (plain_I _)⟩
    match j, h1 with
    | 0, _ => exact .closed _ (closed_Det d)
    | 1, _ => exact .closed _ (closed_Ts _)
  simp [AW_seq, AW_reg, AW_regD, AW_block, AW_cond, AW_skip, AW_exit, AW_ret, AW_scp, condR_true, condR_false, AThen_normal, AThen_ret, AThen_exit, ABlock_normal, ABlock_ret, ABlock_exit, AScope_normal, AScope_ret, AScope_exit, RetK_ret, RetK_normal, retAV_one, retAV_two, retAV_three, retAV_nil, RG_nil, RG_op, RG_guard, gdR_tt, gdR_ff, gdR_tf, gdR_ft, gdR_un, RG_call, callQ_clo, contK_ap, opR_some, RD_nil, RD_op0, RD_op1, opD0_some, opD1_some, RD_call, callQD_clo, RD_guard, gdD_tt, gdD_ff, gdD_tf, gdD_ft, gdD_un, psh_nil, psh_cons, Apt_nil, Apt_nilT, Apt_true, Apt_false, Dis_def, runT_val, runT_rd, runT_wr, runT_new, runT_mv, ex, put_some, put_none, ev_t, ev_c, argF_zero, argF_succ, set_g, set_n, cells_v, cells_sl, cells_agg, cells_own, cells_ptr, cells_clo, cells_eptr, cells_mp, putc, exBslice, lfill, exField, exIdxV, exIdxP, exBox, exAlloc, exLoad, exStore, exFieldA, exIdxA, exLen, exPick, exUn, exBeq, exMM, exSeq, seqGo, exExt, binV, intOp, subc, AV.solid, S0, encI, encB, e1, e5, e6, e8, g0, encDet, hw1]
  refine ⟨_, ⟨_, hcd1 _⟩, _, ⟨_, hcd2 _⟩, ?_⟩
  have hiff := K.half R hev fo hT hh
  by_cases hlt : h < halfOf d far at_ k
  · have hne : (lenF d (halvesF d T h) != (k : Int)) = true := by
      simp only [bne_iff_ne, ne_eq]
      intro e
      exact hiff.mp e (b3 h hlt)
    simp [AW_seq, AW_reg, AW_regD, AW_block, AW_cond, AW_skip, AW_exit, AW_ret, AW_scp, condR_true, condR_false, AThen_normal, AThen_ret, AThen_exit, ABlock_normal, ABlock_ret, ABlock_exit, AScope_normal, AScope_ret, AScope_exit, RetK_ret, RetK_normal, retAV_one, retAV_two, retAV_three, retAV_nil, RG_nil, RG_op, RG_guard, gdR_tt, gdR_ff, gdR_tf, gdR_ft, gdR_un, RG_call, callQ_clo, contK_ap, opR_some, RD_nil, RD_op0, RD_op1, opD0_some, opD1_some, RD_call, callQD_clo, RD_guard, gdD_tt, gdD_ff, gdD_tf, gdD_ft, gdD_un, psh_nil, psh_cons, Apt_nil, Apt_nilT, Apt_true, Apt_false, Dis_def, runT_val, runT_rd, runT_wr, runT_new, runT_mv, ex, put_some, put_none, ev_t, ev_c, argF_zero, argF_succ, set_g, set_n, cells_v, cells_sl, cells_agg, cells_own, cells_ptr, cells_clo, cells_eptr, cells_mp, putc, exBslice, lfill, exField, exIdxV, exIdxP, exBox, exAlloc, exLoad, exStore, exFieldA, exIdxA, exLen, exPick, exUn, exBeq, exMM, exSeq, seqGo, exExt, binV, intOp, subc, AV.solid, S0, encI, encB, e1, e5, e6, e8, hne, hw1]
    rw [wrap_in _ (by omega)]
    refine ⟨halfOf d far at_ k - (h + 1), by omega, h + 1, by omega, rfl, by simp [put_some, encI], st.same ?_ ?_ ?_ ?_ rfl (by simp; try omega)⟩ <;> simp [put_some]
  · have : h = halfOf d far at_ k := by omega
    subst this
    have hne : (lenF d (halvesF d T (halfOf d far at_ k)) != (k : Int)) = false := by
      simp only [bne_eq_false_iff_eq]
      exact hiff.mpr b2
    simp [AW_seq, AW_reg, AW_regD, AW_block, AW_cond, AW_skip, AW_exit, AW_ret, AW_scp, condR_true, condR_false, AThen_normal, AThen_ret, AThen_exit, ABlock_normal, ABlock_ret, ABlock_exit, AScope_normal, AScope_ret, AScope_exit, RetK_ret, RetK_normal, retAV_one, retAV_two, retAV_three, retAV_nil, RG_nil, RG_op, RG_guard, gdR_tt, gdR_ff, gdR_tf, gdR_ft, gdR_un, RG_call, callQ_clo, contK_ap, opR_some, RD_nil, RD_op0, RD_op1, opD0_some, opD1_some, RD_call, callQD_clo, RD_guard, gdD_tt, gdD_ff, gdD_tf, gdD_ft, gdD_un, psh_nil, psh_cons, Apt_nil, Apt_nilT, Apt_true, Apt_false, Dis_def, runT_val, runT_rd, runT_wr, runT_new, runT_mv, ex, put_some, put_none, ev_t, ev_c, argF_zero, argF_succ, set_g, set_n, cells_v, cells_sl, cells_agg, cells_own, cells_ptr, cells_clo, cells_eptr, cells_mp, putc, exBslice, lfill, exField, exIdxV, exIdxP, exBox, exAlloc, exLoad, exStore, exFieldA, exIdxA, exLen, exPick, exUn, exBeq, exMM, exSeq, seqGo, exExt, binV, intOp, subc, AV.solid, S0, encI, encB, e1, e5, e6, e8, hne, hw1]
    refine hq _ _ (by simp [put_some, e8]) (st.same ?_ ?_ ?_ ?_ rfl (by simp)) <;> simp [put_some]
def rmI (d : Det) (far : List Int) (tot : List Int) (m : Nat) (f : AF) (S : St) : Prop :=
  ∃ T v5 v7 sgs at_, RMSt d T m v5 v7 sgs f S ∧ T.length = d.next.length ∧ Keeps d far T at_ m ∧ sgs ++ markFrom d far m at_ = tot ∧ sgs.length + m ≤ 9000
theorem rm_out {P : Program} {fl fh : FuncId} {d : Det} (C : RMC P fl fh d) (R : RightD d) (hev : d.signs % 2 = 0) {far : List Int} (fo : FarOk (pg d) far) {tot : List Int} {m0 : Nat} {f : AF} {S : St} {Q : Exit → AF → St → Prop}
    (h0 : rmI d far tot m0 f S) (hq : ∀ f' S', f' 1 = .ptr 0 0 0 → S'.g 0 = some (.arr 3 [encDet d]) → Vec S'.g (f' 7) 1 (tot.map encI) → tot.length ≤ 9000 → Q .normal f' S') : AW P (c_rm_out fl fh) Q f S := by
  simp [AW_seq, AW_reg, AW_regD, AW_block, AW_cond, AW_skip, AW_exit, AW_ret, AW_scp, condR_true, condR_false, AThen_normal, AThen_ret, AThen_exit, ABlock_normal, ABlock_ret, ABlock_exit, AScope_normal, AScope_ret, AScope_exit, RetK_ret, RetK_normal, retAV_one, retAV_two, retAV_three, retAV_nil, RG_nil, RG_op, RG_guard, gdR_tt, gdR_ff, gdR_tf, gdR_ft, gdR_un, RG_call, callQ_clo, contK_ap, opR_some, RD_nil, RD_op0, RD_op1, opD0_some, opD1_some, RD_call, callQD_clo, RD_guard, gdD_tt, gdD_ff, gdD_tf, gdD_ft, gdD_un, psh_nil, psh_cons, Apt_nil, Apt_nilT, Apt_true, Apt_false, Dis_def, runT_val, runT_rd, runT_wr, runT_new, runT_mv, ex, put_some, put_none, ev_t, ev_c, argF_zero, argF_succ, set_g, set_n, cells_v, cells_sl, cells_agg, cells_own, cells_ptr, cells_clo, cells_eptr, cells_mp, putc, exBslice, lfill, exField, exIdxV, exIdxP, exBox, exAlloc, exLoad, exStore, exFieldA, exIdxA, exLen, exPick, exUn, exBeq, exMM, exSeq, seqGo, exExt, binV, intOp, subc, AV.solid, S0, encI, encB, c_rm_out]
  refine AW_loop (rmI d far tot) m0 h0 ?_
  rintro m f S ⟨T, v5, v7, sgs, at_, st, hT, K, htot, hb⟩
  obtain ⟨e1, e5, tv, e6, e7, v, g0, n0, dj, n⟩ := id st
  cases m with
  | zero =>
    simp [AW_seq, AW_reg, AW_regD, AW_block, AW_cond, AW_skip, AW_exit, AW_ret, AW_scp, condR_true, condR_false, AThen_normal, AThen_ret, AThen_exit, ABlock_normal, ABlock_ret, ABlock_exit, AScope_normal, AScope_ret, AScope_exit, RetK_ret, RetK_normal, retAV_one, retAV_two, retAV_three, retAV_nil, RG_nil, RG_op, RG_guard, gdR_tt, gdR_ff, gdR_tf, gdR_ft, gdR_un, RG_call, callQ_clo, contK_ap, opR_some, RD_nil, RD_op0, RD_op1, opD0_some, opD1_some, RD_call, callQD_clo, RD_guard, gdD_tt, gdD_ff, gdD_tf, gdD_ft, gdD_un, psh_nil, psh_cons, Apt_nil, Apt_nilT, Apt_true, Apt_false, Dis_def, runT_val, runT_rd, runT_wr, runT_new, runT_mv, ex, put_some, put_none, ev_t, ev_c, argF_zero, argF_succ, set_g, set_n, cells_v, cells_sl, cells_agg, cells_own, cells_ptr, cells_clo, cells_eptr, cells_mp, putc, exBslice, lfill, exField, exIdxV, exIdxP, exBox, exAlloc, exLoad, exStore, exFieldA, exIdxA, exLen, exPick, exUn, exBeq, exMM, exSeq, seqGo, exExt, binV, intOp, subc, AV.solid, S0, encI, encB, e6]
    rw [markFrom, List.append_nil] at htot
    subst htot
    refine hq _ _ ?_ ?_ ?_ (by omega)
    · simp [put_some, e1]
    · simp [g0]
    · simp only [put_some]
      simp only [Nat.reduceEqDiff, if_false, if_true, e7]
      exact v
  | succ k =>
    have hz : (0 : Int) < (k : Int) + 1 := by omega
    obtain ⟨b1, b2, b3⟩ := half_ex R hev fo K.ok
    have hs1 := R.s1
    have hs2 := R.s2
    have hh : ((2 * halfOf d far at_ k + 1 : Nat) : Int) < d.signs := by omega
    simp [AW_seq, AW_reg, AW_regD, AW_block, AW_cond, AW_skip, AW_exit, AW_ret, AW_scp, condR_true, condR_false, AThen_normal, AThen_ret, AThen_exit, ABlock_normal, ABlock_ret, ABlock_exit, AScope_normal, AScope_ret, AScope_exit, RetK_ret, RetK_normal, retAV_one, retAV_two, retAV_three, retAV_nil, RG_nil, RG_op, RG_guard, gdR_tt, gdR_ff, gdR_tf, gdR_ft, gdR_un, RG_call, callQ_clo, contK_ap, opR_some, RD_nil, RD_op0, RD_op1, opD0_some, opD1_some, RD_call, callQD_clo, RD_guard, gdD_tt, gdD_ff, gdD_tf, gdD_ft, gdD_un, psh_nil, psh_cons, Apt_nil, Apt_nilT, Apt_true, Apt_false, Dis_def, runT_val, runT_rd, runT_wr, runT_new, runT_mv, ex, put_some, put_none, ev_t, ev_c, argF_zero, argF_succ, set_g, set_n, cells_v, cells_sl, cells_agg, cells_own, cells_ptr, cells_clo, cells_eptr, cells_mp, putc, exBslice, lfill, exField, exIdxV, exIdxP, exBox, exAlloc, exLoad, exStore, exFieldA, exIdxA, exLen, exPick, exUn, exBeq, exMM, exSeq, seqGo, exExt, binV, intOp, subc, AV.solid, S0, encI, encB, e6, hz]
    refine rm_in C R hev fo hT (k := k) (by omega) K (v5 := v5) (v7 := v7) (sgs := sgs) ?_ ?_
    · refine ⟨0, by omega, rfl, by simp [put_some, encI], st.same ?_ ?_ ?_ ?_ rfl (by simp only; omega)⟩ <;> simp [put_some]
    · intro f1 S1 e8 st1
      obtain ⟨e1, e5, tv, e6, e7, v, g0, n0, dj, n⟩ := id st1
      have hw0 : ∀ m, (St.without ⟨m, S1.g⟩ v7).g 0 = some (.arr 3 [encDet d]) := fun m => by rw [without_g 0 n0]; exact g0
      simp only [encDet] at hw0
      simp [AW_seq, AW_reg, AW_regD, AW_block, AW_cond, AW_skip, AW_exit, AW_ret, AW_scp, condR_true, condR_false, AThen_normal, AThen_ret, AThen_exit, ABlock_normal, ABlock_ret, ABlock_exit, AScope_normal, AScope_ret, AScope_exit, RetK_ret, RetK_normal, retAV_one, retAV_two, retAV_three, retAV_nil, RG_nil, RG_op, RG_guard, gdR_tt, gdR_ff, gdR_tf, gdR_ft, gdR_un, RG_call, callQ_clo, contK_ap, opR_some, RD_nil, RD_op0, RD_op1, opD0_some, opD1_some, RD_call, callQD_clo, RD_guard, gdD_tt, gdD_ff, gdD_tf, gdD_ft, gdD_un, psh_nil, psh_cons, Apt_nil, Apt_nilT, Apt_true, Apt_false, Dis_def, runT_val, runT_rd, runT_wr, runT_new, runT_mv, ex, put_some, put_none, ev_t, ev_c, argF_zero, argF_succ, set_g, set_n, cells_v, cells_sl, cells_agg, cells_own, cells_ptr, cells_clo, cells_eptr, cells_mp, putc, exBslice, lfill, exField, exIdxV, exIdxP, exBox, exAlloc, exLoad, exStore, exFieldA, exIdxA, exLen, exPick, exUn, exBeq, exMM, exSeq, seqGo, exExt, binV, intOp, subc, AV.solid, S0, encI, encB, e7, e8]
      rw [Vec.app (xs := sgs.map encI) (v.frame (fun i hi => rfl)) (cells_I _) (by simp [AV.cells]) (appOk8 (by rw [List.length_map]; omega))]
      simp [AW_seq, AW_reg, AW_regD, AW_block, AW_cond, AW_skip, AW_exit, AW_ret, AW_scp, condR_true, condR_false, AThen_normal, AThen_ret, AThen_exit, ABlock_normal, ABlock_ret, ABlock_exit, AScope_normal, AScope_ret, AScope_exit, RetK_ret, RetK_normal, retAV_one, retAV_two, retAV_three, retAV_nil, RG_nil, RG_op, RG_guard, gdR_tt, gdR_ff, gdR_tf, gdR_ft, gdR_un, RG_call, callQ_clo, contK_ap, opR_some, RD_nil, RD_op0, RD_op1, opD0_some, opD1_some, RD_call, callQD_clo, RD_guard, gdD_tt, gdD_ff, gdD_tf, gdD_ft, gdD_un, psh_nil, psh_cons, Apt_nil, Apt_nilT, Apt_true, Apt_false, Dis_def, runT_val, runT_rd, runT_wr, runT_new, runT_mv, ex, put_some, put_none, ev_t, ev_c, argF_zero, argF_succ, set_g, set_n, cells_v, cells_sl, cells_agg, cells_own, cells_ptr, cells_clo, cells_eptr, cells_mp, putc, exBslice, lfill, exField, exIdxV, exIdxP, exBox, exAlloc, exLoad, exStore, exFieldA, exIdxA, exLen, exPick, exUn, exBeq, exMM, exSeq, seqGo, exExt, binV, intOp, subc, AV.solid, S0, encI, encB, e1, e5, e7, e8, hw0, without_n]
      have tv' : Tv (fun j => ((St.without ⟨S1.n + 5, S1.g⟩ v7).set (S1.n + 3) (some (.arr 1 (sgs.map encI ++ [.v (.int .i64 (halfOf d far at_ k))])))).g j) v5 T := tv.frame (fun i hi => by
        obtain ⟨q1, q2⟩ := dj i hi
        rw [set_g, if_neg (by omega), without_g i q1])
      refine CallR.fresh_gen (C.h T _ hT hh).2 _ (fun _ _ e => e) rfl (fun j h1 h2 => ?_) (closed_Ts _) ?_
      · match j, h1 with
        | 0, _ => exact .closed _ (closed_Det d)
        | 1, _ => exact tv'.fz
        | 2, _ => exact .closed _ (.v _)
      · simp [AW_seq, AW_reg, AW_regD, AW_block, AW_cond, AW_skip, AW_exit, AW_ret, AW_scp, condR_true, condR_false, AThen_normal, AThen_ret, AThen_exit, ABlock_normal, ABlock_ret, ABlock_exit, AScope_normal, AScope_ret, AScope_exit, RetK_ret, RetK_normal, retAV_one, retAV_two, retAV_three, retAV_nil, RG_nil, RG_op, RG_guard, gdR_tt, gdR_ff, gdR_tf, gdR_ft, gdR_un, RG_call, callQ_clo, contK_ap, opR_some, RD_nil, RD_op0, RD_op1, opD0_some, opD1_some, RD_call, callQD_clo, RD_guard, gdD_tt, gdD_ff, gdD_tf, gdD_ft, gdD_un, psh_nil, psh_cons, Apt_nil, Apt_nilT, Apt_true, Apt_false, Dis_def, runT_val, runT_rd, runT_wr, runT_new, runT_mv, ex, put_some, put_none, ev_t, ev_c, argF_zero, argF_succ, set_g, set_n, cells_v, cells_sl, cells_agg, cells_own, cells_ptr, cells_clo, cells_eptr, cells_mp, putc, exBslice, lfill, exField, exIdxV, exIdxP, exBox, exAlloc, exLoad, exStore, exFieldA, exIdxA, exLen, exPick, exUn, exBeq, exMM, exSeq, seqGo, exExt, binV, intOp, subc, AV.solid, S0, encI, encB, e6]
        have hw1 : IntKind.i64.wrap (k : Int) = (k : Int) := wrap_in _ (by omega)
        refine ⟨k, by omega, halvesF d T (halfOf d far at_ k), encTs (halvesF d T (halfOf d far at_ k)), .own (S1.n + 3) 0 (sgs.length + 1), sgs ++ [(halfOf d far at_ k : Int)], nextAt d far at_ (halfOf d far at_ k) k,
          ⟨?_, ?_, .inl rfl, ?_, ?_, ?_, ?_, ?_, ?_, by simp⟩, halvesF_len _ _ _, K.next R hev fo hT hh b2, ?_, by simp; omega⟩
        · simp [put_some, e1]
        · simp [put_some]
        · simp [put_some, hw1, encI]
        · simp [put_some]
        · refine .mk' ?_ (by simp)
          simp [set_g, encI]
        · have hne : ¬ (0 = S1.n + 3) := by omega
          simp [set_g, hw0, encDet]
        · simp [AV.ids]
        · simp [encTs, AV.ids]
        · rw [← htot, markFrom, List.append_assoc]; rfl
def rmQ (d : Det) (sgs : List Int) (pf : Nat) (v7 : AV) (m : Nat) (f : AF) (S : St) : Prop :=
  ∃ p : Nat, 1 ≤ p ∧ p ≤ pf ∧ m = pf - p ∧ f 1 = .ptr 0 0 0 ∧ f 7 = v7 ∧ f 9 = encI p ∧ S.g 0 = some (.arr 3 [encDet d]) ∧ Vec S.g v7 1 (sgs.map encI)
theorem rm_tail {P : Program} {fw fa : FuncId} {d : Det} {sgs : List Int} (hsl : sgs.length ≤ 1000000) (hw : ∀ p : Int, PureC P fw [encIs sgs, encI p] (encIs (writeS sgs p)) ∧ PureN P fw [encIs sgs, encI p] (encIs (writeS sgs p)))
    (ha : ∀ p : Int, PureC P fa [encDet d, encIs (writeS sgs p)] (encB (accD d (writeS sgs p)))) {pf : Nat} (hpf : IsFirst d sgs pf) {v7 : AV} {f : AF} {S : St} (e1 : f 1 = .ptr 0 0 0) (e7 : f 7 = v7) (g0 : S.g 0 = some (.arr 3 [encDet d])) (hv : Vec S.g v7 1 (sgs.map encI)) :
    AW P (c_rm_tail fw fa) (RetK [2, 3, 4] (FzK (.tup [encIs sgs, encI pf, encB true]))) f S := by
  have hlo := hpf.lo
  have hhi := hpf.hi
  simp [AW_seq, AW_reg, AW_regD, AW_block, AW_cond, AW_skip, AW_exit, AW_ret, AW_scp, condR_true, condR_false, AThen_normal, AThen_ret, AThen_exit, ABlock_normal, ABlock_ret, ABlock_exit, AScope_normal, AScope_ret, AScope_exit, RetK_ret, RetK_normal, retAV_one, retAV_two, retAV_three, retAV_nil, RG_nil, RG_op, RG_guard, gdR_tt, gdR_ff, gdR_tf, gdR_ft, gdR_un, RG_call, callQ_clo, contK_ap, opR_some, RD_nil, RD_op0, RD_op1, opD0_some, opD1_some, RD_call, callQD_clo, RD_guard, gdD_tt, gdD_ff, gdD_tf, gdD_ft, gdD_un, psh_nil, psh_cons, Apt_nil, Apt_nilT, Apt_true, Apt_false, Dis_def, runT_val, runT_rd, runT_wr, runT_new, runT_mv, ex, put_some, put_none, ev_t, ev_c, argF_zero, argF_succ, set_g, set_n, cells_v, cells_sl, cells_agg, cells_own, cells_ptr, cells_clo, cells_eptr, cells_mp, putc, exBslice, lfill, exField, exIdxV, exIdxP, exBox, exAlloc, exLoad, exStore, exFieldA, exIdxA, exLen, exPick, exUn, exBeq, exMM, exSeq, seqGo, exExt, binV, intOp, subc, AV.solid, S0, encI, encB, c_rm_tail]
  refine AW_loop (rmQ d sgs pf v7) (pf - 1) ⟨1, by omega, hlo, rfl, by simp [put_some, e1], by simp [put_some, e7], by simp [put_some, encI], g0, hv.frame (fun _ _ => rfl)⟩ ?_
  rintro m f S ⟨p, p1, p2, rfl, e1, e7, e9, g0, hv⟩
  have hw3 : IntKind.i64.wrap ((p : Int) + 1) = (p : Int) + 1 := wrap_in _ (by omega)
  have hpI : (p : Int) < sgs.length := by omega
  have hpN : p < sgs.length := by omega
  obtain ⟨id, off, e7v⟩ : ∃ id off, v7 = .own id off sgs.length := by
    rcases hv with ⟨_, h0⟩ | ⟨id, off, ys, h0, _⟩
    · have := congrArg List.length h0
      simp at this; subst this; simp at hpN
    · exact ⟨id, off, by simpa using h0⟩
  subst e7v
  have hvo : Vec (only (AV.own id off sgs.length).ids S.g) (.own id off sgs.length) 1 (sgs.map encI) := hv.frame (fun i hi => by rw [only_g, if_pos hi])
  have hcd1 : ∀ n, CallD P fw [.own id off sgs.length, .v (.int .i64 p)] ⟨n, S.g⟩ (AV.own id off sgs.length).ids (encIs (writeS sgs p)) := fun n => by
    refine ⟨[encIs sgs, encI p], (hw p).1, rfl, fun j h1 h2 => ?_, .inr (.inr ⟨closed_Is _, (hw p).2⟩)⟩
    match j, h1 with
    | 0, _ => exact hvo.fz closed_I
    | 1, _ => exact .closed _ (.v _)
  have hcd2 : ∀ n, CallD P fa [.agg [.v (.int .i64 d.signs), encIss d.next, encBs d.fin], encIs (writeS sgs p)] ⟨n, S.g⟩ [] (encB (accD d (writeS sgs p))) := fun n => by
    refine ⟨[encDet d, encIs (writeS sgs p)], ha p, rfl, fun j h1 h2 => ?_, .inl (plain_B _)⟩
    match j, h1 with
    | 0, _ => exact .closed _ (closed_Det d)
    | 1, _ => exact .closed _ (closed_Is _)
  simp [AW_seq, AW_reg, AW_regD, AW_block, AW_cond, AW_skip, AW_exit, AW_ret, AW_scp, condR_true, condR_false, AThen_normal, AThen_ret, AThen_exit, ABlock_normal, ABlock_ret, ABlock_exit, AScope_normal, AScope_ret, AScope_exit, RetK_ret, RetK_normal, retAV_one, retAV_two, retAV_three, retAV_nil, RG_nil, RG_op, RG_guard, gdR_tt, gdR_ff, gdR_tf, gdR_ft, gdR_un, RG_call, callQ_clo, contK_ap, opR_some, RD_nil, RD_op0, RD_op1, opD0_some, opD1_some, RD_call, callQD_clo, RD_guard, gdD_tt, gdD_ff, gdD_tf, gdD_ft, gdD_un, psh_nil, psh_cons, Apt_nil, Apt_nilT, Apt_true, Apt_false, Dis_def, runT_val, runT_rd, runT_wr, runT_new, runT_mv, ex, put_some, put_none, ev_t, ev_c, argF_zero, argF_succ, set_g, set_n, cells_v, cells_sl, cells_agg, cells_own, cells_ptr, cells_clo, cells_eptr, cells_mp, putc, exBslice, lfill, exField, exIdxV, exIdxP, exBox, exAlloc, exLoad, exStore, exFieldA, exIdxA, exLen, exPick, exUn, exBeq, exMM, exSeq, seqGo, exExt, binV, intOp, subc, AV.solid, S0, encI, encB, e1, e7, e9, g0, encDet, hpI, hpN]
  refine ⟨_, ⟨_, hcd1 _⟩, _, ⟨_, hcd2 _⟩, ?_⟩
  by_cases hp : p = pf
  · subst hp
    rw [hpf.acc]
    simp [AW_seq, AW_reg, AW_regD, AW_block, AW_cond, AW_skip, AW_exit, AW_ret, AW_scp, condR_true, condR_false, AThen_normal, AThen_ret, AThen_exit, ABlock_normal, ABlock_ret, ABlock_exit, AScope_normal, AScope_ret, AScope_exit, RetK_ret, RetK_normal, retAV_one, retAV_two, retAV_three, retAV_nil, RG_nil, RG_op, RG_guard, gdR_tt, gdR_ff, gdR_tf, gdR_ft, gdR_un, RG_call, callQ_clo, contK_ap, opR_some, RD_nil, RD_op0, RD_op1, opD0_some, opD1_some, RD_call, callQD_clo, RD_guard, gdD_tt, gdD_ff, gdD_tf, gdD_ft, gdD_un, psh_nil, psh_cons, Apt_nil, Apt_nilT, Apt_true, Apt_false, Dis_def, runT_val, runT_rd, runT_wr, runT_new, runT_mv, ex, put_some, put_none, ev_t, ev_c, argF_zero, argF_succ, set_g, set_n, cells_v, cells_sl, cells_agg, cells_own, cells_ptr, cells_clo, cells_eptr, cells_mp, putc, exBslice, lfill, exField, exIdxV, exIdxP, exBox, exAlloc, exLoad, exStore, exFieldA, exIdxA, exLen, exPick, exUn, exBeq, exMM, exSeq, seqGo, exExt, binV, intOp, subc, AV.solid, S0, encI, encB, e7, e9]
    exact .tup _ _ rfl (by
      intro j h1 h2
      match j, h1 with
      | 0, _ => exact hv.fz closed_I
      | 1, _ => exact .closed _ (.v _)
      | 2, _ => exact .closed _ (.v _))
  · rw [hpf.fst p p1 (by omega)]
    simp [AW_seq, AW_reg, AW_regD, AW_block, AW_cond, AW_skip, AW_exit, AW_ret, AW_scp, condR_true, condR_false, AThen_normal, AThen_ret, AThen_exit, ABlock_normal, ABlock_ret, ABlock_exit, AScope_normal, AScope_ret, AScope_exit, RetK_ret, RetK_normal, retAV_one, retAV_two, retAV_three, retAV_nil, RG_nil, RG_op, RG_guard, gdR_tt, gdR_ff, gdR_tf, gdR_ft, gdR_un, RG_call, callQ_clo, contK_ap, opR_some, RD_nil, RD_op0, RD_op1, opD0_some, opD1_some, RD_call, callQD_clo, RD_guard, gdD_tt, gdD_ff, gdD_tf, gdD_ft, gdD_un, psh_nil, psh_cons, Apt_nil, Apt_nilT, Apt_true, Apt_false, Dis_def, runT_val, runT_rd, runT_wr, runT_new, runT_mv, ex, put_some, put_none, ev_t, ev_c, argF_zero, argF_succ, set_g, set_n, cells_v, cells_sl, cells_agg, cells_own, cells_ptr, cells_clo, cells_eptr, cells_mp, putc, exBslice, lfill, exField, exIdxV, exIdxP, exBox, exAlloc, exLoad, exStore, exFieldA, exIdxA, exLen, exPick, exUn, exBeq, exMM, exSeq, seqGo, exExt, binV, intOp, subc, AV.solid, S0, encI, encB, e7, e9, hw3]
    refine ⟨pf - (p + 1), by omega, p + 1, by omega, by omega, rfl, ?_, ?_, ?_, g0, hv⟩
    · simp [put_some, e1]
    · simp [put_some, e7]
    · simp [put_some, encI]
def T0 (n : Nat) : List Tri := (List.replicate n Tri.no).set 0 ⟨true, false, false⟩
theorem hs_T0 {n : Nat} (hn : 0 < n) (i : Nat) : hs (T0 n) i = decide (i = 0) := by
  have h1 : T0 n = (List.replicate n Tri.no).set 0 (((List.replicate n Tri.no).getD 0 .no).put 0 true) := by
    unfold T0
    have : (List.replicate n Tri.no).getD 0 .no = .no := by simp [List.getD_eq_getElem?_getD, List.getElem?_replicate, hn]
    rw [this]; rfl
  have h2 := hs_markT (T := List.replicate n Tri.no) (i := 0) (k := 0) (by simp; exact hn) (by omega) i
  unfold markT at h2
  rw [h1, h2, hs_no]
  simp
theorem caesuraref18_Marked_body {P : Program} {fr fl fh fw fa : FuncId} (d : Det) (hr : PureC P fr [encDet d] (encB (rightD d))) (C : RightD d → RMC P fl fh d)
    (hw : ∀ (s : List Int) (p : Int), s.length ≤ 1000000 → PureC P fw [encIs s, encI p] (encIs (writeS s p)) ∧ PureN P fw [encIs s, encI p] (encIs (writeS s p))) (ha : ∀ l : List Int, Len l → PureC P fa [encDet d, encIs l] (encB (accD d l))) :
    AW P (c_caesuraref18_Marked fr fl fh fw fa) (RetK [2, 3, 4] (FzK (.tup [encIs (markS d), encI (markP d), encB (markOk d)]))) (argF [encDet d]) S0 := by
  have cd := closed_Det d
  by_cases hR : rightD d = true
  · have R := (right_iff d).mp hR
    have hs1 := R.s1
    have hs2 := R.s2
    have hn1 := R.n1
    have hn2 := R.n2
    have hrem : d.signs.tmod 2 = d.signs % 2 := Int.tmod_eq_emod_of_nonneg (by omega)
    by_cases hev : d.signs % 2 = 0
    · have hevb : (d.signs.tmod 2 != 0) = false := by rw [hrem, hev]; rfl
      have fo := farS_ok (pg d)
      have hgn := pg_n d
      have hok := markOk_iff R hev
      have hfp : farP d = farS (pg d) := rfl
      have q1 : (d.next.length : Int) ≤ 9223372036854775807 := by omega
      have q2 : 3 * (d.next.length : Int) ≤ 281474976710656 := by omega
      have q3 : 0 < d.next.length := by omega
      have q4 : (0 : Int) < d.next.length := by omega
      have ccd := cl_cons cd cl_nil
      rw [hR] at hr
      simp [AW_seq, AW_reg, AW_regD, AW_block, AW_cond, AW_skip, AW_exit, AW_ret, AW_scp, condR_true, condR_false, AThen_normal, AThen_ret, AThen_exit, ABlock_normal, ABlock_ret, ABlock_exit, AScope_normal, AScope_ret, AScope_exit, RetK_ret, RetK_normal, retAV_one, retAV_two, retAV_three, retAV_nil, RG_nil, RG_op, RG_guard, gdR_tt, gdR_ff, gdR_tf, gdR_ft, gdR_un, RG_call, callQ_clo, contK_ap, opR_some, RD_nil, RD_op0, RD_op1, opD0_some, opD1_some, RD_call, callQD_clo, RD_guard, gdD_tt, gdD_ff, gdD_tf, gdD_ft, gdD_un, psh_nil, psh_cons, Apt_nil, Apt_nilT, Apt_true, Apt_false, Dis_def, runT_val, runT_rd, runT_wr, runT_new, runT_mv, ex, put_some, put_none, ev_t, ev_c, argF_zero, argF_succ, set_g, set_n, cells_v, cells_sl, cells_agg, cells_own, cells_ptr, cells_clo, cells_eptr, cells_mp, putc, exBslice, lfill, exField, exIdxV, exIdxP, exBox, exAlloc, exLoad, exStore, exFieldA, exIdxA, exLen, exPick, exUn, exBeq, exMM, exSeq, seqGo, exExt, binV, intOp, subc, AV.solid, S0, encI, encB, c_caesuraref18_Marked, encDet]
      refine CallR.pure hr ccd (closed_B _) ?_
      simp [AW_seq, AW_reg, AW_regD, AW_block, AW_cond, AW_skip, AW_exit, AW_ret, AW_scp, condR_true, condR_false, AThen_normal, AThen_ret, AThen_exit, ABlock_normal, ABlock_ret, ABlock_exit, AScope_normal, AScope_ret, AScope_exit, RetK_ret, RetK_normal, retAV_one, retAV_two, retAV_three, retAV_nil, RG_nil, RG_op, RG_guard, gdR_tt, gdR_ff, gdR_tf, gdR_ft, gdR_un, RG_call, callQ_clo, contK_ap, opR_some, RD_nil, RD_op0, RD_op1, opD0_some, opD1_some, RD_call, callQD_clo, RD_guard, gdD_tt, gdD_ff, gdD_tf, gdD_ft, gdD_un, psh_nil, psh_cons, Apt_nil, Apt_nilT, Apt_true, Apt_false, Dis_def, runT_val, runT_rd, runT_wr, runT_new, runT_mv, ex, put_some, put_none, ev_t, ev_c, argF_zero, argF_succ, set_g, set_n, cells_v, cells_sl, cells_agg, cells_own, cells_ptr, cells_clo, cells_eptr, cells_mp, putc, exBslice, lfill, exField, exIdxV, exIdxP, exBox, exAlloc, exLoad, exStore, exFieldA, exIdxA, exLen, exPick, exUn, exBeq, exMM, exSeq, seqGo, exExt, binV, intOp, subc, AV.solid, S0, encI, encB, hevb, encIss, exMks, q1, q2, q3, q4]
      have hT0 : (T0 d.next.length).length = d.next.length := by simp [T0]
      have hgm : (List.replicate d.next.length (AV.agg [.v (.bool false), .v (.bool false), .v (.bool false)])).set 0 (.agg [.v (.bool true), .v (.bool false), .v (.bool false)]) = (T0 d.next.length).map encT := by
        simp [T0, List.map_set, Tri.no, encT, encB]
      have C' := C R
      have hl0 := C'.l (T0 d.next.length) hT0
      have hs0 := hs_T0 q3
      have hv0 : ∀ (g : Nat → Option Blk), g 16 = some (.arr 3 ((T0 d.next.length).map encT)) → Vec g (.own 16 0 d.next.length) 3 ((T0 d.next.length).map encT) := fun g hg => Vec.mk' hg (by simp [hT0])
      rw [hgm]
      refine CallR.looks hl0 (FzL.cons (.closed _ cd) (FzL.cons (Tv.fz (.inr (hv0 _ (by simp [set_g])))) .nil)) (plain_I _) ?_
      rcases lenF_neg R hev fo hT0 with ⟨hl, hnone⟩ | ⟨k, hl, hmin⟩
      · have hno : markOk d = false := by
          cases h : markOk d with
          | false => rfl
          | true =>
            have h1 := hok.mp h
            have h2 := hnone 0 (by omega) (by rw [hs0]; rfl)
            rw [hfp] at h1; omega
        rw [hl]
        simp [AW_seq, AW_reg, AW_regD, AW_block, AW_cond, AW_skip, AW_exit, AW_ret, AW_scp, condR_true, condR_false, AThen_normal, AThen_ret, AThen_exit, ABlock_normal, ABlock_ret, ABlock_exit, AScope_normal, AScope_ret, AScope_exit, RetK_ret, RetK_normal, retAV_one, retAV_two, retAV_three, retAV_nil, RG_nil, RG_op, RG_guard, gdR_tt, gdR_ff, gdR_tf, gdR_ft, gdR_un, RG_call, callQ_clo, contK_ap, opR_some, RD_nil, RD_op0, RD_op1, opD0_some, opD1_some, RD_call, callQD_clo, RD_guard, gdD_tt, gdD_ff, gdD_tf, gdD_ft, gdD_un, psh_nil, psh_cons, Apt_nil, Apt_nilT, Apt_true, Apt_false, Dis_def, runT_val, runT_rd, runT_wr, runT_new, runT_mv, ex, put_some, put_none, ev_t, ev_c, argF_zero, argF_succ, set_g, set_n, cells_v, cells_sl, cells_agg, cells_own, cells_ptr, cells_clo, cells_eptr, cells_mp, putc, exBslice, lfill, exField, exIdxV, exIdxP, exBox, exAlloc, exLoad, exStore, exFieldA, exIdxA, exLen, exPick, exUn, exBeq, exMM, exSeq, seqGo, exExt, binV, intOp, subc, AV.solid, S0, encI, encB]
        exact fz_none hno _
      · have hr0 : rd (farS (pg d)) 0 = (k : Int) := by
          obtain ⟨i, h1, h2, h3⟩ := hmin.ex
          rw [hs0] at h2
          have : i = 0 := by simpa using h2
          rw [this] at h3; exact h3
        have hmo : markOk d = true := hok.mpr (by rw [hfp]; omega)
        have hkn := fo.lt 0 (by omega)
        have hS : markS d = markFrom d (farS (pg d)) k [0] := by
          unfold markS; rw [if_pos hmo, hfp, hr0]; rfl
        have hat := atOk0 R (by rw [hfp]; omega)
        rw [hfp, hr0] at hat
        have hkk : ((k : Int)).toNat = k := by omega
        rw [hkk] at hat
        have hneg : ¬ (k : Int) < 0 := by omega
        rw [hl]
        simp [AW_seq, AW_reg, AW_regD, AW_block, AW_cond, AW_skip, AW_exit, AW_ret, AW_scp, condR_true, condR_false, AThen_normal, AThen_ret, AThen_exit, ABlock_normal, ABlock_ret, ABlock_exit, AScope_normal, AScope_ret, AScope_exit, RetK_ret, RetK_normal, retAV_one, retAV_two, retAV_three, retAV_nil, RG_nil, RG_op, RG_guard, gdR_tt, gdR_ff, gdR_tf, gdR_ft, gdR_un, RG_call, callQ_clo, contK_ap, opR_some, RD_nil, RD_op0, RD_op1, opD0_some, opD1_some, RD_call, callQD_clo, RD_guard, gdD_tt, gdD_ff, gdD_tf, gdD_ft, gdD_un, psh_nil, psh_cons, Apt_nil, Apt_nilT, Apt_true, Apt_false, Dis_def, runT_val, runT_rd, runT_wr, runT_new, runT_mv, ex, put_some, put_none, ev_t, ev_c, argF_zero, argF_succ, set_g, set_n, cells_v, cells_sl, cells_agg, cells_own, cells_ptr, cells_clo, cells_eptr, cells_mp, putc, exBslice, lfill, exField, exIdxV, exIdxP, exBox, exAlloc, exLoad, exStore, exFieldA, exIdxA, exLen, exPick, exUn, exBeq, exMM, exSeq, seqGo, exExt, binV, intOp, subc, AV.solid, S0, encI, encB, hneg]
        refine rm_out C' R hev fo (tot := markS d) (m0 := k) ?_ ?_
        · refine ⟨T0 d.next.length, .own 16 0 d.next.length, .sl true [], [], [0], ⟨?_, ?_, ?_, ?_, ?_, .nil, ?_, ?_, ?_, by simp⟩, hT0, ⟨hat, hmin, fun i hi => ?_⟩, by rw [hS]; rfl, by simp; omega⟩
          · simp [put_some]
          · simp [put_some]
          · exact .inr (hv0 _ (by simp [set_g]))
          · simp [put_some, encI]
          · simp [put_some]
          · simp [set_g, encDet, encI, encIss]
          · simp [AV.ids]
          · simp [AV.ids]
          · rw [hs0]
            constructor
            · intro h
              have : i = 0 := by simpa using h
              subst this
              exact ⟨rfl, hr0⟩
            · rintro ⟨h, _⟩
              have : i = 0 := by simpa using h
              subst this; simp
        · intro f S e1 g0 v hln
          rw [hmo]
          obtain ⟨p0, hp0⟩ := mark_first R hev hmo
          simp [AW_seq, AW_reg, AW_regD, AW_block, AW_cond, AW_skip, AW_exit, AW_ret, AW_scp, condR_true, condR_false, AThen_normal, AThen_ret, AThen_exit, ABlock_normal, ABlock_ret, ABlock_exit, AScope_normal, AScope_ret, AScope_exit, RetK_ret, RetK_normal, retAV_one, retAV_two, retAV_three, retAV_nil, RG_nil, RG_op, RG_guard, gdR_tt, gdR_ff, gdR_tf, gdR_ft, gdR_un, RG_call, callQ_clo, contK_ap, opR_some, RD_nil, RD_op0, RD_op1, opD0_some, opD1_some, RD_call, callQD_clo, RD_guard, gdD_tt, gdD_ff, gdD_tf, gdD_ft, gdD_un, psh_nil, psh_cons, Apt_nil, Apt_nilT, Apt_true, Apt_false, Dis_def, runT_val, runT_rd, runT_wr, runT_new, runT_mv, ex, put_some, put_none, ev_t, ev_c, argF_zero, argF_succ, set_g, set_n, cells_v, cells_sl, cells_agg, cells_own, cells_ptr, cells_clo, cells_eptr, cells_mp, putc, exBslice, lfill, exField, exIdxV, exIdxP, exBox, exAlloc, exLoad, exStore, exFieldA, exIdxA, exLen, exPick, exUn, exBeq, exMM, exSeq, seqGo, exExt, binV, intOp, subc, AV.solid, S0, encI, encB]
          exact rm_tail (by omega) (fun p => hw _ p (by omega)) (fun p => ha _ (by
            have hwl : (writeS (markS d) p).length ≤ (markS d).length := by unfold writeS; split <;> simp [wrL_length]
            unfold Len; omega)) (markP_first ⟨p0, hp0⟩) e1 rfl g0 v
    · have hevb : (d.signs.tmod 2 != 0) = true := by rw [hrem]; simp [hev]
      have hno : markOk d = false := by simp [markOk, hev]
      have ccd := cl_cons cd cl_nil
      rw [hR] at hr
      simp [AW_seq, AW_reg, AW_regD, AW_block, AW_cond, AW_skip, AW_exit, AW_ret, AW_scp, condR_true, condR_false, AThen_normal, AThen_ret, AThen_exit, ABlock_normal, ABlock_ret, ABlock_exit, AScope_normal, AScope_ret, AScope_exit, RetK_ret, RetK_normal, retAV_one, retAV_two, retAV_three, retAV_nil, RG_nil, RG_op, RG_guard, gdR_tt, gdR_ff, gdR_tf, gdR_ft, gdR_un, RG_call, callQ_clo, contK_ap, opR_some, RD_nil, RD_op0, RD_op1, opD0_some, opD1_some, RD_call, callQD_clo, RD_guard, gdD_tt, gdD_ff, gdD_tf, gdD_ft, gdD_un, psh_nil, psh_cons, Apt_nil, Apt_nilT, Apt_true, Apt_false, Dis_def, runT_val, runT_rd, runT_wr, runT_new, runT_mv, ex, put_some, put_none, ev_t, ev_c, argF_zero, argF_succ, set_g, set_n, cells_v, cells_sl, cells_agg, cells_own, cells_ptr, cells_clo, cells_eptr, cells_mp, putc, exBslice, lfill, exField, exIdxV, exIdxP, exBox, exAlloc, exLoad, exStore, exFieldA, exIdxA, exLen, exPick, exUn, exBeq, exMM, exSeq, seqGo, exExt, binV, intOp, subc, AV.solid, S0, encI, encB, c_caesuraref18_Marked, encDet]
      refine CallR.pure hr ccd (closed_B _) ?_
      simp [AW_seq, AW_reg, AW_regD, AW_block, AW_cond, AW_skip, AW_exit, AW_ret, AW_scp, condR_true, condR_false, AThen_normal, AThen_ret, AThen_exit, ABlock_normal, ABlock_ret, ABlock_exit, AScope_normal, AScope_ret, AScope_exit, RetK_ret, RetK_normal, retAV_one, retAV_two, retAV_three, retAV_nil, RG_nil, RG_op, RG_guard, gdR_tt, gdR_ff, gdR_tf, gdR_ft, gdR_un, RG_call, callQ_clo, contK_ap, opR_some, RD_nil, RD_op0, RD_op1, opD0_some, opD1_some, RD_call, callQD_clo, RD_guard, gdD_tt, gdD_ff, gdD_tf, gdD_ft, gdD_un, psh_nil, psh_cons, Apt_nil, Apt_nilT, Apt_true, Apt_false, Dis_def, runT_val, runT_rd, runT_wr, runT_new, runT_mv, ex, put_some, put_none, ev_t, ev_c, argF_zero, argF_succ, set_g, set_n, cells_v, cells_sl, cells_agg, cells_own, cells_ptr, cells_clo, cells_eptr, cells_mp, putc, exBslice, lfill, exField, exIdxV, exIdxP, exBox, exAlloc, exLoad, exStore, exFieldA, exIdxA, exLen, exPick, exUn, exBeq, exMM, exSeq, seqGo, exExt, binV, intOp, subc, AV.solid, S0, encI, encB, hevb]
      exact fz_none hno _
  · have hR' : rightD d = false := by simpa using hR
    have hno : markOk d = false := by simp [markOk, hR']
    have ccd := cl_cons cd cl_nil
    rw [hR'] at hr
    simp [AW_seq, AW_reg, AW_regD, AW_block, AW_cond, AW_skip, AW_exit, AW_ret, AW_scp, condR_true, condR_false, AThen_normal, AThen_ret, AThen_exit, ABlock_normal, ABlock_ret, ABlock_exit, AScope_normal, AScope_ret, AScope_exit, RetK_ret, RetK_normal, retAV_one, retAV_two, retAV_three, retAV_nil, RG_nil, RG_op, RG_guard, gdR_tt, gdR_ff, gdR_tf, gdR_ft, gdR_un, RG_call, callQ_clo, contK_ap, opR_some, RD_nil, RD_op0, RD_op1, opD0_some, opD1_some, RD_call, callQD_clo, RD_guard, gdD_tt, gdD_ff, gdD_tf, gdD_ft, gdD_un, psh_nil, psh_cons, Apt_nil, Apt_nilT, Apt_true, Apt_false, Dis_def, runT_val, runT_rd, runT_wr, runT_new, runT_mv, ex, put_some, put_none, ev_t, ev_c, argF_zero, argF_succ, set_g, set_n, cells_v, cells_sl, cells_agg, cells_own, cells_ptr, cells_clo, cells_eptr, cells_mp, putc, exBslice, lfill, exField, exIdxV, exIdxP, exBox, exAlloc, exLoad, exStore, exFieldA, exIdxA, exLen, exPick, exUn, exBeq, exMM, exSeq, seqGo, exExt, binV, intOp, subc, AV.solid, S0, encI, encB, c_caesuraref18_Marked, encDet]
    refine CallR.pure hr ccd (closed_B _) ?_
    simp [AW_seq, AW_reg, AW_regD, AW_block, AW_cond, AW_skip, AW_exit, AW_ret, AW_scp, condR_true, condR_false, AThen_normal, AThen_ret, AThen_exit, ABlock_normal, ABlock_ret, ABlock_exit, AScope_normal, AScope_ret, AScope_exit, RetK_ret, RetK_normal, retAV_one, retAV_two, retAV_three, retAV_nil, RG_nil, RG_op, RG_guard, gdR_tt, gdR_ff, gdR_tf, gdR_ft, gdR_un, RG_call, callQ_clo, contK_ap, opR_some, RD_nil, RD_op0, RD_op1, opD0_some, opD1_some, RD_call, callQD_clo, RD_guard, gdD_tt, gdD_ff, gdD_tf, gdD_ft, gdD_un, psh_nil, psh_cons, Apt_nil, Apt_nilT, Apt_true, Apt_false, Dis_def, runT_val, runT_rd, runT_wr, runT_new, runT_mv, ex, put_some, put_none, ev_t, ev_c, argF_zero, argF_succ, set_g, set_n, cells_v, cells_sl, cells_agg, cells_own, cells_ptr, cells_clo, cells_eptr, cells_mp, putc, exBslice, lfill, exField, exIdxV, exIdxP, exBox, exAlloc, exLoad, exStore, exFieldA, exIdxA, exLen, exPick, exUn, exBeq, exMM, exSeq, seqGo, exExt, binV, intOp, subc, AV.solid, S0, encI, encB]
    exact fz_none hno _
end Go.Rf

set_option linter.unusedVariables false
set_option linter.unusedSimpArgs false
namespace Go.Rf
def c_caesuralaw18_PathAnswers (f_caesuralaw18_alive f_caesuraref15_Great f_path_First f_caesuraref18_First f_path_Marked f_caesuraref18_Marked f_caesuraref01_Ints f_path_Far f_caesuraref18_Far f_path_Before f_caesuraref18_Before f_path_Write f_caesuraref18_Write : FuncId) : AC :=
  (.seq (.reg none [
   ⟨(some 3), .box 3 (.t 0), none, none⟩,
   ⟨(some 6), .mv (.c (.v (.bool false))), none, none⟩])
  (.seq (.seq (.reg none [
   ⟨(some 17), .mv (.c .junk), none, (some ((.c (.clo f_caesuralaw18_alive [] [])), []))⟩,
   ⟨(some 18), .un .not (.t 17), none, none⟩])
  (.cond (.t 18) (.seq (.reg none [
    ⟨(some 6), .mv (.c (.v (.bool false))), none, none⟩])
   .ret) .skip))
  (.seq (.seq (.reg none [
   ⟨(some 19), .load (some 3) (.t 3), none, none⟩,
   ⟨(some 20), .mv (.c .junk), none, (some ((.c (.clo f_caesuraref15_Great [] [])), [(.t 19), (.c (.v (.int .i64 100)))]))⟩,
   ⟨(some 21), .mv (.t 20), none, none⟩,
   ⟨(some 22), .mv (.t 1), (some (21, false)), none⟩,
   ⟨(some 23), .len (.t 22), (some (21, false)), none⟩,
   ⟨(some 24), .bin .gtr (.t 23) (.c (.v (.int .i64 100))), (some (21, false)), none⟩,
   ⟨(some 25), .pick (.t 21) (.c (.v (.bool true))) (.t 24), none, none⟩,
   ⟨(some 26), .mv (.t 25), none, none⟩,
   ⟨(some 27), .mv (.t 2), (some (26, false)), none⟩,
   ⟨(some 28), .len (.t 27), (some (26, false)), none⟩,
   ⟨(some 29), .bin .gtr (.t 28) (.c (.v (.int .i64 100))), (some (26, false)), none⟩,
   ⟨(some 30), .pick (.t 26) (.c (.v (.bool true))) (.t 29), none, none⟩])
  (.cond (.t 30) (.seq (.reg none [
    ⟨(some 6), .mv (.c (.v (.bool true))), none, none⟩])
   .ret) .skip))
  (.seq (.reg none [
   ⟨(some 32), .load (some 3) (.t 3), none, none⟩,
   ⟨(some 33), .mv (.c .junk), none, (some ((.c (.clo f_path_First [] [])), [(.t 32)]))⟩,
   ⟨(some 31), .mv (.t 33), none, none⟩,
   ⟨(some 34), .ext 0 (.t 31), none, none⟩,
   ⟨(some 35), .ext 1 (.t 31), none, none⟩,
   ⟨(some 7), .mv (.t 34), none, none⟩,
   ⟨(some 8), .mv (.t 35), none, none⟩])
  (.seq (.reg none [
   ⟨(some 37), .load (some 3) (.t 3), none, none⟩,
   ⟨(some 38), .mv (.c .junk), none, (some ((.c (.clo f_caesuraref18_First [] [])), [(.t 37)]))⟩,
   ⟨(some 36), .mv (.t 38), none, none⟩,
   ⟨(some 39), .ext 0 (.t 36), none, none⟩,
   ⟨(some 40), .ext 1 (.t 36), none, none⟩,
   ⟨(some 9), .mv (.t 39), none, none⟩,
   ⟨(some 10), .mv (.t 40), none, none⟩])
  (.seq (.reg none [
   ⟨(some 42), .load (some 3) (.t 3), none, none⟩,
   ⟨(some 43), .mv (.c .junk), none, (some ((.c (.clo f_path_Marked [] [])), [(.t 42)]))⟩,
   ⟨(some 41), .mv (.t 43), none, none⟩,
   ⟨(some 44), .ext 0 (.t 41), none, none⟩,
   ⟨(some 45), .ext 1 (.t 41), none, none⟩,
   ⟨(some 46), .ext 2 (.t 41), none, none⟩,
   ⟨(some 11), .mv (.t 44), none, none⟩,
   ⟨(some 12), .mv (.t 45), none, none⟩,
   ⟨(some 13), .mv (.t 46), none, none⟩])
  (.seq (.reg none [
   ⟨(some 48), .load (some 3) (.t 3), none, none⟩,
   ⟨(some 49), .mv (.c .junk), none, (some ((.c (.clo f_caesuraref18_Marked [] [])), [(.t 48)]))⟩,
   ⟨(some 47), .mv (.t 49), none, none⟩,
   ⟨(some 50), .ext 0 (.t 47), none, none⟩,
   ⟨(some 51), .ext 1 (.t 47), none, none⟩,
   ⟨(some 52), .ext 2 (.t 47), none, none⟩,
   ⟨(some 14), .mv (.t 50), none, none⟩,
   ⟨(some 15), .mv (.t 51), none, none⟩,
   ⟨(some 16), .mv (.t 52), none, none⟩])
  (.seq (.reg (some []) [
   ⟨(some 53), .mv (.t 7), none, none⟩,
   ⟨(some 54), .mv (.t 9), none, none⟩,
   ⟨(some 55), .mv (.c .junk), none, (some ((.c (.clo f_caesuraref01_Ints [] [])), [(.t 53), (.t 54)]))⟩,
   ⟨(some 56), .mv (.t 55), none, none⟩,
   ⟨(some 57), .mv (.t 8), (some (56, true)), none⟩,
   ⟨(some 58), .mv (.t 10), (some (56, true)), none⟩,
   ⟨(some 59), .beq false (.t 57) (.t 58), (some (56, true)), none⟩,
   ⟨(some 60), .pick (.t 56) (.t 59) (.c (.v (.bool false))), none, none⟩,
   ⟨(some 61), .mv (.t 60), none, none⟩,
   ⟨(some 62), .mv (.t 11), (some (61, true)), none⟩,
   ⟨(some 63), .mv (.t 14), (some (61, true)), none⟩,
   ⟨(some 64), .mv (.c .junk), (some (61, true)), (some ((.c (.clo f_caesuraref01_Ints [] [])), [(.t 62), (.t 63)]))⟩,
   ⟨(some 65), .pick (.t 61) (.t 64) (.c (.v (.bool false))), none, none⟩,
   ⟨(some 66), .mv (.t 65), none, none⟩,
   ⟨(some 67), .mv (.t 12), (some (66, true)), none⟩,
   ⟨(some 68), .mv (.t 15), (some (66, true)), none⟩,
   ⟨(some 69), .bin .eql (.t 67) (.t 68), (some (66, true)), none⟩,
   ⟨(some 70), .pick (.t 66) (.t 69) (.c (.v (.bool false))), none, none⟩,
   ⟨(some 71), .mv (.t 70), none, none⟩,
   ⟨(some 72), .mv (.t 13), (some (71, true)), none⟩,
   ⟨(some 73), .mv (.t 16), (some (71, true)), none⟩,
   ⟨(some 74), .beq false (.t 72) (.t 73), (some (71, true)), none⟩,
   ⟨(some 75), .pick (.t 71) (.t 74) (.c (.v (.bool false))), none, none⟩,
   ⟨(some 76), .mv (.t 75), none, none⟩,
   ⟨(some 77), .load (some 3) (.t 3), (some (76, true)), none⟩,
   ⟨(some 78), .mv (.c .junk), (some (76, true)), (some ((.c (.clo f_path_Far [] [])), [(.t 77)]))⟩,
   ⟨(some 79), .load (some 3) (.t 3), (some (76, true)), none⟩,
   ⟨(some 80), .mv (.c .junk), (some (76, true)), (some ((.c (.clo f_caesuraref18_Far [] [])), [(.t 79)]))⟩,
   ⟨(some 81), .mv (.c .junk), (some (76, true)), (some ((.c (.clo f_caesuraref01_Ints [] [])), [(.t 78), (.t 80)]))⟩,
   ⟨(some 82), .pick (.t 76) (.t 81) (.c (.v (.bool false))), none, none⟩,
   ⟨(some 83), .mv (.t 82), none, none⟩,
   ⟨(some 84), .mv (.t 1), (some (83, true)), none⟩,
   ⟨(some 85), .mv (.t 2), (some (83, true)), none⟩,
   ⟨(some 86), .mv (.c .junk), (some (83, true)), (some ((.c (.clo f_path_Before [] [])), [(.t 84), (.t 85)]))⟩,
   ⟨(some 87), .mv (.t 1), (some (83, true)), none⟩,
   ⟨(some 88), .mv (.t 2), (some (83, true)), none⟩,
   ⟨(some 89), .mv (.c .junk), (some (83, true)), (some ((.c (.clo f_caesuraref18_Before [] [])), [(.t 87), (.t 88)]))⟩,
   ⟨(some 90), .beq false (.t 86) (.t 89), (some (83, true)), none⟩,
   ⟨(some 91), .pick (.t 83) (.t 90) (.c (.v (.bool false))), none, none⟩,
   ⟨(some 92), .mv (.t 91), none, none⟩,
   ⟨(some 93), .mv (.t 1), (some (92, true)), none⟩,
   ⟨(some 94), .mv (.t 2), (some (92, true)), none⟩,
   ⟨(some 95), .len (.t 94), (some (92, true)), none⟩,
   ⟨(some 96), .mv (.c .junk), (some (92, true)), (some ((.c (.clo f_path_Write [] [])), [(.t 93), (.t 95)]))⟩,
   ⟨(some 97), .mv (.t 1), (some (92, true)), none⟩,
   ⟨(some 98), .mv (.t 2), (some (92, true)), none⟩,
   ⟨(some 99), .len (.t 98), (some (92, true)), none⟩,
   ⟨(some 100), .mv (.c .junk), (some (92, true)), (some ((.c (.clo f_caesuraref18_Write [] [])), [(.t 97), (.t 99)]))⟩,
   ⟨(some 101), .mv (.c .junk), (some (92, true)), (some ((.c (.clo f_caesuraref01_Ints [] [])), [(.t 96), (.t 100)]))⟩,
   ⟨(some 102), .pick (.t 92) (.t 101) (.c (.v (.bool false))), none, none⟩,
   ⟨(some 6), .mv (.t 102), none, none⟩])
  .ret))))))))
theorem first_len2 {d : Det} (R : RightD d) : (firstS d).length ≤ 3000 := by
  have fo := farS_ok ⟨d.next, d.fin⟩
  have hfd : farD d = farS ⟨d.next, d.fin⟩ := by unfold farD; rw [if_pos ((right_iff d).mpr R)]
  have h2 := R.n2
  unfold firstS
  split
  · unfold firstL
    rw [firstFrom_length, hfd]
    have := fo.lt 0 (by have := R.n1; show 0 < d.next.length; omega)
    have e : (Gr.mk d.next d.fin).n = d.next.length := rfl
    omega
  · simp
theorem far_len2 {d : Det} (R : RightD d) : (farD d).length ≤ 3000 := by
  have fo := farS_ok ⟨d.next, d.fin⟩
  have hfd : farD d = farS ⟨d.next, d.fin⟩ := by unfold farD; rw [if_pos ((right_iff d).mpr R)]
  have h2 := R.n2
  have := fo.len
  have e : (Gr.mk d.next d.fin).n = d.next.length := rfl
  rw [hfd]; omega
theorem det_lens {d : Det} : (firstS d).length ≤ 3000 ∧ (farD d).length ≤ 3000 ∧ (markS d).length ≤ 9000 := by
  by_cases hR : rightD d = true
  · have R := (right_iff d).mp hR
    exact ⟨first_len2 R, far_len2 R, mark_len R⟩
  · have hfd : farD d = [] := by unfold farD; rw [if_neg hR]
    have hok : firstOk d = false := by unfold firstOk; rw [hfd]; rfl
    have hno : markOk d = false := by simp only [Bool.not_eq_true] at hR; simp [markOk, hR]
    refine ⟨by unfold firstS; rw [hok]; simp, by rw [hfd]; simp, by rw [(mark_no hno).1]; simp⟩
theorem caesuralaw18_PathAnswers_body {P : Program} {fl fg f1 r1 fm rm fi ff rf fb rb fw rw_ : FuncId} (d : Det) (a b : List Int) (hl : PureC P fl [] (encB true)) (gb : Bool) (hg : PureC P fg [encDet d, encI 100] (encB gb))
    (h1 : PureC P f1 [encDet d] (.tup [encIs (firstS d), encB (firstOk d)])) (h1r : PureC P r1 [encDet d] (.tup [encIs (firstS d), encB (firstOk d)]))
    (hm : PureC P fm [encDet d] (.tup [encIs (markS d), encI (markP d), encB (markOk d)])) (hmr : PureC P rm [encDet d] (.tup [encIs (markS d), encI (markP d), encB (markOk d)]))
    (hi : ∀ a b, Len a → Len b → PureC P fi [encIs a, encIs b] (encB (a == b))) (hf : PureC P ff [encDet d] (encIs (farD d))) (hfr : PureC P rf [encDet d] (encIs (farD d)))
    (hb : ∀ a b, Len a → Len b → PureC P fb [encIs a, encIs b] (encB (beforeS a b))) (hbr : ∀ a b, Len a → Len b → PureC P rb [encIs a, encIs b] (encB (beforeS a b)))
    (hw : ∀ (s : List Int) (p : Int), s.length ≤ 1000000 → PureC P fw [encIs s, encI p] (encIs (writeS s p))) (hwr : ∀ (s : List Int) (p : Int), s.length ≤ 1000000 → PureC P rw_ [encIs s, encI p] (encIs (writeS s p))) :
    AW P (c_caesuralaw18_PathAnswers fl fg f1 r1 fm rm fi ff rf fb rb fw rw_) (RetK [6] (FzK (encB true))) (argF [encDet d, encIs a, encIs b]) S0 := by
  have cd := closed_Det d
  have ccd := cl_cons cd cl_nil
  obtain ⟨n1, n2, n3⟩ := det_lens (d := d)
  simp [AW_seq, AW_reg, AW_regD, AW_block, AW_cond, AW_skip, AW_exit, AW_ret, AW_scp, condR_true, condR_false, AThen_normal, AThen_ret, AThen_exit, ABlock_normal, ABlock_ret, ABlock_exit, AScope_normal, AScope_ret, AScope_exit, RetK_ret, RetK_normal, retAV_one, retAV_two, retAV_three, retAV_nil, RG_nil, RG_op, RG_guard, gdR_tt, gdR_ff, gdR_tf, gdR_ft, gdR_un, RG_call, callQ_clo, contK_ap, opR_some, RD_nil, RD_op0, RD_op1, opD0_some, opD1_some, RD_call, callQD_clo, RD_guard, gdD_tt, gdD_ff, gdD_tf, gdD_ft, gdD_un, psh_nil, psh_cons, Apt_nil, Apt_nilT, Apt_true, Apt_false, Dis_def, runT_val, runT_rd, runT_wr, runT_new, runT_mv, ex, put_some, put_none, ev_t, ev_c, argF_zero, argF_succ, set_g, set_n, cells_v, cells_sl, cells_agg, cells_own, cells_ptr, cells_clo, cells_eptr, cells_mp, putc, exBslice, lfill, exField, exIdxV, exIdxP, exBox, exAlloc, exLoad, exStore, exFieldA, exIdxA, exLen, exPick, exUn, exBeq, exMM, exSeq, seqGo, exExt, binV, intOp, subc, AV.solid, S0, encI, encB, c_caesuralaw18_PathAnswers, encDet]
  refine CallR.pure hl cl_nil (closed_B _) ?_
  simp [AW_seq, AW_reg, AW_regD, AW_block, AW_cond, AW_skip, AW_exit, AW_ret, AW_scp, condR_true, condR_false, AThen_normal, AThen_ret, AThen_exit, ABlock_normal, ABlock_ret, ABlock_exit, AScope_normal, AScope_ret, AScope_exit, RetK_ret, RetK_normal, retAV_one, retAV_two, retAV_three, retAV_nil, RG_nil, RG_op, RG_guard, gdR_tt, gdR_ff, gdR_tf, gdR_ft, gdR_un, RG_call, callQ_clo, contK_ap, opR_some, RD_nil, RD_op0, RD_op1, opD0_some, opD1_some, RD_call, callQD_clo, RD_guard, gdD_tt, gdD_ff, gdD_tf, gdD_ft, gdD_un, psh_nil, psh_cons, Apt_nil, Apt_nilT, Apt_true, Apt_false, Dis_def, runT_val, runT_rd, runT_wr, runT_new, runT_mv, ex, put_some, put_none, ev_t, ev_c, argF_zero, argF_succ, set_g, set_n, cells_v, cells_sl, cells_agg, cells_own, cells_ptr, cells_clo, cells_eptr, cells_mp, putc, exBslice, lfill, exField, exIdxV, exIdxP, exBox, exAlloc, exLoad, exStore, exFieldA, exIdxA, exLen, exPick, exUn, exBeq, exMM, exSeq, seqGo, exExt, binV, intOp, subc, AV.solid, S0, encI, encB]
  refine CallR.pure hg (cl_cons cd (cl_cons (closed_I _) cl_nil)) (closed_B _) ?_
  cases gb with
  | true =>
    simp [AW_seq, AW_reg, AW_regD, AW_block, AW_cond, AW_skip, AW_exit, AW_ret, AW_scp, condR_true, condR_false, AThen_normal, AThen_ret, AThen_exit, ABlock_normal, ABlock_ret, ABlock_exit, AScope_normal, AScope_ret, AScope_exit, RetK_ret, RetK_normal, retAV_one, retAV_two, retAV_three, retAV_nil, RG_nil, RG_op, RG_guard, gdR_tt, gdR_ff, gdR_tf, gdR_ft, gdR_un, RG_call, callQ_clo, contK_ap, opR_some, RD_nil, RD_op0, RD_op1, opD0_some, opD1_some, RD_call, callQD_clo, RD_guard, gdD_tt, gdD_ff, gdD_tf, gdD_ft, gdD_un, psh_nil, psh_cons, Apt_nil, Apt_nilT, Apt_true, Apt_false, Dis_def, runT_val, runT_rd, runT_wr, runT_new, runT_mv, ex, put_some, put_none, ev_t, ev_c, argF_zero, argF_succ, set_g, set_n, cells_v, cells_sl, cells_agg, cells_own, cells_ptr, cells_clo, cells_eptr, cells_mp, putc, exBslice, lfill, exField, exIdxV, exIdxP, exBox, exAlloc, exLoad, exStore, exFieldA, exIdxA, exLen, exPick, exUn, exBeq, exMM, exSeq, seqGo, exExt, binV, intOp, subc, AV.solid, S0, encI, encB]
    exact FzK_B true _
  | false =>
    by_cases ha : 100 < a.length
    · have ha' : (100 : Int) < a.length := by omega
      simp [AW_seq, AW_reg, AW_regD, AW_block, AW_cond, AW_skip, AW_exit, AW_ret, AW_scp, condR_true, condR_false, AThen_normal, AThen_ret, AThen_exit, ABlock_normal, ABlock_ret, ABlock_exit, AScope_normal, AScope_ret, AScope_exit, RetK_ret, RetK_normal, retAV_one, retAV_two, retAV_three, retAV_nil, RG_nil, RG_op, RG_guard, gdR_tt, gdR_ff, gdR_tf, gdR_ft, gdR_un, RG_call, callQ_clo, contK_ap, opR_some, RD_nil, RD_op0, RD_op1, opD0_some, opD1_some, RD_call, callQD_clo, RD_guard, gdD_tt, gdD_ff, gdD_tf, gdD_ft, gdD_un, psh_nil, psh_cons, Apt_nil, Apt_nilT, Apt_true, Apt_false, Dis_def, runT_val, runT_rd, runT_wr, runT_new, runT_mv, ex, put_some, put_none, ev_t, ev_c, argF_zero, argF_succ, set_g, set_n, cells_v, cells_sl, cells_agg, cells_own, cells_ptr, cells_clo, cells_eptr, cells_mp, putc, exBslice, lfill, exField, exIdxV, exIdxP, exBox, exAlloc, exLoad, exStore, exFieldA, exIdxA, exLen, exPick, exUn, exBeq, exMM, exSeq, seqGo, exExt, binV, intOp, subc, AV.solid, S0, encI, encB, encIs, ha, ha']
      exact FzK_B true _
    · have ha' : ¬ (100 : Int) < a.length := by omega
      by_cases hbl : 100 < b.length
      · have hb' : (100 : Int) < b.length := by omega
        simp [AW_seq, AW_reg, AW_regD, AW_block, AW_cond, AW_skip, AW_exit, AW_ret, AW_scp, condR_true, condR_false, AThen_normal, AThen_ret, AThen_exit, ABlock_normal, ABlock_ret, ABlock_exit, AScope_normal, AScope_ret, AScope_exit, RetK_ret, RetK_normal, retAV_one, retAV_two, retAV_three, retAV_nil, RG_nil, RG_op, RG_guard, gdR_tt, gdR_ff, gdR_tf, gdR_ft, gdR_un, RG_call, callQ_clo, contK_ap, opR_some, RD_nil, RD_op0, RD_op1, opD0_some, opD1_some, RD_call, callQD_clo, RD_guard, gdD_tt, gdD_ff, gdD_tf, gdD_ft, gdD_un, psh_nil, psh_cons, Apt_nil, Apt_nilT, Apt_true, Apt_false, Dis_def, runT_val, runT_rd, runT_wr, runT_new, runT_mv, ex, put_some, put_none, ev_t, ev_c, argF_zero, argF_succ, set_g, set_n, cells_v, cells_sl, cells_agg, cells_own, cells_ptr, cells_clo, cells_eptr, cells_mp, putc, exBslice, lfill, exField, exIdxV, exIdxP, exBox, exAlloc, exLoad, exStore, exFieldA, exIdxA, exLen, exPick, exUn, exBeq, exMM, exSeq, seqGo, exExt, binV, intOp, subc, AV.solid, S0, encI, encB, encIs, ha, ha', hbl, hb']
        exact FzK_B true _
      · have hb' : ¬ (100 : Int) < b.length := by omega
        have la : Len a := by unfold Len; omega
        have lb : Len b := by unfold Len; omega
        have hwl : (writeS a b.length).length ≤ a.length := by unfold writeS; split <;> simp [wrL_length]
        have i1 := hi (firstS d) (firstS d) (by unfold Len; omega) (by unfold Len; omega)
        have i2 := hi (markS d) (markS d) (by unfold Len; omega) (by unfold Len; omega)
        have i3 := hi (farD d) (farD d) (by unfold Len; omega) (by unfold Len; omega)
        have i4 := hi (writeS a b.length) (writeS a b.length) (by unfold Len; omega) (by unfold Len; omega)
        simp only [beq_self_eq_true] at i1 i2 i3 i4
        have c1 : Closed (.tup [encIs (firstS d), encB (firstOk d)]) := .tup _ (cl_cons (closed_Is _) (cl_cons (closed_B _) cl_nil))
        simp [AW_seq, AW_reg, AW_regD, AW_block, AW_cond, AW_skip, AW_exit, AW_ret, AW_scp, condR_true, condR_false, AThen_normal, AThen_ret, AThen_exit, ABlock_normal, ABlock_ret, ABlock_exit, AScope_normal, AScope_ret, AScope_exit, RetK_ret, RetK_normal, retAV_one, retAV_two, retAV_three, retAV_nil, RG_nil, RG_op, RG_guard, gdR_tt, gdR_ff, gdR_tf, gdR_ft, gdR_un, RG_call, callQ_clo, contK_ap, opR_some, RD_nil, RD_op0, RD_op1, opD0_some, opD1_some, RD_call, callQD_clo, RD_guard, gdD_tt, gdD_ff, gdD_tf, gdD_ft, gdD_un, psh_nil, psh_cons, Apt_nil, Apt_nilT, Apt_true, Apt_false, Dis_def, runT_val, runT_rd, runT_wr, runT_new, runT_mv, ex, put_some, put_none, ev_t, ev_c, argF_zero, argF_succ, set_g, set_n, cells_v, cells_sl, cells_agg, cells_own, cells_ptr, cells_clo, cells_eptr, cells_mp, putc, exBslice, lfill, exField, exIdxV, exIdxP, exBox, exAlloc, exLoad, exStore, exFieldA, exIdxA, exLen, exPick, exUn, exBeq, exMM, exSeq, seqGo, exExt, binV, intOp, subc, AV.solid, S0, encI, encB, encIs, ha, ha', hbl, hb', encDet]
        refine CallR.pure h1 ccd c1 ?_
        simp [AW_seq, AW_reg, AW_regD, AW_block, AW_cond, AW_skip, AW_exit, AW_ret, AW_scp, condR_true, condR_false, AThen_normal, AThen_ret, AThen_exit, ABlock_normal, ABlock_ret, ABlock_exit, AScope_normal, AScope_ret, AScope_exit, RetK_ret, RetK_normal, retAV_one, retAV_two, retAV_three, retAV_nil, RG_nil, RG_op, RG_guard, gdR_tt, gdR_ff, gdR_tf, gdR_ft, gdR_un, RG_call, callQ_clo, contK_ap, opR_some, RD_nil, RD_op0, RD_op1, opD0_some, opD1_some, RD_call, callQD_clo, RD_guard, gdD_tt, gdD_ff, gdD_tf, gdD_ft, gdD_un, psh_nil, psh_cons, Apt_nil, Apt_nilT, Apt_true, Apt_false, Dis_def, runT_val, runT_rd, runT_wr, runT_new, runT_mv, ex, put_some, put_none, ev_t, ev_c, argF_zero, argF_succ, set_g, set_n, cells_v, cells_sl, cells_agg, cells_own, cells_ptr, cells_clo, cells_eptr, cells_mp, putc, exBslice, lfill, exField, exIdxV, exIdxP, exBox, exAlloc, exLoad, exStore, exFieldA, exIdxA, exLen, exPick, exUn, exBeq, exMM, exSeq, seqGo, exExt, binV, intOp, subc, AV.solid, S0, encI, encB, encDet]
        refine CallR.pure h1r ccd c1 ?_
        simp [AW_seq, AW_reg, AW_regD, AW_block, AW_cond, AW_skip, AW_exit, AW_ret, AW_scp, condR_true, condR_false, AThen_normal, AThen_ret, AThen_exit, ABlock_normal, ABlock_ret, ABlock_exit, AScope_normal, AScope_ret, AScope_exit, RetK_ret, RetK_normal, retAV_one, retAV_two, retAV_three, retAV_nil, RG_nil, RG_op, RG_guard, gdR_tt, gdR_ff, gdR_tf, gdR_ft, gdR_un, RG_call, callQ_clo, contK_ap, opR_some, RD_nil, RD_op0, RD_op1, opD0_some, opD1_some, RD_call, callQD_clo, RD_guard, gdD_tt, gdD_ff, gdD_tf, gdD_ft, gdD_un, psh_nil, psh_cons, Apt_nil, Apt_nilT, Apt_true, Apt_false, Dis_def, runT_val, runT_rd, runT_wr, runT_new, runT_mv, ex, put_some, put_none, ev_t, ev_c, argF_zero, argF_succ, set_g, set_n, cells_v, cells_sl, cells_agg, cells_own, cells_ptr, cells_clo, cells_eptr, cells_mp, putc, exBslice, lfill, exField, exIdxV, exIdxP, exBox, exAlloc, exLoad, exStore, exFieldA, exIdxA, exLen, exPick, exUn, exBeq, exMM, exSeq, seqGo, exExt, binV, intOp, subc, AV.solid, S0, encI, encB, encDet]
        refine CallR.pure hm ccd (closed_M _ _ _) ?_
        simp [AW_seq, AW_reg, AW_regD, AW_block, AW_cond, AW_skip, AW_exit, AW_ret, AW_scp, condR_true, condR_false, AThen_normal, AThen_ret, AThen_exit, ABlock_normal, ABlock_ret, ABlock_exit, AScope_normal, AScope_ret, AScope_exit, RetK_ret, RetK_normal, retAV_one, retAV_two, retAV_three, retAV_nil, RG_nil, RG_op, RG_guard, gdR_tt, gdR_ff, gdR_tf, gdR_ft, gdR_un, RG_call, callQ_clo, contK_ap, opR_some, RD_nil, RD_op0, RD_op1, opD0_some, opD1_some, RD_call, callQD_clo, RD_guard, gdD_tt, gdD_ff, gdD_tf, gdD_ft, gdD_un, psh_nil, psh_cons, Apt_nil, Apt_nilT, Apt_true, Apt_false, Dis_def, runT_val, runT_rd, runT_wr, runT_new, runT_mv, ex, put_some, put_none, ev_t, ev_c, argF_zero, argF_succ, set_g, set_n, cells_v, cells_sl, cells_agg, cells_own, cells_ptr, cells_clo, cells_eptr, cells_mp, putc, exBslice, lfill, exField, exIdxV, exIdxP, exBox, exAlloc, exLoad, exStore, exFieldA, exIdxA, exLen, exPick, exUn, exBeq, exMM, exSeq, seqGo, exExt, binV, intOp, subc, AV.solid, S0, encI, encB, encDet]
        refine CallR.pure hmr ccd (closed_M _ _ _) ?_
        have K : ∀ {f : FuncId} {args : List AV} {r : AV}, PureC P f args r → (∀ x ∈ args, Closed x) → Closed r → ∀ n g, CallD P f args ⟨n, g⟩ [] r := fun h hc hr n g => CallD.cl h hc hr
        have D1 := K i1 (cl_cons (closed_Is _) (cl_cons (closed_Is _) cl_nil)) (closed_B _)
        have D2 := K i2 (cl_cons (closed_Is _) (cl_cons (closed_Is _) cl_nil)) (closed_B _)
        have D3 := K hf ccd (closed_Is _)
        have D4 := K hfr ccd (closed_Is _)
        have D5 := K i3 (cl_cons (closed_Is _) (cl_cons (closed_Is _) cl_nil)) (closed_B _)
        have D6 := K (hb a b la lb) (cl_cons (closed_Is _) (cl_cons (closed_Is _) cl_nil)) (closed_B _)
        have D7 := K (hbr a b la lb) (cl_cons (closed_Is _) (cl_cons (closed_Is _) cl_nil)) (closed_B _)
        have D8 := K (hw a b.length (by omega)) (cl_cons (closed_Is _) (cl_cons (closed_I _) cl_nil)) (closed_Is _)
        have D9 := K (hwr a b.length (by omega)) (cl_cons (closed_Is _) (cl_cons (closed_I _) cl_nil)) (closed_Is _)
        have D10 := K i4 (cl_cons (closed_Is _) (cl_cons (closed_Is _) cl_nil)) (closed_B _)
        simp [AW_seq, AW_reg, AW_regD, AW_block, AW_cond, AW_skip, AW_exit, AW_ret, AW_scp, condR_true, condR_false, AThen_normal, AThen_ret, AThen_exit, ABlock_normal, ABlock_ret, ABlock_exit, AScope_normal, AScope_ret, AScope_exit, RetK_ret, RetK_normal, retAV_one, retAV_two, retAV_three, retAV_nil, RG_nil, RG_op, RG_guard, gdR_tt, gdR_ff, gdR_tf, gdR_ft, gdR_un, RG_call, callQ_clo, contK_ap, opR_some, RD_nil, RD_op0, RD_op1, opD0_some, opD1_some, RD_call, callQD_clo, RD_guard, gdD_tt, gdD_ff, gdD_tf, gdD_ft, gdD_un, psh_nil, psh_cons, Apt_nil, Apt_nilT, Apt_true, Apt_false, Dis_def, runT_val, runT_rd, runT_wr, runT_new, runT_mv, ex, put_some, put_none, ev_t, ev_c, argF_zero, argF_succ, set_g, set_n, cells_v, cells_sl, cells_agg, cells_own, cells_ptr, cells_clo, cells_eptr, cells_mp, putc, exBslice, lfill, exField, exIdxV, exIdxP, exBox, exAlloc, exLoad, exStore, exFieldA, exIdxA, exLen, exPick, exUn, exBeq, exMM, exSeq, seqGo, exExt, binV, intOp, subc, AV.solid, S0, encI, encB, encDet]
        refine ⟨_, ⟨_, D1 _ _⟩, ?_⟩
        simp [AW_seq, AW_reg, AW_regD, AW_block, AW_cond, AW_skip, AW_exit, AW_ret, AW_scp, condR_true, condR_false, AThen_normal, AThen_ret, AThen_exit, ABlock_normal, ABlock_ret, ABlock_exit, AScope_normal, AScope_ret, AScope_exit, RetK_ret, RetK_normal, retAV_one, retAV_two, retAV_three, retAV_nil, RG_nil, RG_op, RG_guard, gdR_tt, gdR_ff, gdR_tf, gdR_ft, gdR_un, RG_call, callQ_clo, contK_ap, opR_some, RD_nil, RD_op0, RD_op1, opD0_some, opD1_some, RD_call, callQD_clo, RD_guard, gdD_tt, gdD_ff, gdD_tf, gdD_ft, gdD_un, psh_nil, psh_cons, Apt_nil, Apt_nilT, Apt_true, Apt_false, Dis_def, runT_val, runT_rd, runT_wr, runT_new, runT_mv, ex, put_some, put_none, ev_t, ev_c, argF_zero, argF_succ, set_g, set_n, cells_v, cells_sl, cells_agg, cells_own, cells_ptr, cells_clo, cells_eptr, cells_mp, putc, exBslice, lfill, exField, exIdxV, exIdxP, exBox, exAlloc, exLoad, exStore, exFieldA, exIdxA, exLen, exPick, exUn, exBeq, exMM, exSeq, seqGo, exExt, binV, intOp, subc, AV.solid, S0, encI, encB]
        refine ⟨_, ⟨_, D2 _ _⟩, ?_⟩
        simp [AW_seq, AW_reg, AW_regD, AW_block, AW_cond, AW_skip, AW_exit, AW_ret, AW_scp, condR_true, condR_false, AThen_normal, AThen_ret, AThen_exit, ABlock_normal, ABlock_ret, ABlock_exit, AScope_normal, AScope_ret, AScope_exit, RetK_ret, RetK_normal, retAV_one, retAV_two, retAV_three, retAV_nil, RG_nil, RG_op, RG_guard, gdR_tt, gdR_ff, gdR_tf, gdR_ft, gdR_un, RG_call, callQ_clo, contK_ap, opR_some, RD_nil, RD_op0, RD_op1, opD0_some, opD1_some, RD_call, callQD_clo, RD_guard, gdD_tt, gdD_ff, gdD_tf, gdD_ft, gdD_un, psh_nil, psh_cons, Apt_nil, Apt_nilT, Apt_true, Apt_false, Dis_def, runT_val, runT_rd, runT_wr, runT_new, runT_mv, ex, put_some, put_none, ev_t, ev_c, argF_zero, argF_succ, set_g, set_n, cells_v, cells_sl, cells_agg, cells_own, cells_ptr, cells_clo, cells_eptr, cells_mp, putc, exBslice, lfill, exField, exIdxV, exIdxP, exBox, exAlloc, exLoad, exStore, exFieldA, exIdxA, exLen, exPick, exUn, exBeq, exMM, exSeq, seqGo, exExt, binV, intOp, subc, AV.solid, S0, encI, encB, encDet]
        refine ⟨_, ⟨_, D3 _ _⟩, _, ⟨_, D4 _ _⟩, _, ⟨_, D5 _ _⟩, ?_⟩
        simp [AW_seq, AW_reg, AW_regD, AW_block, AW_cond, AW_skip, AW_exit, AW_ret, AW_scp, condR_true, condR_false, AThen_normal, AThen_ret, AThen_exit, ABlock_normal, ABlock_ret, ABlock_exit, AScope_normal, AScope_ret, AScope_exit, RetK_ret, RetK_normal, retAV_one, retAV_two, retAV_three, retAV_nil, RG_nil, RG_op, RG_guard, gdR_tt, gdR_ff, gdR_tf, gdR_ft, gdR_un, RG_call, callQ_clo, contK_ap, opR_some, RD_nil, RD_op0, RD_op1, opD0_some, opD1_some, RD_call, callQD_clo, RD_guard, gdD_tt, gdD_ff, gdD_tf, gdD_ft, gdD_un, psh_nil, psh_cons, Apt_nil, Apt_nilT, Apt_true, Apt_false, Dis_def, runT_val, runT_rd, runT_wr, runT_new, runT_mv, ex, put_some, put_none, ev_t, ev_c, argF_zero, argF_succ, set_g, set_n, cells_v, cells_sl, cells_agg, cells_own, cells_ptr, cells_clo, cells_eptr, cells_mp, putc, exBslice, lfill, exField, exIdxV, exIdxP, exBox, exAlloc, exLoad, exStore, exFieldA, exIdxA, exLen, exPick, exUn, exBeq, exMM, exSeq, seqGo, exExt, binV, intOp, subc, AV.solid, S0, encI, encB]
        refine ⟨_, ⟨_, D6 _ _⟩, _, ⟨_, D7 _ _⟩, ?_⟩
        simp [AW_seq, AW_reg, AW_regD, AW_block, AW_cond, AW_skip, AW_exit, AW_ret, AW_scp, condR_true, condR_false, AThen_normal, AThen_ret, AThen_exit, ABlock_normal, ABlock_ret, ABlock_exit, AScope_normal, AScope_ret, AScope_exit, RetK_ret, RetK_normal, retAV_one, retAV_two, retAV_three, retAV_nil, RG_nil, RG_op, RG_guard, gdR_tt, gdR_ff, gdR_tf, gdR_ft, gdR_un, RG_call, callQ_clo, contK_ap, opR_some, RD_nil, RD_op0, RD_op1, opD0_some, opD1_some, RD_call, callQD_clo, RD_guard, gdD_tt, gdD_ff, gdD_tf, gdD_ft, gdD_un, psh_nil, psh_cons, Apt_nil, Apt_nilT, Apt_true, Apt_false, Dis_def, runT_val, runT_rd, runT_wr, runT_new, runT_mv, ex, put_some, put_none, ev_t, ev_c, argF_zero, argF_succ, set_g, set_n, cells_v, cells_sl, cells_agg, cells_own, cells_ptr, cells_clo, cells_eptr, cells_mp, putc, exBslice, lfill, exField, exIdxV, exIdxP, exBox, exAlloc, exLoad, exStore, exFieldA, exIdxA, exLen, exPick, exUn, exBeq, exMM, exSeq, seqGo, exExt, binV, intOp, subc, AV.solid, S0, encI, encB, encIs]
        refine ⟨_, ⟨_, D8 _ _⟩, _, ⟨_, D9 _ _⟩, _, ⟨_, D10 _ _⟩, ?_⟩
        simp [AW_seq, AW_reg, AW_regD, AW_block, AW_cond, AW_skip, AW_exit, AW_ret, AW_scp, condR_true, condR_false, AThen_normal, AThen_ret, AThen_exit, ABlock_normal, ABlock_ret, ABlock_exit, AScope_normal, AScope_ret, AScope_exit, RetK_ret, RetK_normal, retAV_one, retAV_two, retAV_three, retAV_nil, RG_nil, RG_op, RG_guard, gdR_tt, gdR_ff, gdR_tf, gdR_ft, gdR_un, RG_call, callQ_clo, contK_ap, opR_some, RD_nil, RD_op0, RD_op1, opD0_some, opD1_some, RD_call, callQD_clo, RD_guard, gdD_tt, gdD_ff, gdD_tf, gdD_ft, gdD_un, psh_nil, psh_cons, Apt_nil, Apt_nilT, Apt_true, Apt_false, Dis_def, runT_val, runT_rd, runT_wr, runT_new, runT_mv, ex, put_some, put_none, ev_t, ev_c, argF_zero, argF_succ, set_g, set_n, cells_v, cells_sl, cells_agg, cells_own, cells_ptr, cells_clo, cells_eptr, cells_mp, putc, exBslice, lfill, exField, exIdxV, exIdxP, exBox, exAlloc, exLoad, exStore, exFieldA, exIdxA, exLen, exPick, exUn, exBeq, exMM, exSeq, seqGo, exExt, binV, intOp, subc, AV.solid, S0, encI, encB]
        exact FzK_B true _
end Go.Rf
