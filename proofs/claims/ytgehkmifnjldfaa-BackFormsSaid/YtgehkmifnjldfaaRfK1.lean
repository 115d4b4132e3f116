import Derived.Test.YtgehkmifnjldfaaRfN4
import Derived.Test.YtgehkmifnjldfaaRfL10
/- Own work: automata, the other way round: beginnings that are accepted. -/
set_option linter.unusedVariables false
set_option linter.unusedSimpArgs false
namespace Go.Rf
open Go.RowKit
attribute [local simp] Z0h Z0c Z0d Z09 Z0a Z0i Z0b Z0f Z0g Z2z Z2y Z07 Z08 Z06 Z01 Z02 Z00 Z04 Z05 Z03 Z1z Z1y Z46 Z48 Z47 Z45 Z1n Z1o Z1m Z3n Z3k Z3m Z3l Z3o Z1l Z29 Z32 Z3x Z1i Z1j Z1k Z3v Z3w Z1g Z28 Z1h Z3i Z3f Z3h Z3g Z3j Z41 Z40 Z0t Z0u Z0v Z0s Z1f Z4c Z4b Z4d Z4a Z49 ex Z43 Z42 ev_t ev_c Z27 Z26 Z4e Z4f Z2m Z2l Z2f Z2j Z2k Z2g Z2h Z2i putc exBslice lfill exField exIdxV exIdxP exBox exAlloc exLoad exStore exFieldA exIdxA exLen exPick exUn exBeq exMM exSeq seqGo exExt binV intOp subc AV.solid S0 encI encB

def c_back_Heads_1 : AC :=
  (.seq (.reg none [
   ⟨(some 3), .mv (.c (.v (.bool false))), none, none⟩])
  (.seq (.reg none [
   ⟨(some 4), .load none (.t 1), none, none⟩,
   ⟨(some 5), .mv (.t 0), none, none⟩,
   ⟨(some 6), .bslice 1 1 (.v (.int .i64 0)) [(0, (.t 5))], none, none⟩,
   ⟨(some 7), .app 1 8 (.t 4) (.t 6), none, none⟩,
   ⟨none, .store 1 (.t 1) (.t 7), none, none⟩])
  (.seq (.reg none [
   ⟨(some 3), .mv (.c (.v (.bool true))), none, none⟩])
  .ret)))
def c_back_Head_1 : AC :=
  (.seq (.reg none [
   ⟨(some 3), .mv (.c (.v (.bool false))), none, none⟩])
  (.seq (.reg none [
   ⟨none, .store 1 (.t 1) (.c (.v (.bool true))), none, none⟩])
  (.seq (.reg none [
   ⟨(some 3), .mv (.c (.v (.bool false))), none, none⟩])
  .ret)))
def c_hd_step (f_net_Step : FuncId) : AC :=
  (.reg (some []) [
      ⟨(some 34), .load (some 4) (.t 3), none, none⟩,
      ⟨(some 35), .mv (.t 6), none, none⟩,
      ⟨(some 36), .mv (.t 1), none, none⟩,
      ⟨(some 37), .mv (.t 8), none, none⟩,
      ⟨(some 38), .idxA 1 (.t 36) (.t 37), none, none⟩,
      ⟨(some 39), .load none (.t 38), none, none⟩,
      ⟨(some 40), .mv (.c .junk), none, (some ((.c (.clo f_net_Step [] [])), [(.t 34), (.t 35), (.t 39)]))⟩,
      ⟨(some 6), .mv (.t 40), none, none⟩])
def c_hd_loop (f_slices_ContainsFunc_Sint_int_ f_net_Step : FuncId) : AC :=
  (.block 0 (.loop (.seq (.seq (.reg none [
     ⟨(some 14), .mv (.t 6), none, none⟩,
     ⟨(some 15), .len (.t 14), none, none⟩,
     ⟨(some 16), .bin .gtr (.t 15) (.c (.v (.int .i64 0))), none, none⟩])
    (.cond (.t 16) .skip (.exit 0)))
    (.seq (.block 1 (.seq (.seq (.reg none [
      ⟨(some 19), .mv (.t 6), none, none⟩,
      ⟨(some 20), .mv (.t 7), none, none⟩,
      ⟨(some 21), .mv (.c .junk), none, (some ((.c (.clo f_slices_ContainsFunc_Sint_int_ [] [])), [(.t 19), (.t 20)]))⟩,
      ⟨(some 22), .mv (.t 21), none, none⟩,
      ⟨(some 23), .mv (.t 2), (some (22, true)), none⟩,
      ⟨(some 24), .mv (.t 8), (some (22, true)), none⟩,
      ⟨(some 25), .mv (.c .junk), (some (22, true)), (some ((.t 23), [(.t 24)]))⟩,
      ⟨(some 26), .un .not (.t 25), (some (22, true)), none⟩,
      ⟨(some 27), .pick (.t 22) (.t 26) (.c (.v (.bool false))), none, none⟩,
      ⟨(some 28), .mv (.t 27), none, none⟩,
      ⟨(some 29), .mv (.t 8), (some (28, false)), none⟩,
      ⟨(some 30), .mv (.t 1), (some (28, false)), none⟩,
      ⟨(some 31), .len (.t 30), (some (28, false)), none⟩,
      ⟨(some 32), .bin .eql (.t 29) (.t 31), (some (28, false)), none⟩,
      ⟨(some 33), .pick (.t 28) (.c (.v (.bool true))) (.t 32), none, none⟩])
     (.cond (.t 33) .ret .skip))
     (c_hd_step f_net_Step)))
    (.reg none [
     ⟨(some 17), .mv (.t 8), none, none⟩,
     ⟨(some 18), .bin .add (.t 17) (.c (.v (.int .i64 1))), none, none⟩,
     ⟨(some 8), .mv (.t 18), none, none⟩])))))
def c_back_heads (f_net_Right f_back_heads_1 f_slices_ContainsFunc_Sint_int_ f_net_Step : FuncId) : AC :=
  (.seq (.reg none [
   ⟨(some 3), .box 4 (.t 0), none, none⟩])
  (.seq (.seq (.reg none [
   ⟨(some 9), .load (some 4) (.t 3), none, none⟩,
   ⟨(some 10), .mv (.c .junk), none, (some ((.c (.clo f_net_Right [] [])), [(.t 9)]))⟩,
   ⟨(some 11), .un .not (.t 10), none, none⟩])
  (.cond (.t 11) .ret .skip))
  (.seq (.reg none [
   ⟨(some 12), .bslice 1 1 (.v (.int .i64 0)) [(0, (.c (.v (.int .i64 0))))], none, none⟩,
   ⟨(some 6), .mv (.t 12), none, none⟩])
  (.seq (.reg none [
   ⟨(some 13), .mkf f_back_heads_1 [] [(.t 3)], none, none⟩,
   ⟨(some 7), .mv (.t 13), none, none⟩])
  (.seq (.reg none [
   ⟨(some 8), .mv (.c (.v (.int .i64 0))), none, none⟩])
  (c_hd_loop f_slices_ContainsFunc_Sint_int_ f_net_Step))))))
def c_back_Heads (f_back_Heads_1 f_back_heads : FuncId) : AC :=
  (.seq (.reg none [
   ⟨(some 2), .box 4 (.t 0), none, none⟩,
   ⟨(some 4), .mv (.c (.sl true [])), none, none⟩])
  (.seq (.reg none [
   ⟨(some 5), .alloc (.sl true []) 1, none, none⟩])
  (.seq (.reg none [
   ⟨(some 6), .load (some 4) (.t 2), none, none⟩,
   ⟨(some 7), .mv (.t 1), none, none⟩,
   ⟨(some 8), .mkf f_back_Heads_1 [] [(.t 5)], none, none⟩,
   ⟨(some 9), .mv (.c .junk), none, (some ((.c (.clo f_back_heads [] [])), [(.t 6), (.t 7), (.t 8)]))⟩])
  (.seq (.reg none [
   ⟨(some 10), .load none (.t 5), none, none⟩,
   ⟨(some 4), .mv (.t 10), none, none⟩])
  .ret))))
def c_back_Head (f_back_Head_1 f_back_heads : FuncId) : AC :=
  (.seq (.reg none [
   ⟨(some 2), .box 4 (.t 0), none, none⟩,
   ⟨(some 4), .mv (.c (.v (.bool false))), none, none⟩])
  (.seq (.reg none [
   ⟨(some 5), .alloc (.v (.bool false)) 1, none, none⟩,
   ⟨none, .store 1 (.t 5) (.c (.v (.bool false))), none, none⟩])
  (.seq (.reg none [
   ⟨(some 6), .load (some 4) (.t 2), none, none⟩,
   ⟨(some 7), .mv (.t 1), none, none⟩,
   ⟨(some 8), .mkf f_back_Head_1 [] [(.t 5)], none, none⟩,
   ⟨(some 9), .mv (.c .junk), none, (some ((.c (.clo f_back_heads [] [])), [(.t 6), (.t 7), (.t 8)]))⟩])
  (.seq (.reg none [
   ⟨(some 10), .load none (.t 5), none, none⟩,
   ⟨(some 4), .mv (.t 10), none, none⟩])
  .ret))))
/-- The lengths below i of beginnings that are accepted. -/
def hdL (n : Net) (l : List Int) (i : Nat) : List Int := ((List.range i).filter fun j => accN n (l.take j)).map Int.ofNat
theorem hdL_succ (n : Net) (l : List Int) (i : Nat) : hdL n l (i + 1) = hdL n l i ++ (if accN n (l.take i) = true then [(i : Int)] else []) := by
  unfold hdL
  rw [List.range_succ, List.filter_append, List.map_append]
  congr 1
  by_cases h : accN n (l.take i) = true <;> simp [h]
theorem hdL_len (n : Net) (l : List Int) (i : Nat) : (hdL n l i).length ≤ i := by
  unfold hdL
  rw [List.length_map]
  have := List.length_filter_le (fun j => accN n (l.take j)) (List.range i)
  simpa using this
theorem stepN_nil (n : Net) (s : Int) : stepN n [] s = [] := by
  have : setF [] = [] := List.eq_nil_of_length_eq_zero (by have := setF_len []; simpa using this)
  simpa [stepN, behindL] using this
theorem runN_nil {n : Net} {l : List Int} : ∀ (d i : Nat), runN n (l.take i) = [] → i + d ≤ l.length → runN n (l.take (i + d)) = []
  | 0, i, h, _ => h
  | d + 1, i, h, hd => by
    have h1 := runN_nil d i h (by omega)
    rw [show i + (d + 1) = (i + d) + 1 by omega, runN_succ (by omega), h1, stepN_nil]
/-- Once there are no states left, nothing longer is accepted. -/
theorem hdL_stop {n : Net} {l : List Int} {i : Nat} (h : runN n (l.take i) = []) : ∀ (d : Nat), i + d ≤ l.length + 1 → hdL n l (i + d) = hdL n l i
  | 0, _ => rfl
  | d + 1, hd => by
    rw [show i + (d + 1) = (i + d) + 1 by omega, hdL_succ, hdL_stop h d (by omega)]
    have : runN n (l.take (i + d)) = [] := runN_nil d i h (by omega)
    simp [accN, this]
/-- What is told: told appends. -/
def HTold (P : Program) (ft : FuncId) : Prop := ∀ (S : St) (c : Nat) (v : AV) (cur : List Int) (i : Int) (K : AV → St → Prop), S.g c = some (.arr 1 [v]) → Vec S.g v 1 (cur.map encI) → c ∉ v.ids → cur.length ≤ 1000000 → c < S.n →
  (∀ v' S', S'.g c = some (.arr 1 [v']) → Vec S'.g v' 1 ((cur ++ [i]).map encI) → c ∉ v'.ids → (∀ j ∈ v'.ids, S.n ≤ j) → (∀ j, j ≠ c → j ∉ v.ids → j < S.n → S'.g j = S.g j) → S.n ≤ S'.n → K (encB true) S') → CallR P ft [encI i, .ptr c 0 0] S K
theorem HTold_of {P : Program} (hm : P.follows .mixedOrders = true) {ft : FuncId} (h : Is P ft c_back_Heads_1 [3] 2) : HTold P ft := by
  intro S c v cur i K hg hv hc hl hcn hk
  refine h.callR hm rfl ?_
  have happ := fun (n nid : Nat) => Vec.app (n := n) (nid := nid) (by_ := 8) (x := .v (.int .i64 i)) (hv.frame (fun j hj => rfl)) (cells_I _) rfl (appOk8 (by rw [List.length_map]; omega))
  have hw : ∀ m, (St.without ⟨m, S.g⟩ v).g c = some (.arr 1 [v]) := fun m => by rw [without_g c hc]; exact hg
  have hvc : v.cells = [v] := by rcases hv with ⟨rfl, _⟩ | ⟨id, off, ys, rfl, _⟩ <;> rfl
  have hne : ¬ (c = S.n + 1 + 3) := by omega
  simp [c_back_Heads_1, hg, hvc, happ, hw, hne, without_n]
  refine hk (.own (S.n + 4) 0 (cur.length + 1)) _ (by simp [Z4e]) (Vec.mk' ?_ ?_) ?_ ?_ ?_ ?_
  · have : ¬ (S.n + 4 = c) := by omega
    simp [Z4e, this, encI]
  · simp
  · simp [AV.ids]; omega
  · simp [AV.ids]
  · intro j h1 h2 h3
    have : ¬ (j = S.n + 4) := by omega
    simp [Z4e, h1, this, without_g j h2]
  · simp [without_n]; omega
structure HdS (n : Net) (l : List Int) (ft f1 : FuncId) (b c : Nat) (i : Nat) (f : AF) (S : St) : Prop where
  e1 : f 1 = encIs l
  e2 : f 2 = .clo ft [] [.ptr c 0 0]
  e3 : f 3 = .ptr b 0 0
  e6 : IsSl (f 6) (runN n (l.take i))
  e7 : f 7 = .clo f1 [] [.ptr b 0 0]
  e8 : f 8 = encI i
  gb : S.g b = some (.arr 4 [encNet n])
  bc : b ≠ c
  bn : b < S.n
  cn : c < S.n
theorem HdS.same {n : Net} {l : List Int} {ft f1 : FuncId} {b c i : Nat} {f f' : AF} {S S' : St} (h : HdS n l ft f1 b c i f S) (hf : ∀ j, j = 1 ∨ j = 2 ∨ j = 3 ∨ j = 6 ∨ j = 7 ∨ j = 8 → f' j = f j) (hg : S'.g b = S.g b) (hn : S.n ≤ S'.n) : HdS n l ft f1 b c i f' S' :=
  ⟨by rw [hf _ (by simp)]; exact h.e1, by rw [hf _ (by simp)]; exact h.e2, by rw [hf _ (by simp)]; exact h.e3, by rw [hf _ (by simp)]; exact h.e6, by rw [hf _ (by simp)]; exact h.e7, by rw [hf _ (by simp)]; exact h.e8, by rw [hg]; exact h.gb, h.bc, by have := h.bn; omega, by have := h.cn; omega⟩
def HdV (n : Net) (l : List Int) (b c : Nat) (i : Nat) (S : St) : Prop := ∃ v, S.g c = some (.arr 1 [v]) ∧ Vec S.g v 1 ((hdL n l i).map encI) ∧ c ∉ v.ids ∧ b ∉ v.ids
def HdI (n : Net) (l : List Int) (ft f1 : FuncId) (b c : Nat) (i : Nat) (f : AF) (S : St) : Prop := HdS n l ft f1 b c i f S ∧ HdV n l b c i S
structure HHd (P : Program) (n : Net) (fr f1 fc fs : FuncId) : Prop where
  right : PureC P fr [encNet n] (encB (rightN n))
  cont : ∀ a : List Int, Len a → PureC P fc [encIs a, .clo f1 [] [.eptr (encNet n) 0]] (encB (a.any fun s => n.last.contains s))
  step : RightN n → ∀ (a : List Int) s, a.length ≤ 3000 → PureC P fs [encNet n, encIs a, encI s] (encIs (stepN n a s))
theorem HHd.cont' {P : Program} {n : Net} {fr f1 fc fs : FuncId} (H : HHd P n fr f1 fc fs) {t : Bool} (a : List Int) (ha : Len a) : PureC P fc [.sl t (a.map encI), .clo f1 [] [.eptr (encNet n) 0]] (encB (a.any fun s => n.last.contains s)) :=
  (H.cont a ha).weak rfl (fun j h1 h2 E v hv => by
    match j with
    | 0 => exact hv.loose
    | 1 => exact hv
    | j + 2 => simp at h1; omega)
theorem HHd.step' {P : Program} {n : Net} {fr f1 fc fs : FuncId} (H : HHd P n fr f1 fc fs) (R : RightN n) {t : Bool} (a : List Int) (s : Int) (ha : a.length ≤ 3000) : PureC P fs [encNet n, .sl t (a.map encI), encI s] (encIs (stepN n a s)) :=
  (H.step R a s ha).weak rfl (fun j h1 h2 E v hv => by
    match j with
    | 0 => exact hv
    | 1 => exact hv.loose
    | 2 => exact hv
    | j + 3 => simp at h1; omega)
theorem hd_loop {P : Program} {n : Net} {fr f1 fc fs ft : FuncId} (H : HHd P n fr f1 fc fs) (R : RightN n) (hT : HTold P ft) {l : List Int} (hl : l.length ≤ 900000) {b c : Nat} {f : AF} {S : St} {Q : Exit → AF → St → Prop} (h0 : HdI n l ft f1 b c 0 f S)
    (h1 : ∀ f' S', HdV n l b c (l.length + 1) S' → Q .normal f' S') (h2 : ∀ f' S', HdV n l b c (l.length + 1) S' → Q .ret f' S') : AW P (c_hd_loop fc fs) Q f S := by
  have hacc : ∀ i, accN n (l.take i) = (runN n (l.take i)).any fun s => n.last.contains s := fun i => by simp [accN, (rightN_iff n).mpr R]
  simp [c_hd_loop]
  refine AW_for l.length (HdI n l ft f1 b c) h0 ?_
  rintro i f S hi ⟨h, v, gc, hv, hcv, hbv⟩
  have e1 := h.e1
  have e2 := h.e2
  have e3 := h.e3
  obtain ⟨t, e6⟩ := h.e6
  have e7 := h.e7
  have e8 := h.e8
  have gb := h.gb
  have hrl := runN_len R (l.take i)
  by_cases hne : runN n (l.take i) = []
  · have hz : ¬ (0 < (runN n (l.take i)).length) := by simp [hne]
    simp [e6, hz]
    refine h1 _ _ ⟨v, gc, ?_, hcv, hbv⟩
    have := hdL_stop hne (l.length + 1 - i) (by omega)
    rw [show i + (l.length + 1 - i) = l.length + 1 by omega] at this
    rw [this]; exact hv.frame (fun _ _ => rfl)
  · have hz : 0 < (runN n (l.take i)).length := List.length_pos_iff.mpr hne
    have kc := H.cont' (t := t) (runN n (l.take i)) (by unfold Len; omega)
    have hgb := h.gb
    simp only [encNet] at hgb
    -- what comes behind the test
    have tail : ∀ (f' : AF) (S' : St) (Q' : Exit → AF → St → Prop), HdS n l ft f1 b c i f' S' → HdV n l b c (i + 1) S' → i < l.length → (∀ f'' S'', HdI n l ft f1 b c (i + 1) (f''.put (some 8) (encI (i + 1 : Nat))) S'' → f'' 8 = encI i → Q' .normal f'' S'') → AW P (c_hd_step fs) Q' f' S' := by
      intro f' S' Q' h' hV hlt hk
      obtain ⟨t', e6'⟩ := h'.e6
      have e1' := h'.e1
      have e3' := h'.e3
      have e8' := h'.e8
      have gb' := h'.gb
      simp only [encNet] at gb'
      have ks := H.step' R (t := t') (runN n (l.take i)) l[i] (by omega)
      have cs := cl_cons (closed_Net n) (cl_cons (closed_map (t := t') Z2r (runN n (l.take i))) (cl_cons (Z2r l[i]) cl_nil))
      simp only [encNet, encI, encIs] at ks cs
      have ds : ∀ m g', CallD P fs [.agg [.v (.int .i64 n.signs), encIss n.by_, encIss n.follow, .sl false (n.last.map encI)], .sl t' ((runN n (l.take i)).map encI), .v (.int .i64 l[i])] ⟨m, g'⟩ [] (.sl false ((stepN n (runN n (l.take i)) l[i]).map encI)) := fun m g' => CallD.kl ks cs (Z2s _)
      simp [c_hd_step, e1', e3', e6', e8', gb', hlt, encIs]
      refine ⟨_, ⟨_, ds _ _⟩, hk _ _ ?_ (by simp [Z43, e8', encI])⟩
      refine ⟨⟨?_, ?_, ?_, ⟨false, ?_⟩, ?_, ?_, ?_, h'.bc, ?_, ?_⟩, ?_⟩
      · simp [Z43, e1', encIs]
      · simp [Z43, h'.e2]
      · simp [Z43, e3']
      · simp [Z43, runN_succ hlt]
      · simp [Z43, h'.e7]
      · simp [Z43, encI]
      · exact h'.gb
      · have := h'.bn; simp; omega
      · have := h'.cn; simp; omega
      · obtain ⟨v', q1, q2, q3, q4⟩ := hV
        exact ⟨v', q1, q2.frame (fun _ _ => rfl), q3, q4⟩
    have hs := hdL_succ n l i
    rw [hacc i] at hs
    simp [e6, e7, hz]
    refine CallR.looks (S := ⟨S.n + 3 + 15, S.g⟩) kc (FzL.cons (.closed _ (closed_map Z2r _)) (FzL.cons (Fz.clo0 (FzL.cons (Fz.box b 0 4 _ _ gb (.closed _ (closed_Net n))) .nil)) .nil)) (plain_B _) ?_
    cases hb : (runN n (l.take i)).any fun s => n.last.contains s with
    | false =>
      rw [hb] at hs
      simp only [Bool.false_eq_true, if_false, List.append_nil] at hs
      by_cases hlast : i = l.length
      · have hq : ((i : Int) == l.length) = true := by simp [hlast]
        simp [e1, e8, encIs, hq]
        refine h2 _ _ ⟨v, gc, ?_, hcv, hbv⟩
        rw [← hlast, hs]; exact hv.frame (fun _ _ => rfl)
      · have hq : ((i : Int) == l.length) = false := by simp; omega
        simp [e1, e8, encIs, hq]
        refine tail _ _ _ (h.same (fun j hj => ?_) rfl (by simp; omega)) ⟨v, gc, ?_, hcv, hbv⟩ (by omega) (fun f'' S'' h'' e8'' => ?_)
        · rcases hj with rfl | rfl | rfl | rfl | rfl | rfl <;> simp [Z43]
        · rw [hs]; exact hv.frame (fun _ _ => rfl)
        · simp [e8'']
          rw [wrap_in _ (by omega)]
          refine ⟨by omega, h''.1.same (fun j hj => ?_) rfl (by simp), ?_⟩
          · rcases hj with rfl | rfl | rfl | rfl | rfl | rfl <;> simp [Z43, encI]
          · obtain ⟨v', q1, q2, q3, q4⟩ := h''.2
            exact ⟨v', q1, q2.frame (fun _ _ => rfl), q3, q4⟩
    | true =>
      rw [hb] at hs
      simp only [if_true] at hs
      simp [e1, e2, e8, encIs]
      have hbn := h.bn
      have hcn := h.cn
      refine hT ⟨S.n + 3 + 15, S.g⟩ c v (hdL n l i) (i : Int) _ gc (hv.frame (fun _ _ => rfl)) hcv (by have := hdL_len n l i; omega) (by show c < S.n + 3 + 15; omega) (fun v' S' q1 q2 q3 q4 q5 q6 => ?_)
      have hbv' : b ∉ v'.ids := fun hb' => by have h9 : S.n + 3 + 15 ≤ b := q4 b hb'; omega
      have hgb' : S'.g b = S.g b := q5 b h.bc hbv (by show b < S.n + 3 + 15; omega)
      rw [← hs] at q2
      have q6 : S.n + 3 + 15 ≤ S'.n := q6
      by_cases hlast : i = l.length
      · have hq : ((i : Int) == l.length) = true := by simp [hlast]
        simp [e1, e8, encIs, hq]
        refine h2 _ _ ⟨v', q1, ?_, q3, hbv'⟩
        rw [← hlast]; exact q2.frame (fun _ _ => rfl)
      · have hq : ((i : Int) == l.length) = false := by simp; omega
        simp [e1, e8, encIs, hq]
        refine tail _ _ _ (h.same (fun j hj => ?_) hgb' (by first | omega | (simp; omega))) ⟨v', q1, q2.frame (fun _ _ => rfl), q3, hbv'⟩ (by omega) (fun f'' S'' h'' e8'' => ?_)
        · rcases hj with rfl | rfl | rfl | rfl | rfl | rfl <;> simp [Z43]
        · simp [e8'']
          rw [wrap_in _ (by omega)]
          refine ⟨by omega, h''.1.same (fun j hj => ?_) rfl (by simp), ?_⟩
          · rcases hj with rfl | rfl | rfl | rfl | rfl | rfl <;> simp [Z43, encI]
          · obtain ⟨v', q1, q2, q3, q4⟩ := h''.2
            exact ⟨v', q1, q2.frame (fun _ _ => rfl), q3, q4⟩
theorem heads_callR {P : Program} (hm : P.follows .mixedOrders = true) {n : Net} {fh fr f1 fc fs ft : FuncId} (hI : Is P fh (c_back_heads fr f1 fc fs) [] 3) (H : HHd P n fr f1 fc fs) (hT : HTold P ft) {l : List Int} (hl : l.length ≤ 900000) {S : St} {c : Nat} (hc : S.g c = some (.arr 1 [.sl true []])) (hcn : c < S.n) {K : AV → St → Prop}
    (hk : ∀ v S', S'.g c = some (.arr 1 [v]) → Vec S'.g v 1 ((if rightN n = true then hdL n l (l.length + 1) else []).map encI) → K (.tup []) S') : CallR P fh [encNet n, encIs l, .clo ft [] [.ptr c 0 0]] S K := by
  refine hI.callR hm rfl ?_
  have hr := H.right
  have c1 := cl_cons (closed_Net n) cl_nil
  simp only [encNet, encI] at c1 hr
  simp [c_back_heads, encNet]
  refine CallR.pure hr c1 (Z2o _) ?_
  have hne : ¬ (c = S.n) := by omega
  cases h : rightN n with
  | false =>
    simp
    refine hk (.sl true []) _ ?_ ?_
    · simp [Z4e, hne, hc]
    · rw [h]; simp; exact .nil
  | true =>
    have R := (rightN_iff n).mp h
    have fin : ∀ S', HdV n l S.n c (l.length + 1) S' → K (.tup []) S' := by
      rintro S' ⟨v, q1, q2, _, _⟩
      refine hk v S' q1 ?_
      rw [h]; simpa using q2
    simp
    refine hd_loop (n := n) (b := S.n) (c := c) H R hT hl ⟨⟨?_, ?_, ?_, ⟨true, ?_⟩, ?_, ?_, ?_, ?_, ?_, ?_⟩, .sl true [], ?_, ?_, ?_, ?_⟩ (fun f' S' hV => ?_) (fun f' S' hV => ?_)
    · simp [Z43, Z27, Z26]
    · simp [Z43, Z27, Z26]
    · simp [Z43]
    · simp [Z43, runN, encI]
    · simp [Z43]
    · simp [Z43, encI]
    · simp [Z4e, encNet, encI]
    · omega
    · simp; omega
    · simp; omega
    · simp [Z4e, hne, hc]
    · simp [hdL]; exact .nil
    · simp [AV.ids]
    · simp [AV.ids]
    · simp
      exact fin _ hV
    · simp
      exact fin _ hV
def headsN (n : Net) (l : List Int) : List Int := if rightN n = true then hdL n l (l.length + 1) else []
theorem back_Heads_body {P : Program} (hm : P.follows .mixedOrders = true) {n : Net} {fh fr f1 fc fs ft : FuncId} (hI : Is P fh (c_back_heads fr f1 fc fs) [] 3) (H : HHd P n fr f1 fc fs) (hT : HTold P ft) {l : List Int} (hl : l.length ≤ 900000) :
    AW P (c_back_Heads ft fh) (RetK [4] (FzK (encIs (headsN n l)))) (argF [encNet n, encIs l]) S0 := by
  have s1 : AV.agg [.v (.int .i64 n.signs), encIss n.by_, encIss n.follow, encIs n.last] = encNet n := rfl
  simp [c_back_Heads, encNet]
  rw [s1]
  refine heads_callR hm hI H hT hl (by simp [Z4e]) (by simp) (fun v S' q1 q2 => ?_)
  have hvc : v.cells = [v] := by rcases q2 with ⟨rfl, _⟩ | ⟨id, off, ys, rfl, _⟩ <;> rfl
  simp [q1, hvc]
  exact q2.fz Z2r
def HTold2 (P : Program) (ft : FuncId) : Prop := ∀ (S : St) (c : Nat) (i : Int) (K : AV → St → Prop), S.g c = some (.arr 1 [encB false]) → (∀ S', S'.g c = some (.arr 1 [encB true]) → K (encB false) S') → CallR P ft [encI i, .ptr c 0 0] S K
theorem HTold2_of {P : Program} (hm : P.follows .mixedOrders = true) {ft : FuncId} (h : Is P ft c_back_Head_1 [3] 2) : HTold2 P ft := by
  intro S c i K hg hk
  refine h.callR hm rfl ?_
  simp only [encB] at hg
  simp [c_back_Head_1, hg]
  exact hk _ (by simp [Z4e, encB])
def HdV2 (n : Net) (l : List Int) (c : Nat) (i : Nat) (S : St) : Prop := S.g c = some (.arr 1 [encB false]) ∧ hdL n l i = []
def HdI2 (n : Net) (l : List Int) (ft f1 : FuncId) (b c : Nat) (i : Nat) (f : AF) (S : St) : Prop := HdS n l ft f1 b c i f S ∧ HdV2 n l c i S
def HdW (n : Net) (l : List Int) (c : Nat) (S : St) : Prop := S.g c = some (.arr 1 [encB (decide (hdL n l (l.length + 1) ≠ []))])
theorem hd2_loop {P : Program} {n : Net} {fr f1 fc fs ft : FuncId} (H : HHd P n fr f1 fc fs) (R : RightN n) (hT : HTold2 P ft) {l : List Int} (hl : l.length ≤ 900000) {b c : Nat} {f : AF} {S : St} {Q : Exit → AF → St → Prop} (h0 : HdI2 n l ft f1 b c 0 f S)
    (h1 : ∀ f' S', HdW n l c S' → Q .normal f' S') (h2 : ∀ f' S', HdW n l c S' → Q .ret f' S') : AW P (c_hd_loop fc fs) Q f S := by
  have hacc : ∀ i, accN n (l.take i) = (runN n (l.take i)).any fun s => n.last.contains s := fun i => by simp [accN, (rightN_iff n).mpr R]
  simp [c_hd_loop]
  refine AW_for l.length (HdI2 n l ft f1 b c) h0 ?_
  rintro i f S hi ⟨h, gc, hz0⟩
  have e1 := h.e1
  have e2 := h.e2
  have e3 := h.e3
  obtain ⟨t, e6⟩ := h.e6
  have e7 := h.e7
  have e8 := h.e8
  have gb := h.gb
  have hrl := runN_len R (l.take i)
  by_cases hne : runN n (l.take i) = []
  · have hz : ¬ (0 < (runN n (l.take i)).length) := by simp [hne]
    simp [e6, hz]
    have := hdL_stop hne (l.length + 1 - i) (by omega)
    rw [show i + (l.length + 1 - i) = l.length + 1 by omega] at this
    refine h1 _ _ ?_
    unfold HdW
    rw [this, hz0]; simpa using gc
  · have hz : 0 < (runN n (l.take i)).length := List.length_pos_iff.mpr hne
    have kc := H.cont' (t := t) (runN n (l.take i)) (by unfold Len; omega)
    have hgb := h.gb
    simp only [encNet] at hgb
    -- what comes behind the test
    have tail : ∀ (f' : AF) (S' : St) (Q' : Exit → AF → St → Prop), HdS n l ft f1 b c i f' S' → HdV2 n l c (i + 1) S' → i < l.length → (∀ f'' S'', HdI2 n l ft f1 b c (i + 1) (f''.put (some 8) (encI (i + 1 : Nat))) S'' → f'' 8 = encI i → Q' .normal f'' S'') → AW P (c_hd_step fs) Q' f' S' := by
      intro f' S' Q' h' hV hlt hk
      obtain ⟨t', e6'⟩ := h'.e6
      have e1' := h'.e1
      have e3' := h'.e3
      have e8' := h'.e8
      have gb' := h'.gb
      simp only [encNet] at gb'
      have ks := H.step' R (t := t') (runN n (l.take i)) l[i] (by omega)
      have cs := cl_cons (closed_Net n) (cl_cons (closed_map (t := t') Z2r (runN n (l.take i))) (cl_cons (Z2r l[i]) cl_nil))
      simp only [encNet, encI, encIs] at ks cs
      have ds : ∀ m g', CallD P fs [.agg [.v (.int .i64 n.signs), encIss n.by_, encIss n.follow, .sl false (n.last.map encI)], .sl t' ((runN n (l.take i)).map encI), .v (.int .i64 l[i])] ⟨m, g'⟩ [] (.sl false ((stepN n (runN n (l.take i)) l[i]).map encI)) := fun m g' => CallD.kl ks cs (Z2s _)
      simp [c_hd_step, e1', e3', e6', e8', gb', hlt, encIs]
      refine ⟨_, ⟨_, ds _ _⟩, hk _ _ ?_ (by simp [Z43, e8', encI])⟩
      refine ⟨⟨?_, ?_, ?_, ⟨false, ?_⟩, ?_, ?_, ?_, h'.bc, ?_, ?_⟩, ?_⟩
      · simp [Z43, e1', encIs]
      · simp [Z43, h'.e2]
      · simp [Z43, e3']
      · simp [Z43, runN_succ hlt]
      · simp [Z43, h'.e7]
      · simp [Z43, encI]
      · exact h'.gb
      · have := h'.bn; simp; omega
      · have := h'.cn; simp; omega
      · exact hV
    have hs := hdL_succ n l i
    rw [hacc i] at hs
    simp [e6, e7, hz]
    refine CallR.looks (S := ⟨S.n + 3 + 15, S.g⟩) kc (FzL.cons (.closed _ (closed_map Z2r _)) (FzL.cons (Fz.clo0 (FzL.cons (Fz.box b 0 4 _ _ gb (.closed _ (closed_Net n))) .nil)) .nil)) (plain_B _) ?_
    cases hb : (runN n (l.take i)).any fun s => n.last.contains s with
    | false =>
      rw [hb] at hs
      simp only [Bool.false_eq_true, if_false, List.append_nil] at hs
      by_cases hlast : i = l.length
      · have hq : ((i : Int) == l.length) = true := by simp [hlast]
        simp [e1, e8, encIs, hq]
        refine h2 _ _ ?_
        unfold HdW
        rw [← hlast, hs, hz0]; simpa using gc
      · have hq : ((i : Int) == l.length) = false := by simp; omega
        simp [e1, e8, encIs, hq]
        refine tail _ _ _ (h.same (fun j hj => ?_) rfl (by simp; omega)) ⟨gc, by rw [hs]; exact hz0⟩ (by omega) (fun f'' S'' h'' e8'' => ?_)
        · rcases hj with rfl | rfl | rfl | rfl | rfl | rfl <;> simp [Z43]
        · simp [e8'']
          rw [wrap_in _ (by omega)]
          refine ⟨by omega, h''.1.same (fun j hj => ?_) rfl (by simp), h''.2⟩
          rcases hj with rfl | rfl | rfl | rfl | rfl | rfl <;> simp [Z43, encI]
    | true =>
      rw [hb] at hs
      simp only [if_true] at hs
      simp [e1, e2, e8, encIs]
      have hbn := h.bn
      have hcn := h.cn
      refine hT ⟨S.n + 3 + 15, S.g⟩ c (i : Int) _ gc (fun S' q1 => ?_)
      simp [e1, e8, encIs]
      refine h2 _ _ ?_
      unfold HdW
      have e : decide (hdL n l (l.length + 1) ≠ []) = true := by
        rw [decide_eq_true_eq]
        intro h0
        have hm : (i : Int) ∈ hdL n l (i + 1) := by rw [hs]; simp
        have hm2 : (i : Int) ∈ hdL n l (l.length + 1) := by
          simp only [hdL, List.mem_map, List.mem_filter, List.mem_range] at hm ⊢
          obtain ⟨j, ⟨h1, h2⟩, h3⟩ := hm
          exact ⟨j, ⟨by omega, h2⟩, h3⟩
        rw [h0] at hm2; simp at hm2
      rw [e]; exact q1
theorem heads2_callR {P : Program} (hm : P.follows .mixedOrders = true) {n : Net} {fh fr f1 fc fs ft : FuncId} (hI : Is P fh (c_back_heads fr f1 fc fs) [] 3) (H : HHd P n fr f1 fc fs) (hT : HTold2 P ft) {l : List Int} (hl : l.length ≤ 900000) {S : St} {c : Nat} (hc : S.g c = some (.arr 1 [encB false])) (hcn : c < S.n) {K : AV → St → Prop}
    (hk : ∀ S', S'.g c = some (.arr 1 [encB (decide ((if rightN n = true then hdL n l (l.length + 1) else []) ≠ []))]) → K (.tup []) S') : CallR P fh [encNet n, encIs l, .clo ft [] [.ptr c 0 0]] S K := by
  refine hI.callR hm rfl ?_
  have hr := H.right
  have c1 := cl_cons (closed_Net n) cl_nil
  simp only [encNet, encI] at c1 hr
  simp [c_back_heads, encNet]
  refine CallR.pure hr c1 (Z2o _) ?_
  have hne : ¬ (c = S.n) := by omega
  cases h : rightN n with
  | false =>
    simp
    refine hk _ ?_
    rw [h]; simp [Z4e, hne, hc]
  | true =>
    have R := (rightN_iff n).mp h
    have fin : ∀ S', HdW n l c S' → K (.tup []) S' := by
      intro S' q1
      refine hk S' ?_
      unfold HdW at q1
      rw [h]; simpa using q1
    simp
    refine hd2_loop (n := n) (b := S.n) (c := c) H R hT hl ⟨⟨?_, ?_, ?_, ⟨true, ?_⟩, ?_, ?_, ?_, ?_, ?_, ?_⟩, ?_, ?_⟩ (fun f' S' hV => ?_) (fun f' S' hV => ?_)
    · simp [Z43, Z27, Z26]
    · simp [Z43, Z27, Z26]
    · simp [Z43]
    · simp [Z43, runN, encI]
    · simp [Z43]
    · simp [Z43, encI]
    · simp [Z4e, encNet, encI]
    · omega
    · simp; omega
    · simp; omega
    · simp [Z4e, hne, hc]
    · simp [hdL]
    · simp
      exact fin _ hV
    · simp
      exact fin _ hV
theorem back_Head_body {P : Program} (hm : P.follows .mixedOrders = true) {n : Net} {fh fr f1 fc fs ft : FuncId} (hI : Is P fh (c_back_heads fr f1 fc fs) [] 3) (H : HHd P n fr f1 fc fs) (hT : HTold2 P ft) {l : List Int} (hl : l.length ≤ 900000) :
    AW P (c_back_Head ft fh) (RetK [4] (FzK (encB (decide (headsN n l ≠ []))))) (argF [encNet n, encIs l]) S0 := by
  have s1 : AV.agg [.v (.int .i64 n.signs), encIss n.by_, encIss n.follow, encIs n.last] = encNet n := rfl
  simp [c_back_Head, encNet]
  rw [s1]
  refine heads2_callR hm hI H hT hl (by simp [Z4e, encB]) (by simp) (fun S' q1 => ?_)
  simp only [encB] at q1
  have e : (!decide (headsN n l = [])) = (rightN n && !decide (hdL n l (l.length + 1) = [])) := by unfold headsN; cases rightN n <;> simp
  simp [q1, e]
  exact FzK_B _ _
end Go.Rf

