import Derived.Test.YtnlhbognechhcaaRfN4
import Derived.Test.YtnlhbognechhcaaRfB16
import Derived.Test.YtnlhbognechhcaaRfR4
/- Own work: automata, the other way round: beginnings that are accepted. -/
set_option linter.unusedVariables false
set_option linter.unusedSimpArgs false
namespace Go.Rf
open Go.RowKit

structure HdS (n : Net) (l : List Int) (ft f1 : FuncId) (b c : Nat) (i : Nat) (f : AF) (S : St) : Prop where
  e1 : f 1 = encIs l
  e2 : f 2 = .clo ft [] [.ptr c 0 0]
  e3 : f 3 = .ptr b 0 0
  e6 : IsSl (f 6) (runN n (l.take i))
  e7 : f 7 = .clo f1 [] [.ptr b 0 0]
  e8 : f 8 = encI i
  gb : S.g b = some (.arr 4 [encNet n])
  bc : b ≠ c
  bn : b < S.n
  cn : c < S.n
theorem HdS.same {n : Net} {l : List Int} {ft f1 : FuncId} {b c i : Nat} {f f' : AF} {S S' : St} (h : HdS n l ft f1 b c i f S) (hf : ∀ j, j = 1 ∨ j = 2 ∨ j = 3 ∨ j = 6 ∨ j = 7 ∨ j = 8 → f' j = f j) (hg : S'.g b = S.g b) (hn : S.n ≤ S'.n) : HdS n l ft f1 b c i f' S' :=
  ⟨by rw [hf _ (by simp)]; exact h.e1, by rw [hf _ (by simp)]; exact h.e2, by rw [hf _ (by simp)]; exact h.e3, by rw [hf _ (by simp)]; exact h.e6, by rw [hf _ (by simp)]; exact h.e7, by rw [hf _ (by simp)]; exact h.e8, by rw [hg]; exact h.gb, h.bc, by have := h.bn; omega, by have := h.cn; omega⟩
structure HHd (P : Program) (n : Net) (fr f1 fc fs : FuncId) : Prop where
  right : PureC P fr [encNet n] (encB (rightN n))
  cont : ∀ a : List Int, Len a → PureC P fc [encIs a, .clo f1 [] [.eptr (encNet n) 0]] (encB (a.any fun s => n.last.contains s))
  step : RightN n → ∀ (a : List Int) s, a.length ≤ 3000 → PureC P fs [encNet n, encIs a, encI s] (encIs (stepN n a s))
end Go.Rf


/- Own work: up to where a form matches, told: any form. -/
set_option linter.unusedVariables false
set_option linter.unusedSimpArgs false
namespace Go.Rf
open Go.RowKit

def c_fr_or (f_reach_walker_from : FuncId) : AC :=
  (.block 1 (.loop (.seq (.reg none [
          ⟨(some 52), .bin .lss (.t 51) (.t 50), none, none⟩])
         (.seq (.cond (.t 52) .skip (.exit 1))
         (.seq (.block 2 (.seq (.reg none [
           ⟨(some 53), .idxA 4 (.t 49) (.t 51), none, none⟩,
           ⟨(some 54), .load (some 4) (.t 53), none, none⟩,
           ⟨(some 9), .alloc (.agg [(.v (.int .i64 0)), (.sl true []), (.sl true []), (.sl true [])]) 4, none, none⟩,
           ⟨none, .store 4 (.t 9) (.t 54), none, none⟩])
          (.reg none [
           ⟨(some 55), .load (some 1) (.t 4), none, none⟩,
           ⟨(some 56), .load (some 4) (.t 9), none, none⟩,
           ⟨(some 57), .mv (.t 2), none, none⟩,
           ⟨(some 58), .mv (.t 3), none, none⟩,
           ⟨(some 59), .mv (.c .junk), none, (some ((.c (.clo f_reach_walker_from [] [])), [(.t 55), (.t 56), (.t 57), (.t 58)]))⟩])))
         (.reg none [
          ⟨(some 60), .bin .add (.t 51) (.c (.v (.int .i64 1))), none, none⟩,
          ⟨(some 51), .mv (.t 60), none, none⟩]))))))
def c_reach_walker_from (f_slices_Contains_Sint_int_ f_reach_walker_all f_reach_walker_from f_reach_walker_again : FuncId) : AC :=
  (.seq (.reg none [
   ⟨(some 4), .box 1 (.t 0), none, none⟩,
   ⟨(some 5), .box 4 (.t 1), none, none⟩])
  (.seq (.reg none [
   ⟨(some 10), .fieldA 0 (.t 5), none, none⟩,
   ⟨(some 11), .load none (.t 10), none, none⟩])
  (.block 0 (.seq (.reg none [
    ⟨(some 13), .bin .eql (.t 11) (.c (.v (.int .i64 1))), none, none⟩,
    ⟨(some 12), .mv (.t 13), none, none⟩])
   (.cond (.t 12) (.reg none [
     ⟨(some 14), .mv (.t 3), none, none⟩,
     ⟨(some 15), .mv (.t 2), none, none⟩,
     ⟨(some 16), .mv (.c .junk), none, (some ((.t 14), [(.t 15)]))⟩]) (.seq (.reg none [
     ⟨(some 18), .bin .eql (.t 11) (.c (.v (.int .i64 2))), none, none⟩,
     ⟨(some 17), .mv (.t 18), none, none⟩])
    (.cond (.t 17) (.seq (.reg (some []) [
      ⟨(some 19), .mv (.t 2), none, none⟩,
      ⟨(some 20), .fieldA 0 (.t 4), none, none⟩,
      ⟨(some 21), .load none (.t 20), none, none⟩,
      ⟨(some 22), .len (.t 21), none, none⟩,
      ⟨(some 23), .bin .lss (.t 19) (.t 22), none, none⟩,
      ⟨(some 24), .mv (.t 23), none, none⟩,
      ⟨(some 25), .fieldA 2 (.t 5), (some (24, true)), none⟩,
      ⟨(some 26), .load none (.t 25), (some (24, true)), none⟩,
      ⟨(some 27), .fieldA 0 (.t 4), (some (24, true)), none⟩,
      ⟨(some 28), .load none (.t 27), (some (24, true)), none⟩,
      ⟨(some 29), .mv (.t 2), (some (24, true)), none⟩,
      ⟨(some 30), .idxA 1 (.t 28) (.t 29), (some (24, true)), none⟩,
      ⟨(some 31), .load none (.t 30), (some (24, true)), none⟩,
      ⟨(some 32), .mv (.c .junk), (some (24, true)), (some ((.c (.clo f_slices_Contains_Sint_int_ [] [])), [(.t 26), (.t 31)]))⟩,
      ⟨(some 33), .pick (.t 24) (.t 32) (.c (.v (.bool false))), none, none⟩])
     (.cond (.t 33) (.reg none [
       ⟨(some 34), .mv (.t 3), none, none⟩,
       ⟨(some 35), .mv (.t 2), none, none⟩,
       ⟨(some 36), .bin .add (.t 35) (.c (.v (.int .i64 1))), none, none⟩,
       ⟨(some 37), .mv (.c .junk), none, (some ((.t 34), [(.t 36)]))⟩]) .skip)) (.seq (.reg none [
      ⟨(some 39), .bin .eql (.t 11) (.c (.v (.int .i64 3))), none, none⟩,
      ⟨(some 38), .mv (.t 39), none, none⟩])
     (.cond (.t 38) (.reg none [
       ⟨(some 40), .load (some 1) (.t 4), none, none⟩,
       ⟨(some 41), .fieldA 3 (.t 5), none, none⟩,
       ⟨(some 42), .load none (.t 41), none, none⟩,
       ⟨(some 43), .mv (.t 2), none, none⟩,
       ⟨(some 44), .mv (.t 3), none, none⟩,
       ⟨(some 45), .mv (.c .junk), none, (some ((.c (.clo f_reach_walker_all [] [])), [(.t 40), (.t 42), (.t 43), (.t 44)]))⟩]) (.seq (.reg none [
       ⟨(some 47), .bin .eql (.t 11) (.c (.v (.int .i64 4))), none, none⟩,
       ⟨(some 46), .mv (.t 47), none, none⟩])
      (.cond (.t 46) (.seq (.reg none [
        ⟨(some 48), .fieldA 3 (.t 5), none, none⟩,
        ⟨(some 49), .load none (.t 48), none, none⟩,
        ⟨(some 50), .len (.t 49), none, none⟩,
        ⟨(some 51), .mv (.c (.v (.int .i64 0))), none, none⟩])
       (c_fr_or f_reach_walker_from)) (.seq (.seq (.reg none [
        ⟨(some 62), .bin .eql (.t 11) (.c (.v (.int .i64 7))), none, none⟩,
        ⟨(some 61), .mv (.t 62), none, none⟩])
       (.cond (.t 61) .skip (.seq (.reg none [
         ⟨(some 63), .bin .eql (.t 11) (.c (.v (.int .i64 5))), none, none⟩,
         ⟨(some 61), .mv (.t 63), none, none⟩])
        (.cond (.t 61) .skip (.reg none [
          ⟨(some 64), .bin .eql (.t 11) (.c (.v (.int .i64 6))), none, none⟩,
          ⟨(some 61), .mv (.t 64), none, none⟩])))))
       (.cond (.t 61) (.seq (.reg none [
         ⟨(some 65), .fieldA 3 (.t 5), none, none⟩,
         ⟨(some 66), .load none (.t 65), none, none⟩,
         ⟨(some 67), .len (.t 66), none, none⟩,
         ⟨(some 68), .bin .eql (.t 67) (.c (.v (.int .i64 1))), none, none⟩])
        (.cond (.t 68) (.reg none [
          ⟨(some 69), .load (some 1) (.t 4), none, none⟩,
          ⟨(some 70), .load (some 4) (.t 5), none, none⟩,
          ⟨(some 71), .mv (.t 2), none, none⟩,
          ⟨(some 72), .mv (.t 3), none, none⟩,
          ⟨(some 73), .mv (.c .junk), none, (some ((.c (.clo f_reach_walker_again [] [])), [(.t 69), (.t 70), (.t 71), (.t 72)]))⟩]) .skip)) .skip)))))))))))))
/- No list of it is long. -/
mutual
def PatS : Pat → Prop
  | .mk k s g ks => g.length ≤ 100000 ∧ ks.length ≤ 100000 ∧ PatsS ks
def PatsS : List Pat → Prop
  | [] => True
  | p :: ps => PatS p ∧ PatsS ps
end
structure FrS (l : List Int) (ks : List Pat) (tv : AV) (at_ : Int) (b4 : Nat) (Sz : St) (k : Nat) (f : AF) (S : St) : Prop where
  e2 : f 2 = encI at_
  e3 : f 3 = tv
  e4 : f 4 = .ptr b4 0 0
  e49 : f 49 = .sl false (ks.map encPat)
  e50 : f 50 = encI ks.length
  e51 : f 51 = encI k
  g4 : S.g b4 = some (.arr 1 [encW l])
  n4 : Sz.n ≤ b4 ∧ b4 < S.n
structure RFns (P : Program) (ff fa fg f1 fo fo1 a1 f2 fc : FuncId) : Prop where
  from_ : Is P ff (c_reach_walker_from fc fa ff fg) [] 4
  all_ : Is P fa (c_reach_walker_all a1 fo) [] 4
  all1 : Is P a1 (c_reach_walker_all_1 ff) [] 4
  ag : IsS P fg (c_reach_walker_again f1 fo f2 ff) [] 4
  ag1 : IsS P f1 (c_reach_walker_again_1 ff) [] 4
  ag2 : Is P f2 (c_reach_walker_again_2 fc) [] 2
  once : Is P fo (c_reach_once fo1) [2] 1
  once1 : Is P fo1 c_reach_once_1 [] 3
  cont : ∀ (l : List Int) x, Len l → PureC P fc [encIs l, encI x] (encB (l.contains x))
end Go.Rf


/- Own work: reach.Ends. -/
set_option linter.unusedVariables false
set_option linter.unusedSimpArgs false
namespace Go.Rf
open Go.RowKit

def endsP (p : Pat) (l : List Int) (at_ : Int) : List Int := if at_ < 0 ∨ (l.length : Int) < at_ then [] else (ddp (visits l p at_)).mergeSort fun x y => decide (x ≤ y)
end Go.Rf


/- Own work: reach.Matches, Null, turned, Begins. -/
set_option linter.unusedVariables false
set_option linter.unusedSimpArgs false
namespace Go.Rf
open Go.RowKit

def matP (p : Pat) (l : List Int) (a b : Int) : Bool := (endsP p l a).contains b
end Go.Rf


/- Own work: forms the other way round; where a rule matches. -/
set_option linter.unusedVariables false
set_option linter.unusedSimpArgs false
namespace Go.Rf
open Go.RowKit

theorem PatsS_of : ∀ {ks : List Pat}, (∀ q ∈ ks, PatS q) → PatsS ks
  | [], _ => trivial
  | p :: ps, h => ⟨h p (by simp), PatsS_of (fun q hq => h q (by simp [hq]))⟩
structure Rul where
  num : Int
  cut : Bool
  before : Pat
  after : Pat
  pos : Int
def encRul (r : Rul) : AV := .agg ([encI r.num, encB r.cut] ++ (encPat r.before).cells ++ (encPat r.after).cells ++ [encI r.pos])
end Go.Rf


/- Own work: which rule decides. -/
set_option linter.unusedVariables false
set_option linter.unusedSimpArgs false
namespace Go.Rf
open Go.RowKit

/-- A book: names, rules, what is allowed, names used. -/
structure Bk where
  vars : AV
  rules : List Rul
  allows : AV
  used : AV
structure BkOk (x : Bk) : Prop where
  v : Closed x.vars
  a : Closed x.allows
  u : Closed x.used
  vc : x.vars.cells = [x.vars]
  ac : x.allows.cells = [x.allows]
  uc : x.used.cells = [x.used]
def encBk (x : Bk) : AV := .agg [x.vars, .sl false (x.rules.map encRul), x.allows, x.used]
end Go.Rf


/- Own work: VerdictOne, gone through. -/
set_option linter.unusedVariables false
set_option linter.unusedSimpArgs false
namespace Go.Rf
open Go.RowKit

structure VoS (x : Bk) (l : List Int) (at_ d : Int) (c5 : AV) (n6 : Int) (f : AF) (S : St) : Prop where
  e1 : f 1 = encIs l
  e2 : f 2 = .ptr 0 0 0
  e5 : f 5 = c5
  e6 : f 6 = encI n6
  e7 : f 7 = encI at_
  e8 : f 8 = encI d
  g0 : S.g 0 = some (.arr 4 [encBk x])
theorem VoS.same {x : Bk} {l : List Int} {at_ d : Int} {c5 : AV} {n6 : Int} {f f' : AF} {S S' : St} (h : VoS x l at_ d c5 n6 f S) (hf : ∀ j, j = 1 ∨ j = 2 ∨ j = 5 ∨ j = 6 ∨ j = 7 ∨ j = 8 → f' j = f j) (hg : S'.g = S.g) : VoS x l at_ d c5 n6 f' S' :=
  ⟨by rw [hf _ (by simp)]; exact h.e1, by rw [hf _ (by simp)]; exact h.e2, by rw [hf _ (by simp)]; exact h.e5, by rw [hf _ (by simp)]; exact h.e6, by rw [hf _ (by simp)]; exact h.e7, by rw [hf _ (by simp)]; exact h.e8, by rw [hg]; exact h.g0⟩
end Go.Rf


/- Own work: reach.Turn; how much a book is. -/
set_option linter.unusedVariables false
set_option linter.unusedSimpArgs false
namespace Go.Rf
open Go.RowKit

/-! ### forms turned round -/
/-- As Vec, from the block's start on. -/
def Vec0 (g : Nat → Option Blk) (v : AV) (es : Nat) (xs : List AV) : Prop := (v = .sl true [] ∧ xs = []) ∨ ∃ id, v = .own id 0 xs.length ∧ g id = some (.arr es xs)
theorem Vec0.vec {g : Nat → Option Blk} {v : AV} {es : Nat} {xs : List AV} (h : Vec0 g v es xs) : Vec g v es xs := by
  rcases h with ⟨rfl, rfl⟩ | ⟨id, rfl, h⟩
  · exact .nil
  · exact .mk h
theorem Vec0.frame {g g' : Nat → Option Blk} {v : AV} {es : Nat} {xs : List AV} (h : Vec0 g v es xs) (hs : ∀ i ∈ v.ids, g' i = g i) : Vec0 g' v es xs := by
  rcases h with h | ⟨id, rfl, h⟩
  · exact .inl h
  · exact .inr ⟨id, rfl, by rw [hs id (by simp [AV.ids])]; exact h⟩
structure TuS (p : Pat) (b0 b1 b3 : Nat) (f : AF) (S : St) : Prop where
  e1 : f 1 = .ptr b0 0 0
  e2 : f 2 = .ptr b1 0 0
  e3 : f 3 = .ptr b3 0 0
  e9 : f 9 = .sl false (p.kids.map encPat)
  e10 : f 10 = encI p.kids.length
  g0 : S.g b0 = some (.arr 4 [encPat p])
  g1 : S.g b1 = some (.arr 4 [.agg [.v (.int .i64 0), .sl true [], .sl true [], .sl true []]])
  n0 : b0 < S.n ∧ b1 < S.n ∧ b3 < S.n
end Go.Rf


/- Own work: what a form matches, as a relation of places; no program in sight. -/
set_option linter.unusedVariables false
set_option linter.unusedSimpArgs false
namespace Go.Rf
open Go.RowKit

inductive Clo (r : Int → Int → Prop) : Int → Int → Prop
  | one {a b : Int} (h : r a b) : Clo r a b
  | more {a b c : Int} (h : Clo r a b) (k : r b c) : Clo r a c
theorem Clo.trans {r : Int → Int → Prop} {a b c : Int} (h : Clo r a b) (k : Clo r b c) : Clo r a c := by
  induction k with
  | one k => exact .more h k
  | more _ k ih => exact .more ih k
theorem Clo.head {r : Int → Int → Prop} {a c : Int} (h : Clo r a c) : ∃ b, r a b ∧ (b = c ∨ Clo r b c) := by
  induction h with
  | one h => exact ⟨_, h, .inl rfl⟩
  | more h k ih =>
    obtain ⟨b, h1, h2⟩ := ih
    refine ⟨b, h1, .inr ?_⟩
    rcases h2 with rfl | h2
    · exact .one k
    · exact .more h2 k
mutual
def MR (S : List Int → Int → Int → Prop) : Pat → Int → Int → Prop
  | .mk k _ g ks, a, b => if k = 1 then a = b else if k = 2 then S g a b else if k = 3 then MA S ks a b else if k = 4 then MO S ks a b else if k = 7 ∨ k = 5 ∨ k = 6 then MG S ks k a b else False
def MA (S : List Int → Int → Int → Prop) : List Pat → Int → Int → Prop
  | [], a, b => a = b
  | q :: qs, a, b => ∃ m, MR S q a m ∧ MA S qs m b
def MO (S : List Int → Int → Int → Prop) : List Pat → Int → Int → Prop
  | [], _, _ => False
  | q :: qs, a, b => MR S q a b ∨ MO S qs a b
def MG (S : List Int → Int → Int → Prop) : List Pat → Int → Int → Int → Prop
  | [q], k, a, b => (k ≠ 6 ∧ a = b) ∨ (if k = 7 then MR S q a b else Clo (MR S q) a b)
  | _, _, _, _ => False
end
/-- One sign of a list. -/
def stp (l : List Int) (g : List Int) (a b : Int) : Prop := b = a + 1 ∧ 0 ≤ a ∧ a < l.length ∧ l.getD a.toNat 0 ∈ g
/-! ### the closure, as it is come to -/
theorem addA_pre2 (xs : List Int) : ∀ (acc : List Int), ∃ t, addA acc xs = acc ++ t := by
  induction xs with
  | nil => intro acc; exact ⟨[], by simp [addA]⟩
  | cons x xs ih =>
    intro acc
    simp only [addA]
    obtain ⟨t, ht⟩ := ih (if acc.contains x = true then acc else acc ++ [x])
    split at ht
    · exact ⟨t, by rw [if_pos (by assumption)]; exact ht⟩
    · rw [if_neg (by assumption)]
      exact ⟨[x] ++ t, by rw [ht]; simp⟩
theorem cloL_mem {v : Int → List Int} {n : Nat} {at_ : Int} (hv : ∀ x : Int, 0 ≤ x → x ≤ n → ∀ y ∈ v x, 0 ≤ y ∧ y ≤ (n : Int)) (h0 : 0 ≤ at_ ∧ at_ ≤ n) :
    ∀ (f : Nat) (met : List Int) (i : Nat), met.Nodup → (∀ x ∈ met, 0 ≤ x ∧ x ≤ (n : Int)) → i ≤ met.length → n + 2 ≤ f + i → (∀ y ∈ v at_, y ∈ met) → (∀ x ∈ met, Clo (fun a b => b ∈ v a) at_ x) →
      (∀ j (h : j < met.length), j < i → ∀ y ∈ v met[j], y ∈ met) → ∀ y, y ∈ cloL v f met i ↔ Clo (fun a b => b ∈ v a) at_ y := by
  have done : ∀ (met : List Int), (∀ y ∈ v at_, y ∈ met) → (∀ x ∈ met, ∀ y ∈ v x, y ∈ met) → ∀ y, Clo (fun a b => b ∈ v a) at_ y → y ∈ met := by
    intro met h1 h2 y hy
    induction hy with
    | one h => exact h1 _ h
    | more h k ih => exact h2 _ ih _ k
  intro f
  induction f with
  | zero =>
    intro met i hnd hb hi hf h1 h2 h3 y
    have := nodup_len (n + 1) hnd (fun x hx => by have := hb x hx; omega)
    omega
  | succ f ih =>
    intro met i hnd hb hi hf h1 h2 h3 y
    simp only [cloL]
    split
    · rename_i hlt
      have hbi := hb _ (List.getElem_mem hlt)
      obtain ⟨t, ht⟩ := addA_pre2 (v met[i]) met
      have hlen : met.length ≤ (addA met (v met[i])).length := by rw [ht]; simp
      refine ih _ _ (addA_nodup hnd) (fun x hx => ?_) (by omega) (by omega) (fun y hy => mem_addA.mpr (.inl (h1 y hy))) (fun x hx => ?_) (fun j hj hji y hy => ?_) y
      · rcases mem_addA.mp hx with hx | hx
        · exact hb x hx
        · exact hv _ hbi.1 hbi.2 x hx
      · rcases mem_addA.mp hx with hx | hx
        · exact h2 x hx
        · exact .more (h2 _ (List.getElem_mem hlt)) hx
      · have hjm : j < met.length := by omega
        have e : (addA met (v met[i]))[j] = met[j] := by simp only [ht]; exact List.getElem_append_left hjm
        rw [e] at hy
        by_cases hji2 : j = i
        · subst hji2; exact mem_addA.mpr (.inr hy)
        · exact mem_addA.mpr (.inl (h3 j hjm (by omega) y hy))
    · rename_i hlt
      have hie : i = met.length := by omega
      refine ⟨fun h => h2 y h, fun h => done met h1 (fun x hx y hy => ?_) y h⟩
      obtain ⟨j, hj, rfl⟩ := List.mem_iff_getElem.mp hx
      exact h3 j hj (by omega) y hy
theorem agn_mem {v : Int → List Int} {n : Nat} {k at_ : Int} (hv : ∀ x : Int, 0 ≤ x → x ≤ n → ∀ y ∈ v x, 0 ≤ y ∧ y ≤ (n : Int)) (h0 : 0 ≤ at_ ∧ at_ ≤ n) (y : Int) :
    y ∈ agn v k n at_ ↔ (k ≠ 6 ∧ at_ = y) ∨ (if k = 7 then y ∈ v at_ else Clo (fun a b => b ∈ v a) at_ y) := by
  unfold agn
  rw [List.mem_append]
  have h1 : y ∈ (if k = 6 then ([] : List Int) else [at_]) ↔ k ≠ 6 ∧ at_ = y := by
    by_cases h : k = 6
    · simp [h]
    · simp [h]; exact ⟨fun e => e.symm, fun e => e.symm⟩
  rw [h1]
  by_cases h7 : k = 7
  · rw [if_pos h7, if_pos h7, mem_ddp]
  · rw [if_neg h7, if_neg h7]
    have := cloL_mem hv h0 (n + 2) (ddp (v at_)) 0 (ddp_nodup _) (fun x hx => hv _ h0.1 h0.2 x (mem_ddp.mp hx)) (Nat.zero_le _) (by omega) (fun y hy => mem_ddp.mpr hy) (fun x hx => .one (mem_ddp.mp hx)) (fun j hj h => by omega) y
    rw [this]
theorem Clo.congr {r s : Int → Int → Prop} {lo hi : Int} (hrs : ∀ a b, lo ≤ a → a ≤ hi → (r a b ↔ s a b)) (hb : ∀ a b, lo ≤ a → a ≤ hi → r a b → lo ≤ b ∧ b ≤ hi) {a b : Int} (ha : lo ≤ a ∧ a ≤ hi) : Clo r a b ↔ Clo s a b := by
  constructor
  · intro h
    have key : ∀ {b}, Clo r a b → (lo ≤ b ∧ b ≤ hi) ∧ Clo s a b := by
      intro b h
      induction h with
      | one h => exact ⟨hb _ _ ha.1 ha.2 h, .one ((hrs _ _ ha.1 ha.2).mp h)⟩
      | more _ k ih =>
        obtain ⟨h1, h2⟩ := ih
        exact ⟨hb _ _ h1.1 h1.2 k, .more h2 ((hrs _ _ h1.1 h1.2).mp k)⟩
    exact (key h).2
  · intro h
    have key : ∀ {b}, Clo s a b → (lo ≤ b ∧ b ≤ hi) ∧ Clo r a b := by
      intro b h
      induction h with
      | one h => have h' := (hrs _ _ ha.1 ha.2).mpr h; exact ⟨hb _ _ ha.1 ha.2 h', .one h'⟩
      | more _ k ih =>
        obtain ⟨h1, h2⟩ := ih
        have h' := (hrs _ _ h1.1 h1.2).mpr k
        exact ⟨hb _ _ h1.1 h1.2 h', .more h2 h'⟩
    exact (key h).2
/-! ### what is told is the relation -/
mutual
theorem visits_MR (l : List Int) : ∀ (p : Pat) (a b : Int), 0 ≤ a → a ≤ l.length → (b ∈ visits l p a ↔ MR (stp l) p a b)
  | .mk k s g ks, a, b, h0, hn => by
    rw [visits, MR]
    by_cases h1 : k = 1
    · rw [if_pos h1, if_pos h1]; simp; exact ⟨fun e => e.symm, fun e => e.symm⟩
    · rw [if_neg h1, if_neg h1]
      by_cases h2 : k = 2
      · rw [if_pos h2, if_pos h2]
        unfold stp
        by_cases hc : a < l.length ∧ g.contains (l.getD a.toNat 0) = true
        · rw [if_pos hc]
          have hm : l.getD a.toNat 0 ∈ g := by simpa using hc.2
          simp only [List.mem_cons, List.not_mem_nil, or_false]
          exact ⟨fun e => ⟨e, h0, hc.1, hm⟩, fun e => e.1⟩
        · rw [if_neg hc]
          simp only [List.not_mem_nil, false_iff]
          rintro ⟨_, _, h3, h4⟩
          exact hc ⟨h3, by simpa using h4⟩
      · rw [if_neg h2, if_neg h2]
        by_cases h3 : k = 3
        · rw [if_pos h3, if_pos h3, visAll_MA l ks [a] b (by simp; exact ⟨h0, hn⟩)]; simp
        · rw [if_neg h3, if_neg h3]
          by_cases h4 : k = 4
          · rw [if_pos h4, if_pos h4, visOr_MO l ks a b h0 hn]
          · rw [if_neg h4, if_neg h4]
            by_cases h5 : k = 7 ∨ k = 5 ∨ k = 6
            · rw [if_pos h5, if_pos h5]; exact visAg_MG l ks k a b h0 hn
            · rw [if_neg h5, if_neg h5]; simp
theorem visAll_MA (l : List Int) : ∀ (ks : List Pat) (cur : List Int) (b : Int), (∀ x ∈ cur, 0 ≤ x ∧ x ≤ l.length) → (b ∈ visAll l ks cur ↔ ∃ a ∈ cur, MA (stp l) ks a b)
  | [], cur, b, h => by rw [visAll]; simp [MA]
  | q :: qs, cur, b, h => by
    rw [visAll, visAll_MA l qs _ b (fun x hx => by
      obtain ⟨a, ha, hx2⟩ := List.mem_flatMap.mp (mem_ddp.mp hx)
      have h1 := h a ha
      have := visits_bd l q a h1.1 h1.2 x hx2
      omega)]
    constructor
    · rintro ⟨m, hm, hr⟩
      obtain ⟨a, ha, hx2⟩ := List.mem_flatMap.mp (mem_ddp.mp hm)
      have h1 := h a ha
      exact ⟨a, ha, by rw [MA]; exact ⟨m, (visits_MR l q a m h1.1 h1.2).mp hx2, hr⟩⟩
    · rintro ⟨a, ha, hr⟩
      rw [MA] at hr
      obtain ⟨m, h2, h3⟩ := hr
      have h1 := h a ha
      exact ⟨m, mem_ddp.mpr (List.mem_flatMap.mpr ⟨a, ha, (visits_MR l q a m h1.1 h1.2).mpr h2⟩), h3⟩
theorem visOr_MO (l : List Int) : ∀ (ks : List Pat) (a b : Int), 0 ≤ a → a ≤ l.length → (b ∈ visOr l ks a ↔ MO (stp l) ks a b)
  | [], a, b, _, _ => by rw [visOr, MO]; simp
  | q :: qs, a, b, h0, hn => by rw [visOr, MO, List.mem_append, visits_MR l q a b h0 hn, visOr_MO l qs a b h0 hn]
theorem visAg_MG (l : List Int) : ∀ (ks : List Pat) (k a b : Int), 0 ≤ a → a ≤ l.length → (b ∈ visAg l ks k a ↔ MG (stp l) ks k a b)
  | [q], k, a, b, h0, hn => by
    rw [visAg, MG, agn_mem (fun x hx hy y hm => by have := visits_bd l q x hx hy y hm; omega) ⟨h0, hn⟩]
    have e1 : (if k = 7 then b ∈ visits l q a else Clo (fun a b => b ∈ visits l q a) a b) ↔ (if k = 7 then MR (stp l) q a b else Clo (MR (stp l) q) a b) := by
      by_cases h7 : k = 7
      · rw [if_pos h7, if_pos h7]; exact visits_MR l q a b h0 hn
      · rw [if_neg h7, if_neg h7]
        exact Clo.congr (lo := 0) (hi := l.length) (fun x y hx hy => visits_MR l q x y hx hy) (fun x y hx hy hm => by have := visits_bd l q x hx hy y hm; omega) ⟨h0, hn⟩
    rw [e1]
  | [], k, a, b, _, _ => by rw [visAg, MG] <;> simp
  | q :: r :: qs, k, a, b, _, _ => by rw [visAg, MG] <;> simp
end
theorem endsP_MR {p : Pat} {l : List Int} {a b : Int} : b ∈ endsP p l a ↔ 0 ≤ a ∧ a ≤ l.length ∧ MR (stp l) p a b := by
  unfold endsP
  by_cases h : a < 0 ∨ (l.length : Int) < a
  · rw [if_pos h]; simp; intro h1 h2; omega
  · rw [if_neg h, (List.mergeSort_perm _ _).mem_iff, mem_ddp, visits_MR l p a b (by omega) (by omega)]
    constructor
    · intro hm; exact ⟨by omega, by omega, hm⟩
    · exact fun hm => hm.2.2
theorem matP_MR {p : Pat} {l : List Int} {a b : Int} : matP p l a b = true ↔ 0 ≤ a ∧ a ≤ l.length ∧ MR (stp l) p a b := by
  unfold matP; rw [List.contains_iff_mem, endsP_MR]
/-! ### from one list to another -/
def Inc (S : List Int → Int → Int → Prop) : Prop := ∀ g a b, S g a b → a < b
theorem clo_le {r : Int → Int → Prop} (h : ∀ a b, r a b → a ≤ b) {a b : Int} (k : Clo r a b) : a ≤ b := by
  induction k with
  | one k => exact h _ _ k
  | more _ k ih => have := h _ _ k; omega
mutual
theorem MR_inc {S : List Int → Int → Int → Prop} (hS : Inc S) : ∀ (p : Pat) (a b : Int), MR S p a b → a ≤ b
  | .mk k s g ks, a, b, h => by
    rw [MR] at h
    split at h
    · omega
    · split at h
      · have := hS _ _ _ h; omega
      · split at h
        · exact MA_inc hS ks a b h
        · split at h
          · exact MO_inc hS ks a b h
          · split at h
            · exact MG_inc hS ks k a b h
            · exact h.elim
theorem MA_inc {S : List Int → Int → Int → Prop} (hS : Inc S) : ∀ (ks : List Pat) (a b : Int), MA S ks a b → a ≤ b
  | [], a, b, h => by rw [MA] at h; omega
  | q :: qs, a, b, h => by
    rw [MA] at h
    obtain ⟨m, h1, h2⟩ := h
    have := MR_inc hS q a m h1
    have := MA_inc hS qs m b h2
    omega
theorem MO_inc {S : List Int → Int → Int → Prop} (hS : Inc S) : ∀ (ks : List Pat) (a b : Int), MO S ks a b → a ≤ b
  | [], a, b, h => by rw [MO] at h; exact h.elim
  | q :: qs, a, b, h => by
    rw [MO] at h
    rcases h with h | h
    · exact MR_inc hS q a b h
    · exact MO_inc hS qs a b h
theorem MG_inc {S : List Int → Int → Int → Prop} (hS : Inc S) : ∀ (ks : List Pat) (k a b : Int), MG S ks k a b → a ≤ b
  | [q], k, a, b, h => by
    rw [MG] at h
    rcases h with h | h
    · omega
    · split at h
      · exact MR_inc hS q a b h
      · exact clo_le (fun a b h => MR_inc hS q a b h) h
  | [], k, a, b, h => by simp [MG] at h
  | q :: r :: qs, k, a, b, h => by simp [MG] at h
end
end Go.Rf

