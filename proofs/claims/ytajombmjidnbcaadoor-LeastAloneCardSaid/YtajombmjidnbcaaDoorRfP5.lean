import Derived.Test.YtajombmjidnbcaaDoorRfQ2
import Derived.Test.YtajombmjidnbcaaDoorRfP4
/- Own work: pairs of states told apart, as the document does it (plain law). -/
set_option linter.unusedVariables false
namespace Go.Rf
open Go.RowKit
abbrev Mx := Nat → Nat → Bool
def fcnt (n : Nat) (M : Mx) : Nat := (List.range (n * n)).countP fun p => !M (p / n) (p % n)
def upd2 (M : Mx) (i k : Nat) : Mx := fun a b => if (a = i ∧ b = k) ∨ (a = k ∧ b = i) then true else M a b
structure MOk (d : Det) (M : Mx) : Prop where
  sym : ∀ i k, M i k = M k i
  irr : ∀ i, M i i = false
  snd : ∀ i k, i < d.next.length → k < d.next.length → M i k = true → ¬ Eqv d i k
  base : ∀ i k, finB d i ≠ finB d k → M i k = true
theorem MOk.upd {d : Det} {M : Mx} (h : MOk d M) {i k : Nat} (hik : i ≠ k) {s : Nat} (hs : (s : Int) < d.signs) (hv : i < d.next.length → k < d.next.length → M (stepD d i s) (stepD d k s) = true ∧ stepD d i s < d.next.length ∧ stepD d k s < d.next.length) : MOk d (upd2 M i k) := by
  refine ⟨fun a b => ?_, fun a => ?_, fun a b ha hb hm he => ?_, fun a b hne => ?_⟩
  · simp only [upd2, h.sym a b]
    congr 1
    exact propext ⟨fun h => h.elim (fun h => .inr ⟨h.2, h.1⟩) (fun h => .inl ⟨h.2, h.1⟩), fun h => h.elim (fun h => .inr ⟨h.2, h.1⟩) (fun h => .inl ⟨h.2, h.1⟩)⟩
  · have : ¬ ((a = i ∧ a = k) ∨ (a = k ∧ a = i)) := by omega
    simp only [upd2, if_neg this, h.irr]
  · simp only [upd2] at hm
    split at hm
    · rename_i hc
      have he' : Eqv d i k := by
        rcases hc with ⟨rfl, rfl⟩ | ⟨rfl, rfl⟩
        · exact he
        · exact he.symm
      have hik2 : i < d.next.length ∧ k < d.next.length := by omega
      obtain ⟨h1, h2, h3⟩ := hv hik2.1 hik2.2
      exact h.snd _ _ h2 h3 h1 (eqv_step he' (Int.natCast_nonneg s) hs)
    · exact h.snd a b ha hb hm he
  · simp only [upd2]
    split
    · rfl
    · exact h.base a b hne
end Go.Rf


/- Own work: which states are told apart (the document's rows, written in their own places). -/
set_option linter.unusedVariables false
set_option linter.unusedSimpArgs false
namespace Go.Rf
open Go.RowKit
def c_ap_s : AC :=
  (.block 10 (.loop (.seq (.seq (.reg none [
              ⟨(some 59), .mv (.t 10), none, none⟩,
              ⟨(some 60), .fieldA 0 (.t 1), none, none⟩,
              ⟨(some 61), .load none (.t 60), none, none⟩,
              ⟨(some 62), .bin .lss (.t 59) (.t 61), none, none⟩,
              ⟨(some 63), .mv (.t 62), none, none⟩,
              ⟨(some 64), .mv (.t 4), (some (63, true)), none⟩,
              ⟨(some 65), .mv (.t 8), (some (63, true)), none⟩,
              ⟨(some 66), .idxA 1 (.t 64) (.t 65), (some (63, true)), none⟩,
              ⟨(some 67), .load none (.t 66), (some (63, true)), none⟩,
              ⟨(some 68), .mv (.t 9), (some (63, true)), none⟩,
              ⟨(some 69), .idxA 1 (.t 67) (.t 68), (some (63, true)), none⟩,
              ⟨(some 70), .load none (.t 69), (some (63, true)), none⟩,
              ⟨(some 71), .un .not (.t 70), (some (63, true)), none⟩,
              ⟨(some 72), .pick (.t 63) (.t 71) (.c (.v (.bool false))), none, none⟩])
             (.cond (.t 72) .skip (.exit 10)))
             (.seq (.block 11 (.seq (.reg (some []) [
               ⟨(some 75), .mv (.t 4), none, none⟩,
               ⟨(some 76), .fieldA 1 (.t 1), none, none⟩,
               ⟨(some 77), .load none (.t 76), none, none⟩,
               ⟨(some 78), .mv (.t 8), none, none⟩,
               ⟨(some 79), .idxA 1 (.t 77) (.t 78), none, none⟩,
               ⟨(some 80), .load none (.t 79), none, none⟩,
               ⟨(some 81), .mv (.t 10), none, none⟩,
               ⟨(some 82), .idxA 1 (.t 80) (.t 81), none, none⟩,
               ⟨(some 83), .load none (.t 82), none, none⟩,
               ⟨(some 84), .idxA 1 (.t 75) (.t 83), none, none⟩,
               ⟨(some 85), .load none (.t 84), none, none⟩,
               ⟨(some 86), .fieldA 1 (.t 1), none, none⟩,
               ⟨(some 87), .load none (.t 86), none, none⟩,
               ⟨(some 88), .mv (.t 9), none, none⟩,
               ⟨(some 89), .idxA 1 (.t 87) (.t 88), none, none⟩,
               ⟨(some 90), .load none (.t 89), none, none⟩,
               ⟨(some 91), .mv (.t 10), none, none⟩,
               ⟨(some 92), .idxA 1 (.t 90) (.t 91), none, none⟩,
               ⟨(some 93), .load none (.t 92), none, none⟩,
               ⟨(some 94), .idxA 1 (.t 85) (.t 93), none, none⟩,
               ⟨(some 95), .load none (.t 94), none, none⟩])
              (.cond (.t 95) (.seq (.reg (some [[], [], [], [], [], [], [], [], [], [], [], [false, true]]) [
                ⟨(some 96), .mv (.t 4), none, none⟩,
                ⟨(some 97), .mv (.t 8), none, none⟩,
                ⟨(some 98), .idxA 1 (.t 96) (.t 97), none, none⟩,
                ⟨(some 99), .load none (.t 98), none, none⟩,
                ⟨(some 100), .mv (.t 9), none, none⟩,
                ⟨(some 101), .mv (.t 4), none, none⟩,
                ⟨(some 102), .mv (.t 9), none, none⟩,
                ⟨(some 103), .idxA 1 (.t 101) (.t 102), none, none⟩,
                ⟨(some 104), .load none (.t 103), none, none⟩,
                ⟨(some 105), .mv (.t 8), none, none⟩,
                ⟨(some 106), .idxA 1 (.t 99) (.t 100), none, none⟩,
                ⟨none, .store 1 (.t 106) (.c (.v (.bool true))), none, none⟩,
                ⟨(some 107), .idxA 1 (.t 104) (.t 105), none, none⟩,
                ⟨none, .store 1 (.t 107) (.c (.v (.bool true))), none, none⟩])
               (.reg none [
                ⟨(some 7), .mv (.c (.v (.bool true))), none, none⟩])) .skip)))
             (.reg none [
              ⟨(some 73), .mv (.t 10), none, none⟩,
              ⟨(some 74), .bin .add (.t 73) (.c (.v (.int .i64 1))), none, none⟩,
              ⟨(some 10), .mv (.t 74), none, none⟩])))))
def c_ap_k : AC :=
  (.block 8 (.loop (.seq (.seq (.reg none [
           ⟨(some 54), .mv (.t 9), none, none⟩,
           ⟨(some 55), .mv (.t 8), none, none⟩,
           ⟨(some 56), .bin .lss (.t 54) (.t 55), none, none⟩])
          (.cond (.t 56) .skip (.exit 8)))
          (.seq (.block 9 (.seq (.reg none [
            ⟨(some 10), .mv (.c (.v (.int .i64 0))), none, none⟩])
           c_ap_s))
          (.reg none [
           ⟨(some 57), .mv (.t 9), none, none⟩,
           ⟨(some 58), .bin .add (.t 57) (.c (.v (.int .i64 1))), none, none⟩,
           ⟨(some 9), .mv (.t 58), none, none⟩])))))
def c_ap_i : AC :=
  (.block 6 (.loop (.seq (.seq (.reg none [
        ⟨(some 49), .mv (.t 8), none, none⟩,
        ⟨(some 50), .mv (.t 3), none, none⟩,
        ⟨(some 51), .bin .lss (.t 49) (.t 50), none, none⟩])
       (.cond (.t 51) .skip (.exit 6)))
       (.seq (.block 7 (.seq (.reg none [
         ⟨(some 9), .mv (.c (.v (.int .i64 0))), none, none⟩])
        c_ap_k))
       (.reg none [
        ⟨(some 52), .mv (.t 8), none, none⟩,
        ⟨(some 53), .bin .add (.t 52) (.c (.v (.int .i64 1))), none, none⟩,
        ⟨(some 8), .mv (.t 53), none, none⟩])))))
def c_ap_w : AC :=
  (.block 4 (.loop (.seq (.seq (.reg none [
     ⟨(some 48), .mv (.t 7), none, none⟩])
    (.cond (.t 48) .skip (.exit 4)))
    (.block 5 (.seq (.reg none [
      ⟨(some 7), .mv (.c (.v (.bool false))), none, none⟩])
     (.seq (.reg none [
      ⟨(some 8), .mv (.c (.v (.int .i64 0))), none, none⟩])
     c_ap_i))))))
def c_ap_f : AC :=
  (.block 2 (.loop (.seq (.seq (.reg none [
        ⟨(some 26), .mv (.t 6), none, none⟩,
        ⟨(some 27), .mv (.t 3), none, none⟩,
        ⟨(some 28), .bin .lss (.t 26) (.t 27), none, none⟩])
       (.cond (.t 28) .skip (.exit 2)))
       (.seq (.block 3 (.reg (some []) [
         ⟨(some 31), .mv (.t 4), none, none⟩,
         ⟨(some 32), .mv (.t 5), none, none⟩,
         ⟨(some 33), .idxA 1 (.t 31) (.t 32), none, none⟩,
         ⟨(some 34), .load none (.t 33), none, none⟩,
         ⟨(some 35), .mv (.t 6), none, none⟩,
         ⟨(some 36), .fieldA 2 (.t 1), none, none⟩,
         ⟨(some 37), .load none (.t 36), none, none⟩,
         ⟨(some 38), .mv (.t 5), none, none⟩,
         ⟨(some 39), .idxA 1 (.t 37) (.t 38), none, none⟩,
         ⟨(some 40), .load none (.t 39), none, none⟩,
         ⟨(some 41), .fieldA 2 (.t 1), none, none⟩,
         ⟨(some 42), .load none (.t 41), none, none⟩,
         ⟨(some 43), .mv (.t 6), none, none⟩,
         ⟨(some 44), .idxA 1 (.t 42) (.t 43), none, none⟩,
         ⟨(some 45), .load none (.t 44), none, none⟩,
         ⟨(some 46), .beq true (.t 40) (.t 45), none, none⟩,
         ⟨(some 47), .idxA 1 (.t 34) (.t 35), none, none⟩,
         ⟨none, .store 1 (.t 47) (.t 46), none, none⟩]))
       (.reg none [
        ⟨(some 29), .mv (.t 6), none, none⟩,
        ⟨(some 30), .bin .add (.t 29) (.c (.v (.int .i64 1))), none, none⟩,
        ⟨(some 6), .mv (.t 30), none, none⟩])))))
def c_ap_o : AC :=
  (.block 0 (.loop (.seq (.seq (.reg none [
     ⟨(some 16), .mv (.t 5), none, none⟩,
     ⟨(some 17), .mv (.t 3), none, none⟩,
     ⟨(some 18), .bin .lss (.t 16) (.t 17), none, none⟩])
    (.cond (.t 18) .skip (.exit 0)))
    (.seq (.block 1 (.seq (.reg none [
      ⟨(some 21), .mv (.t 4), none, none⟩,
      ⟨(some 22), .mv (.t 5), none, none⟩,
      ⟨(some 23), .mv (.t 3), none, none⟩,
      ⟨(some 24), .mks 1 1 (.v (.bool false)) (.t 23) (.t 23), none, none⟩,
      ⟨(some 25), .idxA 1 (.t 21) (.t 22), none, none⟩,
      ⟨none, .store 1 (.t 25) (.t 24), none, none⟩])
     (.seq (.reg none [
      ⟨(some 6), .mv (.c (.v (.int .i64 0))), none, none⟩])
     c_ap_f)))
    (.reg none [
     ⟨(some 19), .mv (.t 5), none, none⟩,
     ⟨(some 20), .bin .add (.t 19) (.c (.v (.int .i64 1))), none, none⟩,
     ⟨(some 5), .mv (.t 20), none, none⟩])))))
def c_ap_rest : AC :=
  (.seq (.seq (.reg none [
   ⟨(some 7), .mv (.c (.v (.bool true))), none, none⟩])
  c_ap_w)
  (.seq (.reg none [
   ⟨(some 108), .mv (.t 4), none, none⟩,
   ⟨(some 2), .mv (.t 108), none, none⟩])
  .ret))
def c_caesuraref17_apart : AC :=
  (.seq (.reg none [
   ⟨(some 1), .box 3 (.t 0), none, none⟩,
   ⟨(some 2), .mv (.c (.sl true [])), none, none⟩])
  (.seq (.reg none [
   ⟨(some 11), .fieldA 1 (.t 1), none, none⟩,
   ⟨(some 12), .load none (.t 11), none, none⟩,
   ⟨(some 13), .len (.t 12), none, none⟩,
   ⟨(some 3), .mv (.t 13), none, none⟩])
  (.seq (.reg none [
   ⟨(some 14), .mv (.t 3), none, none⟩,
   ⟨(some 15), .mks 1 24 (.sl true []) (.t 14) (.t 14), none, none⟩,
   ⟨(some 4), .mv (.t 15), none, none⟩])
  (.seq (.seq (.reg none [
   ⟨(some 5), .mv (.c (.v (.int .i64 0))), none, none⟩])
  c_ap_o)
  c_ap_rest))))
/-! ### the rounds -/
abbrev MS := Mx × Bool
/-- What a round has done. -/
structure Rnd (d : Det) (M0 : Mx) (s : MS) : Prop where
  ok : MOk d s.1
  no : s.2 = false → s.1 = M0
  lt : s.2 = true → fcnt d.next.length s.1 < fcnt d.next.length M0
end Go.Rf

