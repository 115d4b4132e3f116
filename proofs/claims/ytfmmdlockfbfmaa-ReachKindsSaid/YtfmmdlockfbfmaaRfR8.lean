import Derived.Test.YtfmmdlockfbfmaaRfR7
/- Own work: forms the other way round; where a rule matches. -/
set_option linter.unusedVariables false
set_option linter.unusedSimpArgs false
namespace Go.Rf
open Go.RowKit

mutual
def turnP : Pat → Pat
  | .mk k s g ks => .mk k s g (if k = 3 then (turnPs ks).reverse else turnPs ks)
def turnPs : List Pat → List Pat
  | [] => []
  | p :: ps => turnP p :: turnPs ps
end
theorem turnPs_eq : ∀ (ks : List Pat), turnPs ks = ks.map turnP
  | [] => by simp [turnPs]
  | p :: ps => by simp [turnPs, turnPs_eq ps]
theorem PatsS_of : ∀ {ks : List Pat}, (∀ q ∈ ks, PatS q) → PatsS ks
  | [], _ => trivial
  | p :: ps, h => ⟨h p (by simp), PatsS_of (fun q hq => h q (by simp [hq]))⟩
mutual
theorem PatS_turn : ∀ (p : Pat), PatS p → PatS (turnP p)
  | .mk k s g ks, h => by
    simp only [PatS] at h
    rw [turnP, PatS]
    have h2 := PatsS_turn ks h.2.2
    refine ⟨h.1, ?_, PatsS_of (fun q hq => h2 q ?_)⟩
    · split <;> simp [turnPs_eq, h.2.1]
    · split at hq
      · simpa using hq
      · exact hq
theorem PatsS_turn : ∀ (ks : List Pat), PatsS ks → ∀ q ∈ turnPs ks, PatS q
  | [], _, q, hq => by simp [turnPs] at hq
  | p :: ps, h, q, hq => by
    simp only [PatsS] at h
    rw [turnPs] at hq
    rcases List.mem_cons.mp hq with e | hq
    · rw [e]; exact PatS_turn p h.1
    · exact PatsS_turn ps h.2 q hq
end
structure Rul where
  num : Int
  cut : Bool
  before : Pat
  after : Pat
  pos : Int
def encRul (r : Rul) : AV := .agg ([encI r.num, encB r.cut] ++ (encPat r.before).cells ++ (encPat r.after).cells ++ [encI r.pos])
end Go.Rf

