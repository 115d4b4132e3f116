import Derived.Test.YtpinfihfbjkijaaDoorRfVec
import Derived.Test.YtpinfihfbjkijaaDoorRfCell
import Derived.Test.YtpinfihfbjkijaaDoorRfKl
set_option linter.unusedVariables false
set_option linter.unusedSimpArgs false
namespace Go.Rf
/-! ### ranges -/
structure Rg where
  low : Int
  high : Int
deriving DecidableEq
def encR (r : Rg) : AV := .agg [encI r.low, encI r.high]
def encRs (l : List Rg) : AV := .sl false (l.map encR)
def encRss (l : List (List Rg)) : AV := .sl false (l.map encRs)
def inR (r : Rg) (c : Int) : Bool := decide (r.low ≤ c) && decide (c ≤ r.high)
def hasIn (l : List Rg) (c : Int) : Bool := l.any fun r => inR r c
def hasR (l : List Rg) (c : Int) : Bool := decide (0 ≤ c) && decide (c ≤ 1114111) && decide (l.length ≤ 400) && hasIn l c
theorem appT_nil {es by_ : Nat} {t : Bool} {S : St} {nid : Nat} : (exApp es by_ (.sl true []) (.sl t [])).runT S nid = if appOk by_ 0 0 then some (.sl true [], S, [], []) else none := by
  by_cases h : appOk by_ 0 0 <;> simp [exApp, Eff.runT, AV.oid, lstE, h, St.setL, St.setO]
theorem appT_sl {es by_ : Nat} {t : Bool} {ys : List AV} {S : St} {nid : Nat} (hy : ∀ z ∈ ys, z.cells.length = es) (h0 : 0 < ys.length) (hok : appOk by_ 0 ys.length) :
    (exApp es by_ (.sl true []) (.sl t ys)).runT S nid = some (.own nid 0 ys.length, S.set nid (some (.arr es ys)), [], [nid]) := by
  have hne : ¬ (ys = []) := by intro e; subst e; simp at h0
  have hz : ¬ (ys.length = 0) := by omega
  simp only [exApp, Eff.runT, AV.oid, List.mapM_nil, lstE]
  rw [if_pos hy]
  simp only [Option.pure_def, Option.bind_some, List.length_nil, Nat.zero_add, List.nil_append]
  rw [if_pos ⟨by simp, hok⟩, if_neg hz]
  simp [St.setL, St.setO]
theorem appT_own {es by_ id len : Nat} {t : Bool} {xs ys : List AV} {S : St} {nid : Nat} (hg : S.g id = some (.arr es xs)) (hl : len = xs.length) (hy : ∀ z ∈ ys, z.cells.length = es) (hok : appOk by_ len ys.length) :
    (exApp es by_ (.own id 0 len) (.sl t ys)).runT S nid = some (.own nid 0 (len + ys.length), (S.set id none).set nid (some (.arr es (xs ++ ys))), [id], [id, nid]) := by
  subst hl
  simp only [exApp, Eff.runT, AV.oid, List.mapM_cons, List.mapM_nil, hg, lstE]
  simp only [Option.pure_def, Option.bind_some, Option.bind_eq_bind]
  rw [if_pos hy]
  simp only [Option.bind_some, Nat.zero_add]
  rw [if_pos ⟨trivial, trivial, hok, by simp⟩]
  simp [St.setL, St.setO]
def putF : List Int → Int → List Int
  | [], n => [n]
  | x :: l, n => if x < n then x :: putF l n else if x = n then x :: l else n :: x :: l
/-! ### the edges -/
def Iv (g : Nat → Option Blk) (v : AV) (l : List Int) : Prop := (∃ t, v = .sl t (l.map encI)) ∨ Vec g v 1 (l.map encI)
theorem Iv.frame {g g' : Nat → Option Blk} {v : AV} {l : List Int} (h : Iv g v l) (hs : ∀ i ∈ v.ids, g' i = g i) : Iv g' v l := by
  rcases h with h | h
  · exact .inl h
  · exact .inr (h.frame hs)
theorem Iv.fz {g : Nat → Option Blk} {v : AV} {l : List Int} (h : Iv g v l) : Fz g v (encIs l) := by
  rcases h with ⟨t, rfl⟩ | h
  · exact .loose t _ (closed_map closed_I l)
  · exact h.fz closed_I
theorem Iv.only {g : Nat → Option Blk} {v : AV} {l : List Int} (h : Iv g v l) : Iv (only v.ids g) v l := h.frame (fun i hi => by rw [only_g, if_pos hi])
def edge1 (out : List Int) (r : Rg) : List Int := if 0 ≤ r.low ∧ r.low ≤ 1114111 then putF out r.low else out
def edge2 (out : List Int) (r : Rg) : List Int := if -1 ≤ r.high ∧ r.high < 1114111 then putF out (r.high + 1) else out
def edgeS (out : List Int) (l : List Rg) : List Int := if l.length ≤ 400 then l.foldl (fun o r => edge2 (edge1 o r) r) out else out
def edgesF (sets : List (List Rg)) : List Int := sets.foldl edgeS [0]
structure ER (sets : List (List Rg)) (i k c : Nat) (r : Rg) (cur : List Int) (f : AF) (S : St) : Prop where
  e0 : f 0 = encRss sets
  e4 : f 4 = encI i
  e5 : f 5 = encI k
  e6 : f 6 = .ptr c 0 0
  gc : S.g c = some (.arr 2 [encR r])
  v : Iv S.g (f 3) cur
  ids : ∀ x ∈ (f 3).ids, x < S.n ∧ x ≠ c
structure EB (sets : List (List Rg)) (i k : Nat) (cur : List Int) (f : AF) (S : St) : Prop where
  e0 : f 0 = encRss sets
  e4 : f 4 = encI i
  e5 : f 5 = encI k
  v : Iv S.g (f 3) cur
  ids : ∀ x ∈ (f 3).ids, x < S.n
end Go.Rf
