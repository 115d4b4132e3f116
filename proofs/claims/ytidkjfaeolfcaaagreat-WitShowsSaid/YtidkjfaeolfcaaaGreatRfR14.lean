import Derived.Test.YtidkjfaeolfcaaaGreatRfR11
/- Own work: reach.Turn; how much a book is. -/
set_option linter.unusedVariables false
set_option linter.unusedSimpArgs false
namespace Go.Rf
open Go.RowKit

/-! ### forms turned round -/
/-- As Vec, from the block's start on. -/
def Vec0 (g : Nat → Option Blk) (v : AV) (es : Nat) (xs : List AV) : Prop := (v = .sl true [] ∧ xs = []) ∨ ∃ id, v = .own id 0 xs.length ∧ g id = some (.arr es xs)
theorem Vec0.vec {g : Nat → Option Blk} {v : AV} {es : Nat} {xs : List AV} (h : Vec0 g v es xs) : Vec g v es xs := by
  rcases h with ⟨rfl, rfl⟩ | ⟨id, rfl, h⟩
  · exact .nil
  · exact .mk h
theorem Vec0.frame {g g' : Nat → Option Blk} {v : AV} {es : Nat} {xs : List AV} (h : Vec0 g v es xs) (hs : ∀ i ∈ v.ids, g' i = g i) : Vec0 g' v es xs := by
  rcases h with h | ⟨id, rfl, h⟩
  · exact .inl h
  · exact .inr ⟨id, rfl, by rw [hs id (by simp [AV.ids])]; exact h⟩
structure TuS (p : Pat) (b0 b1 b3 : Nat) (f : AF) (S : St) : Prop where
  e1 : f 1 = .ptr b0 0 0
  e2 : f 2 = .ptr b1 0 0
  e3 : f 3 = .ptr b3 0 0
  e9 : f 9 = .sl false (p.kids.map encPat)
  e10 : f 10 = encI p.kids.length
  g0 : S.g b0 = some (.arr 4 [encPat p])
  g1 : S.g b1 = some (.arr 4 [.agg [.v (.int .i64 0), .sl true [], .sl true [], .sl true []]])
  n0 : b0 < S.n ∧ b1 < S.n ∧ b3 < S.n
end Go.Rf


/- Own work: how much a book is. -/
set_option linter.unusedVariables false
set_option linter.unusedSimpArgs false
namespace Go.Rf
open Go.RowKit

/-! ### forms -/
mutual
def goodP : Pat → Prop
  | .mk _ s g ks => Len s ∧ Len g ∧ Len ks ∧ goodPs ks
def goodPs : List Pat → Prop
  | [] => True
  | p :: ps => goodP p ∧ goodPs ps
end
/- What a weight that is no more than 2000 tells. -/

/-! ### nodes -/
inductive Nod where
  | mk (kind : Int) (name : ByteArray) (low high : Int) (kids : List Nod)
def Nod.kids : Nod → List Nod | .mk _ _ _ _ ks => ks
def encS (s : ByteArray) : AV := .v (.string s)
theorem closed_S (s : ByteArray) : Closed (encS s) := .v _
mutual
def encNod : Nod → AV
  | .mk k s a b ks => .agg [encI k, encS s, encI a, encI b, .sl false (encNods ks)]
def encNods : List Nod → List AV
  | [] => []
  | p :: ps => encNod p :: encNods ps
end
theorem encPat_4 (p : Pat) : ∃ x1 x2 x3 x4 : AV, encPat p = .agg [x1, x2, x3, x4] := by obtain ⟨k, s, a, b⟩ := p; rw [encPat_eq]; exact ⟨_, _, _, _, rfl⟩
mutual
theorem closed_Nod : ∀ (p : Nod), Closed (encNod p)
  | .mk k s a b ks => by
    rw [encNod]
    refine .agg _ (fun y hy => ?_)
    simp only [List.mem_cons, List.not_mem_nil, or_false] at hy
    rcases hy with rfl | rfl | rfl | rfl | rfl
    · exact Z2r _
    · exact closed_S _
    · exact Z2r _
    · exact Z2r _
    · exact .sl _ _ (closed_Nods ks)
theorem closed_Nods : ∀ (ks : List Nod), ∀ y ∈ encNods ks, Closed y
  | [], y, h => by simp [encNods] at h
  | p :: ps, y, h => by
    simp only [encNods, List.mem_cons] at h
    rcases h with rfl | h
    · exact closed_Nod p
    · exact closed_Nods ps y h
end
def LenS (s : ByteArray) : Prop := s.size ≤ 140737488351232
mutual
def goodN : Nod → Prop
  | .mk _ s _ _ ks => LenS s ∧ Len ks ∧ goodNs ks
def goodNs : List Nod → Prop
  | [] => True
  | p :: ps => goodN p ∧ goodNs ps
end
end Go.Rf


/- Own work: whether a book is more than is looked at. -/
set_option linter.unusedVariables false
set_option linter.unusedSimpArgs false
namespace Go.Rf
open Go.RowKit

structure Vr where
  name : ByteArray
  pat : Pat
  set : Bool
  pos : Int
structure Itm where
  kind : Int
  name : ByteArray
  number : Int
  cut : Bool
  before : Nod
  after : Nod
  pos : Int
structure Book where
  vars : List Vr
  rules : List Rul
  allows : List Itm
  used : List ByteArray
def encVr (v : Vr) : AV := .agg ([encS v.name] ++ (encPat v.pat).cells ++ [encB v.set, encI v.pos])
def encItm (v : Itm) : AV := .agg ([encI v.kind, encS v.name, encI v.number, encB v.cut] ++ (encNod v.before).cells ++ (encNod v.after).cells ++ [encI v.pos])
theorem encVr_7 (v : Vr) : ∃ x1 x2 x3 x4 : AV, encPat v.pat = .agg [x1, x2, x3, x4] ∧ encVr v = .agg [encS v.name, x1, x2, x3, x4, encB v.set, encI v.pos] := by
  obtain ⟨x1, x2, x3, x4, h⟩ := encPat_4 v.pat
  exact ⟨x1, x2, x3, x4, h, by unfold encVr; rw [h]; rfl⟩
theorem cl_all {cs : List AV} (h : Closed (.agg cs)) : ∀ y ∈ cs, Closed y := by cases h with | agg _ h => exact h
theorem closed_Vr (v : Vr) : Closed (encVr v) := by
  obtain ⟨x1, x2, x3, x4, h, k⟩ := encVr_7 v
  have hc := closed_Pat v.pat
  rw [h] at hc
  have := cl_all hc
  rw [k]
  refine .agg _ (fun y hy => ?_)
  simp only [List.mem_cons, List.not_mem_nil, or_false] at hy
  rcases hy with rfl | rfl | rfl | rfl | rfl | rfl | rfl
  · exact closed_S _
  · exact this _ (by simp)
  · exact this _ (by simp)
  · exact this _ (by simp)
  · exact this _ (by simp)
  · exact Z2o _
  · exact Z2r _
theorem closed_Itm (v : Itm) : Closed (encItm v) := by
  unfold encItm
  refine .agg _ (fun y hy => ?_)
  simp only [List.mem_append, List.mem_cons, List.not_mem_nil, or_false] at hy
  rcases hy with (((rfl | rfl | rfl | rfl) | hy) | hy) | rfl
  · exact Z2r _
  · exact closed_S _
  · exact Z2r _
  · exact Z2o _
  · exact (closed_Nod v.before).cells y hy
  · exact (closed_Nod v.after).cells y hy
  · exact Z2r _
def Book.bk (x : Book) : Bk := ⟨.sl false (x.vars.map encVr), x.rules, .sl false (x.allows.map encItm), .sl false (x.used.map encS)⟩
theorem Book.ok (x : Book) : BkOk x.bk := ⟨closed_map closed_Vr _, closed_map closed_Itm _, closed_map closed_S _, rfl, rfl, rfl⟩
def encBook (x : Book) : AV := encBk x.bk
structure goodBook (x : Book) : Prop where
  v : Len x.vars ∧ ∀ v ∈ x.vars, LenS v.name ∧ goodP v.pat
  r : Len x.rules ∧ ∀ r ∈ x.rules, goodP r.before ∧ goodP r.after
  a : Len x.allows ∧ ∀ i ∈ x.allows, LenS i.name ∧ goodN i.before ∧ goodN i.after
  u : Len x.used ∧ ∀ s ∈ x.used, LenS s
structure GbS (x : Book) (most : Int) (f : AF) (S : St) : Prop where
  e1 : f 1 = encI most
  e2 : f 2 = .ptr 0 0 0
  g0 : S.g 0 = some (.arr 4 [encBook x])
end Go.Rf

