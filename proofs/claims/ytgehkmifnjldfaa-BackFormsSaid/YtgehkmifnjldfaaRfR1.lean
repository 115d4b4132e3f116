import Derived.Test.YtgehkmifnjldfaaRfNb
import Derived.Test.YtgehkmifnjldfaaRfN2
import Derived.Test.YtgehkmifnjldfaaRfCell
import Derived.Test.YtgehkmifnjldfaaRfL10
/- Own work: nets and automata as values, for the rules. -/
set_option linter.unusedVariables false
set_option linter.unusedSimpArgs false
namespace Go.Rf
open Go.RowKit
theorem Z4k (n : Net) : (encNet n).solid = true := rfl
theorem Z2e (n : Net) : (encNet n).cells = [.v (.int .i64 n.signs), encIss n.by_, encIss n.follow, encIs n.last] := rfl
theorem Z25 (n : Net) : AV.agg [.v (.int .i64 n.signs), encIss n.by_, encIss n.follow, encIs n.last] = encNet n := rfl
theorem Z4h (d : Det) : (encDet d).solid = true := rfl
theorem Z2b (d : Det) : (encDet d).cells = [.v (.int .i64 d.signs), encIss d.next, encBs d.fin] := rfl
theorem Z24 (d : Det) : AV.agg [.v (.int .i64 d.signs), encIss d.next, encBs d.fin] = encDet d := rfl
theorem Z36 (l : List Int) : exLen (encIs l) = some (.v (.int .i64 l.length)) := by simp [encIs, exLen]
theorem Z37 (l : List (List Int)) : exLen (encIss l) = some (.v (.int .i64 l.length)) := by simp [encIss, exLen]
theorem Z35 (l : List Bool) : exLen (encBs l) = some (.v (.int .i64 l.length)) := by simp [encBs, exLen]
theorem Z3s {S : St} {nid : Nat} {l : List Int} {k : IntKind} {n : Int} (hn : 0 ≤ n) (hlt : n < l.length) : (exIdxA 1 (encIs l) (.v (.int k n))).run S nid = some (.eptr (encI (l.getD n.toNat 0)) 0, S) := by
  have hl : n.toNat < l.length := by omega
  simp [encIs, exIdxA, hn, List.getElem?_eq_getElem hl, List.getD_eq_getElem?_getD, AV.cells, encI]
theorem Z3t {S : St} {nid : Nat} {l : List (List Int)} {k : IntKind} {n : Int} (hn : 0 ≤ n) (hlt : n < l.length) : (exIdxA 1 (encIss l) (.v (.int k n))).run S nid = some (.eptr (encIs (l.getD n.toNat [])) 0, S) := by
  have hl : n.toNat < l.length := by omega
  simp [encIss, exIdxA, hn, List.getElem?_eq_getElem hl, List.getD_eq_getElem?_getD, AV.cells, encIs]
theorem Z3r {S : St} {nid : Nat} {l : List Bool} {k : IntKind} {n : Int} (hn : 0 ≤ n) (hlt : n < l.length) : (exIdxA 1 (encBs l) (.v (.int k n))).run S nid = some (.eptr (encB (l.getD n.toNat false)) 0, S) := by
  have hl : n.toNat < l.length := by omega
  simp [encBs, exIdxA, hn, List.getElem?_eq_getElem hl, List.getD_eq_getElem?_getD, AV.cells, encB]
theorem Z3p {S : St} {nid : Nat} {l : List Int} {k : IntKind} {n : Int} (hn : 0 ≤ n) (hlt : n < l.length) : (exIdxA 1 (encIs l) (.v (.int k n))).runT S nid = some (.eptr (encI (l.getD n.toNat 0)) 0, S, [], []) := by
  have hl : n.toNat < l.length := by omega
  simp [encIs, exIdxA, hn, List.getElem?_eq_getElem hl, List.getD_eq_getElem?_getD, AV.cells, encI, Z4c]
theorem Z3q {S : St} {nid : Nat} {l : List (List Int)} {k : IntKind} {n : Int} (hn : 0 ≤ n) (hlt : n < l.length) : (exIdxA 1 (encIss l) (.v (.int k n))).runT S nid = some (.eptr (encIs (l.getD n.toNat [])) 0, S, [], []) := by
  have hl : n.toNat < l.length := by omega
  simp [encIss, exIdxA, hn, List.getElem?_eq_getElem hl, List.getD_eq_getElem?_getD, AV.cells, encIs, Z4c]
theorem idxT_Bs {S : St} {nid : Nat} {l : List Bool} {k : IntKind} {n : Int} (hn : 0 ≤ n) (hlt : n < l.length) : (exIdxA 1 (encBs l) (.v (.int k n))).runT S nid = some (.eptr (encB (l.getD n.toNat false)) 0, S, [], []) := by
  have hl : n.toNat < l.length := by omega
  simp [encBs, exIdxA, hn, List.getElem?_eq_getElem hl, List.getD_eq_getElem?_getD, AV.cells, encB, Z4c]
/-- A list of lists in which only one is another one. -/
theorem getD_I {l : List Int} {i : Nat} (h : i < l.length) : l.getD i 0 = l[i] := by rw [List.getD_eq_getElem?_getD, List.getElem?_eq_getElem h]; rfl
end Go.Rf


/- Own work: what a function does to blocks of its own state is done wherever these blocks lie (frame and renaming of a call). -/
set_option linter.unusedVariables false
set_option linter.unusedSimpArgs false
namespace Go.Rf
open Go.RowKit

def noG : Nat → Option Blk := fun _ => none
/-- A number of the call's state, seen from outside: o (inside, outside); numbers from N on lie behind all that are outside. -/
def Rin (o : List (Nat × Nat)) (N n : Nat) (out inn : Nat) : Prop := (inn < N ∧ (inn, out) ∈ o) ∨ (N ≤ inn ∧ out = n + (inn - N))
theorem CallR.frame {P : Program} {f : FuncId} {args : List AV} {S : St} {K : AV → St → Prop} (N : Nat) (o : List (Nat × Nat)) (G : List (Nat × Option Blk)) (largs : List AV) (K0 : AV → St → Prop)
    (ho : o.Pairwise fun p q => p.1 ≠ q.1 ∧ p.2 ≠ q.2) (hoN : ∀ p ∈ o, p.1 < N ∧ p.2 < S.n)
    (hG : ∀ p ∈ G, p.2 = none ∨ ∃ i, (p.1, i) ∈ o ∧ RenO noG (fun j i => (j, i) ∈ o) (S.g i) p.2)
    (hargs : RenL noG (fun j i => (j, i) ∈ o) args largs)
    (h : CallR P f largs ⟨N, gOf G⟩ K0)
    (hk : ∀ r1 S1, N ≤ S1.n → K0 r1 S1 → ∃ r S', K r S' ∧ RenV noG (Rin o N S.n) r1 r ∧ S'.n = S.n + (S1.n - N) ∧
      ∀ i b, S'.g i = some b → ((∀ p ∈ o, p.2 ≠ i) ∧ S.g i = some b) ∨ ∃ j, Rin o N S.n i j ∧ RenO noG (Rin o N S.n) (S1.g j) (some b)) : CallR P f args S K := by
  refine ⟨h.1, fun E w vals hGam hS hv => ?_⟩
  let ρ2 : Nat → Option Loc := fun j => if j < N then match o.lookup j with | some i => E.ρ i | none => none else none
  let E2 : Env := ⟨ρ2, E.H⟩
  have hR : ∀ j i l, (j, i) ∈ o → E.ρ i = some l → E2.ρ j = some l := by
    intro j i l hji hl
    show ρ2 j = some l
    simp only [ρ2]
    rw [if_pos (hoN _ hji).1, lookup_of ho hji]; exact hl
  have hrep : ∀ {x y : AV}, RenV noG (fun j i => (j, i) ∈ o) x y → ∀ {v : Value}, Rep E x v → Rep E2 y v := fun h _ hv =>
    RenV.rep (E2 := E2) hS (gF := noG) (fun i k e => by cases e) (fun _ _ e => e) (fun id es xs l e => by cases e) hR h hv
  have hlive : ∀ j k', gOf G j = some k' → ∃ i k, (j, i) ∈ o ∧ S.g i = some k ∧ RenB noG (fun j i => (j, i) ∈ o) k k' := by
    intro j k' h
    rcases hG _ (gOf_mem h) with h1 | ⟨i, h1, h2⟩
    · simp at h1
    · obtain ⟨k, h3, h4⟩ := h2 k' rfl
      exact ⟨i, k, h1, h3, h4⟩
  have hS2 : Sim E2 ⟨N, gOf G⟩ w := by
    refine ⟨hS.hH, fun j k' e => ?_, fun j1 j2 k1 k2 l1 l2 e1 e2 hne r1 r2 => ?_, fun j hj => ?_⟩
    · obtain ⟨i, k, h1, h2, h3⟩ := hlive j k' e
      obtain ⟨l, a1, a2, a3⟩ := hS.live i k h2
      exact ⟨l, hR j i l h1 a1, a2, h3.ok hrep a3⟩
    · obtain ⟨i1, b1, p1, p2, _⟩ := hlive j1 k1 e1
      obtain ⟨i2, b2, q1, q2, _⟩ := hlive j2 k2 e2
      obtain ⟨m1, a1, _⟩ := hS.live i1 b1 p2
      obtain ⟨m2, a2, _⟩ := hS.live i2 b2 q2
      have c1 := hR j1 i1 m1 p1 a1
      have c2 := hR j2 i2 m2 q1 a2
      rw [c1] at r1; cases r1
      rw [c2] at r2; cases r2
      exact hS.dis i1 i2 b1 b2 _ _ p2 q2 (o_inj ho p1 q1 hne) a1 a2
    · have hj : N ≤ j := hj
      show ρ2 j = none
      simp only [ρ2]
      rw [if_neg (by omega)]
  have hv2 : Reps E2 largs vals := by
    refine ⟨by rw [hv.1, hargs.1], fun j hj => ?_⟩
    have hj' : j < args.length := by have := hargs.1; omega
    exact hrep (hargs.2 j hj' hj) (hv.2 j hj')
  refine (h.2 E2 w vals hGam hS2 hv2).mono ?_
  rintro e w' ⟨v, r1, S1, E1, rfl, hK, hS1, hr1, ev⟩
  have hN1 : N ≤ S1.n := ev.nle
  obtain ⟨r, S', k1, k2, k3, k4⟩ := hk r1 S1 hN1 hK
  let ρ3 : Nat → Option Loc := fun i => if i < S.n then E.ρ i else E1.ρ (N + (i - S.n))
  let E3 : Env := ⟨ρ3, E1.H⟩
  have hlow : ∀ i l, E.ρ i = some l → i < S.n := fun i l hl => by
    rcases Nat.lt_or_ge i S.n with h1 | h1
    · exact h1
    · rw [hS.fresh i h1] at hl; cases hl
  have hoo : ∀ j i, (j, i) ∈ o → E1.ρ j = E.ρ i := by
    intro j i hji
    have e2 : E2.ρ j = E.ρ i := by
      show ρ2 j = E.ρ i
      simp only [ρ2]
      rw [if_pos (hoN _ hji).1, lookup_of ho hji]
    cases hl : E.ρ i with
    | some l => exact ev.evo.le.1 j l (by rw [e2, hl])
    | none => exact ev.low j (hoN _ hji).1 (by rw [e2, hl])
  have hR3 : ∀ out inn l, Rin o N S.n out inn → E1.ρ inn = some l → E3.ρ out = some l := by
    intro out inn l hio hl
    show ρ3 out = some l
    simp only [ρ3]
    rcases hio with ⟨h1, h2⟩ | ⟨h1, rfl⟩
    · rw [if_pos (hoN _ h2).2, ← hoo _ _ h2]; exact hl
    · rw [if_neg (by omega), show N + (S.n + (inn - N) - S.n) = inn by omega]; exact hl
  have hrep3 : ∀ {x y : AV}, RenV noG (Rin o N S.n) x y → ∀ {v : Value}, Rep E1 x v → Rep E3 y v := fun h _ hv =>
    RenV.rep (E2 := E3) hS1 (gF := noG) (fun i k e => by cases e) (fun _ _ e => e) (fun id es xs l e => by cases e) hR3 h hv
  have hle : E.le E3 := by
    refine ⟨fun i l hl => ?_, fun b cs e => ev.evo.le.2 b cs e⟩
    show ρ3 i = some l
    simp only [ρ3]
    rw [if_pos (hlow i l hl)]; exact hl
  -- a block outside the frame lies as it lay
  have hout : ∀ i k l, S.g i = some k → E.ρ i = some l → (∀ p ∈ o, p.2 ≠ i) → w'.heap[l.b]? = w.heap[l.b]? ∧ E1.H l.b = none := by
    intro i k l hgi hl hno
    obtain ⟨l', a1, a2, a3⟩ := hS.live i k hgi
    rw [hl] at a1; cases a1
    have hfr : ∀ id l0 k0, (St.mk N (gOf G)).g id = some k0 → E2.ρ id = some l0 → l0.b ≠ l.b := by
      intro id l0 k0 b1 b2
      obtain ⟨i2, kk, h1, h2, h3⟩ := hlive id k0 b1
      obtain ⟨m2, c1, _⟩ := hS.live i2 kk h2
      have := hR id i2 m2 h1 c1
      rw [this] at b2; cases b2
      exact hS.dis i2 i kk k _ _ h2 hgi (fun e => hno _ h1 e) c1 hl
    refine ⟨ev.evo.keep l.b a3.lt hfr, ?_⟩
    cases e : E1.H l.b with
    | none => rfl
    | some cs =>
      exfalso
      rcases ev.evo.hsub _ _ e with h1 | h1 | ⟨id0, l0, k0, b1, b2, b3⟩
      · have h1' : E.H l.b = some cs := h1
        rw [a2] at h1'; cases h1'
      · have := a3.lt; omega
      · exact hfr id0 l0 k0 b1 b2 b3
  have hgrow : ∀ j k l, S1.g j = some k → E1.ρ j = some l → w.heap.size ≤ l.b ∨ ∃ id0 l0 k0, S.g id0 = some k0 ∧ E.ρ id0 = some l0 ∧ l0.b = l.b ∧ ∃ jj, (jj, id0) ∈ o := by
    intro j k l b1 b2
    rcases ev.evo.grow j l k b1 b2 with h1 | ⟨id0, l0, k0, c1, c2, c3⟩
    · exact .inl h1
    · obtain ⟨i2, kk, h1, h2, h3⟩ := hlive id0 k0 c1
      obtain ⟨m2, d1, _⟩ := hS.live i2 kk h2
      have := hR id0 i2 m2 h1 d1
      rw [this] at c2; cases c2
      exact .inr ⟨i2, _, kk, h2, d1, c3, _, h1⟩
  have hinj : ∀ i1 i2 j1 j2, Rin o N S.n i1 j1 → Rin o N S.n i2 j2 → i1 ≠ i2 → j1 ≠ j2 := by
    rintro i1 i2 j1 j2 h1 h2 hne rfl
    rcases h1 with ⟨a1, a2⟩ | ⟨a1, a2⟩ <;> rcases h2 with ⟨b1, b2⟩ | ⟨b1, b2⟩
    · have e1 := lookup_of ho a2
      have e2 := lookup_of ho b2
      rw [e1] at e2; cases e2; exact hne rfl
    · omega
    · omega
    · omega
  refine ⟨v, r, S', E3, rfl, k1, ⟨fun b cs e => hS1.hH b cs e, fun i b e => ?_, fun i1 i2 b1 b2 l1 l2 e1 e2 hne r1 r2 => ?_, fun i hi => ?_⟩, hrep3 k2 hr1, ?_⟩
  · rcases k4 i b e with ⟨h2, h3⟩ | ⟨j, h1, h2⟩
    · obtain ⟨l, a1, a2, a3⟩ := hS.live i b h3
      obtain ⟨c1, c2⟩ := hout i b l h3 a1 h2
      exact ⟨l, hle.1 i l a1, c2, a3.mono hle c1⟩
    · obtain ⟨k, h3, h4⟩ := h2 b rfl
      obtain ⟨l, a1, a2, a3⟩ := hS1.live j k h3
      exact ⟨l, hR3 i j l h1 a1, a2, h4.ok hrep3 a3⟩
  · rcases k4 i1 b1 e1 with ⟨h2, h3⟩ | ⟨j1, h1, h2⟩ <;> rcases k4 i2 b2 e2 with ⟨g2, g3⟩ | ⟨j2, g1, g2⟩
    · obtain ⟨m1, a1, _⟩ := hS.live i1 b1 h3
      obtain ⟨m2, a2, _⟩ := hS.live i2 b2 g3
      have c1 := hle.1 i1 m1 a1
      have c2 := hle.1 i2 m2 a2
      rw [c1] at r1; cases r1
      rw [c2] at r2; cases r2
      exact hS.dis i1 i2 b1 b2 _ _ h3 g3 hne a1 a2
    · obtain ⟨m1, a1, _, a3⟩ := hS.live i1 b1 h3
      have c1 := hle.1 i1 m1 a1
      rw [c1] at r1; cases r1
      obtain ⟨k, g3, g4⟩ := g2 b2 rfl
      obtain ⟨m2, a2, _⟩ := hS1.live j2 k g3
      have c2 := hR3 i2 j2 m2 g1 a2
      rw [c2] at r2; cases r2
      rcases hgrow j2 k _ g3 a2 with h5 | ⟨id0, l0, k0, d1, d2, d3, jj, d4⟩
      · have := a3.lt; omega
      · rw [← d3]
        exact hS.dis i1 id0 b1 k0 _ _ h3 d1 (fun e => h2 _ d4 e.symm) a1 d2
    · obtain ⟨m2, a2, _, a3⟩ := hS.live i2 b2 g3
      have c2 := hle.1 i2 m2 a2
      rw [c2] at r2; cases r2
      obtain ⟨k, h3, h4⟩ := h2 b1 rfl
      obtain ⟨m1, a1, _⟩ := hS1.live j1 k h3
      have c1 := hR3 i1 j1 m1 h1 a1
      rw [c1] at r1; cases r1
      rcases hgrow j1 k _ h3 a1 with h5 | ⟨id0, l0, k0, d1, d2, d3, jj, d4⟩
      · have := a3.lt; omega
      · rw [← d3]
        exact hS.dis id0 i2 k0 b2 _ _ d1 g3 (fun e => g2 _ d4 e) d2 a2
    · obtain ⟨k, h3, h4⟩ := h2 b1 rfl
      obtain ⟨m1, a1, _⟩ := hS1.live j1 k h3
      have c1 := hR3 i1 j1 m1 h1 a1
      rw [c1] at r1; cases r1
      obtain ⟨k2, g3, g4⟩ := g2 b2 rfl
      obtain ⟨m2, a2, _⟩ := hS1.live j2 k2 g3
      have c2 := hR3 i2 j2 m2 g1 a2
      rw [c2] at r2; cases r2
      exact hS1.dis j1 j2 k k2 _ _ h3 g3 (hinj _ _ _ _ h1 g1 hne) a1 a2
  · show ρ3 i = none
    simp only [ρ3]
    rw [if_neg (by omega)]
    exact hS1.fresh _ (by omega)
  · refine ⟨⟨ev.evo.os, ev.evo.tape, ev.evo.output, ev.evo.size, fun b hb hno => ?_, fun i l b e hl => ?_, hle, fun b cs e => ?_⟩, by omega, fun i hi e => ?_⟩
    · refine ev.evo.keep b hb fun id l0 k0 b1 b2 => ?_
      obtain ⟨i2, kk, h1, h2, h3⟩ := hlive id k0 b1
      obtain ⟨m2, c1, _⟩ := hS.live i2 kk h2
      have := hR id i2 m2 h1 c1
      rw [this] at b2; cases b2
      exact hno i2 _ kk h2 c1
    · rcases k4 i b e with ⟨h2, h3⟩ | ⟨j, h1, h2⟩
      · obtain ⟨m1, a1, _⟩ := hS.live i b h3
        have c1 := hle.1 i m1 a1
        rw [c1] at hl; cases hl
        exact .inr ⟨i, _, b, h3, a1, rfl⟩
      · obtain ⟨k, h3, h4⟩ := h2 b rfl
        obtain ⟨m1, a1, _⟩ := hS1.live j k h3
        have c1 := hR3 i j m1 h1 a1
        rw [c1] at hl; cases hl
        rcases hgrow j k _ h3 a1 with h5 | ⟨id0, l0, k0, d1, d2, d3, _⟩
        · exact .inl h5
        · exact .inr ⟨id0, l0, k0, d1, d2, d3⟩
    · rcases ev.evo.hsub b cs e with h1 | h1 | ⟨id0, l0, k0, b1, b2, b3⟩
      · exact .inl h1
      · exact .inr (.inl h1)
      · obtain ⟨i2, kk, h1, h2, h3⟩ := hlive id0 k0 b1
        obtain ⟨m2, c1, _⟩ := hS.live i2 kk h2
        have := hR id0 i2 m2 h1 c1
        rw [this] at b2; cases b2
        exact .inr (.inr ⟨i2, _, kk, h2, c1, b3⟩)
    · show ρ3 i = none
      simp only [ρ3]
      rw [if_pos hi]; exact e
end Go.Rf


/- Own work: forms, and up to where they match, in the order in which reach tells it. -/
set_option linter.unusedVariables false
set_option linter.unusedSimpArgs false
namespace Go.Rf
open Go.RowKit

inductive Pat where
  | mk (kind : Int) (set : List Rg) (signs : List Int) (kids : List Pat)
def Pat.kind : Pat → Int | .mk k _ _ _ => k
def Pat.set : Pat → List Rg | .mk _ s _ _ => s
def Pat.signs : Pat → List Int | .mk _ _ g _ => g
def Pat.kids : Pat → List Pat | .mk _ _ _ ks => ks
mutual
def encPat : Pat → AV
  | .mk k s g ks => .agg [encI k, encRs s, encIs g, .sl false (encPats ks)]
def encPats : List Pat → List AV
  | [] => []
  | p :: ps => encPat p :: encPats ps
end
theorem encPats_eq : ∀ (ks : List Pat), encPats ks = ks.map encPat
  | [] => by simp [encPats]
  | p :: ps => by simp [encPats, encPats_eq ps]
theorem encPat_eq (k : Int) (s : List Rg) (g : List Int) (ks : List Pat) : encPat (.mk k s g ks) = .agg [encI k, encRs s, encIs g, .sl false (ks.map encPat)] := by rw [encPat, encPats_eq]
theorem encPat_cells (p : Pat) : (encPat p).cells.length = 4 := by cases p; rw [encPat_eq]; rfl
mutual
theorem closed_Pat : ∀ (p : Pat), Closed (encPat p)
  | .mk k s g ks => by
    rw [encPat]
    refine .agg _ (fun y hy => ?_)
    simp only [List.mem_cons, List.not_mem_nil, or_false] at hy
    rcases hy with rfl | rfl | rfl | rfl
    · exact Z2r _
    · exact closed_Rs _
    · exact Z2s _
    · exact .sl _ _ (closed_Pats ks)
theorem closed_Pats : ∀ (ks : List Pat), ∀ y ∈ encPats ks, Closed y
  | [], y, h => by simp [encPats] at h
  | p :: ps, y, h => by
    simp only [encPats, List.mem_cons] at h
    rcases h with rfl | h
    · exact closed_Pat p
    · exact closed_Pats ps y h
end
/-- Some more are added, each once. -/
def addA (acc : List Int) : List Int → List Int
  | [] => acc
  | x :: xs => addA (if acc.contains x = true then acc else acc ++ [x]) xs
def ddp (l : List Int) : List Int := addA [] l
theorem mem_addA : ∀ {xs acc : List Int} {y : Int}, y ∈ addA acc xs ↔ y ∈ acc ∨ y ∈ xs
  | [], acc, y => by simp [addA]
  | x :: xs, acc, y => by
    simp only [addA]
    rw [mem_addA]
    by_cases h : acc.contains x = true
    · rw [if_pos h]
      have h' : x ∈ acc := by simpa using h
      constructor
      · rintro (h1 | h1)
        · exact .inl h1
        · exact .inr (by simp [h1])
      · rintro (h1 | h1)
        · exact .inl h1
        · rcases List.mem_cons.mp h1 with rfl | h1
          · exact .inl h'
          · exact .inr h1
    · rw [if_neg h]
      simp only [List.mem_append, List.mem_cons, List.not_mem_nil, or_false]
      constructor
      · rintro ((h1 | h1) | h1)
        · exact .inl h1
        · exact .inr (.inl h1)
        · exact .inr (.inr h1)
      · rintro (h1 | h1 | h1)
        · exact .inl (.inl h1)
        · exact .inl (.inr h1)
        · exact .inr h1
theorem addA_nodup : ∀ {xs acc : List Int}, acc.Nodup → (addA acc xs).Nodup
  | [], acc, h => h
  | x :: xs, acc, h => by
    simp only [addA]
    refine addA_nodup ?_
    by_cases hc : acc.contains x = true
    · rw [if_pos hc]; exact h
    · rw [if_neg hc]
      have h' : x ∉ acc := by simpa using hc
      rw [List.nodup_append]
      exact ⟨h, by simp, fun a ha b hb => by simp at hb; subst hb; intro e; subst e; exact h' ha⟩
theorem mem_ddp {xs : List Int} {y : Int} : y ∈ ddp xs ↔ y ∈ xs := by unfold ddp; rw [mem_addA]; simp
theorem ddp_nodup (xs : List Int) : (ddp xs).Nodup := addA_nodup (by simp)
/-- Places of a list, each once, are few. -/
theorem nodup_len : ∀ (n : Nat) {l : List Int}, l.Nodup → (∀ x ∈ l, 0 ≤ x ∧ x < (n : Int)) → l.length ≤ n
  | 0, l, _, h => by
    cases l with
    | nil => simp
    | cons x l => have := h x (by simp); omega
  | n + 1, l, hd, h => by
    have h1 : (l.filter (fun x => x != (n : Int))).length ≤ n := nodup_len n (hd.filter _) (fun x hx => by
      have hm := List.mem_filter.mp hx
      have := h x hm.1
      have hne : x ≠ (n : Int) := by simpa using hm.2
      omega)
    have h2 : (l.filter (fun x => x == (n : Int))).length ≤ 1 := by
      have hd2 := hd.filter (fun x => x == (n : Int))
      have hall : ∀ x ∈ l.filter (fun x => x == (n : Int)), x = (n : Int) := fun x hx => by simpa using (List.mem_filter.mp hx).2
      generalize l.filter (fun x => x == (n : Int)) = m at *
      match m, hd2, hall with
      | [], _, _ => simp
      | [_], _, _ => simp
      | a :: b :: m, hd2, hall =>
        exfalso
        have := (List.nodup_cons.mp hd2).1
        rw [hall a (by simp)] at this
        rw [hall b (by simp)] at this
        simp at this
    have h3 : l.length = (l.filter (fun x => x == (n : Int))).length + (l.filter (fun x => x != (n : Int))).length := by
      have := List.length_eq_countP_add_countP (p := fun x : Int => x == (n : Int)) (l := l)
      rw [List.countP_eq_length_filter, List.countP_eq_length_filter] at this
      rw [this]
      congr 2
      exact List.filter_congr (fun x _ => by rw [bne]; cases (x == (n : Int)) <;> rfl)
    omega
/-- What is come to, again and again. -/
def cloL (v : Int → List Int) : Nat → List Int → Nat → List Int
  | 0, met, _ => met
  | f + 1, met, i => if h : i < met.length then cloL v f (addA met (v met[i])) (i + 1) else met
def agn (v : Int → List Int) (k : Int) (n : Nat) (at_ : Int) : List Int := (if k = 6 then [] else [at_]) ++ (if k = 7 then ddp (v at_) else cloL v (n + 2) (ddp (v at_)) 0)
mutual
def visits (l : List Int) : Pat → Int → List Int
  | .mk k s g ks, at_ => if k = 1 then [at_] else if k = 2 then (if at_ < l.length ∧ g.contains (l.getD at_.toNat 0) = true then [at_ + 1] else []) else if k = 3 then visAll l ks [at_] else if k = 4 then visOr l ks at_
      else if k = 7 ∨ k = 5 ∨ k = 6 then visAg l ks k at_ else []
def visAll (l : List Int) : List Pat → List Int → List Int
  | [], cur => cur
  | q :: qs, cur => visAll l qs (ddp (cur.flatMap fun a => visits l q a))
def visOr (l : List Int) : List Pat → Int → List Int
  | [], _ => []
  | q :: qs, at_ => visits l q at_ ++ visOr l qs at_
def visAg (l : List Int) : List Pat → Int → Int → List Int
  | [q], k, at_ => agn (fun a => visits l q a) k l.length at_
  | _, _, _ => []
end
theorem cloL_bd {v : Int → List Int} {a b : Int} (hv : ∀ x, a ≤ x → x ≤ b → ∀ y ∈ v x, a ≤ y ∧ y ≤ b) : ∀ (f : Nat) (met : List Int) (i : Nat), (∀ x ∈ met, a ≤ x ∧ x ≤ b) → ∀ x ∈ cloL v f met i, a ≤ x ∧ x ≤ b
  | 0, met, i, h, x, hx => h x hx
  | f + 1, met, i, h, x, hx => by
    simp only [cloL] at hx
    split at hx
    · rename_i hlt
      refine cloL_bd hv f _ _ (fun y hy => ?_) x hx
      rcases mem_addA.mp hy with hy | hy
      · exact h y hy
      · have hm := h _ (List.getElem_mem hlt)
        exact hv _ hm.1 hm.2 y hy
    · exact h x hx
theorem agn_bd {v : Int → List Int} {b : Int} {k : Int} {n : Nat} {at_ : Int} (hab : at_ ≤ b) (hv : ∀ x, at_ ≤ x → x ≤ b → ∀ y ∈ v x, at_ ≤ y ∧ y ≤ b) : ∀ x ∈ agn v k n at_, at_ ≤ x ∧ x ≤ b := by
  intro x hx
  have h0 : ∀ y ∈ ddp (v at_), at_ ≤ y ∧ y ≤ b := fun y hy => hv at_ (Int.le_refl _) hab y (mem_ddp.mp hy)
  unfold agn at hx
  rcases List.mem_append.mp hx with hx | hx
  · split at hx
    · simp at hx
    · simp at hx; subst hx; exact ⟨Int.le_refl _, hab⟩
  · split at hx
    · exact h0 x hx
    · exact cloL_bd hv _ _ _ h0 x hx
mutual
theorem visits_bd (l : List Int) : ∀ (p : Pat) (at_ : Int), 0 ≤ at_ → at_ ≤ l.length → ∀ x ∈ visits l p at_, at_ ≤ x ∧ x ≤ l.length
  | .mk k s g ks, at_, h0, hn, x, hx => by
    rw [visits] at hx
    split at hx
    · simp at hx; subst hx; exact ⟨Int.le_refl _, hn⟩
    · split at hx
      · split at hx
        · rename_i hc; simp at hx; subst hx; omega
        · simp at hx
      · split at hx
        · exact visAll_bd l ks [at_] at_ h0 (fun y hy => by simp at hy; subst hy; exact ⟨Int.le_refl _, hn⟩) x hx
        · split at hx
          · exact visOr_bd l ks at_ h0 hn x hx
          · split at hx
            · exact visAg_bd l ks k at_ h0 hn x hx
            · simp at hx
theorem visAll_bd (l : List Int) : ∀ (ks : List Pat) (cur : List Int) (a : Int), 0 ≤ a → (∀ x ∈ cur, a ≤ x ∧ x ≤ l.length) → ∀ x ∈ visAll l ks cur, a ≤ x ∧ x ≤ l.length
  | [], cur, a, h0, h, x, hx => by rw [visAll] at hx; exact h x hx
  | q :: qs, cur, a, h0, h, x, hx => by
    rw [visAll] at hx
    refine visAll_bd l qs _ a h0 (fun y hy => ?_) x hx
    obtain ⟨c, hc, hy⟩ := List.mem_flatMap.mp (mem_ddp.mp hy)
    have h1 := h c hc
    have h2 := visits_bd l q c (by omega) h1.2 y hy
    omega
theorem visOr_bd (l : List Int) : ∀ (ks : List Pat) (at_ : Int), 0 ≤ at_ → at_ ≤ l.length → ∀ x ∈ visOr l ks at_, at_ ≤ x ∧ x ≤ l.length
  | [], at_, h0, hn, x, hx => by rw [visOr] at hx; simp at hx
  | q :: qs, at_, h0, hn, x, hx => by
    rw [visOr] at hx
    rcases List.mem_append.mp hx with hx | hx
    · exact visits_bd l q at_ h0 hn x hx
    · exact visOr_bd l qs at_ h0 hn x hx
theorem visAg_bd (l : List Int) : ∀ (ks : List Pat) (k at_ : Int), 0 ≤ at_ → at_ ≤ l.length → ∀ x ∈ visAg l ks k at_, at_ ≤ x ∧ x ≤ l.length
  | [q], k, at_, h0, hn, x, hx => by
    rw [visAg] at hx
    exact agn_bd hn (fun y h1 h2 z hz => by have := visits_bd l q y (by omega) h2 z hz; omega) x hx
  | [], k, at_, h0, hn, x, hx => by simp [visAg] at hx
  | q :: r :: qs, k, at_, h0, hn, x, hx => by simp [visAg] at hx
end

/-! ### those that are told, and those that tell -/
structure Ext (A A' : List Nat) (S S' : St) : Prop where
  nw : ∀ i ∈ A', i ∈ A ∨ S.n ≤ i
  fr : ∀ i, i < S.n → i ∉ A → S'.g i = S.g i
  nn : S.n ≤ S'.n
theorem Ext.refl (A : List Nat) (S : St) : Ext A A S S := ⟨fun i h => .inl h, fun _ _ _ => rfl, Nat.le_refl _⟩
theorem Ext.trans {A A1 A2 : List Nat} {S S1 S2 : St} (h : Ext A A1 S S1) (k : Ext A1 A2 S1 S2) : Ext A A2 S S2 := by
  refine ⟨fun i hi => ?_, fun i hi ha => ?_, Nat.le_trans h.nn k.nn⟩
  · rcases k.nw i hi with h1 | h1
    · exact h.nw i h1
    · exact .inr (Nat.le_trans h.nn h1)
  · rw [k.fr i (Nat.lt_of_lt_of_le hi h.nn) (fun h1 => ?_), h.fr i hi ha]
    rcases h.nw i h1 with h2 | h2
    · exact ha h2
    · omega
/-- One that is told numbers, and keeps account of them in blocks of its own. -/
structure Tlr (P : Program) (n : Nat) (tv : AV) (J : List Int → List Nat → St → Prop) : Prop where
  keep : ∀ {L A} {S S' : St}, J L A S → (∀ i ∈ A, S'.g i = S.g i) → S.n ≤ S'.n → J L A S'
  lt : ∀ {L A S}, J L A S → ∀ i ∈ A, i < S.n
  call : ∃ f first cap, tv = .clo f first cap ∧ ∀ L A S (j : Int) (K : AV → St → Prop), 0 ≤ j → j ≤ n → J L A S → (∀ S' A', J (L ++ [j]) A' S' → Ext A A' S S' → K (.tup []) S') → CallR P f (first ++ encI j :: cap) S K
def encW (l : List Int) : AV := .agg [encIs l]
end Go.Rf

