import Derived.Test.YtpinfihfbjkijaaDoorRfUse
import Derived.Test.YtpinfihfbjkijaaDoorRfVec
import Derived.Sort.Row
import Derived.Sort.Grow
import Derived.Lib.SlicesCompact
/- Own work: the library's contracts of slices.Sort and slices.Compact, at the level of abstract values. -/
set_option linter.unusedVariables false
set_option linter.unusedSimpArgs false
namespace Go.Rf
open Go.RowKit Go.Sort

theorem Sim.widen {E : Env} {S : St} {w w' : World} (h : Sim E S w) (hw : ∀ b, b < w.heap.size → w'.heap[b]? = w.heap[b]?) : Sim E S w' := by
  refine ⟨fun b cs e => ?_, fun id k e => ?_, h.dis, h.fresh⟩
  · rw [hw b (h.H_lt e)]; exact h.hH b cs e
  · obtain ⟨l, a1, a2, a3⟩ := h.live id k e
    exact ⟨l, a1, a2, a3.mono (Env.le_refl _) (hw _ a3.lt)⟩
theorem putRow_at {w : World} {b o : Nat} {d : Array Int} {cs : Array Value} {el : TypeId} {fz : Nat × Nat} (h : w.heap[b]? = some (.cells cs el fz)) :
    (putRow (Value.int .i64) w b o d).heap[b]? = some (.cells (putCells (Value.int .i64) o d cs) el fz) := by
  simp only [putRow, mapBlock, Array.getElem?_modify, if_true, h, Option.map_some, onCells]
theorem putRow_other {w : World} {b o : Nat} {d : Array Int} (c : Nat) (h : c ≠ b) : (putRow (Value.int .i64) w b o d).heap[c]? = w.heap[c]? := by
  simp only [putRow, mapBlock, Array.getElem?_modify]
  rw [if_neg (Ne.symm h)]
theorem putCells_at {o : Nat} {d : Array Int} {cs : Array Value} (k : Nat) : (putCells (Value.int .i64) o d cs)[k]? = (cs[k]?).map fun x => if o ≤ k ∧ k < o + d.size then Value.int .i64 d[k - o]! else x := by
  simp only [putCells, Array.getElem?_mapIdx]
theorem putRow_size {w : World} {b o : Nat} {d : Array Int} : (putRow (Value.int .i64) w b o d).heap.size = w.heap.size := by
  simp [putRow, mapBlock]
theorem flat_encI : ∀ q : List Int, flat (q.map encI) = q.map encI
  | [] => rfl
  | x :: q => by
    have ih := flat_encI q
    simp only [List.map_cons, flat, List.flatMap_cons] at ih ⊢
    rw [ih]; rfl
/-- A call that writes into a list of one's own, and hands back that it did, or its beginning. -/
theorem CallR.rewrite {P : Program} {f : FuncId} (hcal : Callable P f) {S : St} {id off : Nat} {ys : List AV} {l l' : List Int} (hg : S.g id = some (.arr 1 ys)) (hd : ys.drop off = l.map encI) (hne : l ≠ []) (hl : l'.length = l.length) (m : Nat) (hm : m ≤ l'.length)
    (res : Nat → Nat → Nat → Value) (r : AV) (hres : (r = .tup [] ∧ ∀ b o cap, res b o cap = .tuple #[]) ∨ (r = .own id off m ∧ 0 < m ∧ ∀ b o cap, res b o cap = .slice (some ⟨b, o, none⟩) m cap))
    (hc : ∀ b o cap w, Holds (Value.int .i64) w b o l.toArray → b < w.heap.size → l.length ≤ cap → Calls P f #[.slice (some ⟨b, o, none⟩) l.length cap] w fun e w' => e = .returned (res b o cap) ∧ ∃ n os, w' = grow (putRow (Value.int .i64) (Sort.ahead w n) b o l'.toArray) os)
    {K : AV → St → Prop} (hk : K r (S.set id (some (.arr 1 (ys.take off ++ (l'.take m).map encI))))) : CallR P f [.own id off l.length] S K := by
  refine ⟨hcal, fun E w vals hS hv => ?_⟩
  have hlen : 0 < l.length := List.length_pos_iff.mpr hne
  obtain ⟨loc, hρ, hN, hok⟩ := hS.live id _ hg
  have hlt := hok.lt
  obtain ⟨hes, htot, hc1, hat, cs, el, hheap, hsize, hcells⟩ := hok
  have hoff : off + l.length = ys.length := by have := congrArg List.length hd; simp at this; omega
  have hfl : (flat ys).length = ys.length := by rw [length_flat hc1]; omega
  have hfd : (flat ys).drop off = l.map encI := by
    have h1 := flat_drop hc1 off
    rw [hd] at h1
    rw [flat_encI, Nat.mul_one] at h1; exact h1.symm
  -- the value that is handed over
  obtain ⟨hvs, hvj⟩ := hv
  have hv0 := hvj 0 (by simp)
  simp only [List.getElem_cons_zero] at hv0
  clear hvj
  have hvals : vals = #[vals.getD 0 undef] := by
    apply Array.ext
    · simpa using hvs
    · intro i h1 h2
      have : i = 0 := by simp at h2; exact h2
      subst this
      simp [Array.getD_eq_getD_getElem?, h1]
  generalize hva : vals.getD 0 undef = va at hv0 hvals
  subst hvals
  cases hv0 with
  | own _ _ _ A cap l0 hl0 hle hA =>
    rw [hρ] at hl0; cases hl0
    obtain ⟨hA1, hA2⟩ := hA (by omega)
    subst hA1
    have hget : ∀ j (hj : j < l.length), cs[loc.o + off * loc.es + j]? = some (.int .i64 (l[j])) := by
      intro j hj
      obtain ⟨u, a1, a2⟩ := hcells (off + j) (by omega)
      have e : (flat ys)[off + j]'(by omega) = encI (l[j]) := by
        have : ((flat ys).drop off)[j]'(by simp; omega) = encI l[j] := by simp [hfd]
        rw [List.getElem_drop] at this; exact this
      rw [e] at a2
      have := a2.v_inv
      rw [hes, Nat.mul_one, Nat.add_assoc, a1, this]
    have hH : Holds (Value.int .i64) w loc.b (loc.o + off * loc.es) l.toArray := by
      intro j hj
      have hj' : j < l.length := by simpa using hj
      refine ⟨?_, ?_⟩
      · rw [cell_of_heap hheap, hget j hj']
        simp [hj']
      · simp [World.frozen?, hheap]
    refine (hc loc.b (loc.o + off * loc.es) cap w hH hlt hle).mono ?_
    rintro e w' ⟨rfl, n, os, rfl⟩
    let w1 := putRow (Value.int .i64) (Sort.ahead w n) loc.b (loc.o + off * loc.es) l'.toArray
    have hw1b : w1.heap[loc.b]? = some (.cells (putCells (Value.int .i64) (loc.o + off * loc.es) l'.toArray cs) el (0, 0)) := putRow_at (w := Sort.ahead w n) hheap
    have hw1o : ∀ b, b ≠ loc.b → w1.heap[b]? = w.heap[b]? := fun b hb => putRow_other (w := Sort.ahead w n) b hb
    have hw1s : w1.heap.size = w.heap.size := putRow_size (w := Sort.ahead w n)
    have hfn : flat (ys.take off ++ (l'.take m).map encI) = (flat ys).take off ++ (l'.take m).map encI := by
      rw [flat_append]
      have h1 := flat_take hc1 off
      rw [h1, flat_encI, Nat.mul_one]
    have hblk : BlkOk E w1 loc (.arr 1 (ys.take off ++ (l'.take m).map encI)) := by
      refine ⟨hes, ?_, ?_, ?_, _, el, hw1b, ?_, ?_⟩
      · simp; omega
      · intro x hx
        rcases List.mem_append.mp hx with hx | hx
        · exact hc1 x (List.mem_of_mem_take hx)
        · obtain ⟨z, _, rfl⟩ := List.mem_map.mp hx; rfl
      · intro y hy
        rw [hfn] at hy
        rcases List.mem_append.mp hy with hy | hy
        · exact hat y (List.mem_of_mem_take hy)
        · obtain ⟨z, _, rfl⟩ := List.mem_map.mp hy; rfl
      · simp only [putCells, Array.size_mapIdx]; exact hsize
      · intro k hkk
        have hkl : k < off + m := by rw [hfn] at hkk; simp at hkk; omega
        have hk2 : k < (flat ys).length := by omega
        obtain ⟨u, a1, a2⟩ := hcells k hk2
        simp only [hfn]
        by_cases hko : k < off
        · refine ⟨u, ?_, ?_⟩
          · rw [putCells_at, a1]
            simp only [Option.map_some]
            rw [if_neg (by rw [hes]; omega)]
          · rw [List.getElem_append_left (by simp; omega), List.getElem_take]; exact a2
        · have hkm : k - off < l'.length := by omega
          refine ⟨.int .i64 (l'[k - off]), ?_, ?_⟩
          · rw [putCells_at, a1]
            simp only [Option.map_some]
            rw [if_pos (by rw [hes]; simp; omega)]
            have e1 : loc.o + k - (loc.o + off * loc.es) = k - off := by rw [hes]; omega
            simp [e1, hkm]
          · have hmin : min off (flat ys).length = off := by omega
            rw [List.getElem_append_right (by simp; omega)]
            simp only [List.length_take, hmin, List.getElem_map, List.getElem_take]
            exact .v _ rfl
    have hS1 : Sim E (S.set id (some (.arr 1 (ys.take off ++ (l'.take m).map encI)))) w1 := hS.write hg hρ hw1o hblk
    have hgr : ∀ b, b < w1.heap.size → (grow w1 os).heap[b]? = w1.heap[b]? := by
      intro b hb
      simp only [grow]
      rw [Array.getElem?_append_left hb]
    have hS2 := hS1.widen hgr
    have ev1 : Evo E S w E (S.set id (some (.arr 1 (ys.take off ++ (l'.take m).map encI)))) w1 := Evo.write hg hρ rfl rfl rfl hw1s hw1o
    have ev2 : Evo E (S.set id (some (.arr 1 (ys.take off ++ (l'.take m).map encI)))) w1 E (S.set id (some (.arr 1 (ys.take off ++ (l'.take m).map encI)))) (grow w1 os) :=
      ⟨rfl, rfl, rfl, by simp [grow], fun b hb _ => hgr b hb, fun i l k hk hl => .inr ⟨i, l, k, hk, hl, rfl⟩, Env.le_refl _, fun _ _ e => .inl e⟩
    refine ⟨_, r, _, E, rfl, hk, hS2, ?_, ⟨ev1.trans ev2, Nat.le_refl _, fun _ _ e => e⟩⟩
    rcases hres with ⟨rfl, h1⟩ | ⟨rfl, h0, h1⟩
    · rw [h1]; exact .tup _ _ rfl (by simp)
    · rw [h1]; exact .own id off m _ cap loc hρ (by omega) (fun _ => ⟨rfl, hA2⟩)
/-- The library's contracts of slices.Sort and slices.Compact, at []int. -/
def HSort (P : Program) (f : FuncId) : Prop := ∀ (S : St) (id off : Nat) (ys : List AV) (l : List Int) (K : AV → St → Prop), S.g id = some (.arr 1 ys) → ys.drop off = l.map encI → l ≠ [] → l.length ≤ 1000000 →
  K (.tup []) (S.set id (some (.arr 1 (ys.take off ++ (l.mergeSort fun x y => decide (x ≤ y)).map encI)))) → CallR P f [.own id off l.length] S K
def HComp (P : Program) (f : FuncId) : Prop := ∀ (S : St) (id off : Nat) (ys : List AV) (l : List Int) (K : AV → St → Prop), S.g id = some (.arr 1 ys) → ys.drop off = l.map encI → l ≠ [] → l.length ≤ 1000000 →
  K (.own id off (Lib.compact l).length) (S.set id (some (.arr 1 (ys.take off ++ (Lib.compact l).map encI)))) → CallR P f [.own id off l.length] S K
end Go.Rf

