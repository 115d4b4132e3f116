import Derived.Test.YtidkjfaeolfcaaaGreatRfCell
/- Own work: a code is run, step by step, at the level of abstract values: for calls whose arguments are fixed. -/
set_option linter.unusedVariables false
set_option linter.unusedSimpArgs false
namespace Go.Rf
open Go.RowKit

/-! ### a table of numbers that the kernel writes quickly -/
inductive T (α : Type) where
  | nil
  | node (l : T α) (v : Option α) (r : T α)
def T.get {α : Type} : T α → Nat → Option α
  | .nil, _ => none
  | .node l v r, k => match k with
    | 0 => v
    | k + 1 => bif Nat.beq (k % 2) 0 then l.get (k / 2) else r.get (k / 2)
def T.putK {α β : Type} : Nat → T α → Nat → Option α → (T α → Option β) → Option β
  | 0, _, _, _, _ => none
  | d + 1, t, k, x, c => match t with
    | .nil => match k with
      | 0 => c (.node .nil x .nil)
      | k + 1 => bif Nat.beq (k % 2) 0 then T.putK d .nil (k / 2) x (fun l' => c (.node l' none .nil)) else T.putK d .nil (k / 2) x (fun r' => c (.node .nil none r'))
    | .node l v r => match k with
      | 0 => c (.node l x r)
      | k + 1 => bif Nat.beq (k % 2) 0 then T.putK d l (k / 2) x (fun l' => c (.node l' v r)) else T.putK d r (k / 2) x (fun r' => c (.node l v r'))
theorem T.get_nil {α : Type} (j : Nat) : (T.nil : T α).get j = none := by simp [T.get]
theorem T.get_l {α : Type} {l : T α} {v : Option α} {r : T α} {j : Nat} : (T.node l v r).get (j + 1) = if j % 2 = 0 then l.get (j / 2) else r.get (j / 2) := by
  simp only [T.get]
  cases h : Nat.beq (j % 2) 0 with
  | true => rw [if_pos (Nat.eq_of_beq_eq_true h)]; rfl
  | false => rw [if_neg (Nat.ne_of_beq_eq_false h)]; rfl
theorem T.put_ok {α β : Type} : ∀ (d : Nat) (t : T α) (k : Nat) (x : Option α) (c : T α → Option β) (r : β), T.putK d t k x c = some r → ∃ t', (∀ j, t'.get j = if j = k then x else t.get j) ∧ c t' = some r
  | 0, t, k, x, c, r, h => by simp [T.putK] at h
  | d + 1, t, k, x, c, r, h => by
    cases t with
    | nil =>
      cases k with
      | zero =>
        simp only [T.putK] at h
        refine ⟨_, fun j => ?_, h⟩
        cases j with
        | zero => simp [T.get]
        | succ j => rw [T.get_l]; simp [T.get_nil]
      | succ k =>
        simp only [T.putK] at h
        cases hb : Nat.beq (k % 2) 0 with
        | true =>
          rw [hb] at h
          have hk := Nat.eq_of_beq_eq_true hb
          obtain ⟨t', h1, h2⟩ := T.put_ok d _ _ _ _ _ h
          refine ⟨_, fun j => ?_, h2⟩
          cases j with
          | zero => simp [T.get]
          | succ j =>
            rw [T.get_l, h1]
            simp only [T.get_nil]
            split <;> split <;> first | rfl | omega | (split <;> first | rfl | omega)
        | false =>
          rw [hb] at h
          have hk := Nat.ne_of_beq_eq_false hb
          obtain ⟨t', h1, h2⟩ := T.put_ok d _ _ _ _ _ h
          refine ⟨_, fun j => ?_, h2⟩
          cases j with
          | zero => simp [T.get]
          | succ j =>
            rw [T.get_l, h1]
            simp only [T.get_nil]
            split <;> split <;> first | rfl | omega | (split <;> first | rfl | omega)
    | node l v rr =>
      cases k with
      | zero =>
        simp only [T.putK] at h
        refine ⟨_, fun j => ?_, h⟩
        cases j with
        | zero => simp [T.get]
        | succ j => rw [T.get_l, T.get_l]; simp
      | succ k =>
        simp only [T.putK] at h
        cases hb : Nat.beq (k % 2) 0 with
        | true =>
          rw [hb] at h
          have hk := Nat.eq_of_beq_eq_true hb
          obtain ⟨t', h1, h2⟩ := T.put_ok d _ _ _ _ _ h
          refine ⟨_, fun j => ?_, h2⟩
          cases j with
          | zero => simp [T.get]
          | succ j =>
            rw [T.get_l, T.get_l, h1]
            split <;> split <;> first | rfl | omega | (split <;> first | rfl | omega)
        | false =>
          rw [hb] at h
          have hk := Nat.ne_of_beq_eq_false hb
          obtain ⟨t', h1, h2⟩ := T.put_ok d _ _ _ _ _ h
          refine ⟨_, fun j => ?_, h2⟩
          cases j with
          | zero => simp [T.get]
          | succ j =>
            rw [T.get_l, T.get_l, h1]
            split <;> split <;> first | rfl | omega | (split <;> first | rfl | omega)
def natK {β : Type} (n : Nat) (c : Nat → Option β) : Option β := match n with | 0 => c 0 | m + 1 => c (m + 1)
theorem natK_eq {β : Type} (n : Nat) (c : Nat → Option β) : natK n c = c n := by cases n <;> rfl
def intK {β : Type} (n : Int) (c : Int → Option β) : Option β := match n with | .ofNat m => natK m fun m' => c (.ofNat m') | .negSucc m => natK m fun m' => c (.negSucc m')
theorem intK_eq {β : Type} (n : Int) (c : Int → Option β) : intK n c = c n := by cases n <;> simp [intK, natK_eq]
def boolK {β : Type} (b : Bool) (c : Bool → Option β) : Option β := match b with | true => c true | false => c false
theorem boolK_eq {β : Type} (n : Bool) (c : Bool → Option β) : boolK n c = c n := by cases n <;> rfl
def headK {β : Type} (x : AV) (c : AV → Option β) : Option β :=
  match x with
  | .v y => match y with
    | .int k z => intK z fun z' => c (.v (.int k z'))
    | .bool b => boolK b fun b' => c (.v (.bool b'))
    | y => c (.v y)
  | .own id off len => natK id fun id' => natK off fun off' => natK len fun len' => c (.own id' off' len')
  | .ptr id ix d => natK id fun id' => natK ix fun ix' => natK d fun d' => c (.ptr id' ix' d')
  | .mp id => natK id fun id' => c (.mp id')
  | x => c x
theorem headK_eq {β : Type} (x : AV) (c : AV → Option β) : headK x c = c x := by
  unfold headK
  split
  · split <;> simp [intK_eq, boolK_eq]
  · simp [natK_eq]
  · simp [natK_eq]
  · simp [natK_eq]
  · rfl
abbrev TE := T AV
abbrev TB := T Blk
def T.af (a : TE) : AF := fun s => match a.get s with | some x => x | none => .junk
def T.stn (n : Nat) (t : TB) : St := ⟨n, t.get⟩
def dK {β : Type} (d : Option Nat) (a : TE) (x : AV) (c : TE → Option β) : Option β :=
  match d with
  | none => c a
  | some d => headK x fun x' => T.putK 64 a d (some x') c
theorem dK_ok {β : Type} {d : Option Nat} {a : TE} {x : AV} {c : TE → Option β} {r : β} (h : dK d a x c = some r) : ∃ a' : TE, a'.af = a.af.put d x ∧ c a' = some r := by
  cases d with
  | none => exact ⟨a, rfl, h⟩
  | some d =>
    simp only [dK, headK_eq] at h
    obtain ⟨t', h1, h2⟩ := T.put_ok _ _ _ _ _ _ h
    refine ⟨t', funext fun j => ?_, h2⟩
    simp only [T.af, h1, AF.put, updF]
    by_cases hj : j = d
    · rw [if_pos hj, if_pos hj]
    · rw [if_neg hj, if_neg hj]
/-! ### effects -/
def getL (t : TB) : List Nat → Option (List Blk)
  | [] => some []
  | i :: is => match t.get i with
    | none => none
    | some b => match getL t is with
      | none => none
      | some bs => some (b :: bs)
theorem getL_eq (t : TB) : ∀ (F : List Nat), getL t F = F.mapM t.get
  | [] => by simp [getL]
  | i :: is => by
    simp only [getL, List.mapM_cons, getL_eq t is]
    cases t.get i with
    | none => rfl
    | some b => cases is.mapM t.get <;> rfl
def setLK {β : Type} (t : TB) : List Nat → List (Option Blk) → (TB → Option β) → Option β
  | i :: is, k :: ks, c => T.putK 64 t i k fun t' => setLK t' is ks c
  | _, _, c => c t
theorem setLK_ok {β : Type} {n : Nat} : ∀ {F : List Nat} {ks : List (Option Blk)} {t : TB} {c : TB → Option β} {r : β}, setLK t F ks c = some r → ∃ t' : TB, t'.stn n = (t.stn n).setL F ks ∧ c t' = some r
  | [], ks, t, c, r, h => by cases ks <;> exact ⟨t, rfl, h⟩
  | i :: is, [], t, c, r, h => ⟨t, rfl, h⟩
  | i :: is, k :: ks, t, c, r, h => by
    simp only [setLK] at h
    obtain ⟨t', h1, h2⟩ := T.put_ok _ _ _ _ _ _ h
    obtain ⟨t2, h3, h4⟩ := setLK_ok h2
    refine ⟨t2, ?_, h4⟩
    rw [h3]
    simp only [St.setL]
    congr 1
    exact St.ext' rfl (fun j => by simp only [T.stn, h1, Z4e])
def setOK {β : Type} (t : TB) (i : Nat) (b : Option Blk) (c : TB → Option β) : Option β :=
  match b with
  | none => c t
  | some b => T.putK 64 t i (some b) c
theorem setOK_ok {β : Type} {n i : Nat} {b : Option Blk} {t : TB} {c : TB → Option β} {r : β} (h : setOK t i b c = some r) : ∃ t' : TB, t'.stn n = (t.stn n).setO i b ∧ c t' = some r := by
  cases b with
  | none => exact ⟨t, rfl, h⟩
  | some b =>
    obtain ⟨t', h1, h2⟩ := T.put_ok _ _ _ _ _ _ h
    exact ⟨t', St.ext' rfl (fun j => by simp only [T.stn, h1, St.setO, Z4e]), h2⟩
def wOf (F : List Nat) (o : Out) (nid : Nat) : List Nat := (match o.up with | [] => [] | _ => F) ++ (match o.nw with | some _ => [nid] | none => [])
def effK {β : Type} (e : Eff) (t : TB) (nid : Nat) (c : AV → TB → List Nat → List Nat → Option β) : Option β :=
  match e with
  | ⟨F, k⟩ => match getL t F with
    | none => none
    | some bs => match k bs with
      | none => none
      | some o => setLK t F o.up fun t1 => setOK t1 nid o.nw fun t2 => c (o.v nid) t2 F (wOf F o nid)
theorem effK_ok {β : Type} {n : Nat} {e : Eff} {t : TB} {nid : Nat} {c : AV → TB → List Nat → List Nat → Option β} {r : β} (h : effK e t nid c = some r) :
    ∃ v t' F W, e.run (t.stn n) nid = some (v, t'.stn n) ∧ e.runT (t.stn n) nid = some (v, t'.stn n, F, W) ∧ c v t' F W = some r := by
  obtain ⟨F, k⟩ := e
  simp only [effK, getL_eq] at h
  split at h
  · cases h
  · rename_i bs hbs
    split at h
    · cases h
    · rename_i o ho
      obtain ⟨t1, h1, h2⟩ := setLK_ok (n := n) h
      obtain ⟨t2, h3, h4⟩ := setOK_ok (n := n) h2
      refine ⟨_, t2, _, _, ?_, ?_, h4⟩
      · simp only [Eff.run, T.stn, hbs, ho]
        simp only [Option.some.injEq, Prod.mk.injEq, true_and]
        rw [h1] at h3; exact h3.symm
      · simp only [Eff.runT, T.stn, hbs, ho]
        simp only [Option.some.injEq, Prod.mk.injEq, true_and]
        rw [h1] at h3; exact ⟨h3.symm, rfl⟩
/-! ### freezing -/
def mapO (f : AV → Option (AV × List Nat)) : List AV → Option (List AV × List Nat)
  | [] => some ([], [])
  | x :: xs => match f x with
    | none => none
    | some (y, F) => match mapO f xs with
      | none => none
      | some (ys, G) => some (y :: ys, F ++ G)
def clB : Nat → AV → Bool
  | 0, _ => false
  | n + 1, x => match x with
    | .v _ => true
    | .sl _ xs | .agg xs | .tup xs => xs.all (clB n)
    | .eptr x _ => clB n x
    | .clo _ a b => a.all (clB n) && b.all (clB n)
    | _ => false
theorem clB_ok : ∀ (n : Nat) (x : AV), clB n x = true → Closed x
  | 0, x, h => by simp [clB] at h
  | n + 1, x, h => by
    cases x <;> simp only [clB, List.all_eq_true, Bool.and_eq_true, Bool.false_eq_true] at h
    · exact .v _
    · exact .sl _ _ fun y hy => clB_ok n y (h y hy)
    · exact .eptr _ _ (clB_ok n _ h)
    · exact .agg _ fun y hy => clB_ok n y (h y hy)
    · exact .tup _ fun y hy => clB_ok n y (h y hy)
    · exact .clo _ _ _ (fun y hy => clB_ok n y (h.1 y hy)) (fun y hy => clB_ok n y (h.2 y hy))
def plB : Nat → AV → Bool
  | 0, _ => false
  | n + 1, x => match x with
    | .v _ => true
    | .agg xs | .tup xs => xs.all (plB n)
    | _ => false
theorem plB_ok : ∀ (n : Nat) (x : AV), plB n x = true → Plain x
  | 0, x, h => by simp [plB] at h
  | n + 1, x, h => by
    cases x <;> simp only [plB, List.all_eq_true, Bool.and_eq_true, Bool.false_eq_true] at h
    · exact .v _
    · exact .agg _ fun y hy => plB_ok n y (h y hy)
    · exact .tup _ fun y hy => plB_ok n y (h y hy)
def fzA : Nat → (Nat → Option Blk) → AV → Option (AV × List Nat)
  | 0, _, _ => none
  | n + 1, g, x => match x with
    | .v y => some (.v y, [])
    | .own id off len => match g id with
      | some (.arr es xs) => if off + len ≤ xs.length then (mapO (fzA n g) ((xs.drop off).take len)).map fun p => (.sl false p.1, id :: p.2) else none
      | _ => none
    | .ptr id ix c => match g id with
      | some (.arr es xs) => match xs[ix]? with
        | some y => (fzA n g y).map fun p => (.eptr p.1 c, id :: p.2)
        | none => none
      | _ => none
    | .agg cs => (mapO (fzA n g) cs).map fun p => (.agg p.1, p.2)
    | .tup cs => (mapO (fzA n g) cs).map fun p => (.tup p.1, p.2)
    | .clo f a b => (mapO (fzA n g) a).bind fun p => (mapO (fzA n g) b).map fun q => (.clo f p.1 q.1, p.2 ++ q.2)
    | .sl t xs => if clB n (.sl t xs) = true then some (.sl t xs, []) else none
    | .eptr x c => if clB n (.eptr x c) = true then some (.eptr x c, []) else none
    | _ => none
theorem mapO_ok {f : AV → Option (AV × List Nat)} {R : List Nat → AV → AV → Prop} (hm : ∀ F G x y, (∀ i ∈ F, i ∈ G) → R F x y → R G x y) (hf : ∀ x y F, f x = some (y, F) → R F x y) :
    ∀ {xs ys : List AV} {F : List Nat}, mapO f xs = some (ys, F) → ys.length = xs.length ∧ ∀ i (h1 : i < xs.length) (h2 : i < ys.length), R F (xs[i]) (ys[i])
  | [], ys, F, h => by simp [mapO] at h; obtain ⟨rfl, rfl⟩ := h; simp
  | x :: xs, ys, F, h => by
    simp only [mapO] at h
    split at h
    · cases h
    · rename_i y F1 hy
      split at h
      · cases h
      · rename_i zs G hz
        simp only [Option.some.injEq, Prod.mk.injEq] at h
        obtain ⟨rfl, rfl⟩ := h
        obtain ⟨h1, h2⟩ := mapO_ok hm hf hz
        refine ⟨by simp [h1], fun i k1 k2 => ?_⟩
        cases i with
        | zero => exact hm _ _ _ _ (fun i hi => List.mem_append_left _ hi) (hf _ _ _ hy)
        | succ i => exact hm _ _ _ _ (fun i hi => List.mem_append_right _ hi) (h2 i (by simpa using k1) (by simpa using k2))
theorem Fz.mono' {g g' : Nat → Option Blk} {x y : AV} (h : Fz g x y) (hg : ∀ i k, g i = some k → g' i = some k) : Fz g' x y := by
  induction h with
  | closed x h => exact .closed x h
  | loose t xs h => exact .loose t xs h
  | own id off len es xs zs hi hl hz h ih => exact .own id off len es xs zs (hg _ _ hi) hl hz ih
  | agg cs ds hl h ih => exact .agg cs ds hl ih
  | tup cs ds hl h ih => exact .tup cs ds hl ih
  | ptr id ix c es xs z hi hl h ih => exact .ptr id ix c es xs z (hg _ _ hi) hl ih
  | pre id es cs ds hi hc => exact .pre id es cs ds (hg _ _ hi) hc
  | clo f as bs as' bs' hl hm h k ih ik => exact .clo f as bs as' bs' hl hm ih ik
theorem only_mono {F G : List Nat} {g : Nat → Option Blk} (h : ∀ i ∈ F, i ∈ G) : ∀ i k, only F g i = some k → only G g i = some k := by
  intro i k e
  simp only [only] at e ⊢
  split at e
  · rename_i hi; rw [if_pos (h i hi)]; exact e
  · cases e
theorem fzA_ok {g : Nat → Option Blk} : ∀ (n : Nat) (x y : AV) (F : List Nat), fzA n g x = some (y, F) → Fz (only F g) x y
  | 0, x, y, F, h => by simp [fzA] at h
  | n + 1, x, y, F, h => by
    have hm : ∀ (F G : List Nat) (x y : AV), (∀ i ∈ F, i ∈ G) → Fz (only F g) x y → Fz (only G g) x y := fun F G x y hs h => h.mono' (only_mono hs)
    have ih := fun {xs ys : List AV} {F : List Nat} (h : mapO (fzA n g) xs = some (ys, F)) => mapO_ok (R := fun F x y => Fz (only F g) x y) hm (fun x y F h => fzA_ok n x y F h) h
    cases x <;> simp only [fzA] at h
    · cases h
    · simp only [Option.some.injEq, Prod.mk.injEq] at h; obtain ⟨rfl, rfl⟩ := h; exact .closed _ (.v _)
    · split at h
      · rename_i hc
        simp only [Option.some.injEq, Prod.mk.injEq] at h; obtain ⟨rfl, rfl⟩ := h
        exact .closed _ (clB_ok _ _ hc)
      · cases h
    · rename_i id off len
      split at h
      · rename_i es xs hg
        split at h
        · rename_i hl
          simp only [Option.map_eq_some_iff, Prod.mk.injEq] at h
          obtain ⟨⟨ys, G⟩, h1, rfl, rfl⟩ := h
          obtain ⟨h2, h3⟩ := ih h1
          refine .own id off len es xs ys (by simp [only, hg]) hl (by rw [h2]; simp; omega) (fun i k1 k2 => hm _ _ _ _ (fun i hi => List.mem_cons_of_mem _ hi) (h3 i k1 k2))
        · cases h
      · cases h
    · rename_i id ix c
      split at h
      · rename_i es xs hg
        split at h
        · rename_i z hz
          simp only [Option.map_eq_some_iff, Prod.mk.injEq] at h
          obtain ⟨⟨y, G⟩, h1, rfl, rfl⟩ := h
          obtain ⟨hix, rfl⟩ := List.getElem?_eq_some_iff.mp hz
          exact .ptr id ix c es xs y (by simp [only, hg]) hix (hm _ _ _ _ (fun i hi => List.mem_cons_of_mem _ hi) (fzA_ok n _ _ _ h1))
        · cases h
      · cases h
    · split at h
      · rename_i hc
        simp only [Option.some.injEq, Prod.mk.injEq] at h; obtain ⟨rfl, rfl⟩ := h
        exact .closed _ (clB_ok _ _ hc)
      · cases h
    · simp only [Option.map_eq_some_iff, Prod.mk.injEq] at h
      obtain ⟨⟨ys, G⟩, h1, rfl, rfl⟩ := h
      obtain ⟨h2, h3⟩ := ih h1
      exact .agg _ _ h2 h3
    · simp only [Option.map_eq_some_iff, Prod.mk.injEq] at h
      obtain ⟨⟨ys, G⟩, h1, rfl, rfl⟩ := h
      obtain ⟨h2, h3⟩ := ih h1
      exact .tup _ _ h2 h3
    · simp only [Option.bind_eq_some_iff, Option.map_eq_some_iff, Prod.mk.injEq] at h
      obtain ⟨⟨ys, G⟩, h1, ⟨zs, H⟩, k1, rfl, rfl⟩ := h
      obtain ⟨h2, h3⟩ := ih h1
      obtain ⟨k2, k3⟩ := ih k1
      exact .clo _ _ _ _ _ h2 k2 (fun i a b => hm _ _ _ _ (fun i hi => List.mem_append_left _ hi) (h3 i a b)) (fun i a b => hm _ _ _ _ (fun i hi => List.mem_append_right _ hi) (k3 i a b))
    · cases h
def newB : Nat → (Nat → Option Blk) → AV → Bool
  | 0, _, _ => false
  | n + 1, g, x => match x with
    | .v _ => true
    | .sl _ [] => true
    | .own id off len => match g id with
      | some (.arr _ xs) => ((xs.drop off).take len).all (newB n g)
      | _ => false
    | .agg cs | .tup cs => cs.all (newB n g)
    | _ => false
theorem mapO_all {f : AV → Option (AV × List Nat)} {R : AV → AV → Prop} {p : AV → Bool} (hf : ∀ x y F, p x = true → f x = some (y, F) → R x y) :
    ∀ {xs ys : List AV} {F : List Nat}, xs.all p = true → mapO f xs = some (ys, F) → ys.length = xs.length ∧ ∀ i (h1 : i < xs.length) (h2 : i < ys.length), R (xs[i]) (ys[i])
  | [], ys, F, _, h => by simp [mapO] at h; obtain ⟨rfl, rfl⟩ := h; simp
  | x :: xs, ys, F, hp, h => by
    simp only [List.all_cons, Bool.and_eq_true] at hp
    simp only [mapO] at h
    split at h
    · cases h
    · rename_i y F1 hy
      split at h
      · cases h
      · rename_i zs G hz
        simp only [Option.some.injEq, Prod.mk.injEq] at h
        obtain ⟨rfl, rfl⟩ := h
        obtain ⟨h1, h2⟩ := mapO_all hf hp.2 hz
        refine ⟨by simp [h1], fun i k1 k2 => ?_⟩
        cases i with
        | zero => exact hf _ _ _ hp.1 hy
        | succ i => exact h2 i (by simpa using k1) (by simpa using k2)
theorem newB_ok {g : Nat → Option Blk} : ∀ (n : Nat) (x y : AV) (F : List Nat), newB n g x = true → fzA n g x = some (y, F) → FzN g x y
  | 0, x, y, F, h, _ => by simp [newB] at h
  | n + 1, x, y, F, hn, h => by
    have ih := fun {xs ys : List AV} {F : List Nat} (h1 : xs.all (newB n g) = true) (h : mapO (fzA n g) xs = some (ys, F)) => mapO_all (R := fun x y => FzN g x y) (fun x y F h1 h => newB_ok n x y F h1 h) h1 h
    unfold newB at hn
    split at hn
    · simp only [fzA, Option.some.injEq, Prod.mk.injEq] at h; obtain ⟨rfl, rfl⟩ := h; exact .v _
    · rename_i t
      simp only [fzA] at h
      split at h
      · simp only [Option.some.injEq, Prod.mk.injEq] at h; obtain ⟨rfl, rfl⟩ := h; exact .nil _ _ id
      · cases h
    · rename_i id off len
      split at hn
      · rename_i es xs hg
        simp only [fzA, hg] at h
        split at h
        · rename_i hl
          simp only [Option.map_eq_some_iff, Prod.mk.injEq] at h
          obtain ⟨⟨ys, G⟩, h1, rfl, rfl⟩ := h
          obtain ⟨h2, h3⟩ := ih hn h1
          exact .own id off len es xs ys hg hl (by rw [h2]; simp; omega) h3
        · cases h
      · cases hn
    · simp only [fzA, Option.map_eq_some_iff, Prod.mk.injEq] at h
      obtain ⟨⟨ys, G⟩, h1, rfl, rfl⟩ := h
      obtain ⟨h2, h3⟩ := ih hn h1
      exact .agg _ _ h2 h3
    · simp only [fzA, Option.map_eq_some_iff, Prod.mk.injEq] at h
      obtain ⟨⟨ys, G⟩, h1, rfl, rfl⟩ := h
      obtain ⟨h2, h3⟩ := ih hn h1
      exact .tup _ _ h2 h3
    · cases hn
/-! ### regions -/
def CK := List AV → Nat → TB → (AV → Nat → TB → Option AV) → Option AV
def gdT (o : AOper) (a : TE) : Option Bool :=
  match o.guard with
  | none => some true
  | some (d, want) => match a.get d with
    | some (.v (.bool b)) => some (b == want)
    | some (.tup []) => some false
    | _ => none
theorem gdT_ok {o : AOper} {a : TE} {b : Bool} (h : gdT o a = some b) : gd o a.af = some b := by
  unfold gdT at h; unfold gd
  split at h
  · rename_i hg; rw [hg]; exact h
  · rename_i d w hg
    rw [hg]; simp only
    split at h
    · rename_i c hc
      simp only [T.af, hc]; exact h
    · rename_i hc
      simp only [T.af, hc]; exact h
    · cases h
def rgK (call : FuncId → CK) (base : Nat) : List AOper → Nat → TE → Nat → TB → (TE → Nat → TB → Option AV) → Option AV
  | [], _, a, n, t, k => k a n t
  | o :: os, i, a, n, t, k => match gdT o a with
    | none => none
    | some false => dK o.dst a (.tup []) fun a' => rgK call base os (i + 1) a' n t k
    | some true => match o.call with
      | some (G, xs) => match G.ev a.af with
        | .clo f first cap => call f (first ++ xs.map (·.ev a.af) ++ cap) n t fun r n' t' => dK o.dst a r fun a' => rgK call base os (i + 1) a' n' t' k
        | _ => none
      | none => effK (ex o.op a.af) t (base + i) fun v t' _ _ => dK o.dst a v fun a' => rgK call base os (i + 1) a' n t' k
def CallOk (P : Program) (call : FuncId → CK) : Prop := ∀ f args n t c r, call f args n t c = some r → ∀ K : AV → St → Prop, (∀ x n t, c x n t = some r → K x (t.stn n)) → CallR P f args (t.stn n) K
theorem rgK_ok {P : Program} {call : FuncId → CK} (hc : CallOk P call) {base : Nat} {K : AF → St → Prop} {r : AV} : ∀ (os : List AOper) (i : Nat) (a : TE) (n : Nat) (t : TB) (k : TE → Nat → TB → Option AV),
    rgK call base os i a n t k = some r → (∀ a n t, k a n t = some r → K a.af (t.stn n)) → RG P base os i K a.af (t.stn n)
  | [], i, a, n, t, k, h, hk => hk _ _ _ h
  | o :: os, i, a, n, t, k, h, hk => by
    simp only [rgK] at h
    simp only [RG]
    split at h
    · cases h
    · rename_i hg
      rw [gdT_ok hg]
      obtain ⟨a', h1, h2⟩ := dK_ok h
      simp only; rw [← h1]
      exact rgK_ok hc os _ _ _ _ _ h2 hk
    · rename_i hg
      rw [gdT_ok hg]
      simp only
      cases hcl : o.call with
      | some p =>
        obtain ⟨G, xs⟩ := p
        rw [hcl] at h
        simp only at h ⊢
        split at h
        · rename_i f first cap hG
          rw [hG]
          refine hc _ _ _ _ _ _ h _ fun x n t hx => ?_
          obtain ⟨a', h1, h2⟩ := dK_ok hx
          rw [← h1]
          exact rgK_ok hc os _ _ _ _ _ h2 hk
        · cases h
      | none =>
        rw [hcl] at h
        simp only at h ⊢
        obtain ⟨v, t', F, W, h1, _, h3⟩ := effK_ok (n := n) h
        rw [h1]
        obtain ⟨a', h4, h5⟩ := dK_ok h3
        simp only; rw [← h4]
        exact rgK_ok hc os _ _ _ _ _ h5 hk
def disj (xs ys : List Nat) : Bool := xs.all fun j => !ys.elem j
theorem disj_ok {xs ys : List Nat} (h : disj xs ys = true) : ∀ j ∈ xs, j ∉ ys := by
  intro j hj
  have := (List.all_eq_true.mp h) j hj
  simpa using this
def aptB : List Bool → List (List Nat × List Nat) → List Nat → List Nat → Bool
  | true :: bs, p :: T, F, W => disj p.2 F && (disj W p.1 && (disj p.2 W && aptB bs T F W))
  | false :: bs, _ :: T, F, W => aptB bs T F W
  | _, _, _, _ => true
theorem aptB_ok : ∀ {bs : List Bool} {T : List (List Nat × List Nat)} {F W : List Nat}, aptB bs T F W = true → Apt bs T F W
  | [], _, _, _, _ => by simp only [Apt]
  | true :: _, [], _, _, _ => by simp only [Apt]
  | false :: _, [], _, _, _ => by simp only [Apt]
  | true :: bs, p :: T, F, W, h => by
    simp only [aptB, Bool.and_eq_true] at h
    simp only [Apt]
    exact ⟨⟨disj_ok h.1, disj_ok h.2.1, disj_ok h.2.2.1⟩, aptB_ok h.2.2.2⟩
  | false :: bs, p :: T, F, W, h => by
    simp only [aptB] at h
    simp only [Apt]; exact aptB_ok h
def iteK {β : Type} (b : Bool) (c : Option β) : Option β := match b with | true => c | false => none
theorem iteK_ok {β : Type} {b : Bool} {c : Option β} {r : β} (h : iteK b c = some r) : b = true ∧ c = some r := by cases b <;> simp [iteK] at h ⊢; exact h
def rdK (fn : FuncId → List AV → Option (AV × Bool)) (base : Nat) : List AOper → List (List Bool) → Nat → List (List Nat × List Nat) → TE → Nat → TB → (TE → Nat → TB → Option AV) → Option AV
  | [], _, _, _, a, n, t, k => k a n t
  | o :: os, fr, i, L, a, n, t, k => match gdT o a with
    | none => none
    | some false => dK o.dst a (.tup []) fun a' => rdK fn base os fr.tail (i + 1) (psh fr L [] []) a' n t k
    | some true => match o.call with
      | some (G, xs) => match G.ev a.af with
        | .clo f first cap => match mapO (fzA 40 t.get) (first ++ xs.map (·.ev a.af) ++ cap) with
          | none => none
          | some (args', F) => match fn f args' with
            | none => none
            | some (r, nw) => iteK ((plB 40 r || (clB 40 r && (F.isEmpty || nw))) && aptB (fr.headD []) L F []) (dK o.dst a r fun a' => rdK fn base os fr.tail (i + 1) (psh fr L F []) a' n t k)
        | _ => none
      | none => effK (ex o.op a.af) t (base + i) fun v t' F W => iteK (aptB (fr.headD []) L F W) (dK o.dst a v fun a' => rdK fn base os fr.tail (i + 1) (psh fr L F W) a' n t' k)
theorem rdK_ok {P : Program} {fn : FuncId → List AV → Option (AV × Bool)} (hc : ∀ f args r b, fn f args = some (r, b) → PureC P f args r ∧ (b = true → PureN P f args r)) {base : Nat} {K : AF → St → Prop} {r : AV} :
    ∀ (os : List AOper) (fr : List (List Bool)) (i : Nat) (L : List (List Nat × List Nat)) (a : TE) (n : Nat) (t : TB) (k : TE → Nat → TB → Option AV),
    rdK fn base os fr i L a n t k = some r → (∀ a n t, k a n t = some r → K a.af (t.stn n)) → RD P base os fr i L K a.af (t.stn n)
  | [], fr, i, L, a, n, t, k, h, hk => hk _ _ _ h
  | o :: os, fr, i, L, a, n, t, k, h, hk => by
    simp only [rdK] at h
    simp only [RD]
    split at h
    · cases h
    · rename_i hg
      rw [gdT_ok hg]
      obtain ⟨a', h1, h2⟩ := dK_ok h
      simp only; rw [← h1]
      exact rdK_ok hc os _ _ _ _ _ _ _ h2 hk
    · rename_i hg
      rw [gdT_ok hg]
      simp only
      cases hcl : o.call with
      | some p =>
        obtain ⟨G, xs⟩ := p
        rw [hcl] at h
        simp only at h ⊢
        split at h
        · rename_i f first cap hG
          rw [hG]
          split at h
          · cases h
          · rename_i args' F hmo
            split at h
            · cases h
            · rename_i x nw hx
              obtain ⟨h1, h2⟩ := iteK_ok h
              obtain ⟨a', h3, h4⟩ := dK_ok h2
              simp only [Bool.and_eq_true, Bool.or_eq_true, List.isEmpty_iff] at h1
              obtain ⟨q1, q2⟩ := mapO_ok (R := fun F x y => Fz (only F t.get) x y) (fun F G x y hs h => h.mono' (only_mono hs)) (fun x y F h => fzA_ok 40 x y F h) hmo
              refine ⟨x, F, ⟨args', (hc _ _ _ _ hx).1, q1, q2, ?_⟩, aptB_ok h1.2, ?_⟩
              · rcases h1.1 with h5 | h5
                · exact .inl (plB_ok _ _ h5)
                · rcases h5.2 with h6 | h6
                  · exact .inr (.inl ⟨h6, clB_ok _ _ h5.1⟩)
                  · exact .inr (.inr ⟨clB_ok _ _ h5.1, (hc _ _ _ _ hx).2 h6⟩)
              · rw [← h3]; exact rdK_ok hc os _ _ _ _ _ _ _ h4 hk
        · cases h
      | none =>
        rw [hcl] at h
        simp only at h ⊢
        obtain ⟨v, t', F, W, _, h1, h3⟩ := effK_ok (n := n) h
        rw [h1]
        obtain ⟨h6, h7⟩ := iteK_ok h3
        obtain ⟨a', h4, h5⟩ := dK_ok h7
        simp only; rw [← h4]
        exact ⟨aptB_ok h6, rdK_ok hc os _ _ _ _ _ _ _ h5 hk⟩
/-! ### drawn regions with calls that write -/
mutual
def eqbA : Nat → AV → AV → Bool
  | 0, _, _ => false
  | n + 1, x, y => match x, y with
    | .v (.int k a), .v (.int k' a') => decide (k = k') && decide (a = a')
    | .v (.bool a), .v (.bool b) => decide (a = b)
    | .ptr a b c, .ptr a' b' c' => Nat.beq a a' && (Nat.beq b b' && Nat.beq c c')
    | .own a b c, .own a' b' c' => Nat.beq a a' && (Nat.beq b b' && Nat.beq c c')
    | .sl t xs, .sl t' ys => decide (t = t') && eqbL n xs ys
    | .agg xs, .agg ys => eqbL n xs ys
    | _, _ => false
def eqbL : Nat → List AV → List AV → Bool
  | 0, _, _ => false
  | n + 1, [], [] => true
  | n + 1, x :: xs, y :: ys => eqbA n x y && eqbL n xs ys
  | _ + 1, _, _ => false
end
theorem eqb_ok : ∀ n, (∀ x y, eqbA n x y = true → x = y) ∧ ∀ xs ys, eqbL n xs ys = true → xs = ys
  | 0 => ⟨fun x y h => by simp [eqbA] at h, fun xs ys h => by simp [eqbL] at h⟩
  | n + 1 => by
    obtain ⟨h1, h2⟩ := eqb_ok n
    refine ⟨fun x y h => ?_, fun xs ys h => ?_⟩
    · unfold eqbA at h
      split at h
      · simp only [Bool.and_eq_true, decide_eq_true_eq] at h; obtain ⟨rfl, rfl⟩ := h; rfl
      · simp only [decide_eq_true_eq] at h; subst h; rfl
      · simp only [Bool.and_eq_true] at h
        obtain ⟨a, b, c⟩ := h
        rw [Nat.eq_of_beq_eq_true a, Nat.eq_of_beq_eq_true b, Nat.eq_of_beq_eq_true c]
      · simp only [Bool.and_eq_true] at h
        obtain ⟨a, b, c⟩ := h
        rw [Nat.eq_of_beq_eq_true a, Nat.eq_of_beq_eq_true b, Nat.eq_of_beq_eq_true c]
      · simp only [Bool.and_eq_true, decide_eq_true_eq] at h
        obtain ⟨rfl, b⟩ := h
        rw [h2 _ _ b]
      · rw [h2 _ _ h]
      · cases h
    · unfold eqbL at h
      split at h
      · cases ‹_ + 1 = 0›
      · rfl
      · rename_i m x xs y ys hm
        cases hm
        simp only [Bool.and_eq_true] at h
        rw [h1 _ _ h.1, h2 _ _ h.2]
      · cases h
def sameK (x y : Option Blk) : Bool := match x, y with
  | none, none => true
  | some (.arr e xs), some (.arr e' ys) => Nat.beq e e' && eqbL 12 xs ys
  | _, _ => false
theorem sameK_ok {x y : Option Blk} (h : sameK x y = true) : x = y := by
  unfold sameK at h
  split at h
  · rfl
  · simp only [Bool.and_eq_true] at h
    rw [Nat.eq_of_beq_eq_true h.1, (eqb_ok 12).2 _ _ h.2]
  · cases h
def keptB (w : List Nat) (g g' : Nat → Option Blk) : List (Nat × List Nat) → Bool
  | [] => true
  | (i, F) :: T => (match w.elem i with | true => F.all fun j => sameK (g' j) (g j) | false => true) && keptB w g g' T
theorem keptB_ok {w : List Nat} {g g' : Nat → Option Blk} : ∀ {T : List (Nat × List Nat)}, keptB w g g' T = true → Kept w g g' T
  | [], _ => trivial
  | (i, F) :: T, h => by
    simp only [keptB, Bool.and_eq_true] at h
    refine kept_iff.mpr fun p hp hw j hj => ?_
    rcases List.mem_cons.mp hp with rfl | hp
    · have hw' : w.elem i = true := by simpa using hw
      rw [hw'] at h
      exact sameK_ok (List.all_eq_true.mp h.1 j hj)
    · exact kept_iff.mp (keptB_ok h.2) p hp hw j hj
def rsK (call : FuncId → CK) (base : Nat) : List SOp → List (Nat × List Nat) → TE → Nat → TB → (TE → Nat → TB → Option AV) → Option AV
  | [], _, a, n, t, k => k a n t
  | (i, o, w) :: os, L, a, n, t, k => match gdT o a with
    | none => none
    | some false => dK o.dst a (.tup []) fun a' => rsK call base os ((i, Fq o a.af) :: L) a' n t k
    | some true => match o.call with
      | some (G, xs) => match G.ev a.af with
        | .clo f first cap => call f (first ++ xs.map (·.ev a.af) ++ cap) n t fun r n' t' => iteK (keptB w t.get t'.get L) (dK o.dst a r fun a' => rsK call base os ((i, Fq o a.af) :: L) a' n' t' k)
        | _ => none
      | none => effK (ex o.op a.af) t (base + i) fun v t' _ _ => dK o.dst a v fun a' => rsK call base os ((i, Fq o a.af) :: L) a' n t' k
theorem rsK_ok {P : Program} {call : FuncId → CK} (hc : CallOk P call) {base : Nat} {K : AF → St → Prop} {r : AV} : ∀ (os : List SOp) (L : List (Nat × List Nat)) (a : TE) (n : Nat) (t : TB) (k : TE → Nat → TB → Option AV),
    rsK call base os L a n t k = some r → (∀ a n t, k a n t = some r → K a.af (t.stn n)) → RSp P base os L K a.af (t.stn n)
  | [], L, a, n, t, k, h, hk => hk _ _ _ h
  | (i, o, w) :: os, L, a, n, t, k, h, hk => by
    simp only [rsK] at h
    simp only [RSp, StpS]
    split at h
    · cases h
    · rename_i hg
      rw [gdT_ok hg]
      obtain ⟨a', h1, h2⟩ := dK_ok h
      simp only; rw [← h1]
      exact rsK_ok hc os _ _ _ _ _ h2 hk
    · rename_i hg
      rw [gdT_ok hg]
      simp only
      cases hcl : o.call with
      | some p =>
        obtain ⟨G, xs⟩ := p
        rw [hcl] at h
        simp only at h ⊢
        split at h
        · rename_i f first cap hG
          rw [hG]
          refine hc _ _ _ _ _ _ h _ fun x n' t' hx => ?_
          obtain ⟨h3, h4⟩ := iteK_ok hx
          obtain ⟨a', h1, h2⟩ := dK_ok h4
          refine ⟨keptB_ok h3, ?_⟩
          rw [← h1]
          exact rsK_ok hc os _ _ _ _ _ h2 hk
        · cases h
      | none =>
        rw [hcl] at h
        simp only at h ⊢
        obtain ⟨v, t', F, W, h1, _, h3⟩ := effK_ok (n := n) h
        rw [h1]
        obtain ⟨a', h4, h5⟩ := dK_ok h3
        simp only; rw [← h4]
        exact rsK_ok hc os _ _ _ _ _ h5 hk
/-! ### codes -/
structure Tab where
  code : FuncId → Option (AC × List RV × Nat)
  ext : FuncId → Option (List AV → Option Value)
  /-- functions whose results are known, where they are given plain data -/
  extN : FuncId → Option (List AV → Option AV)
/-- A function is called as this code says. -/
def ByC (P : Program) (f : FuncId) (ac : AC) (rs : List RV) (n : Nat) : Prop := ∀ {args : List AV} {S : St} {K : AV → St → Prop}, args.length = n → AW P ac (RetC rs K) (argF args) S → CallR P f args S K
structure TabOk (P : Program) (tab : Tab) : Prop where
  code : ∀ f p, tab.code f = some p → ByC P f p.1 p.2.1 p.2.2
  ext : ∀ f g args v, tab.ext f = some g → g args = some v → PureC P f args (.v v)
  extN : ∀ f g args r, tab.extN f = some g → g args = some r → PureC P f args r
def evCT (a : TE) (t : TB) (rs : List RV) (c : AV → Option AV) : Option AV := match evC a.af t.get rs with | none => none | some xs => c (packC xs)
def RK := AC → TE → Nat → TB → (Exit → TE → Nat → TB → Option AV) → Option AV
def argK (args : List AV) (c : TE → Option AV) : Option AV := go args 0 .nil c
where go : List AV → Nat → TE → (TE → Option AV) → Option AV
  | [], _, a, c => c a
  | x :: xs, i, a, c => T.putK 64 a i (some x) fun a' => go xs (i + 1) a' c
theorem argK_go {c : TE → Option AV} {r : AV} : ∀ (xs : List AV) (i : Nat) (a : TE), argK.go xs i a c = some r → ∃ a' : TE, (∀ j, a'.get j = if i ≤ j ∧ j < i + xs.length then xs[j - i]? else a.get j) ∧ c a' = some r
  | [], i, a, h => ⟨a, fun j => by rw [if_neg (by simp only [List.length_nil]; omega)], h⟩
  | x :: xs, i, a, h => by
    simp only [argK.go] at h
    obtain ⟨t', h1, h2⟩ := T.put_ok _ _ _ _ _ _ h
    obtain ⟨a', h3, h4⟩ := argK_go xs _ _ h2
    refine ⟨a', fun j => ?_, h4⟩
    rw [h3, h1]
    simp only [List.length_cons]
    by_cases hj : j = i
    · subst hj; rw [if_neg (by omega), if_pos rfl, if_pos (by omega)]; simp
    · by_cases hlt : i + 1 ≤ j ∧ j < i + 1 + xs.length
      · rw [if_pos hlt, if_pos (by omega)]
        have : j - i = (j - (i + 1)) + 1 := by omega
        rw [this]; simp
      · rw [if_neg hlt, if_neg hj, if_neg (by omega)]
theorem argK_ok {args : List AV} {c : TE → Option AV} {r : AV} (h : argK args c = some r) : ∃ a : TE, a.af = argF args ∧ c a = some r := by
  obtain ⟨a, h1, h2⟩ := argK_go _ _ _ h
  refine ⟨a, funext fun j => ?_, h2⟩
  simp only [T.af, h1, argF, List.getD_eq_getElem?_getD, T.get_nil]
  by_cases hj : j < args.length
  · rw [if_pos (by omega)]; simp [List.getElem?_eq_getElem hj]
  · rw [if_neg (by omega)]; simp [List.getElem?_eq_none (Nat.le_of_not_lt hj)]
def callK (tab : Tab) (run : RK) (f : FuncId) : CK := fun args n t c =>
  match tab.ext f with
  | some g => match mapO (fzA 40 t.get) args with
    | none => none
    | some (args', _) => match g args' with
      | none => none
      | some v => c (.v v) n t
  | none => match tab.extN f with
  | some g => match mapO (fzA 40 t.get) args with
    | none => none
    | some (args', F) => match g args' with
      | none => none
      | some r => iteK (clB 40 r && F.isEmpty) (c r n t)
  | none => match tab.code f with
  | none => none
  | some (ac, ts, m) => iteK (Nat.beq args.length m) (argK args fun a => run ac a n t fun e a n t => match e with
    | .normal => evCT a t ts fun x => c x n t
    | .ret => evCT a t ts fun x => c x n t
    | _ => none)
def packR (g : Nat → Option Blk) (x : AV) : Option AV := match fzA 40 g x with
  | some (z, _) => some (.tup [z, .v (.bool (newB 40 g x))])
  | none => none
def unpackR : Option AV → Option (AV × Bool)
  | some (.tup [r, .v (.bool b)]) => some (r, b)
  | _ => none
def fnR (tab : Tab) (run : RK) (f : FuncId) (args : List AV) : Option AV :=
  match tab.code f with
  | none => none
  | some (ac, ts, m) => iteK (Nat.beq args.length m) (argK args fun a => run ac a 0 .nil fun e a n t => match e with
    | .normal => evCT a t ts fun x => packR t.get x
    | .ret => evCT a t ts fun x => packR t.get x
    | _ => none)
def fnK (tab : Tab) (run : RK) (f : FuncId) (args : List AV) : Option (AV × Bool) :=
  match tab.ext f with
  | some g => match g args with
    | none => none
    | some v => some (.v v, false)
  | none => match tab.extN f with
    | some g => match g args with
      | none => none
      | some r => some (r, false)
    | none => unpackR (fnR tab run f args)
def stepF (tab : Tab) (run : RK) : RK := fun ac a n t k =>
  match ac with
  | .skip => k .normal a n t
  | .reg none os => natK (n + os.length) fun n' => rgK (callK tab run) n os 0 a n' t fun a n t => k .normal a n t
  | .reg (some fr) os => natK (n + os.length) fun n' => rdK (fnK tab run) n os fr 0 [] a n' t fun a n t => k .normal a n t
  | .regS l => natK (n + l.length) fun n' => rsK (callK tab run) n l [] a n' t fun a n t => k .normal a n t
  | .regX os p => match p with
    | none => natK (n + os.length) fun n' => rgK (callK tab run) n os 0 a n' t fun a n t => k .normal a n t
    | some _ => none
  | .seq x y => run x a n t fun e a n t => match e with
    | .normal => run y a n t k
    | e => k e a n t
  | .cond c x y => match c.ev a.af with
    | .v (.bool b) => match b with
      | true => run x a n t k
      | false => run y a n t k
    | _ => none
  | .block id x => run x a n t fun e a n t => match e with
    | .exit j => bif Nat.beq j id then k .normal a n t else k (.exit j) a n t
    | e => k e a n t
  | .loop x => run x a n t fun e a n t => match e with
    | .normal => run (.loop x) a n t k
    | e => k e a n t
  | .exit id => k (.exit id) a n t
  | .ret => k .ret a n t
  | .scp x => run x a n t fun e a n t => match e with
    | .goto _ => none
    | e => k e a n t
  | .bad => none
def runF (tab : Tab) : Nat → RK
  | 0 => fun _ _ _ _ _ => none
  | n + 1 => stepF tab (runF tab n)
def RunOk (P : Program) (run : RK) : Prop := ∀ (ac : AC) (a : TE) (n : Nat) (t : TB) (k : Exit → TE → Nat → TB → Option AV) (r : AV), run ac a n t k = some r →
  ∀ Q : Exit → AF → St → Prop, (∀ e a n t, k e a n t = some r → Q e a.af (t.stn n)) → AW P ac Q a.af (t.stn n)
theorem callK_ok {P : Program} (hm : P.follows .mixedOrders = true) {tab : Tab} (ht : TabOk P tab) {run : RK} (hr : RunOk P run) : CallOk P (callK tab run) := by
  intro f args n t c r h K hK
  unfold callK at h
  split at h
  · rename_i g hg
    split at h
    · cases h
    · rename_i args' F hmo
      split at h
      · cases h
      · rename_i v hv
        obtain ⟨q1, q2⟩ := mapO_ok (R := fun F x y => Fz (only F t.get) x y) (fun F G x y hs h => h.mono' (only_mono hs)) (fun x y F h => fzA_ok 40 x y F h) hmo
        exact CallR.looks (ht.ext _ _ _ _ hg hv) ⟨q1, fun j h1 h2 => (q2 j h1 h2).mono' only_sub⟩ (.v _) (hK _ _ _ h)
  split at h
  · rename_i g hg
    split at h
    · cases h
    · rename_i args' F hmo
      split at h
      · cases h
      · rename_i v hv
        obtain ⟨q1, q2⟩ := mapO_ok (R := fun F x y => Fz (only F t.get) x y) (fun F G x y hs h => h.mono' (only_mono hs)) (fun x y F h => fzA_ok 40 x y F h) hmo
        obtain ⟨h1, h2⟩ := iteK_ok h
        simp only [Bool.and_eq_true, List.isEmpty_iff] at h1
        obtain ⟨h1, rfl⟩ := h1
        exact CallR.pure_gen (ht.extN _ _ _ _ hg hv) (only [] t.get) only_sub (T.stn n t) rfl (fun _ _ e => e) q1 (fun j h1 h2 => q2 j h1 h2) (.inr ⟨clB_ok _ _ h1, fun i k e => by simp [only] at e⟩) (hK _ _ _ h2)
  split at h
  · cases h
  · rename_i ac ts m htab
    obtain ⟨h1, h2⟩ := iteK_ok h
    obtain ⟨a, h3, h4⟩ := argK_ok h2
    refine ht.code _ _ htab (Nat.eq_of_beq_eq_true h1) ?_
    rw [← h3]
    refine hr _ _ _ _ _ _ h4 _ fun e a n t he => ?_
    have key : evCT a t ts (fun x => c x n t) = some r → ∃ xs, evC a.af (t.stn n).g ts = some xs ∧ K (packC xs) (t.stn n) := by
      intro h5
      unfold evCT at h5
      split at h5
      · cases h5
      · rename_i xs hx; exact ⟨xs, hx, hK _ _ _ h5⟩
    cases e <;> simp only [RetC] at he ⊢ <;> first | exact key he | cases he
theorem unpackR_some {o : Option AV} {r : AV} {b : Bool} (h : unpackR o = some (r, b)) : o = some (.tup [r, .v (.bool b)]) := by
  unfold unpackR at h
  split at h
  · simp only [Option.some.injEq, Prod.mk.injEq] at h; obtain ⟨rfl, rfl⟩ := h; rfl
  · cases h
theorem fnR_ok {P : Program} (hm : P.follows .mixedOrders = true) {tab : Tab} (ht : TabOk P tab) {run : RK} (hr : RunOk P run) {f : FuncId} {args : List AV} {r : AV} {b : Bool} (h : fnR tab run f args = some (.tup [r, .v (.bool b)])) :
    CallR P f args S0 fun r' S' => FzK r r' S' ∧ (b = true → FzN S'.g r' r) := by
  unfold fnR at h
  split at h
  · cases h
  · rename_i ac ts m htab
    obtain ⟨h1, h2⟩ := iteK_ok h
    obtain ⟨a, h3, h4⟩ := argK_ok h2
    refine ht.code _ _ htab (Nat.eq_of_beq_eq_true h1) ?_
    rw [← h3]
    have e0 : S0 = T.stn 0 (.nil : TB) := St.ext' rfl (fun j => by simp [S0, T.stn, T.get_nil])
    rw [e0]
    refine hr _ _ _ _ _ _ h4 _ fun e a n t he => ?_
    have key : evCT a t ts (fun x => packR t.get x) = some (.tup [r, .v (.bool b)]) → ∃ xs, evC a.af (t.stn n).g ts = some xs ∧ FzK r (packC xs) (t.stn n) ∧ (b = true → FzN (t.stn n).g (packC xs) r) := by
      intro h5
      unfold evCT at h5
      split at h5
      · cases h5
      · rename_i xs hx
        simp only [packR] at h5
        split at h5
        · rename_i z F h6
          simp only [Option.some.injEq, AV.tup.injEq, List.cons.injEq, AV.v.injEq, Value.bool.injEq, and_true] at h5
          obtain ⟨rfl, rfl⟩ := h5
          exact ⟨xs, hx, (fzA_ok _ _ _ _ h6).mono' only_sub, fun hnw => newB_ok _ _ _ _ hnw h6⟩
        · cases h5
    cases e <;> simp only [RetC] at he ⊢ <;> first | exact key he | cases he
theorem fnK_ok {P : Program} (hm : P.follows .mixedOrders = true) {tab : Tab} (ht : TabOk P tab) {run : RK} (hr : RunOk P run) {f : FuncId} {args : List AV} {r : AV} {b : Bool} (h : fnK tab run f args = some (r, b)) :
    PureC P f args r ∧ (b = true → PureN P f args r) := by
  unfold fnK at h
  split at h
  · rename_i g hg
    split at h
    · cases h
    · rename_i v hv
      cases h
      exact ⟨ht.ext _ _ _ _ hg hv, fun hb => by cases hb⟩
  split at h
  · rename_i g hg
    split at h
    · cases h
    · rename_i v hv
      cases h
      exact ⟨ht.extN _ _ _ _ hg hv, fun hb => by cases hb⟩
  have := fnR_ok hm ht hr (unpackR_some h)
  exact ⟨.of_callR (this.mono fun _ _ h => h.1), fun hb => .of_callR (this.mono fun _ _ h => h.2 hb)⟩
theorem runF_ok {P : Program} (hm : P.follows .mixedOrders = true) {tab : Tab} (ht : TabOk P tab) : ∀ m, RunOk P (runF tab m) := by
  intro m
  induction m using Nat.strongRecOn with
  | _ m ih =>
    cases m with
    | zero => intro ac a n t k r h; cases h
    | succ m =>
      have hr := ih m (by omega)
      intro ac a n t k r h Q hQ
      simp only [runF] at h
      cases ac with
      | skip => simp only [stepF] at h; simp only [AW]; exact hQ _ _ _ _ h
      | reg d os =>
        cases d with
        | none =>
          simp only [stepF, natK_eq] at h
          exact rgK_ok (callK_ok hm ht hr) (K := fun a S => Q .normal a S) _ _ _ _ _ _ h (fun a n t hk => hQ _ _ _ _ hk)
        | some fr =>
          simp only [stepF, natK_eq] at h
          exact rdK_ok (fun f args r b h => fnK_ok hm ht hr h) (K := fun a S => Q .normal a S) _ _ _ _ _ _ _ _ h (fun a n t hk => hQ _ _ _ _ hk)
      | regS l =>
        simp only [stepF, natK_eq] at h
        exact rsK_ok (callK_ok hm ht hr) (K := fun a S => Q .normal a S) _ _ _ _ _ _ h (fun a n t hk => hQ _ _ _ _ hk)
      | regX os p =>
        cases p with
        | some x => simp only [stepF] at h; cases h
        | none =>
          simp only [stepF, natK_eq] at h
          exact RGX_of_RG _ _ (rgK_ok (callK_ok hm ht hr) (K := fun a S => Q .normal a S) _ _ _ _ _ _ h (fun a n t hk => hQ _ _ _ _ hk))
      | seq x y =>
        simp only [stepF] at h
        simp only [AW]
        refine hr _ _ _ _ _ _ h _ fun e a n t he => ?_
        cases e <;> simp only [AThen] at he ⊢ <;> first | exact hr _ _ _ _ _ _ he _ hQ | exact hQ _ _ _ _ he
      | cond c x y =>
        simp only [stepF] at h
        simp only [AW]
        split at h
        · rename_i b hb
          rw [hb]
          simp only
          split at h
          · rw [if_pos rfl]; exact hr _ _ _ _ _ _ h _ hQ
          · rw [if_neg (by simp)]; exact hr _ _ _ _ _ _ h _ hQ
        · cases h
      | block id x =>
        simp only [stepF] at h
        simp only [AW]
        refine hr _ _ _ _ _ _ h _ fun e a n t he => ?_
        cases e <;> simp only [ABlock] at he ⊢
        case exit j =>
          cases hb : Nat.beq j id with
          | true => rw [hb] at he; rw [if_pos (Nat.eq_of_beq_eq_true hb)]; exact hQ _ _ _ _ he
          | false => rw [hb] at he; rw [if_neg (Nat.ne_of_beq_eq_false hb)]; exact hQ _ _ _ _ he
        all_goals exact hQ _ _ _ _ he
      | loop x =>
        refine ⟨fun q a S => q ≤ m + 1 ∧ ∃ (b : TE) (n : Nat) (t : TB), a = b.af ∧ S = t.stn n ∧ runF tab q (.loop x) b n t k = some r, ⟨m + 1, Nat.le_refl _, a, n, t, rfl, rfl, by simp only [runF]; exact h⟩, ?_⟩
        rintro q a' S' ⟨hq, b, n', t', rfl, rfl, hrun⟩
        cases q with
        | zero => cases hrun
        | succ q =>
          simp only [runF, stepF] at hrun
          refine ih q (by omega) _ _ _ _ _ _ hrun _ fun e a n t he => ?_
          cases e <;> simp only [AThen] at he ⊢
          case normal => exact ⟨q, by omega, by omega, a, n, t, rfl, rfl, he⟩
          all_goals exact hQ _ _ _ _ he
      | exit id => simp only [stepF] at h; simp only [AW]; exact hQ _ _ _ _ h
      | ret => simp only [stepF] at h; simp only [AW]; exact hQ _ _ _ _ h
      | scp x =>
        simp only [stepF] at h
        simp only [AW]
        refine hr _ _ _ _ _ _ h _ fun e a n t he => ?_
        cases e <;> simp only [AScope] at he ⊢ <;> first | exact hQ _ _ _ _ he | cases he
      | bad => simp only [stepF] at h; cases h
end Go.Rf
namespace Go.Rf
/-! ### the table, out of the program -/
def tabFn (P : Program) (fn : Func) : Option (AC × List RV × Nat) :=
  match fn.body with
  | none => none
  | some c => bif (fn.name == "runtime.NumGoroutine") || !(Nat.ble (fn.params.size + fn.nfree) fn.ntmps) then none else
    match comp P fn.ntmps c with
    | none => none
    | some ac => match fn.results.toList.mapM (rvOf P) with
      | none => none
      | some ts => some (ac, ts, fn.params.size + fn.nfree)
def tabC (P : Program) (f : FuncId) : Option (AC × List RV × Nat) :=
  match P.funcs[f]? with
  | none => none
  | some fn => tabFn P fn
theorem tabC_ok {P : Program} (f : FuncId) (p : AC × List RV × Nat) (h : tabC P f = some p) : IsC P f p.1 p.2.1 p.2.2 := by
  unfold tabC at h
  split at h
  · cases h
  · rename_i fn hf
    unfold tabFn at h
    split at h
    · cases h
    · rename_i c hb
      cases hc : ((fn.name == "runtime.NumGoroutine") || !(Nat.ble (fn.params.size + fn.nfree) fn.ntmps)) with
      | true => rw [hc] at h; cases h
      | false =>
        rw [hc] at h
        simp only [cond_false] at h
        simp only [Bool.or_eq_false_iff, Bool.not_eq_false'] at hc
        split at h
        · cases h
        · rename_i ac hac
          split at h
          · cases h
          · rename_i ts hts
            cases h
            exact ⟨fn, c, hf, hc.1, hb, hac, hts, Nat.le_of_ble_eq_true hc.2⟩
def tabOf (P : Program) : Tab := ⟨tabC P, fun _ => none, fun _ => none⟩
theorem tabOf_ok {P : Program} (hm : P.follows .mixedOrders = true) : TabOk P (tabOf P) :=
  ⟨fun f p h => fun hn hb => (tabC_ok f p h).callR hm hn hb, (fun f g args v h => by cases h), (fun f g args v h => by cases h)⟩
/-- A function at fixed arguments: what it comes to. -/
theorem PureC.run {P : Program} (hm : P.follows .mixedOrders = true) (fuel : Nat) {f : FuncId} {args : List AV} {r : AV} {b : Bool} (h : fnK (tabOf P) (runF (tabOf P) fuel) f args = some (r, b)) : PureC P f args r :=
  (fnK_ok hm (tabOf_ok hm) (runF_ok hm (tabOf_ok hm) fuel) h).1
def IsS (P : Program) (f : FuncId) (ac : AC) (rs : List RV) (n : Nat) : Prop :=
  ∃ fn c, P.funcs[f]? = some fn ∧ (fn.name == "runtime.NumGoroutine") = false ∧ fn.body = some c ∧ compS P fn.ntmps c = some ac ∧ fn.results.toList.mapM (rvOf P) = some rs ∧ n ≤ fn.ntmps
end Go.Rf

