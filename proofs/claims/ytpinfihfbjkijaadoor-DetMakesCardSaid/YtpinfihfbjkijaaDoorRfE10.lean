import Derived.Test.YtpinfihfbjkijaaDoorRfE8
import Derived.Test.YtpinfihfbjkijaaDoorRfN4
import Derived.Test.YtpinfihfbjkijaaDoorRfWk
/- Own work: the making of sets, told so that it runs. -/
set_option linter.unusedVariables false
namespace Go.Rf

def stepP (n : Net) (at_ : List Int) (sign : Int) : List Int := putAll [] (behindL n at_ sign)
def bhP (kd : Kd) (n : Net) (set : List Int) (s : Int) : List Int :=
  match kd with
  | .whole => stepP n set s
  | .tails => 0 :: stepP n set s
  | .heads => if endsB n set = true then set else stepP n set s
def nxP (kd : Kd) (n : Net) (most : Int) (i : Nat) (st : Sts) : Option Sts :=
  match st.1[i]? with
  | none => none
  | some set => match rowF most (bhP kd n set) n.signs.toNat st.1 with
    | none => none
    | some (s2, r) => some (s2, st.2.1 ++ [r], st.2.2 ++ [endsB n set])
def goP (kd : Kd) (n : Net) (most : Int) : Nat → Nat → Sts → Option Sts
  | 0, _, _ => none
  | f + 1, i, st => if i = st.1.length then some st else match nxP kd n most i st with
    | none => none
    | some st' => goP kd n most f (i + 1) st'
def resP (kd : Kd) (n : Net) (most : Int) : Det × Int :=
  if rightN n = true ∧ 1 ≤ most ∧ most ≤ 3000 then (match goP kd n most (most.toNat + 1) 0 ([[0]], [], []) with
    | some st => (⟨n.signs, st.2.1, st.2.2⟩, 0)
    | none => (⟨0, [], []⟩, 13))
  else (⟨0, [], []⟩, 1)
theorem stepP_eq (n : Net) (a : List Int) (s : Int) : stepP n a s = stepN n a s := putAll_set _
theorem bhP_eq (kd : Kd) (n : Net) (a : List Int) : bhP kd n a = bhS kd n a := by
  funext s; cases kd <;> simp [bhP, bhS, stepP_eq]
theorem nxP_eq (kd : Kd) (n : Net) (most : Int) (i : Nat) (st : Sts) : nxP kd n most i st = nxF kd n most i st := by
  unfold nxP nxF; simp only [bhP_eq]; rfl
theorem goP_eq (kd : Kd) (n : Net) (most : Int) : ∀ (f i : Nat) (st : Sts), goP kd n most f i st = goF kd n most f i st
  | 0, _, _ => rfl
  | f + 1, i, st => by
    unfold goP goF
    rw [nxP_eq]
    split
    · rfl
    · cases nxF kd n most i st with
      | none => rfl
      | some st' => exact goP_eq kd n most f (i + 1) st'
theorem resP_eq (kd : Kd) (n : Net) (most : Int) : resP kd n most = resD kd n most := by
  unfold resP resD dmakeF
  rw [goP_eq]
  rfl
end Go.Rf


/- Own work: nets read back out of values, whatever the kind of their lists. -/
set_option linter.unusedVariables false
namespace Go.Rf

def dI : AV → Option Int
  | .v (.int .i64 n) => some n
  | _ => none
def dIL : List AV → Option (List Int)
  | [] => some []
  | x :: xs => match dI x, dIL xs with
    | some n, some l => some (n :: l)
    | _, _ => none
def dIs : AV → Option (List Int)
  | .sl _ xs => dIL xs
  | _ => none
def dIsL : List AV → Option (List (List Int))
  | [] => some []
  | x :: xs => match dIs x, dIsL xs with
    | some n, some l => some (n :: l)
    | _, _ => none
def dIss : AV → Option (List (List Int))
  | .sl _ xs => dIsL xs
  | _ => none
def dNet : AV → Option Net
  | .agg [a, b, c, d] => match dI a, dIss b, dIss c, dIs d with
    | some a, some b, some c, some d => some ⟨a, b, c, d⟩
    | _, _, _, _ => none
  | _ => none
theorem dI_eq {x : AV} {n : Int} (h : dI x = some n) : x = encI n := by
  unfold dI at h
  split at h
  · cases h; rfl
  · cases h
theorem dIL_eq : ∀ {xs : List AV} {l : List Int}, dIL xs = some l → xs = l.map encI
  | [], l, h => by cases h; rfl
  | x :: xs, l, h => by
    unfold dIL at h
    split at h
    · rename_i n l' h1 h2
      cases h
      rw [dI_eq h1, dIL_eq h2]; rfl
    · cases h
theorem dIs_wk {x : AV} {l : List Int} (h : dIs x = some l) : Wk x (encIs l) := by
  unfold dIs at h
  split at h
  · rw [dIL_eq h]; exact Wk.sl' (WkL.refl _)
  · cases h
theorem dIsL_wk : ∀ {xs : List AV} {l : List (List Int)}, dIsL xs = some l → WkL xs (l.map encIs)
  | [], l, h => by cases h; exact WkL.nil
  | x :: xs, l, h => by
    unfold dIsL at h
    split at h
    · rename_i n l' h1 h2
      cases h
      exact WkL.cons (dIs_wk h1) (dIsL_wk h2)
    · cases h
theorem dIss_wk {x : AV} {l : List (List Int)} (h : dIss x = some l) : Wk x (encIss l) := by
  unfold dIss at h
  split at h
  · exact Wk.sl' (dIsL_wk h)
  · cases h
theorem dNet_wk {x : AV} {n : Net} (h : dNet x = some n) : Wk x (encNet n) := by
  unfold dNet at h
  split at h
  · split at h
    · rename_i h1 h2 h3 h4
      cases h
      refine Wk.agg' (WkL.cons ?_ (WkL.cons (dIss_wk h2) (WkL.cons (dIss_wk h3) (WkL.cons (dIs_wk h4) WkL.nil))))
      rw [dI_eq h1]; exact .refl _
    · cases h
  · cases h
/-- The results of the makers, at nets of up to twenty states. -/
def okN (n : Net) : Bool := n.rows.all (fun l => Nat.ble l.length 1000) && Nat.ble n.by_.length 20 && Nat.ble n.follow.length 20
def xMk (kd : Kd) : List AV → Option AV
  | [a, b] => match dNet a, dI b with
    | some n, some m => if okN n = true then some (encDE (resP kd n m)) else none
    | _, _ => none
  | _ => none
theorem xMk_ok {P : Program} {f : FuncId} {kd : Kd} (H : ∀ n m, okN n = true → PureC P f [encNet n, encI m] (encDE (resD kd n m))) {args : List AV} {r : AV} (h : xMk kd args = some r) : PureC P f args r := by
  unfold xMk at h
  split at h
  · split at h
    · rename_i n m h1 h2
      split at h
      · rename_i hk
        cases h
        rw [resP_eq]
        exact (H n m hk).wk (WkL.cons (dNet_wk h1) (WkL.cons (by rw [dI_eq h2]; exact .refl _) WkL.nil))
      · cases h
    · cases h
  · cases h
end Go.Rf

