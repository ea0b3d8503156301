/- What the functions of package blocks and of its reference compute, as plain functions. -/
import Derived.Test.YtfamennpajjajaaLib
namespace Go.Proofs.Ytfamennpajjajaa
open Go.RowKit

def insB (n : Int) : Bool := decide (1 ≤ n) && decide (n ≤ 100000)

def chkF (zs : List Int) (i : Nat) (_ : Unit) : Unit ⊕ Int :=
  if insB (at0 zs i) = false then .inr 2 else if 0 < i ∧ at0 zs i ≤ at0 zs (i-1) then .inr 9 else .inl ()
def chkR : Unit ⊕ Int → Int | .inl _ => 0 | .inr r => r
def chk (zs : List Int) : Int := if 256 < zs.length then 5 else chkR (loopE (chkF zs) zs.length 0 ())

def totF (zs st : List Int) (i : Nat) (s : Int) : Int ⊕ Int :=
  if at0 st i < 0 ∨ (zs.length : Int) ≤ at0 st i then .inr 2 else if 0 < i ∧ at0 st i ≤ at0 st (i-1) then .inr 9
  else .inl (wrap64 (s + at0 zs (at0 st i).toNat))
def totR : Int ⊕ Int → Int × Int | .inl s => (s, 0) | .inr r => (0, r)
/-- 'total': the length and the error. -/
def tot (zs st : List Int) : Int × Int := totR (loopE (totF zs st) st.length 0 0)
def len (zs st : List Int) : Int × Int := if chk zs = 0 then tot zs st else (0, chk zs)

/-- 'stacked'. -/
def stkF (zs st : List Int) (i : Nat) (_ : Unit) : Unit ⊕ Int :=
  if at0 st i < 0 ∨ (zs.length : Int) ≤ at0 st i then .inr 2 else if 0 < i ∧ at0 st i ≤ at0 st (i-1) then .inr 9 else .inl ()
def stk (zs st : List Int) : Int := chkR (loopE (stkF zs st) st.length 0 ())
/-- 'Total' of the reference; the stack is right. -/
def sumF (zs st : List Int) (i : Nat) (s : Int) : Int ⊕ Int := .inl (wrap64 (s + at0 zs (at0 st i).toNat))
def sumR : Int ⊕ Int → Int | .inl s => s | .inr s => s
def sum (zs st : List Int) : Int := sumR (loopE (sumF zs st) st.length 0 0)
def rlen (zs st : List Int) : Int × Int := if chk zs = 0 then if stk zs st = 0 then (sum zs st, 0) else (0, stk zs st) else (0, chk zs)

def gvn (zs : List Int) (l : Int) : Int := if chk zs = 0 then if insB l then 0 else 2 else chk zs

def joinF (a b : Int) : Int := min (min a (wrap32 (b + 1))) 258
def joinC (a b : Int) : Int := min (wrap32 (a + b)) 1048577

/-- What can be made of some blocks. -/
def tab (J : Int → Int → Int) (nn dd : Int) : List Int → Nat → Int
  | [], n => if n = 0 then dd else nn
  | x :: xs, n => J (tab J nn dd xs n) (if x ≤ n then tab J nn dd xs (n - x.toNat) else nn)
def TabFrom (J : Int → Int → Int) (nn dd : Int) (zs : List Int) (W : Nat) (cells : List Int) (i : Nat) : Prop :=
  ∀ r, i ≤ r → r ≤ zs.length → ∀ n, n < W → at0 cells (r * W + n) = tab J nn dd (zs.drop r) n

theorem at0_set (l : List Int) (i j : Nat) (v : Int) (hi : i < l.length) : at0 (l.set i v) j = if i = j then v else at0 l j := by
  unfold at0; rw [List.getD_eq_getElem?_getD, List.getElem?_set, List.getD_eq_getElem?_getD]
  split <;> simp_all
theorem tab_drop {J : Int → Int → Int} {nn dd : Int} {zs : List Int} {i n : Nat} (h : i < zs.length) :
    tab J nn dd (zs.drop i) n = J (tab J nn dd (zs.drop (i+1)) n) (if at0 zs i ≤ n then tab J nn dd (zs.drop (i+1)) (n - (at0 zs i).toNat) else nn) := by
  have : zs.drop i = at0 zs i :: zs.drop (i+1) := by rw [List.drop_eq_getElem_cons h]; simp [at0, List.getD, h]
  rw [this, tab]

theorem at0_reps {N j : Nat} {v : Int} (h : j < N) : at0 (reps N v) j = v := by simp [at0, reps, List.getD, h]
theorem TabFrom_start {J : Int → Int → Int} {nn dd : Int} {zs : List Int} {W N : Nat} (hW : 1 ≤ W) (hN : zs.length * W + W = N) :
    TabFrom J nn dd zs W ((reps N nn).set (zs.length * W) dd) zs.length := by
  intro r h1 h2 n hn
  obtain rfl : r = zs.length := by omega
  rw [List.drop_length, tab, at0_set _ _ _ _ (by rw [reps_length]; omega), at0_reps (by omega)]
  by_cases h : n = 0
  · simp [h]
  · rw [if_neg (by omega), if_neg h]
/-- The row below i is whole up to n. -/
def TabRow (J : Int → Int → Int) (nn dd : Int) (zs : List Int) (W : Nat) (cells : List Int) (i n : Nat) : Prop :=
  TabFrom J nn dd zs W cells (i + 1) ∧ ∀ m, m < n → at0 cells (i * W + m) = tab J nn dd (zs.drop i) m
theorem TabRow_start {J : Int → Int → Int} {nn dd : Int} {zs : List Int} {W : Nat} {cells : List Int} {i : Nat} (h : TabFrom J nn dd zs W cells (i + 1)) : TabRow J nn dd zs W cells i 0 :=
  ⟨h, fun m hm => absurd hm (by omega)⟩
theorem TabRow_end {J : Int → Int → Int} {nn dd : Int} {zs : List Int} {W : Nat} {cells : List Int} {i : Nat} (h : TabRow J nn dd zs W cells i W) : TabFrom J nn dd zs W cells i := by
  intro r h1 h2 n hn
  by_cases e : r = i
  · subst e; exact h.2 n hn
  · exact h.1 r (by omega) h2 n hn
theorem TabRow_step {J : Int → Int → Int} {nn dd : Int} {zs : List Int} {W N : Nat} {cells : List Int} {i n x : Nat} (h : TabRow J nn dd zs W cells i n) (hi : i < zs.length) (hn : n < W)
    (hN : (zs.length + 1) * W = N) (hc : cells.length = N) (hx : at0 zs i = x) :
    TabRow J nn dd zs W (cells.set (i * W + n) (J (at0 cells ((i + 1) * W + n)) (if x ≤ n then at0 cells ((i + 1) * W + (n - x)) else nn))) i (n + 1) := by
  have h1 : (i + 1) * W = i * W + W := Nat.succ_mul _ _
  have h2 : (i + 1) * W ≤ zs.length * W := Nat.mul_le_mul_right _ hi
  have h3 : (zs.length + 1) * W = zs.length * W + W := Nat.succ_mul _ _
  constructor
  · intro r hr1 hr2 m hm
    have h4 : (i + 1) * W ≤ r * W := Nat.mul_le_mul_right _ hr1
    rw [at0_set _ _ _ _ (by omega), if_neg (by omega)]
    exact h.1 r hr1 hr2 m hm
  · intro m hm
    rw [at0_set _ _ _ _ (by omega)]
    by_cases e : m = n
    · subst e
      rw [if_pos rfl, tab_drop hi, h.1 (i + 1) (Nat.le_refl _) hi m hn, hx]
      by_cases g : x ≤ m
      · rw [if_pos g, if_pos (by omega), h.1 (i + 1) (Nat.le_refl _) hi (m - x) (by omega)]; simp
      · rw [if_neg g, if_neg (by omega)]
    · rw [if_neg (by omega)]
      exact h.2 m (by omega)

abbrev tabF := tab joinF 258 0
abbrev tabC := tab joinC 0 1
/-- The stack that 'best' reads off its table. -/
def bestL : List Int → Nat → Nat → List Int
  | [], _, _ => []
  | x :: xs, i, r => if x ≤ r ∧ wrap32 (tab joinF 258 0 xs (r - x.toNat) + 1) = tab joinF 258 0 (x :: xs) r then (i : Int) :: bestL xs (i + 1) (r - x.toNat) else bestL xs (i + 1) r
def reachB (zs : List Int) (l : Nat) : Bool := decide ((l : Int) ≤ zs.sum) && decide (tab joinF 258 0 zs l < 258)
theorem bestL_length (zs : List Int) : ∀ i r, (bestL zs i r).length ≤ zs.length := by
  induction zs with
  | nil => intro i r; simp [bestL]
  | cons x xs ih =>
    intro i r
    unfold bestL
    split
    · have := ih (i+1) (r - x.toNat); simp; omega
    · have := ih (i+1) r; simp; omega

/-- 'Same', 'slices.Equal'. -/
def eqF (xs ys : List Int) (i : Nat) (_ : Unit) : Unit ⊕ Bool := if at0 xs i = at0 ys i then .inl () else .inr false
def eqR : Unit ⊕ Bool → Bool | .inl _ => true | .inr b => b
def eqL (xs ys : List Int) : Bool := if xs.length = ys.length then eqR (loopE (eqF xs ys) xs.length 0 ()) else false

end Go.Proofs.Ytfamennpajjajaa
