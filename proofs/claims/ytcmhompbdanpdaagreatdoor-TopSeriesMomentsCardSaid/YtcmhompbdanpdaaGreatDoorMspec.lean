/- What the functions of package blocks and of its reference compute, as plain functions. More of what the functions compute; what 'chk zs = 0' says. -/
import Derived.Test.YtcmhompbdanpdaaGreatDoorLib
namespace Go.Proofs.YtcmhompbdanpdaaGreatDoor
open Go.RowKit

def insB (n : Int) : Bool := decide (1 ≤ n) && decide (n ≤ 100000)

def chkF (zs : List Int) (i : Nat) (_ : Unit) : Unit ⊕ Int :=
  if insB (at0 zs i) = false then .inr 2 else if 0 < i ∧ at0 zs i ≤ at0 zs (i-1) then .inr 9 else .inl ()
def chkR : Unit ⊕ Int → Int | .inl _ => 0 | .inr r => r
def chk (zs : List Int) : Int := if 256 < zs.length then 5 else chkR (loopE (chkF zs) zs.length 0 ())

def totF (zs st : List Int) (i : Nat) (s : Int) : Int ⊕ Int :=
  if at0 st i < 0 ∨ (zs.length : Int) ≤ at0 st i then .inr 2 else if 0 < i ∧ at0 st i ≤ at0 st (i-1) then .inr 9
  else .inl (wrap64 (s + at0 zs (at0 st i).toNat))
def totR : Int ⊕ Int → Int × Int | .inl s => (s, 0) | .inr r => (0, r)
/-- 'total': the length and the error. -/
def tot (zs st : List Int) : Int × Int := totR (loopE (totF zs st) st.length 0 0)
def len (zs st : List Int) : Int × Int := if chk zs = 0 then tot zs st else (0, chk zs)

/-- 'stacked'. -/
def stkF (zs st : List Int) (i : Nat) (_ : Unit) : Unit ⊕ Int :=
  if at0 st i < 0 ∨ (zs.length : Int) ≤ at0 st i then .inr 2 else if 0 < i ∧ at0 st i ≤ at0 st (i-1) then .inr 9 else .inl ()
def stk (zs st : List Int) : Int := chkR (loopE (stkF zs st) st.length 0 ())
/-- 'Total' of the reference; the stack is right. -/
def sumF (zs st : List Int) (i : Nat) (s : Int) : Int ⊕ Int := .inl (wrap64 (s + at0 zs (at0 st i).toNat))
def sumR : Int ⊕ Int → Int | .inl s => s | .inr s => s
def sum (zs st : List Int) : Int := sumR (loopE (sumF zs st) st.length 0 0)
def rlen (zs st : List Int) : Int × Int := if chk zs = 0 then if stk zs st = 0 then (sum zs st, 0) else (0, stk zs st) else (0, chk zs)

def gvn (zs : List Int) (l : Int) : Int := if chk zs = 0 then if insB l then 0 else 2 else chk zs

def joinF (a b : Int) : Int := min (min a (wrap32 (b + 1))) 258
def joinC (a b : Int) : Int := min (wrap32 (a + b)) 1048577

/-- What can be made of some blocks. -/
def tab (J : Int → Int → Int) (nn dd : Int) : List Int → Nat → Int
  | [], n => if n = 0 then dd else nn
  | x :: xs, n => J (tab J nn dd xs n) (if x ≤ n then tab J nn dd xs (n - x.toNat) else nn)
def TabFrom (J : Int → Int → Int) (nn dd : Int) (zs : List Int) (W : Nat) (cells : List Int) (i : Nat) : Prop :=
  ∀ r, i ≤ r → r ≤ zs.length → ∀ n, n < W → at0 cells (r * W + n) = tab J nn dd (zs.drop r) n

theorem at0_set (l : List Int) (i j : Nat) (v : Int) (hi : i < l.length) : at0 (l.set i v) j = if i = j then v else at0 l j := by
  unfold at0; rw [List.getD_eq_getElem?_getD, List.getElem?_set, List.getD_eq_getElem?_getD]
  split <;> simp_all
theorem tab_drop {J : Int → Int → Int} {nn dd : Int} {zs : List Int} {i n : Nat} (h : i < zs.length) :
    tab J nn dd (zs.drop i) n = J (tab J nn dd (zs.drop (i+1)) n) (if at0 zs i ≤ n then tab J nn dd (zs.drop (i+1)) (n - (at0 zs i).toNat) else nn) := by
  have : zs.drop i = at0 zs i :: zs.drop (i+1) := by rw [List.drop_eq_getElem_cons h]; simp [at0, List.getD, h]
  rw [this, tab]

theorem at0_reps {N j : Nat} {v : Int} (h : j < N) : at0 (reps N v) j = v := by simp [at0, reps, List.getD, h]
theorem TabFrom_start {J : Int → Int → Int} {nn dd : Int} {zs : List Int} {W N : Nat} (hW : 1 ≤ W) (hN : zs.length * W + W = N) :
    TabFrom J nn dd zs W ((reps N nn).set (zs.length * W) dd) zs.length := by
  intro r h1 h2 n hn
  obtain rfl : r = zs.length := by omega
  rw [List.drop_length, tab, at0_set _ _ _ _ (by rw [reps_length]; omega), at0_reps (by omega)]
  by_cases h : n = 0
  · simp [h]
  · rw [if_neg (by omega), if_neg h]
/-- The row below i is whole up to n. -/
def TabRow (J : Int → Int → Int) (nn dd : Int) (zs : List Int) (W : Nat) (cells : List Int) (i n : Nat) : Prop :=
  TabFrom J nn dd zs W cells (i + 1) ∧ ∀ m, m < n → at0 cells (i * W + m) = tab J nn dd (zs.drop i) m
theorem TabRow_start {J : Int → Int → Int} {nn dd : Int} {zs : List Int} {W : Nat} {cells : List Int} {i : Nat} (h : TabFrom J nn dd zs W cells (i + 1)) : TabRow J nn dd zs W cells i 0 :=
  ⟨h, fun m hm => absurd hm (by omega)⟩
theorem TabRow_end {J : Int → Int → Int} {nn dd : Int} {zs : List Int} {W : Nat} {cells : List Int} {i : Nat} (h : TabRow J nn dd zs W cells i W) : TabFrom J nn dd zs W cells i := by
  intro r h1 h2 n hn
  by_cases e : r = i
  · subst e; exact h.2 n hn
  · exact h.1 r (by omega) h2 n hn
theorem TabRow_step {J : Int → Int → Int} {nn dd : Int} {zs : List Int} {W N : Nat} {cells : List Int} {i n x : Nat} (h : TabRow J nn dd zs W cells i n) (hi : i < zs.length) (hn : n < W)
    (hN : (zs.length + 1) * W = N) (hc : cells.length = N) (hx : at0 zs i = x) :
    TabRow J nn dd zs W (cells.set (i * W + n) (J (at0 cells ((i + 1) * W + n)) (if x ≤ n then at0 cells ((i + 1) * W + (n - x)) else nn))) i (n + 1) := by
  have h1 : (i + 1) * W = i * W + W := Nat.succ_mul _ _
  have h2 : (i + 1) * W ≤ zs.length * W := Nat.mul_le_mul_right _ hi
  have h3 : (zs.length + 1) * W = zs.length * W + W := Nat.succ_mul _ _
  constructor
  · intro r hr1 hr2 m hm
    have h4 : (i + 1) * W ≤ r * W := Nat.mul_le_mul_right _ hr1
    rw [at0_set _ _ _ _ (by omega), if_neg (by omega)]
    exact h.1 r hr1 hr2 m hm
  · intro m hm
    rw [at0_set _ _ _ _ (by omega)]
    by_cases e : m = n
    · subst e
      rw [if_pos rfl, tab_drop hi, h.1 (i + 1) (Nat.le_refl _) hi m hn, hx]
      by_cases g : x ≤ m
      · rw [if_pos g, if_pos (by omega), h.1 (i + 1) (Nat.le_refl _) hi (m - x) (by omega)]; simp
      · rw [if_neg g, if_neg (by omega)]
    · rw [if_neg (by omega)]
      exact h.2 m (by omega)

abbrev tabF := tab joinF 258 0
abbrev tabC := tab joinC 0 1
/-- The stack that 'best' reads off its table. -/
def bestL : List Int → Nat → Nat → List Int
  | [], _, _ => []
  | x :: xs, i, r => if x ≤ r ∧ wrap32 (tab joinF 258 0 xs (r - x.toNat) + 1) = tab joinF 258 0 (x :: xs) r then (i : Int) :: bestL xs (i + 1) (r - x.toNat) else bestL xs (i + 1) r
def reachB (zs : List Int) (l : Nat) : Bool := decide ((l : Int) ≤ zs.sum) && decide (tab joinF 258 0 zs l < 258)
theorem bestL_length (zs : List Int) : ∀ i r, (bestL zs i r).length ≤ zs.length := by
  induction zs with
  | nil => intro i r; simp [bestL]
  | cons x xs ih =>
    intro i r
    unfold bestL
    split
    · have := ih (i+1) (r - x.toNat); simp; omega
    · have := ih (i+1) r; simp; omega

/-- 'Same', 'slices.Equal'. -/
def eqF (xs ys : List Int) (i : Nat) (_ : Unit) : Unit ⊕ Bool := if at0 xs i = at0 ys i then .inl () else .inr false
def eqR : Unit ⊕ Bool → Bool | .inl _ => true | .inr b => b
def eqL (xs ys : List Int) : Bool := if xs.length = ys.length then eqR (loopE (eqF xs ys) xs.length 0 ()) else false

end Go.Proofs.YtcmhompbdanpdaaGreatDoor
namespace Go.Proofs.YtcmhompbdanpdaaGreatDoor
open Go.RowKit

theorem loopE_unit {ρ : Type} {f : Nat → Unit → Unit ⊕ ρ} : ∀ m i, loopE f m i () = .inl () ↔ ∀ j, i ≤ j → j < i + m → f j () = .inl ()
  | 0, i => by simp [loopE]; intro j h1 h2; omega
  | m+1, i => by
    unfold loopE
    cases h : f i () with
    | inl s =>
      cases s
      simp only
      rw [loopE_unit m (i+1)]
      constructor
      · intro H j h1 h2
        by_cases e : j = i
        · subst e; exact h
        · exact H j (by omega) (by omega)
      · intro H j h1 h2; exact H j (by omega) (by omega)
    | inr r =>
      simp only
      constructor
      · intro H; cases H
      · intro H; have := H i (Nat.le_refl _) (by omega); rw [h] at this; cases this
theorem loopE_unit_inr {ρ : Type} {f : Nat → Unit → Unit ⊕ ρ} {r : ρ} : ∀ m i, loopE f m i () = .inr r → ∃ j, i ≤ j ∧ j < i + m ∧ f j () = .inr r
  | 0, i => by simp [loopE]
  | m+1, i => by
    unfold loopE
    cases h : f i () with
    | inl s =>
      cases s
      simp only
      intro H
      obtain ⟨j, h1, h2, h3⟩ := loopE_unit_inr m (i+1) H
      exact ⟨j, by omega, by omega, h3⟩
    | inr r' =>
      simp only
      intro H
      cases H
      exact ⟨i, Nat.le_refl _, by omega, h⟩

theorem insB_iff (n : Int) : insB n = true ↔ 1 ≤ n ∧ n ≤ 100000 := by simp [insB]

/-- A right set. -/
def RightSet (zs : List Int) : Prop := zs.length ≤ 256 ∧ ∀ j, j < zs.length → (1 ≤ at0 zs j ∧ at0 zs j ≤ 100000) ∧ (0 < j → at0 zs (j-1) < at0 zs j)

theorem chkF_inl (zs : List Int) (j : Nat) : chkF zs j () = .inl () ↔ (1 ≤ at0 zs j ∧ at0 zs j ≤ 100000) ∧ (0 < j → at0 zs (j-1) < at0 zs j) := by
  unfold chkF
  by_cases h1 : insB (at0 zs j) = false
  · rw [if_pos h1]
    have : ¬ insB (at0 zs j) = true := by rw [h1]; simp
    rw [insB_iff] at this
    simp; omega
  · rw [if_neg h1]
    have h1' : insB (at0 zs j) = true := by simpa using h1
    rw [insB_iff] at h1'
    split
    · simp; omega
    · simp; omega
theorem chkF_inr {zs : List Int} {j : Nat} {r : Int} (h : chkF zs j () = .inr r) : r = 2 ∨ r = 9 := by
  unfold chkF at h
  split at h
  · cases h; exact .inl rfl
  · split at h
    · cases h; exact .inr rfl
    · cases h

theorem chk_zero (zs : List Int) : chk zs = 0 ↔ RightSet zs := by
  unfold chk RightSet
  by_cases h : 256 < zs.length
  · rw [if_pos h]
    constructor
    · intro h; cases h
    · intro h'; omega
  · rw [if_neg h]
    cases hl : loopE (chkF zs) zs.length 0 () with
    | inl s =>
      cases s
      simp only [chkR, true_iff]
      refine ⟨by omega, fun j hj => ?_⟩
      exact (chkF_inl zs j).1 ((loopE_unit _ _).1 hl j (by omega) (by omega))
    | inr r =>
      simp only [chkR]
      constructor
      · intro h0
        obtain ⟨j, _, _, hj⟩ := loopE_unit_inr _ _ hl
        rcases chkF_inr hj with e | e <;> omega
      · intro H
        have : loopE (chkF zs) zs.length 0 () = .inl () := (loopE_unit _ _).2 fun j _ hj => (chkF_inl zs j).2 (H.2 j (by omega))
        rw [hl] at this; cases this

theorem RightSet.bd {zs : List Int} (h : RightSet zs) : ∀ j, j < zs.length → 1 ≤ at0 zs j ∧ at0 zs j ≤ 100000 := fun j hj => (h.2 j hj).1

/-- 'Fewest': the stack and the error. -/
def fewL (zs : List Int) (l : Int) : List Int := if gvn zs l = 0 ∧ reachB zs l.toNat = true then bestL zs 0 l.toNat else []
def fewE (zs : List Int) (l : Int) : Int := if gvn zs l = 0 then if reachB zs l.toNat = true then 0 else 6 else gvn zs l
theorem gvn_zero {zs : List Int} {l : Int} (h : gvn zs l = 0) : RightSet zs ∧ 1 ≤ l ∧ l ≤ 100000 := by
  unfold gvn at h
  split at h
  · rename_i h0
    split at h
    · rename_i h1; exact ⟨(chk_zero zs).1 h0, (insB_iff l).1 h1⟩
    · cases h
  · contradiction
/-- 'Verify'. -/
def verE (zs : List Int) (l : Int) (st : List Int) : Int :=
  if gvn zs l = 0 then if (tot zs st).2 = 0 then if reachB zs l.toNat = true ∧ eqL (bestL zs 0 l.toNat) st = true then 0 else 15 else (tot zs st).2 else gvn zs l
/-- 'Count'. -/
def cntV (zs : List Int) (l : Nat) : Int := if (l : Int) ≤ zs.sum then tab joinC 0 1 zs l else 0
def cntN (zs : List Int) (l : Int) : Int := if gvn zs l = 0 then if cntV zs l.toNat ≤ 1048576 then cntV zs l.toNat else 0 else 0
def cntE (zs : List Int) (l : Int) : Int := if gvn zs l = 0 then if cntV zs l.toNat ≤ 1048576 then 0 else 12 else gvn zs l

theorem tabC_bd (zs : List Int) (n : Nat) : -2147483648 ≤ tab joinC 0 1 zs n ∧ tab joinC 0 1 zs n ≤ 1048577 := by
  cases zs with
  | nil => unfold tab; split <;> omega
  | cons x xs => unfold tab joinC wrap32; omega

/-- 'Reach'. -/
def reaF (zs : List Int) (most : Int) (n : Nat) (out : List Int) : List Int ⊕ Unit :=
  if n < 1 ∨ most < tab joinF 258 0 zs n then .inl out else if out.length = 16384 then .inr () else .inl (out ++ [(n : Int)])
def reaW (zs : List Int) : Nat := (min zs.sum 100000).toNat + 1
def reaX (zs : List Int) (most : Int) : List Int ⊕ Unit := loopE (reaF zs most) (reaW zs) 0 []
def reaR1 : List Int ⊕ Unit → List Int | .inl l => l | .inr _ => []
def reaR2 : List Int ⊕ Unit → Int | .inl _ => 0 | .inr _ => 12
def reaL (zs : List Int) (most : Int) : List Int := if chk zs = 0 then if 1 ≤ most ∧ most ≤ 8 then reaR1 (reaX zs most) else [] else []
def reaE (zs : List Int) (most : Int) : Int := if chk zs = 0 then if 1 ≤ most ∧ most ≤ 8 then reaR2 (reaX zs most) else 2 else chk zs

end Go.Proofs.YtcmhompbdanpdaaGreatDoor
