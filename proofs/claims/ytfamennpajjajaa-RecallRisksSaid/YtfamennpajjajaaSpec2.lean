/- More of what the functions compute; what 'chk zs = 0' says. -/
import Derived.Test.YtfamennpajjajaaSpec
namespace Go.Proofs.Ytfamennpajjajaa
open Go.RowKit

theorem loopE_unit {ρ : Type} {f : Nat → Unit → Unit ⊕ ρ} : ∀ m i, loopE f m i () = .inl () ↔ ∀ j, i ≤ j → j < i + m → f j () = .inl ()
  | 0, i => by simp [loopE]; intro j h1 h2; omega
  | m+1, i => by
    unfold loopE
    cases h : f i () with
    | inl s =>
      cases s
      simp only
      rw [loopE_unit m (i+1)]
      constructor
      · intro H j h1 h2
        by_cases e : j = i
        · subst e; exact h
        · exact H j (by omega) (by omega)
      · intro H j h1 h2; exact H j (by omega) (by omega)
    | inr r =>
      simp only
      constructor
      · intro H; cases H
      · intro H; have := H i (Nat.le_refl _) (by omega); rw [h] at this; cases this
theorem loopE_unit_inr {ρ : Type} {f : Nat → Unit → Unit ⊕ ρ} {r : ρ} : ∀ m i, loopE f m i () = .inr r → ∃ j, i ≤ j ∧ j < i + m ∧ f j () = .inr r
  | 0, i => by simp [loopE]
  | m+1, i => by
    unfold loopE
    cases h : f i () with
    | inl s =>
      cases s
      simp only
      intro H
      obtain ⟨j, h1, h2, h3⟩ := loopE_unit_inr m (i+1) H
      exact ⟨j, by omega, by omega, h3⟩
    | inr r' =>
      simp only
      intro H
      cases H
      exact ⟨i, Nat.le_refl _, by omega, h⟩

theorem insB_iff (n : Int) : insB n = true ↔ 1 ≤ n ∧ n ≤ 100000 := by simp [insB]

/-- A right set. -/
def RightSet (zs : List Int) : Prop := zs.length ≤ 256 ∧ ∀ j, j < zs.length → (1 ≤ at0 zs j ∧ at0 zs j ≤ 100000) ∧ (0 < j → at0 zs (j-1) < at0 zs j)

theorem chkF_inl (zs : List Int) (j : Nat) : chkF zs j () = .inl () ↔ (1 ≤ at0 zs j ∧ at0 zs j ≤ 100000) ∧ (0 < j → at0 zs (j-1) < at0 zs j) := by
  unfold chkF
  by_cases h1 : insB (at0 zs j) = false
  · rw [if_pos h1]
    have : ¬ insB (at0 zs j) = true := by rw [h1]; simp
    rw [insB_iff] at this
    simp; omega
  · rw [if_neg h1]
    have h1' : insB (at0 zs j) = true := by simpa using h1
    rw [insB_iff] at h1'
    split
    · simp; omega
    · simp; omega
theorem chkF_inr {zs : List Int} {j : Nat} {r : Int} (h : chkF zs j () = .inr r) : r = 2 ∨ r = 9 := by
  unfold chkF at h
  split at h
  · cases h; exact .inl rfl
  · split at h
    · cases h; exact .inr rfl
    · cases h

theorem chk_zero (zs : List Int) : chk zs = 0 ↔ RightSet zs := by
  unfold chk RightSet
  by_cases h : 256 < zs.length
  · rw [if_pos h]
    constructor
    · intro h; cases h
    · intro h'; omega
  · rw [if_neg h]
    cases hl : loopE (chkF zs) zs.length 0 () with
    | inl s =>
      cases s
      simp only [chkR, true_iff]
      refine ⟨by omega, fun j hj => ?_⟩
      exact (chkF_inl zs j).1 ((loopE_unit _ _).1 hl j (by omega) (by omega))
    | inr r =>
      simp only [chkR]
      constructor
      · intro h0
        obtain ⟨j, _, _, hj⟩ := loopE_unit_inr _ _ hl
        rcases chkF_inr hj with e | e <;> omega
      · intro H
        have : loopE (chkF zs) zs.length 0 () = .inl () := (loopE_unit _ _).2 fun j _ hj => (chkF_inl zs j).2 (H.2 j (by omega))
        rw [hl] at this; cases this

theorem RightSet.bd {zs : List Int} (h : RightSet zs) : ∀ j, j < zs.length → 1 ≤ at0 zs j ∧ at0 zs j ≤ 100000 := fun j hj => (h.2 j hj).1

/-- 'Fewest': the stack and the error. -/
def fewL (zs : List Int) (l : Int) : List Int := if gvn zs l = 0 ∧ reachB zs l.toNat = true then bestL zs 0 l.toNat else []
def fewE (zs : List Int) (l : Int) : Int := if gvn zs l = 0 then if reachB zs l.toNat = true then 0 else 6 else gvn zs l
theorem gvn_zero {zs : List Int} {l : Int} (h : gvn zs l = 0) : RightSet zs ∧ 1 ≤ l ∧ l ≤ 100000 := by
  unfold gvn at h
  split at h
  · rename_i h0
    split at h
    · rename_i h1; exact ⟨(chk_zero zs).1 h0, (insB_iff l).1 h1⟩
    · cases h
  · contradiction
/-- 'Verify'. -/
def verE (zs : List Int) (l : Int) (st : List Int) : Int :=
  if gvn zs l = 0 then if (tot zs st).2 = 0 then if reachB zs l.toNat = true ∧ eqL (bestL zs 0 l.toNat) st = true then 0 else 15 else (tot zs st).2 else gvn zs l
/-- 'Count'. -/
def cntV (zs : List Int) (l : Nat) : Int := if (l : Int) ≤ zs.sum then tab joinC 0 1 zs l else 0
def cntN (zs : List Int) (l : Int) : Int := if gvn zs l = 0 then if cntV zs l.toNat ≤ 1048576 then cntV zs l.toNat else 0 else 0
def cntE (zs : List Int) (l : Int) : Int := if gvn zs l = 0 then if cntV zs l.toNat ≤ 1048576 then 0 else 12 else gvn zs l

theorem tabC_bd (zs : List Int) (n : Nat) : -2147483648 ≤ tab joinC 0 1 zs n ∧ tab joinC 0 1 zs n ≤ 1048577 := by
  cases zs with
  | nil => unfold tab; split <;> omega
  | cons x xs => unfold tab joinC wrap32; omega

/-- 'Reach'. -/
def reaF (zs : List Int) (most : Int) (n : Nat) (out : List Int) : List Int ⊕ Unit :=
  if n < 1 ∨ most < tab joinF 258 0 zs n then .inl out else if out.length = 16384 then .inr () else .inl (out ++ [(n : Int)])
def reaW (zs : List Int) : Nat := (min zs.sum 100000).toNat + 1
def reaX (zs : List Int) (most : Int) : List Int ⊕ Unit := loopE (reaF zs most) (reaW zs) 0 []
def reaR1 : List Int ⊕ Unit → List Int | .inl l => l | .inr _ => []
def reaR2 : List Int ⊕ Unit → Int | .inl _ => 0 | .inr _ => 12
def reaL (zs : List Int) (most : Int) : List Int := if chk zs = 0 then if 1 ≤ most ∧ most ≤ 8 then reaR1 (reaX zs most) else [] else []
def reaE (zs : List Int) (most : Int) : Int := if chk zs = 0 then if 1 ≤ most ∧ most ≤ 8 then reaR2 (reaX zs most) else 2 else chk zs

end Go.Proofs.Ytfamennpajjajaa
