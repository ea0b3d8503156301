/- Check of integers as data: what the trim of digits leaves, canonical texts. No program in sight. -/
import Derived.Lib.SlTrimSet
import Derived.Test.YtcmhompbdanpdaaGreatDoorMwr
namespace Go.Proofs.YtcmhompbdanpdaaGreatDoor
open Go Go.RowKit Go.Lib

def dgL : List UInt8 := [48, 49, 50, 51, 52, 53, 54, 55, 56, 57]
def dgC (c : UInt8) : Bool := decide (48 ≤ c.toNat) && decide (c.toNat ≤ 57)
def dgA (l : List UInt8) : Bool := l.all dgC
theorem dg_iff (c : UInt8) : dgL.contains c = dgC c := by
  have key : ∀ n, n < 256 → dgL.contains (UInt8.ofNat n) = dgC (UInt8.ofNat n) := by decide +kernel
  have := key c.toNat c.toNat_lt
  rwa [UInt8.ofNat_toNat] at this
theorem dgA_iff {l : List UInt8} : dgA l = true ↔ Dgs l := by
  unfold dgA Dgs
  rw [List.all_eq_true]
  simp [dgC]
theorem trim_dgs {l : List UInt8} (h : dgA l = true) : Lib.trimS l dgL = [] := by
  have h1 : ∀ l : List UInt8, l.all dgC = true → l.dropWhile (dgL.contains ·) = [] := by
    intro l hl
    induction l with
    | nil => rfl
    | cons c l ih =>
      rw [List.all_cons, Bool.and_eq_true] at hl
      rw [List.dropWhile_cons_of_pos (by rw [dg_iff]; exact hl.1)]
      exact ih hl.2
  unfold Lib.trimS Lib.trimRightS
  rw [h1 _ (by rw [List.all_reverse]; exact h)]
  rfl
theorem trim_notdgs {l : List UInt8} (h : dgA l = false) : Lib.trimS l dgL ≠ [] := by
  have h1 : ∀ l : List UInt8, l.all dgC = false → (l.dropWhile (dgL.contains ·)).all dgC = false := by
    intro l
    induction l with
    | nil => intro hl; cases hl
    | cons c l ih =>
      intro hl
      by_cases hc : dgC c = true
      · rw [List.dropWhile_cons_of_pos (by rw [dg_iff]; exact hc)]
        rw [List.all_cons, hc, Bool.true_and] at hl
        exact ih hl
      · rw [List.dropWhile_cons_of_neg (by rw [dg_iff]; exact hc)]
        exact hl
  intro e
  have h2 : (Lib.trimS l dgL).all dgC = false := by
    unfold Lib.trimS Lib.trimLeftS
    refine h1 _ ?_
    unfold Lib.trimRightS
    rw [List.all_reverse]
    exact h1 _ (by rw [List.all_reverse]; exact h)
  rw [e] at h2; cases h2
/-- The error of a text: 3 if it is not canonical, 11 if it is too long, or 0. -/
def ckT (l : List UInt8) : Int :=
  if (bodyL l).isEmpty = true ∨ dgA (bodyL l) = false then 3 else if (bodyL l).head? = some 48 ∧ l ≠ [48] then 3 else if (bodyL l).length ≤ 1024 then 0 else 11
theorem ckT_itoa (n : Int) : ckT (itoa n) = if lenI n ≤ 1024 then 0 else 11 := by
  unfold ckT
  rw [body_itoa]
  have h1 : (decDigits n.natAbs).isEmpty = false := by
    cases e : decDigits n.natAbs with
    | nil => exact absurd e (dec_ne _)
    | cons => rfl
  have h2 : dgA (decDigits n.natAbs) = true := dgA_iff.2 (dgs_dec _)
  rw [h1, h2, if_neg (by simp), if_neg]
  · rfl
  · rintro ⟨h3, h4⟩
    have := dec_head h3
    have : n = 0 := by omega
    subst this
    exact h4 itoa_zero
/-- A text without an error is that of an integer. -/
theorem ckT_zero {l : List UInt8} (h : ckT l = 0) : ∃ n : Int, l = itoa n ∧ lenI n ≤ 1024 := by
  unfold ckT at h
  split at h
  · cases h
  rename_i h1
  split at h
  · cases h
  rename_i h2
  split at h
  · rename_i h3
    have hd : Dgs (bodyL l) := dgA_iff.1 (by cases e : dgA (bodyL l) with
      | true => rfl
      | false => exact absurd (.inr e) h1)
    have hne : bodyL l ≠ [] := fun e => h1 (.inl (by rw [e]; rfl))
    by_cases h45 : l.head? = some 45
    · obtain ⟨r, rfl⟩ : ∃ r, l = 45 :: r := by
        cases l with
        | nil => cases h45
        | cons c r => exact ⟨r, by rw [show c = 45 from by simpa using h45]⟩
      have hb : bodyL (45 :: r) = r := by unfold bodyL; simp
      rw [hb] at hd hne h3 h2
      have hc : Can r := ⟨hd, hne, fun e => absurd ⟨e, by simp⟩ h2⟩
      have hp : dv r ≠ 0 := by
        intro e0
        have : r = decDigits 0 := by rw [← e0]; exact (dec_dv hc).symm
        rw [this, dec_zero] at h2
        exact h2 ⟨rfl, by simp⟩
      refine ⟨-(dv r : Int), ?_, ?_⟩
      · rw [itoa_below (by omega), show (-(dv r : Int)).natAbs = dv r from by omega, dec_dv hc]
      · unfold lenI; rw [show (-(dv r : Int)).natAbs = dv r from by omega, dec_dv hc]; exact h3
    · have hb : bodyL l = l := by unfold bodyL; rw [if_neg h45]
      rw [hb] at hd hne h3 h2
      have hc : Can l := ⟨hd, hne, fun e => Classical.byContradiction fun e2 => h2 ⟨e, e2⟩⟩
      refine ⟨(dv l : Int), ?_, ?_⟩
      · rw [itoa_pos (by omega), show ((dv l : Int)).toNat = dv l from by omega, dec_dv hc]
      · unfold lenI; rw [show ((dv l : Int)).natAbs = dv l from by omega, dec_dv hc]; exact h3
  · cases h
end Go.Proofs.YtcmhompbdanpdaaGreatDoor
