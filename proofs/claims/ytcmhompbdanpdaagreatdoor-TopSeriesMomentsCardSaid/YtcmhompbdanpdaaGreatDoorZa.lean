/- Chebyshev's inequality for series: what TopSeriesCapable says. No program in sight. -/
import Derived.Test.YtcmhompbdanpdaaGreatDoorMve
namespace Go.Proofs.YtcmhompbdanpdaaGreatDoor

theorem rat_sq (d : Rat) : 0 ≤ d * d := by
  by_cases h : 0 ≤ d
  · exact Rat.mul_nonneg h h
  · have h2 : d ≤ 0 := Rat.le_of_lt (Rat.not_le.1 h)
    have h3 : 0 ≤ -d := by grind
    have := Rat.mul_nonneg h3 h3
    grind
theorem dvt_cons (m : Rat) (x : Int) (l : List Int) : dvtS m 0 (x :: l) = ((x : Rat) - m) * ((x : Rat) - m) + dvtS m 0 l := by
  have h1 := dvtS_eq m l (0 + ((x : Rat) - m) * ((x : Rat) - m))
  have h2 := dvtS_eq m l 0
  have h3 : dvtS m 0 (x :: l) = dvtS m (0 + ((x : Rat) - m) * ((x : Rat) - m)) l := rfl
  rw [h3, h1, h2]; grind
theorem cheb (m c : Rat) (_hc : 0 ≤ c) (l : List Int) : ((l.countP (fun (x : Int) => decide (c < ((x : Rat) - m) * ((x : Rat) - m))) : Nat) : Rat) * c ≤ dvtS m 0 l := by
  induction l with
  | nil =>
    have e : dvtS m 0 [] = 0 := rfl
    rw [e]; simp
  | cons x l ih =>
    rw [dvt_cons, List.countP_cons]
    obtain ⟨k, hk⟩ : ∃ k, l.countP (fun (x : Int) => decide (c < ((x : Rat) - m) * ((x : Rat) - m))) = k := ⟨_, rfl⟩
    obtain ⟨D, hD⟩ : ∃ D, dvtS m 0 l = D := ⟨_, rfl⟩
    have hs := rat_sq ((x : Rat) - m)
    obtain ⟨s, hss⟩ : ∃ s, ((x : Rat) - m) * ((x : Rat) - m) = s := ⟨_, rfl⟩
    rw [hk, hD] at ih
    rw [hss] at hs
    rw [hk, hD, hss]
    by_cases h : c < s
    · rw [if_pos (by simpa using h)]
      have e : ((k + 1 : Nat) : Rat) * c = (k : Rat) * c + c := by push_cast; grind
      rw [e]; grind
    · rw [if_neg (by simpa using h), Nat.add_zero]; grind
/-- How many values are farther from the mean than three deviations. -/
def farN (l : List Int) : Nat := l.countP (fun (x : Int) => decide (9 * varS l < ((x : Rat) - meanS l) * ((x : Rat) - meanS l)))
theorem farN_le {l : List Int} (h : 2 ≤ l.length) (hv : 0 < varS l) : 9 * farN l ≤ l.length := by
  have h9 : (0 : Rat) ≤ 9 * varS l := by grind
  have h1 := cheb (meanS l) (9 * varS l) h9 l
  have h2 := varS_eq h
  obtain ⟨D, hD⟩ : ∃ D, dvtS (meanS l) 0 l = D := ⟨_, rfl⟩
  obtain ⟨v, hvv⟩ : ∃ v, varS l = v := ⟨_, rfl⟩
  have hf : l.countP (fun (x : Int) => decide (9 * varS l < ((x : Rat) - meanS l) * ((x : Rat) - meanS l))) = farN l := rfl
  rw [hf] at h1
  obtain ⟨k, hk⟩ : ∃ k, farN l = k := ⟨_, rfl⟩
  rw [hk] at h1 ⊢
  rw [hD, hvv] at h1 h2
  rw [hvv] at hv
  obtain ⟨n, hn⟩ : ∃ n, l.length = n + 1 := ⟨l.length - 1, by omega⟩
  rw [hn] at h2 ⊢
  have hn1 : (((n + 1 : Nat) : Rat) - 1) = (n : Rat) := by push_cast; grind
  rw [hn1] at h2
  have hn0 : (0 : Rat) < (n : Rat) := by
    have : 0 < n := by omega
    exact_mod_cast this
  have hDv : D = v * (n : Rat) := by
    rw [← h2]
    exact (Rat.div_mul_cancel (by grind)).symm
  have h3 : ((9 * k : Nat) : Rat) * v ≤ (n : Rat) * v := by push_cast; grind
  have h4 : ((9 * k : Nat) : Rat) ≤ (n : Rat) := by
    by_cases e : ((9 * k : Nat) : Rat) ≤ (n : Rat)
    · exact e
    · have e2 := Rat.not_le.1 e
      have := Rat.mul_lt_mul_of_pos_right e2 hv
      exact absurd h3 (Rat.not_le.2 this)
  have h5 : 9 * k ≤ n := by exact_mod_cast h4
  omega
end Go.Proofs.YtcmhompbdanpdaaGreatDoor
