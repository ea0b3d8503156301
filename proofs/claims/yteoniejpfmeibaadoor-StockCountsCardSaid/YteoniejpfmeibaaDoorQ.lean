/- Plain laws of stacks: the table of fewest blocks is the least number of blocks, and 'best' reads off the first of the least stacks. -/
import Derived.Test.YteoniejpfmeibaaDoorSpec4
namespace Go.Proofs.YteoniejpfmeibaaDoor
open Go.RowKit

/-- The length of a stack, as a plain sum. -/
def wsum (zs : List Int) (s : List Int) : Int := (s.map fun j => at0 zs j.toNat).sum
/-- A stack of the blocks from i up to n. -/
def St (n : Nat) : Nat → List Int → Prop
  | _, [] => True
  | i, j :: s => (i : Int) ≤ j ∧ j < n ∧ St n (j.toNat + 1) s
/-- Before or equal, of two lists of one length. -/
def lexle : List Int → List Int → Prop
  | [], [] => True
  | a :: s, b :: t => a < b ∨ (a = b ∧ lexle s t)
  | _, _ => False
theorem lexle_refl : ∀ s, lexle s s
  | [] => trivial
  | _ :: s => .inr ⟨rfl, lexle_refl s⟩

theorem St_mono {n : Nat} : ∀ {i j : Nat} {s : List Int}, j ≤ i → St n i s → St n j s
  | _, _, [], _, _ => trivial
  | _, _, _ :: _, h, ⟨h1, h2, h3⟩ => ⟨by omega, h2, h3⟩
/-- The block i is in the stack, or it is not. -/
theorem St_cases {n i : Nat} : ∀ {s : List Int}, St n i s → St n (i + 1) s ∨ ∃ t, s = (i : Int) :: t ∧ i < n ∧ St n (i + 1) t
  | [], _ => .inl trivial
  | j :: s, ⟨h1, h2, h3⟩ => by
    by_cases e : j = i
    · subst e; exact .inr ⟨s, rfl, by omega, by simpa using h3⟩
    · exact .inl ⟨by omega, h2, h3⟩
theorem St_cons {n i : Nat} {t : List Int} (h : i < n) (ht : St n (i + 1) t) : St n i ((i : Int) :: t) := ⟨Int.le_refl _, by omega, by simpa using ht⟩
theorem St_end {n i : Nat} (h : n ≤ i) : ∀ {s : List Int}, St n i s → s = []
  | [], _ => rfl
  | _ :: _, ⟨h1, h2, _⟩ => by omega
theorem wsum_cons (zs : List Int) (i : Nat) (t : List Int) : wsum zs ((i : Int) :: t) = at0 zs i + wsum zs t := by simp [wsum]
theorem wsum_nil (zs : List Int) : wsum zs [] = 0 := rfl
theorem wsum_nonneg {zs : List Int} (hz : ∀ j, j < zs.length → 1 ≤ at0 zs j) : ∀ {i : Nat} {s : List Int}, St zs.length i s → 0 ≤ wsum zs s
  | _, [], _ => Int.le_refl _
  | i, j :: s, ⟨h1, h2, h3⟩ => by
    have h4 := wsum_nonneg hz h3
    have h5 := hz j.toNat (by omega)
    have e : wsum zs (j :: s) = at0 zs j.toNat + wsum zs s := by simp [wsum]
    omega
theorem wsum_pos {zs : List Int} (hz : ∀ j, j < zs.length → 1 ≤ at0 zs j) {i : Nat} {s : List Int} (hs : St zs.length i s) (h : s ≠ []) : 1 ≤ wsum zs s := by
  cases s with
  | nil => exact absurd rfl h
  | cons j s =>
    obtain ⟨h1, h2, h3⟩ := hs
    have h4 := wsum_nonneg hz h3
    have h5 := hz j.toNat (by omega)
    have e : wsum zs (j :: s) = at0 zs j.toNat + wsum zs s := by simp [wsum]
    omega

theorem wrap32_small {z : Int} (h1 : -2147483648 ≤ z) (h2 : z ≤ 2147483647) : wrap32 z = z := by unfold wrap32; omega
theorem joinF_small {a b : Int} (h1 : 0 ≤ b) (h2 : b ≤ 258) : joinF a b = min (min a (b + 1)) 258 := by unfold joinF; rw [wrap32_small (by omega) (by omega)]
theorem tabF_bd (xs : List Int) : ∀ n, 0 ≤ tab joinF 258 0 xs n ∧ tab joinF 258 0 xs n ≤ 258 := by
  induction xs with
  | nil => intro n; unfold tab; split <;> omega
  | cons x xs ih =>
    intro n
    have h1 := ih n
    unfold tab
    split
    · have h2 := ih (n - x.toNat)
      rw [joinF_small (by omega) (by omega)]; omega
    · rw [joinF_small (by omega) (by omega)]; omega
theorem tabF_cons (x : Int) (xs : List Int) (n : Nat) : tab joinF 258 0 (x :: xs) n = min (min (tab joinF 258 0 xs n) (if x ≤ n then tab joinF 258 0 xs (n - x.toNat) + 1 else 259)) 258 := by
  have h1 := tabF_bd xs n
  have h2 := tabF_bd xs (n - x.toNat)
  rw [tab]
  split
  · rw [joinF_small (by omega) (by omega)]
  · rw [joinF_small (by omega) (by omega)]; rfl
theorem tabF_drop {zs : List Int} {i : Nat} (n : Nat) (h : i < zs.length) :
    tab joinF 258 0 (zs.drop i) n = min (min (tab joinF 258 0 (zs.drop (i + 1)) n) (if at0 zs i ≤ n then tab joinF 258 0 (zs.drop (i + 1)) (n - (at0 zs i).toNat) + 1 else 259)) 258 := by
  have e : zs.drop i = at0 zs i :: zs.drop (i+1) := by rw [List.drop_eq_getElem_cons h]; simp [at0, List.getD, h]
  rw [e, tabF_cons]

/-- No stack is shorter than the table says. -/
theorem tabF_le {zs : List Int} (hz : ∀ j, j < zs.length → 1 ≤ at0 zs j) : ∀ (m i : Nat), zs.length - i ≤ m → ∀ {s : List Int} {n : Nat}, St zs.length i s → wsum zs s = n → tab joinF 258 0 (zs.drop i) n ≤ s.length := by
  intro m
  induction m with
  | zero =>
    intro i hm s n hs hn
    have := St_end (by omega) hs
    subst this
    rw [List.drop_eq_nil_of_le (by omega), tab, if_pos (by rw [wsum_nil] at hn; omega)]
    simp
  | succ m ih =>
    intro i hm s n hs hn
    by_cases hi : i < zs.length
    · rw [tabF_drop n hi]
      rcases St_cases hs with h | ⟨t, rfl, _, h⟩
      · have := ih (i + 1) (by omega) h hn
        omega
      · rw [wsum_cons] at hn
        have h0 := wsum_nonneg hz h
        have h1 := hz i hi
        have h2 := ih (i + 1) (by omega) (n := n - (at0 zs i).toNat) h (by omega)
        rw [if_pos (by omega)]
        simp only [List.length_cons]
        omega
    · have := St_end (by omega) hs
      subst this
      rw [List.drop_eq_nil_of_le (by omega), tab, if_pos (by rw [wsum_nil] at hn; omega)]
      simp

/-- What 'best' reads off. -/
theorem bestL_ok {zs : List Int} (hz : ∀ j, j < zs.length → 1 ≤ at0 zs j) : ∀ (m i : Nat), zs.length - i ≤ m → ∀ {r : Nat}, tab joinF 258 0 (zs.drop i) r < 258 →
    St zs.length i (bestL (zs.drop i) i r) ∧ wsum zs (bestL (zs.drop i) i r) = r ∧ ((bestL (zs.drop i) i r).length : Int) = tab joinF 258 0 (zs.drop i) r ∧
    ∀ t, St zs.length i t → wsum zs t = r → t.length = (bestL (zs.drop i) i r).length → lexle (bestL (zs.drop i) i r) t := by
  intro m
  induction m with
  | zero =>
    intro i hm r hr
    rw [List.drop_eq_nil_of_le (by omega)] at hr ⊢
    rw [tab] at hr ⊢
    split at hr
    · rename_i h; subst h
      refine ⟨trivial, rfl, by simp [bestL], fun t ht _ _ => ?_⟩
      have := St_end (by omega) ht
      subst this; trivial
    · omega
  | succ m ih =>
    intro i hm r hr
    by_cases hi : i < zs.length
    · have e : zs.drop i = at0 zs i :: zs.drop (i+1) := by rw [List.drop_eq_getElem_cons hi]; simp [at0, List.getD, hi]
      have ht := tabF_drop r hi
      have b1 := tabF_bd (zs.drop (i + 1)) r
      have b2 := tabF_bd (zs.drop (i + 1)) (r - (at0 zs i).toNat)
      have h1 := hz i hi
      by_cases hc : at0 zs i ≤ r ∧ wrap32 (tab joinF 258 0 (zs.drop (i + 1)) (r - (at0 zs i).toNat) + 1) = tab joinF 258 0 (zs.drop i) r
      · have hw := hc.2
        rw [wrap32_small (by omega) (by omega)] at hw
        obtain ⟨k1, k2, k3, k4⟩ := ih (i + 1) (by omega) (r := r - (at0 zs i).toNat) (by omega)
        have eb : bestL (zs.drop i) i r = (i : Int) :: bestL (zs.drop (i + 1)) (i + 1) (r - (at0 zs i).toNat) := by
          rw [e] at hc ⊢; rw [bestL, if_pos hc]
        rw [eb]
        refine ⟨St_cons hi k1, by rw [wsum_cons, k2]; omega, by simp only [List.length_cons]; omega, fun t ht' hw' hl => ?_⟩
        rcases St_cases ht' with h | ⟨t', rfl, _, h⟩
        · cases t with
          | nil => simp at hl
          | cons j t => exact .inl (by have := h.1; omega)
        · exact .inr ⟨rfl, k4 t' h (by rw [wsum_cons] at hw'; omega) (by simpa using hl)⟩
      · have eb : bestL (zs.drop i) i r = bestL (zs.drop (i + 1)) (i + 1) r := by
          rw [e] at hc ⊢; rw [bestL, if_neg hc]
        have hq : tab joinF 258 0 (zs.drop i) r = tab joinF 258 0 (zs.drop (i + 1)) r := by
          by_cases hx : at0 zs i ≤ r
          · rw [if_pos hx] at ht
            have : ¬ tab joinF 258 0 (zs.drop (i + 1)) (r - (at0 zs i).toNat) + 1 = tab joinF 258 0 (zs.drop i) r := fun h => hc ⟨hx, by rw [wrap32_small (by omega) (by omega)]; exact h⟩
            omega
          · rw [if_neg hx] at ht; omega
        obtain ⟨k1, k2, k3, k4⟩ := ih (i + 1) (by omega) (r := r) (by omega)
        rw [eb]
        refine ⟨St_mono (by omega) k1, k2, by omega, fun t ht' hw' hl => ?_⟩
        rcases St_cases ht' with h | ⟨t', rfl, _, h⟩
        · exact k4 t h hw' hl
        · exfalso
          rw [wsum_cons] at hw'
          have h0 := wsum_nonneg hz h
          have h2 := tabF_le hz (zs.length - (i + 1)) (i + 1) (Nat.le_refl _) (n := r - (at0 zs i).toNat) h (by omega)
          simp only [List.length_cons] at hl
          rw [if_pos (by omega)] at ht
          exact hc ⟨by omega, by rw [wrap32_small (by omega) (by omega)]; omega⟩
    · rw [List.drop_eq_nil_of_le (by omega)] at hr ⊢
      rw [tab] at hr ⊢
      split at hr
      · rename_i h; subst h
        refine ⟨trivial, rfl, by simp [bestL], fun t ht _ _ => ?_⟩
        have := St_end (by omega) ht
        subst this; trivial
      · omega

theorem St_length {n : Nat} : ∀ {i : Nat} {s : List Int}, St n i s → i ≤ n → s.length + i ≤ n
  | i, [], _, h => by simpa using h
  | i, j :: s, ⟨h1, h2, h3⟩, h => by
    have := St_length h3 (by omega)
    simp only [List.length_cons]; omega

theorem wsum_le_sum {zs : List Int} (hz : ∀ j, j < zs.length → 1 ≤ at0 zs j) : ∀ (m i : Nat), zs.length - i ≤ m → ∀ {s : List Int}, St zs.length i s → wsum zs s ≤ (zs.drop i).sum := by
  intro m
  induction m with
  | zero =>
    intro i hm s hs
    have := St_end (by omega) hs
    subst this
    rw [List.drop_eq_nil_of_le (by omega)]; exact Int.le_refl _
  | succ m ih =>
    intro i hm s hs
    by_cases hi : i < zs.length
    · have e : zs.drop i = at0 zs i :: zs.drop (i+1) := by rw [List.drop_eq_getElem_cons hi]; simp [at0, List.getD, hi]
      have h1 := hz i hi
      rw [e, List.sum_cons]
      rcases St_cases hs with h | ⟨t, rfl, _, h⟩
      · have := ih (i + 1) (by omega) h; omega
      · rw [wsum_cons]; have := ih (i + 1) (by omega) h; omega
    · have := St_end (by omega) hs
      subst this
      rw [List.drop_eq_nil_of_le (by omega)]; exact Int.le_refl _

/-- A length is reached just if a stack has it. -/
theorem reachB_iff {zs : List Int} (hz : RightSet zs) (l : Nat) : reachB zs l = true ↔ ∃ s, St zs.length 0 s ∧ wsum zs s = l := by
  have hp : ∀ j, j < zs.length → 1 ≤ at0 zs j := fun j hj => (hz.2 j hj).1.1
  unfold reachB
  rw [Bool.and_eq_true, decide_eq_true_eq, decide_eq_true_eq]
  constructor
  · rintro ⟨_, h⟩
    have := bestL_ok hp zs.length 0 (by omega) (r := l) (by simpa using h)
    exact ⟨_, this.1, this.2.1⟩
  · rintro ⟨s, h1, h2⟩
    have a := tabF_le hp zs.length 0 (by omega) h1 h2
    have b := wsum_le_sum hp zs.length 0 (by omega) h1
    have c := St_length h1 (by omega)
    have d := hz.1
    simp only [List.drop_zero] at a b
    omega
theorem best_ok {zs : List Int} (hz : RightSet zs) {l : Nat} (h : reachB zs l = true) :
    St zs.length 0 (bestL zs 0 l) ∧ wsum zs (bestL zs 0 l) = l ∧ ((bestL zs 0 l).length : Int) = tab joinF 258 0 zs l ∧
    ∀ t, St zs.length 0 t → wsum zs t = l → (bestL zs 0 l).length ≤ t.length ∧ (t.length = (bestL zs 0 l).length → lexle (bestL zs 0 l) t) := by
  have hp : ∀ j, j < zs.length → 1 ≤ at0 zs j := fun j hj => (hz.2 j hj).1.1
  have h' : tab joinF 258 0 zs l < 258 := by unfold reachB at h; rw [Bool.and_eq_true, decide_eq_true_eq, decide_eq_true_eq] at h; exact h.2
  have := bestL_ok hp zs.length 0 (by omega) (r := l) (by simpa using h')
  simp only [List.drop_zero] at this
  obtain ⟨k1, k2, k3, k4⟩ := this
  refine ⟨k1, k2, k3, fun t ht hw => ⟨?_, k4 t ht hw⟩⟩
  have := tabF_le hp zs.length 0 (by omega) ht hw
  simp only [List.drop_zero] at this
  omega
end Go.Proofs.YteoniejpfmeibaaDoor
