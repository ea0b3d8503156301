/- Groups of values and their spreads. No program in sight. -/
import Derived.Lib.Slices
import Derived.Test.YtcmhompbdanpdaaGreatDoorMwzw
namespace Go.Proofs.YtcmhompbdanpdaaGreatDoor
open Go.RowKit

theorem foldl_max (l : List Int) : ∀ a : Int, a ≤ l.foldl max a ∧ (∀ x ∈ l, x ≤ l.foldl max a) ∧ (l.foldl max a = a ∨ l.foldl max a ∈ l) := by
  induction l with
  | nil => exact fun a => ⟨Int.le_refl _, fun x hx => (by cases hx), .inl rfl⟩
  | cons y l ih =>
    intro a
    obtain ⟨h1, h2, h3⟩ := ih (max a y)
    rw [List.foldl_cons]
    refine ⟨by omega, fun x hx => ?_, ?_⟩
    · rcases List.mem_cons.1 hx with rfl | hx
      · omega
      · exact h2 x hx
    · rcases h3 with h3 | h3
      · rw [h3]
        by_cases h : y ≤ a
        · exact .inl (by omega)
        · rw [show max a y = y by omega]; exact .inr List.mem_cons_self
      · exact .inr (List.mem_cons_of_mem _ h3)
theorem foldl_min (l : List Int) : ∀ a : Int, l.foldl min a ≤ a ∧ (∀ x ∈ l, l.foldl min a ≤ x) ∧ (l.foldl min a = a ∨ l.foldl min a ∈ l) := by
  induction l with
  | nil => exact fun a => ⟨Int.le_refl _, fun x hx => (by cases hx), .inl rfl⟩
  | cons y l ih =>
    intro a
    obtain ⟨h1, h2, h3⟩ := ih (min a y)
    rw [List.foldl_cons]
    refine ⟨by omega, fun x hx => ?_, ?_⟩
    · rcases List.mem_cons.1 hx with rfl | hx
      · omega
      · exact h2 x hx
    · rcases h3 with h3 | h3
      · rw [h3]
        by_cases h : a ≤ y
        · exact .inl (by omega)
        · rw [show min a y = y by omega]; exact .inr List.mem_cons_self
      · exact .inr (List.mem_cons_of_mem _ h3)
theorem maxOf_spec {l : List Int} (h : 0 < l.length) : Lib.maxOf l ∈ l ∧ ∀ x ∈ l, x ≤ Lib.maxOf l := by
  match l, h with
  | y :: l, _ =>
    obtain ⟨h1, h2, h3⟩ := foldl_max (y :: l) y
    unfold Lib.maxOf
    rw [List.headD_cons]
    refine ⟨?_, h2⟩
    rcases h3 with h3 | h3
    · rw [h3]; exact List.mem_cons_self
    · exact h3
theorem minOf_spec {l : List Int} (h : 0 < l.length) : Lib.minOf l ∈ l ∧ ∀ x ∈ l, Lib.minOf l ≤ x := by
  match l, h with
  | y :: l, _ =>
    obtain ⟨h1, h2, h3⟩ := foldl_min (y :: l) y
    unfold Lib.minOf
    rw [List.headD_cons]
    refine ⟨?_, h2⟩
    rcases h3 with h3 | h3
    · rw [h3]; exact List.mem_cons_self
    · exact h3
theorem maxOf_unique {l : List Int} {m : Int} (h1 : m ∈ l) (h2 : ∀ x ∈ l, x ≤ m) : Lib.maxOf l = m := by
  obtain ⟨a, b⟩ := maxOf_spec (List.length_pos_of_mem h1)
  exact Int.le_antisymm (h2 _ a) (b _ h1)
theorem minOf_unique {l : List Int} {m : Int} (h1 : m ∈ l) (h2 : ∀ x ∈ l, m ≤ x) : Lib.minOf l = m := by
  obtain ⟨a, b⟩ := minOf_spec (List.length_pos_of_mem h1)
  exact Int.le_antisymm (b _ h1) (h2 _ a)
/-- The ends of a sorted list. -/
theorem sorted_ends {l m : List Int} {g : Nat} (hp : m.Perm l) (hs : m.Pairwise fun a b => a ≤ b) (h : l.length = g + 1) : at0 m g = Lib.maxOf l ∧ at0 m 0 = Lib.minOf l := by
  have hm : m.length = g + 1 := hp.length_eq.trans h
  have e1 : at0 m g = m[g] := at0_get (by omega)
  have e2 : at0 m 0 = m[0] := at0_get (by omega)
  rw [e1, e2]
  rw [List.pairwise_iff_getElem] at hs
  refine ⟨(maxOf_unique (hp.mem_iff.1 (List.getElem_mem _)) fun x hx => ?_).symm, (minOf_unique (hp.mem_iff.1 (List.getElem_mem _)) fun x hx => ?_).symm⟩
  · obtain ⟨i, hi, rfl⟩ := List.mem_iff_getElem.1 (hp.mem_iff.2 hx)
    by_cases h2 : i = g
    · subst h2; exact Int.le_refl _
    · exact hs i g hi (by omega) (by omega)
  · obtain ⟨i, hi, rfl⟩ := List.mem_iff_getElem.1 (hp.mem_iff.2 hx)
    by_cases h2 : i = 0
    · subst h2; exact Int.le_refl _
    · exact hs 0 i (by omega) hi (by omega)
/-- How far the values of a list lie from each other. -/
def wdI (l : List Int) : Int := Lib.maxOf l - Lib.minOf l
def gpL (l : List Int) (g k : Nat) : List Int := (l.drop (k * g)).take g
def sprL (g : Nat) (l : List Int) : List Int := (List.range (l.length / g)).map fun k => wdI (gpL l g k)
theorem sprL_length (g : Nat) (l : List Int) : (sprL g l).length = l.length / g := by simp [sprL]
theorem gp_fit {n g k : Nat} (hk : k < n / g) : k * g + g ≤ n := by
  have h1 : (k + 1) * g ≤ n / g * g := Nat.mul_le_mul_right g hk
  have h2 := Nat.div_mul_le_self n g
  rw [Nat.add_mul] at h1
  omega
theorem gpL_length {l : List Int} {g k : Nat} (hk : k < l.length / g) : (gpL l g k).length = g := by
  have := gp_fit hk
  unfold gpL
  rw [List.length_take, List.length_drop]
  omega
theorem gpL_mem {l : List Int} {g k : Nat} {x : Int} (h : x ∈ gpL l g k) : x ∈ l := List.mem_of_mem_drop (List.mem_of_mem_take h)
theorem wd_bound {l : List Int} (h : 0 < l.length) (hb : ∀ x ∈ l, -1048576 ≤ x ∧ x ≤ 1048576) : 0 ≤ wdI l ∧ wdI l ≤ 2097152 := by
  obtain ⟨a, b⟩ := maxOf_spec h
  obtain ⟨c, d⟩ := minOf_spec h
  have h1 := b _ c
  have h2 := hb _ a
  have h3 := hb _ c
  unfold wdI
  omega
theorem wd_group {l : List Int} {g k : Nat} (hg : 0 < g) (hk : k < l.length / g) : 0 ≤ wdI (gpL l g k) ∧ wdI (gpL l g k) ≤ wdI l := by
  have hl := gpL_length hk
  obtain ⟨a, b⟩ := maxOf_spec (l := gpL l g k) (by omega)
  obtain ⟨c, d⟩ := minOf_spec (l := gpL l g k) (by omega)
  have hp : 0 < l.length := by have := gp_fit hk; omega
  have h1 := (maxOf_spec hp).2 _ (gpL_mem a)
  have h2 := (minOf_spec hp).2 _ (gpL_mem c)
  have h3 := b _ c
  unfold wdI
  omega
theorem wdI_zero {l : List Int} (h : 0 < l.length) : wdI l = 0 ↔ ∀ x ∈ l, ∀ y ∈ l, x = y := by
  obtain ⟨a, b⟩ := maxOf_spec h
  obtain ⟨c, d⟩ := minOf_spec h
  unfold wdI
  constructor
  · intro h0 x hx y hy
    have := b x hx
    have := d x hx
    have := b y hy
    have := d y hy
    omega
  · intro h0
    have := h0 _ a _ c
    omega
/-- What sums of a list need. -/
structure Sms (l : List Int) : Prop where
  pos : 0 < l.length
  few : l.length ≤ 4096
  aT : ∀ {k}, k < l.length → -3000000 ≤ at0 l k ∧ at0 l k ≤ 3000000
  sumB : ∀ k, -4294967296 ≤ sumI (l.take k) ∧ sumI (l.take k) ≤ 4294967296
theorem Sms.sumA {l : List Int} (h : Sms l) : -4294967296 ≤ sumI l ∧ sumI l ≤ 4294967296 := by
  have := h.sumB l.length
  rwa [List.take_length] at this
theorem sum_up {l : List Int} {b : Int} (h : ∀ x ∈ l, 0 ≤ x ∧ x ≤ b) : 0 ≤ sumI l ∧ sumI l ≤ b * (l.length : Int) := by
  induction l with
  | nil => simp [sumI]
  | cons x l ih =>
    have h1 := ih (fun y hy => h y (List.mem_cons_of_mem _ hy))
    have h2 := h x List.mem_cons_self
    rw [sumI_cons, List.length_cons, Int.natCast_add, Int.mul_add]
    omega
theorem sms_spread {l : List Int} (h : Srs l) {g : Nat} (hg : 2 ≤ g) (hl : g ≤ l.length) : Sms (sprL g l) := by
  have hb : ∀ x ∈ sprL g l, 0 ≤ x ∧ x ≤ 2097152 := by
    intro x hx
    obtain ⟨k, hk, rfl⟩ := List.mem_map.1 hx
    have hk' := List.mem_range.1 hk
    have hn := gpL_length hk'
    exact wd_bound (by omega) fun y hy => ⟨h.lo y (gpL_mem hy), h.hi y (gpL_mem hy)⟩
  have hlen : (sprL g l).length ≤ 2048 := by
    rw [sprL_length]
    have h2 : l.length / g ≤ l.length / 2 := Nat.div_le_div_left hg (by decide)
    have h3 := h.few
    omega
  refine ⟨?_, by omega, fun hk => ?_, fun k => ?_⟩
  · rw [sprL_length]; exact Nat.div_pos hl (by omega)
  · rw [at0_get hk]
    have := hb _ (List.getElem_mem hk)
    omega
  · have h4 := sum_up (l := (sprL g l).take k) (b := 2097152) fun x hx => hb x (List.mem_of_mem_take hx)
    have h5 : ((sprL g l).take k).length ≤ 2048 := by rw [List.length_take]; omega
    omega
theorem sprL_take {g : Nat} {l : List Int} {k : Nat} (hk : k < l.length / g) : (sprL g l).take (k + 1) = (sprL g l).take k ++ [wdI (gpL l g k)] := by
  rw [List.take_succ_eq_append_getElem (by rw [sprL_length]; exact hk)]
  simp [sprL]
/-- The error of spreads. -/
def sprE (l : List Int) (g : Int) : Int := if ckSr l = 0 then (if 2 ≤ g ∧ g ≤ 256 then (if (l.length : Int) < g then 14 else 0) else 2) else ckSr l
theorem sprE_ok {l : List Int} {g : Int} (h : sprE l g = 0) : ckSr l = 0 ∧ 2 ≤ g ∧ g ≤ 256 ∧ g ≤ (l.length : Int) := by
  unfold sprE at h
  by_cases h0 : ckSr l = 0
  · rw [if_pos h0] at h
    by_cases h1 : 2 ≤ g ∧ g ≤ 256
    · rw [if_pos h1] at h
      by_cases h2 : (l.length : Int) < g
      · rw [if_pos h2] at h; exact absurd h (by decide)
      · exact ⟨h0, h1.1, h1.2, by omega⟩
    · rw [if_neg h1] at h; exact absurd h (by decide)
  · rw [if_neg h0] at h; exact absurd h h0
end Go.Proofs.YtcmhompbdanpdaaGreatDoor
