/- Histograms and runs, as both sides make them. No program in sight. When a series varies; the centered capability and the capability. No program in sight. Words compared from the top; numbers told by their words. No program in sight. Numerals made from the last digit on; numbers as texts between the bounds of ints. No program in sight. -/
import Derived.Test.YtcoombhcdcniiaaGreatDoorMwa
namespace Go.Proofs.YtcoombhcdcniiaaGreatDoor

/-! ### histograms -/
/-- The place of a value: 0 below, then the bins, then above. -/
def binO (low width : Int) (bins : Nat) (x : Int) : Nat := if x < low then 0 else min ((x - low) / width).toNat bins + 1
theorem binO_le (low width : Int) (bins : Nat) (x : Int) : binO low width bins x ≤ bins + 1 := by
  unfold binO
  split <;> omega
/-- How many values have a place. -/
def hcN (low width : Int) (bins : Nat) (l : List Int) (k : Nat) : Nat := l.countP (fun x => binO low width bins x == k)
theorem hcN_nil (low width : Int) (bins k : Nat) : hcN low width bins [] k = 0 := rfl
theorem hcN_snoc (low width : Int) (bins : Nat) (l : List Int) (x : Int) (k : Nat) : hcN low width bins (l ++ [x]) k = hcN low width bins l k + (if binO low width bins x = k then 1 else 0) := by
  unfold hcN
  rw [List.countP_append]
  congr 1
  by_cases h : binO low width bins x = k <;> simp [h]
theorem hcN_le (low width : Int) (bins : Nat) (l : List Int) (k : Nat) : hcN low width bins l k ≤ l.length := List.countP_le_length
/-- All values are counted once. -/
def sumTo (f : Nat → Nat) : Nat → Nat
  | 0 => 0
  | n + 1 => sumTo f n + f n
theorem sumTo_one (a : Nat) : ∀ n, sumTo (fun k => if a = k then 1 else 0) n = if a < n then 1 else 0
  | 0 => by simp [sumTo]
  | n + 1 => by
    rw [sumTo, sumTo_one a n]
    by_cases h : a < n
    · rw [if_pos h, if_neg (by omega), if_pos (by omega)]
    · rw [if_neg h]
      by_cases h2 : a = n
      · rw [if_pos h2, if_pos (by omega)]
      · rw [if_neg h2, if_neg (by omega)]
theorem sumTo_add (f g : Nat → Nat) : ∀ n, sumTo (fun k => f k + g k) n = sumTo f n + sumTo g n
  | 0 => rfl
  | n + 1 => by rw [sumTo, sumTo, sumTo, sumTo_add f g n]; omega
theorem sumTo_congr {f g : Nat → Nat} : ∀ {n}, (∀ k, k < n → f k = g k) → sumTo f n = sumTo g n
  | 0, _ => rfl
  | n + 1, h => by rw [sumTo, sumTo, sumTo_congr (fun k hk => h k (by omega)), h n (by omega)]
theorem hcN_total (low width : Int) (bins : Nat) (l : List Int) : sumTo (hcN low width bins l) (bins + 2) = l.length := by
  have h : ∀ r : List Int, sumTo (hcN low width bins r.reverse) (bins + 2) = r.length := by
    intro r
    induction r with
    | nil =>
      have : ∀ n, sumTo (hcN low width bins []) n = 0 := by
        intro n
        induction n with
        | zero => rfl
        | succ n ih => rw [sumTo, ih, hcN_nil]
      exact this _
    | cons x r ih =>
      rw [List.reverse_cons, List.length_cons, ← ih, sumTo_congr (fun k _ => hcN_snoc low width bins r.reverse x k), sumTo_add, sumTo_one, if_pos (by have := binO_le low width bins x; omega)]
  have := h l.reverse
  rwa [List.reverse_reverse, List.length_reverse] at this
theorem hcN_perm {low width : Int} {bins : Nat} {l m : List Int} (h : l.Perm m) (k : Nat) : hcN low width bins l k = hcN low width bins m k := h.countP_eq _
/-! ### runs -/
/-- Where a value is: below, in or above the middle. -/
def sdI (lo hi x : Int) : Int := if 2 * x < lo + hi then -1 else if lo + hi < 2 * x then 1 else 0
theorem sdI_cases (lo hi x : Int) : sdI lo hi x = -1 ∨ sdI lo hi x = 0 ∨ sdI lo hi x = 1 := by
  unfold sdI
  split
  · exact .inl rfl
  · split
    · exact .inr (.inr rfl)
    · exact .inr (.inl rfl)
/-- The runs that have ended, the one that goes on. -/
def rnFc (lo hi : Int) (p : List Int × Int) (x : Int) : List Int × Int :=
  if 0 < sdI lo hi x * p.2 then (p.1, p.2 + sdI lo hi x) else ((if p.2 ≠ 0 then p.1 ++ [p.2] else p.1), sdI lo hi x)
def rnP (lo hi : Int) (l : List Int) : List Int × Int := l.foldl (rnFc lo hi) ([], 0)
def rnEc (p : List Int × Int) : List Int := if p.2 ≠ 0 then p.1 ++ [p.2] else p.1
/-- The lengths of the runs. -/
def rnL (lo hi : Int) (l : List Int) : List Int := rnEc (rnP lo hi l)
theorem rnP_snoc (lo hi : Int) (l : List Int) (x : Int) : rnP lo hi (l ++ [x]) = rnFc lo hi (rnP lo hi l) x := by unfold rnP; rw [List.foldl_append]; rfl
/-- The run that goes on is on the side of the last value. -/
theorem rn_side (lo hi : Int) (l : List Int) : (l = [] → (rnP lo hi l).2 = 0) ∧ ∀ m x, l = m ++ [x] → (sdI lo hi x = 0 ↔ (rnP lo hi l).2 = 0) ∧ (sdI lo hi x = 1 ↔ 0 < (rnP lo hi l).2) ∧ (sdI lo hi x = -1 ↔ (rnP lo hi l).2 < 0) := by
  refine ⟨fun h => by subst h; rfl, ?_⟩
  rintro m x rfl
  rw [rnP_snoc]
  unfold rnFc
  obtain ⟨r, hr⟩ : ∃ r, (rnP lo hi m).2 = r := ⟨_, rfl⟩
  rw [hr]
  rcases sdI_cases lo hi x with e | e | e <;> rw [e]
  · by_cases h : 0 < -1 * r
    · rw [if_pos h]; refine ⟨?_, ?_, ?_⟩ <;> (constructor <;> intro h2 <;> first | omega | (simp only at *; omega))
    · rw [if_neg h]; refine ⟨?_, ?_, ?_⟩ <;> simp
  · by_cases h : 0 < 0 * r
    · omega
    · rw [if_neg h]; refine ⟨?_, ?_, ?_⟩ <;> simp
  · by_cases h : 0 < 1 * r
    · rw [if_pos h]; refine ⟨?_, ?_, ?_⟩ <;> (constructor <;> intro h2 <;> first | omega | (simp only at *; omega))
    · rw [if_neg h]; refine ⟨?_, ?_, ?_⟩ <;> simp
/-- A further value: what the reference does to its list. -/
theorem rnL_snoc (lo hi : Int) (l : List Int) (x : Int) : rnL lo hi (l ++ [x]) =
    if sdI lo hi x = 0 then rnL lo hi l else if 0 < sdI lo hi x * (rnP lo hi l).2 then (rnL lo hi l).dropLast ++ [(rnL lo hi l).getLastD 0 + sdI lo hi x] else rnL lo hi l ++ [sdI lo hi x] := by
  unfold rnL
  rw [rnP_snoc]
  obtain ⟨⟨o, r⟩, hp⟩ : ∃ p, rnP lo hi l = p := ⟨_, rfl⟩
  rw [hp]
  unfold rnFc rnEc
  simp only
  obtain ⟨s, hs⟩ : ∃ s, sdI lo hi x = s := ⟨_, rfl⟩
  have hc := sdI_cases lo hi x
  rw [hs] at hc ⊢
  by_cases h0 : s = 0
  · subst h0
    simp
  · rw [if_neg h0]
    by_cases h1 : 0 < s * r
    · have hr : r ≠ 0 := fun e => by rw [e] at h1; simp at h1
      have hrs : r + s ≠ 0 := by
        rcases hc with e | e | e <;> rw [e] at h1 ⊢ <;> omega
      rw [if_pos h1, if_pos h1]
      simp only
      rw [if_pos hrs, if_pos hr]
      simp
    · rw [if_neg h1, if_neg h1]
      simp only
      rw [if_pos h0]
/-- The lengths of all runs, and the values in the middle, are all values. -/
def absS (l : List Int) : Int := l.foldr (fun k s => max k (-k) + s) 0
theorem absS_append (a b : List Int) : absS (a ++ b) = absS a + absS b := by
  induction a with
  | nil => simp [absS]
  | cons x a ih => show max x (-x) + absS (a ++ b) = max x (-x) + absS a + absS b; rw [ih]; omega
def midN (lo hi : Int) (l : List Int) : Int := l.foldr (fun x s => (if 2 * x = lo + hi then 1 else 0) + s) 0
theorem midN_append (lo hi : Int) (a b : List Int) : midN lo hi (a ++ b) = midN lo hi a + midN lo hi b := by
  induction a with
  | nil => simp [midN]
  | cons x a ih => show _ + midN lo hi (a ++ b) = _ + midN lo hi a + midN lo hi b; rw [ih]; omega
theorem sdI_zero {lo hi x : Int} : sdI lo hi x = 0 ↔ 2 * x = lo + hi := by
  unfold sdI
  split
  · constructor <;> intro h <;> omega
  · split <;> constructor <;> intro h <;> omega
theorem rn_total (lo hi : Int) (l : List Int) : absS (rnP lo hi l).1 + max (rnP lo hi l).2 (-(rnP lo hi l).2) + midN lo hi l = l.length ∧ ∀ k ∈ (rnP lo hi l).1, k ≠ 0 := by
  have h : ∀ r : List Int, absS (rnP lo hi r.reverse).1 + max (rnP lo hi r.reverse).2 (-(rnP lo hi r.reverse).2) + midN lo hi r.reverse = r.length ∧ ∀ k ∈ (rnP lo hi r.reverse).1, k ≠ 0 := by
    intro r
    induction r with
    | nil => exact ⟨rfl, fun k hk => (by cases hk)⟩
    | cons x r ih =>
      rw [List.reverse_cons, rnP_snoc, midN_append, List.length_cons]
      obtain ⟨⟨o, q⟩, hp⟩ : ∃ p, rnP lo hi r.reverse = p := ⟨_, rfl⟩
      rw [hp] at ih ⊢
      obtain ⟨ih1, ih2⟩ := ih
      simp only at ih1 ih2
      have hz := sdI_zero (lo := lo) (hi := hi) (x := x)
      have hc := sdI_cases lo hi x
      have e1 : midN lo hi [x] = if 2 * x = lo + hi then 1 else 0 := by unfold midN; simp
      rw [e1]
      unfold rnFc
      simp only
      obtain ⟨s, hs⟩ : ∃ s, sdI lo hi x = s := ⟨_, rfl⟩
      rw [hs] at hz hc ⊢
      by_cases h1 : 0 < s * q
      · rw [if_pos h1]
        refine ⟨?_, ih2⟩
        simp only
        rcases hc with e | e | e <;> rw [e] at h1 hz ⊢
        · rw [if_neg (fun h => by have := hz.2 h; omega)]; push_cast; omega
        · omega
        · rw [if_neg (fun h => by have := hz.2 h; omega)]; push_cast; omega
      · rw [if_neg h1]
        by_cases hq : q = 0
        · subst hq
          rw [if_neg (by simp)]
          refine ⟨?_, ih2⟩
          simp only
          rcases hc with e | e | e <;> rw [e] at hz ⊢
          · rw [if_neg (fun h => by have := hz.2 h; omega)]; push_cast; omega
          · rw [if_pos (hz.1 rfl)]; push_cast; omega
          · rw [if_neg (fun h => by have := hz.2 h; omega)]; push_cast; omega
        · rw [if_pos hq]
          refine ⟨?_, fun k hk => ?_⟩
          · simp only
            rw [absS_append]
            have e2 : absS [q] = max q (-q) := by unfold absS; simp
            rw [e2]
            rcases hc with e | e | e <;> rw [e] at hz ⊢
            · rw [if_neg (fun h => by have := hz.2 h; omega)]; push_cast; omega
            · rw [if_pos (hz.1 rfl)]; push_cast; omega
            · rw [if_neg (fun h => by have := hz.2 h; omega)]; push_cast; omega
          · rcases List.mem_append.1 hk with h2 | h2
            · exact ih2 k h2
            · rw [List.mem_singleton.1 h2]; exact hq
  have := h l.reverse
  rwa [List.reverse_reverse, List.length_reverse] at this
end Go.Proofs.YtcoombhcdcniiaaGreatDoor
namespace Go.Proofs.YtcoombhcdcniiaaGreatDoor
open Go.Lib

/-- The squares of the distances to x. -/
def dsI (x : Int) (l : List Int) : Int := l.foldr (fun y s => (x - y) * (x - y) + s) 0
theorem sq_nonneg (x : Int) : 0 ≤ x * x := by
  by_cases hx : 0 ≤ x
  · exact Int.mul_nonneg hx hx
  · rw [← Int.neg_mul_neg]; exact Int.mul_nonneg (by omega) (by omega)
theorem dsI_nonneg (x : Int) (l : List Int) : 0 ≤ dsI x l := by
  induction l with
  | nil => exact Int.le_refl _
  | cons y l ih =>
    show 0 ≤ (x - y) * (x - y) + dsI x l
    have := sq_nonneg (x - y)
    omega
theorem dsI_zero {x : Int} {l : List Int} (h : dsI x l = 0) : ∀ y ∈ l, y = x := by
  induction l with
  | nil => intro y hy; cases hy
  | cons z l ih =>
    have h' : (x - z) * (x - z) + dsI x l = 0 := h
    have h1 := sq_nonneg (x - z)
    have h2 := dsI_nonneg x l
    intro y hy
    rcases List.mem_cons.1 hy with rfl | hy
    · have h3 : (x - y) * (x - y) = 0 := by omega
      rcases Int.mul_eq_zero.1 h3 with h4 | h4 <;> omega
    · exact ih (by omega) y hy
theorem dsI_eq (x : Int) (l : List Int) : dsI x l = (l.length : Int) * (x * x) - 2 * x * sumI l + sqI l := by
  induction l with
  | nil => simp [dsI, sumI, sqI]
  | cons y l ih =>
    show (x - y) * (x - y) + dsI x l = _
    rw [ih, sumI_cons, sqI_cons, List.length_cons]
    push_cast
    grind
/-- n times the sum of the squares, less the square of the sum. -/
def csI (l : List Int) : Int := (l.length : Int) * sqI l - sumI l * sumI l
theorem csI_cons (x : Int) (l : List Int) : csI (x :: l) = csI l + dsI x l := by
  unfold csI
  rw [dsI_eq, sumI_cons, sqI_cons, List.length_cons]
  push_cast
  grind
theorem csI_nonneg (l : List Int) : 0 ≤ csI l := by
  induction l with
  | nil => exact Int.le_refl _
  | cons x l ih => rw [csI_cons]; have := dsI_nonneg x l; omega
theorem csI_zero {l : List Int} : csI l = 0 ↔ ∀ x ∈ l, ∀ y ∈ l, x = y := by
  induction l with
  | nil => exact ⟨fun _ x hx => (by cases hx), fun _ => rfl⟩
  | cons x l ih =>
    have h1 := csI_nonneg l
    have h2 := dsI_nonneg x l
    rw [csI_cons]
    constructor
    · intro h
      have h3 := dsI_zero (x := x) (l := l) (by omega)
      have key : ∀ y ∈ x :: l, y = x := fun y hy => by
        rcases List.mem_cons.1 hy with rfl | hy
        · rfl
        · exact h3 y hy
      intro a ha b hb
      rw [key a ha, key b hb]
    · intro h
      have h3 : csI l = 0 := ih.2 (fun a ha b hb => h a (List.mem_cons_of_mem _ ha) b (List.mem_cons_of_mem _ hb))
      have h4 : dsI x l = 0 := by
        have key : ∀ y ∈ l, y = x := fun y hy => h y (List.mem_cons_of_mem _ hy) x List.mem_cons_self
        clear h ih h1 h2 h3
        induction l with
        | nil => rfl
        | cons y l ih =>
          show (x - y) * (x - y) + dsI x l = 0
          rw [ih (fun z hz => key z (List.mem_cons_of_mem _ hz)), key y List.mem_cons_self]; simp
      omega
theorem len2_pos {l : List Int} (h : 2 ≤ l.length) : 0 < (l.length : Int) * ((l.length : Int) - 1) := Int.mul_pos (by omega) (by omega)
theorem varS_pos {l : List Int} (h : 2 ≤ l.length) (hv : ∃ x ∈ l, ∃ y ∈ l, x ≠ y) : 0 < varS l := by
  have hne : csI l ≠ 0 := fun e => by
    obtain ⟨x, hx, y, hy, hxy⟩ := hv
    exact hxy (csI_zero.1 e x hx y hy)
  have hp : 0 < csI l := by have := csI_nonneg l; omega
  unfold varS
  rw [Rat.divInt_eq_div, Rat.lt_div_iff (Rat.intCast_pos.2 (len2_pos h)), Rat.zero_mul]
  exact Rat.intCast_pos.2 hp
theorem varS_zero {l : List Int} (h : 2 ≤ l.length) : varS l = 0 ↔ ∀ x ∈ l, ∀ y ∈ l, x = y := by
  constructor
  · intro h0 x hx y hy
    apply Classical.byContradiction
    intro hne
    have := varS_pos h ⟨x, hx, y, hy, hne⟩
    rw [h0] at this
    exact Rat.lt_irrefl this
  · intro h1
    have h2 : csI l = 0 := csI_zero.2 h1
    unfold varS
    show Rat.divInt (csI l) _ = 0
    rw [h2, Rat.zero_divInt]
/-! ### the two capabilities -/
def capS (l : List Int) (lo hi : Int) : Rat := ((hi - lo : Int) : Rat) * ((hi - lo : Int) : Rat) / (36 * varS l)
/-- The distance of the mean to the limits, times the number of values. -/
def farI (l : List Int) (lo hi : Int) : Int := min ((l.length : Int) * hi - sumI l) (sumI l - (l.length : Int) * lo)
def farS (l : List Int) (lo hi : Int) : Rat := Rat.divInt (farI l lo hi) l.length
def cenS (l : List Int) (lo hi : Int) : Rat := farS l lo hi * farS l lo hi / (9 * varS l)
theorem mean_lt {l : List Int} (h : 0 < l.length) (z : Int) : (meanS l < (z : Rat) ↔ sumI l < (l.length : Int) * z) ∧ ((z : Rat) < meanS l ↔ (l.length : Int) * z < sumI l) := by
  rw [meanS_eq]
  have hp : (0 : Rat) < (l.length : Rat) := Rat.natCast_pos.2 h
  constructor
  · rw [Rat.div_lt_iff hp, Int.mul_comm]
    have e : (z : Rat) * (l.length : Rat) = ((z * (l.length : Int) : Int) : Rat) := by rw [Rat.intCast_mul]; rfl
    rw [e, Rat.intCast_lt_intCast]
  · rw [Rat.lt_div_iff hp, Int.mul_comm]
    have e : (z : Rat) * (l.length : Rat) = ((z * (l.length : Int) : Int) : Rat) := by rw [Rat.intCast_mul]; rfl
    rw [e, Rat.intCast_lt_intCast]
theorem far_sign {l : List Int} (h : 0 < l.length) (lo hi : Int) : (0 < farI l lo hi ↔ (lo : Rat) < meanS l ∧ meanS l < (hi : Rat)) ∧ (farI l lo hi < 0 ↔ meanS l < (lo : Rat) ∨ (hi : Rat) < meanS l) := by
  rw [(mean_lt h lo).1, (mean_lt h lo).2, (mean_lt h hi).1, (mean_lt h hi).2]
  unfold farI
  constructor <;> omega
theorem far_eq {l : List Int} (h : 0 < l.length) (lo hi : Int) : farS l lo hi = min ((hi : Rat) - meanS l) (meanS l - (lo : Rat)) := by
  have hp : (l.length : Rat) ≠ 0 := fun e => by
    have := Rat.natCast_inj.1 (show (l.length : Rat) = ((0 : Nat) : Rat) from e)
    omega
  have e1 : (hi : Rat) - meanS l = Rat.divInt ((l.length : Int) * hi - sumI l) l.length := by
    rw [meanS_eq, Rat.divInt_eq_div, Rat.intCast_sub, Rat.intCast_mul]
    have en : (((l.length : Nat) : Int) : Rat) = (l.length : Rat) := rfl
    rw [en]
    grind
  have e2 : meanS l - (lo : Rat) = Rat.divInt (sumI l - (l.length : Int) * lo) l.length := by
    rw [meanS_eq, Rat.divInt_eq_div, Rat.intCast_sub, Rat.intCast_mul]
    have en : (((l.length : Nat) : Int) : Rat) = (l.length : Rat) := rfl
    rw [en]
    grind
  have hpos : (0 : Rat) < (l.length : Rat) := Rat.natCast_pos.2 h
  have hle : (hi : Rat) - meanS l ≤ meanS l - (lo : Rat) ↔ (l.length : Int) * hi - sumI l ≤ sumI l - (l.length : Int) * lo := by
    have h1 := (mean_lt h hi)
    rw [e1, e2, Rat.divInt_eq_div, Rat.divInt_eq_div]
    have en : (((l.length : Nat) : Int) : Rat) = (l.length : Rat) := rfl
    rw [en, ← Rat.not_lt, ← Rat.not_lt.trans Rat.intCast_le_intCast, Rat.div_lt_iff hpos]
    rw [Rat.div_mul_cancel hp]
  unfold farS farI
  by_cases hc : (l.length : Int) * hi - sumI l ≤ sumI l - (l.length : Int) * lo
  · rw [Int.min_eq_left hc, ← e1]
    exact (if_pos (hle.2 hc)).symm
  · rw [Int.min_eq_right (by omega), ← e2]
    exact (if_neg (fun h => hc (hle.1 h))).symm
/-- The centered capability is at most the capability, and is it just in the middle. -/
theorem cen_cap {l : List Int} (h : 2 ≤ l.length) (hv : 0 < varS l) (lo hi : Int) (h0 : 0 ≤ farI l lo hi) : cenS l lo hi ≤ capS l lo hi ∧ (cenS l lo hi = capS l lo hi ↔ meanS l = ((lo + hi : Int) : Rat) / 2) := by
  have hl : 0 < l.length := by omega
  have hf := far_eq hl lo hi
  obtain ⟨m, hm⟩ : ∃ m, meanS l = m := ⟨_, rfl⟩
  obtain ⟨L, hL⟩ : ∃ m : Rat, (lo : Rat) = m := ⟨_, rfl⟩
  obtain ⟨H, hH⟩ : ∃ m : Rat, (hi : Rat) = m := ⟨_, rfl⟩
  obtain ⟨v, hvv⟩ : ∃ v, varS l = v := ⟨_, rfl⟩
  obtain ⟨f, hff⟩ : ∃ v, farS l lo hi = v := ⟨_, rfl⟩
  have hf0 : 0 ≤ f := by
    rw [← hff]
    unfold farS
    exact Rat.divInt_nonneg h0 (by omega)
  unfold cenS capS
  rw [Rat.intCast_sub, Rat.intCast_add, hm, hL, hH, hvv, hff]
  rw [hff, hm, hL, hH] at hf
  rw [hvv] at hv
  have hv0 : v ≠ 0 := fun e => by rw [e] at hv; exact Rat.lt_irrefl hv
  have ha : f ≤ H - m ∧ f ≤ m - L ∧ (f = H - m ∨ f = m - L) := by
    rw [hf]
    by_cases hc : H - m ≤ m - L
    · have e : min (H - m) (m - L) = H - m := if_pos hc
      rw [e]; exact ⟨Rat.le_refl, hc, .inl rfl⟩
    · have e : min (H - m) (m - L) = m - L := if_neg hc
      rw [e]; exact ⟨by rcases Rat.le_total (a := H - m) (b := m - L) with h1 | h1; exact absurd h1 hc; exact h1, Rat.le_refl, .inr rfl⟩
  clear hf hm hL hH hvv hff h0 hl h
  obtain ⟨ha1, ha2, ha3⟩ := ha
  have e1 : f * f / (9 * v) = (4 * (f * f)) / (36 * v) := by grind
  have hpos : 0 < 36 * v := Rat.mul_pos (by decide) hv
  rw [e1]
  have hd : 2 * f ≤ H - L := by grind
  have hsq : (H - L) * (H - L) - 4 * (f * f) = (H - L - 2 * f) * (H - L + 2 * f) := by grind
  have hs2 : 0 ≤ H - L - 2 * f := by grind
  have hs3 : 0 ≤ H - L + 2 * f := by grind
  have hnn : 0 ≤ (H - L) * (H - L) - 4 * (f * f) := by rw [hsq]; exact Rat.mul_nonneg hs2 hs3
  have hdiff : (H - L) * (H - L) / (36 * v) - 4 * (f * f) / (36 * v) = ((H - L) * (H - L) - 4 * (f * f)) * (36 * v)⁻¹ := by grind
  have hinv : 0 < (36 * v)⁻¹ := Rat.inv_pos.2 hpos
  constructor
  · rw [Rat.le_iff_sub_nonneg, hdiff]
    exact Rat.mul_nonneg hnn (Rat.le_of_lt hinv)
  · constructor
    · intro he
      have h1 : ((H - L) * (H - L) - 4 * (f * f)) * (36 * v)⁻¹ = 0 := by rw [← hdiff, he]; grind
      rcases Rat.mul_eq_zero.1 h1 with h2 | h2
      · rw [hsq] at h2
        rcases Rat.mul_eq_zero.1 h2 with h3 | h3
        · grind
        · grind
      · rw [h2] at hinv; exact absurd hinv Rat.lt_irrefl
    · intro he
      have h1 : H - m = m - L := by rw [he]; grind
      have h2 : 2 * f = H - L := by grind
      have h3 : 4 * (f * f) = (H - L) * (H - L) := by grind
      rw [h3]
end Go.Proofs.YtcoombhcdcniiaaGreatDoor
namespace Go.Proofs.YtcoombhcdcniiaaGreatDoor
open Go.Lib

/-- Numbers with the same words above a place are ordered by the word there. -/
theorem word_order {x y i : Nat} (h : x / bB ^ (i + 1) = y / bB ^ (i + 1)) (hw : wd x i < wd y i) : x < y := by
  have h1 := two_parts x i
  have h2 := two_parts y i
  rw [h] at h1
  have hx := Nat.mod_lt x (bB_pos i)
  obtain ⟨P, hP⟩ : ∃ P, bB ^ i = P := ⟨_, rfl⟩
  rw [hP] at h1 h2 hx
  have : (wd x i + 1) * P ≤ wd y i * P := Nat.mul_le_mul_right _ hw
  rw [Nat.add_mul, Nat.one_mul] at this
  omega
where
  two_parts (x i : Nat) : x = x / bB ^ (i + 1) * bB ^ (i + 1) + wd x i * bB ^ i + x % bB ^ i := by
    have h1 := div_join x (i + 1)
    rw [mod_succ] at h1
    omega
theorem word_eq {x y i : Nat} (h : x / bB ^ (i + 1) = y / bB ^ (i + 1)) (hw : wd x i = wd y i) : x / bB ^ i = y / bB ^ i := by
  have e : ∀ z, z / bB ^ i = z / bB ^ (i + 1) * bB + wd z i := fun z => by
    have h1 : z / bB ^ i / bB = z / bB ^ (i + 1) := by rw [Nat.div_div_eq_div_mul, Nat.pow_succ]
    unfold wd
    have := Nat.div_add_mod (z / bB ^ i) bB
    rw [h1, Nat.mul_comm] at this
    exact this.symm
  rw [e x, e y, h, hw]
theorem nw_order {x y : Nat} (h : nw x < nw y) : x < y := by
  apply Classical.byContradiction
  intro hn
  have h1 : y < bB ^ nw x := Nat.lt_of_le_of_lt (by omega) (lt_nw x)
  have := (nw_le _ _).2 h1
  omega
theorem top_eq {x y : Nat} (h : nw x = nw y) : x / bB ^ nw x = y / bB ^ nw x := by
  rw [Nat.div_eq_of_lt (lt_nw x), Nat.div_eq_of_lt (by rw [h]; exact lt_nw y)]
/-- A number of at most n words has zeros from there on; one with zeros from n on has at most n words. -/
theorem nw_of_zeros {v n : Nat} (h : ∀ i, n ≤ i → i < nw v → wd v i = 0) : nw v ≤ n := by
  apply Classical.byContradiction
  intro hn
  by_cases h0 : v = 0
  · subst h0; rw [nw_zero] at hn; omega
  · exact wd_top h0 (h _ (by omega) (by omega))
/-- The number with these words. -/
def vwd (f : Nat → Nat) : Nat → Nat
  | 0 => 0
  | n + 1 => vwd f n + f n * bB ^ n
theorem vwd_lt {f : Nat → Nat} {n : Nat} (h : ∀ i, i < n → f i < bB) : vwd f n < bB ^ n := by
  induction n with
  | zero => simp [vwd]
  | succ n ih =>
    have h1 := ih (fun i hi => h i (by omega))
    have h2 := h n (by omega)
    rw [vwd, Nat.pow_succ, Nat.mul_comm (bB ^ n)]
    have : (f n + 1) * bB ^ n ≤ bB * bB ^ n := Nat.mul_le_mul_right _ h2
    rw [Nat.add_mul, Nat.one_mul] at this
    omega
theorem wd_vwd {f : Nat → Nat} {n : Nat} (h : ∀ i, i < n → f i < bB) : ∀ i, i < n → wd (vwd f n) i = f i := by
  induction n with
  | zero => intro i hi; omega
  | succ n ih =>
    intro i hi
    have h1 := vwd_lt (f := f) (n := n) (fun i hi => h i (by omega))
    rw [vwd, wd_join h1]
    by_cases e : i < n
    · rw [if_pos e]; exact ih (fun i hi => h i (by omega)) i e
    · obtain rfl : i = n := by omega
      rw [if_neg e, Nat.sub_self, wd_zero, Nat.mod_eq_of_lt (h i hi)]
/-- A shift by one word. -/
theorem shift_word {r x j : Nat} (hx : x < bB) : wd (r * bB + x) j = if j = 0 then x else wd r (j - 1) := by
  cases j with
  | zero => rw [if_pos rfl, wd_zero, Nat.mul_comm, Nat.mul_add_mod, Nat.mod_eq_of_lt hx]
  | succ j =>
    rw [if_neg (by omega), Nat.add_sub_cancel, wd_succ]
    congr 1
    rw [Nat.mul_comm, Nat.mul_add_div (by decide), Nat.div_eq_of_lt hx]; rfl
theorem nw_shift {r x : Nat} (hx : x < bB) : nw (r * bB + x) ≤ nw r + 1 := by
  rw [nw_le, Nat.pow_succ]
  have h := lt_nw r
  have : (r + 1) * bB ≤ bB ^ nw r * bB := Nat.mul_le_mul_right _ h
  rw [Nat.add_mul, Nat.one_mul] at this
  omega
theorem nw_mul (x y : Nat) : nw (x * y) ≤ nw x + nw y := by
  rw [nw_le, Nat.pow_add]
  exact Nat.mul_lt_mul'' (lt_nw x) (lt_nw y)
theorem nw_mono {x y : Nat} (h : x ≤ y) : nw x ≤ nw y := (nw_le _ _).2 (Nat.lt_of_le_of_lt h (lt_nw y))
theorem nw_add (x y : Nat) : nw (x + y) ≤ max (nw x) (nw y) + 1 := by
  rw [nw_le, Nat.pow_succ]
  have h1 := lt_nw x
  have h2 := lt_nw y
  have e1 : bB ^ nw x ≤ bB ^ max (nw x) (nw y) := Nat.pow_le_pow_right (by decide) (Nat.le_max_left _ _)
  have e2 : bB ^ nw y ≤ bB ^ max (nw x) (nw y) := Nat.pow_le_pow_right (by decide) (Nat.le_max_right _ _)
  obtain ⟨P, hP⟩ : ∃ P, bB ^ max (nw x) (nw y) = P := ⟨_, rfl⟩
  rw [hP] at e1 e2 ⊢
  have : P * 2 ≤ P * bB := Nat.mul_le_mul_left _ (by decide)
  omega
/-- A number of at most 1024 digits has at most 114 words. -/
theorem nw_digits {v k : Nat} (h : v < 10 ^ (9 * k)) : nw v ≤ k := by
  rw [nw_le, ← pow9, ← Nat.pow_mul]
  exact h
end Go.Proofs.YtcoombhcdcniiaaGreatDoor
namespace Go.Proofs.YtcoombhcdcniiaaGreatDoor
open Go.Lib

/-- The digits made so far, the number that is left. -/
structure OfI (n m : Nat) (s : List UInt8) : Prop where
  dgs : Dgs s
  eq : n = m * 10 ^ s.length + dv s
  pos : s ≠ [] → 0 < m
theorem OfI.start (n : Nat) : OfI n n [] := ⟨Dgs.nil, by simp [dv_nil], fun h => absurd rfl h⟩
theorem OfI.step {n m : Nat} {s : List UInt8} (h : OfI n m s) (hm : 9 < m) : OfI n (m / 10) (UInt8.ofNat (48 + m % 10) :: s) := by
  have hv : (UInt8.ofNat (48 + m % 10)).toNat = 48 + m % 10 := ofNat_val (by omega)
  refine ⟨fun c hc => ?_, ?_, fun _ => by omega⟩
  · rcases List.mem_cons.1 hc with rfl | hc
    · rw [hv]; omega
    · exact h.dgs c hc
  · rw [dv_cons, hv, List.length_cons, Nat.pow_succ, h.eq]
    have e : m = m / 10 * 10 + m % 10 := by omega
    obtain ⟨q, hq⟩ : ∃ q, m / 10 = q := ⟨_, rfl⟩
    obtain ⟨r, hr⟩ : ∃ q, m % 10 = q := ⟨_, rfl⟩
    rw [hq, hr] at e ⊢
    rw [show 48 + r - 48 = r from by omega, e]
    grind
theorem OfI.done {n m : Nat} {s : List UInt8} (h : OfI n m s) (hm : m ≤ 9) : UInt8.ofNat (48 + m) :: s = decDigits n := by
  have hv : (UInt8.ofNat (48 + m)).toNat = 48 + m := ofNat_val (by omega)
  refine can_eq ⟨fun c hc => ?_, by simp, fun h48 => ?_⟩ (can_dec n) ?_
  · rcases List.mem_cons.1 hc with rfl | hc
    · rw [hv]; omega
    · exact h.dgs c hc
  · have h1 : UInt8.ofNat (48 + m) = 48 := by simpa using h48
    have h2 := congrArg UInt8.toNat h1
    rw [hv] at h2
    have e : (48 : UInt8).toNat = 48 := rfl
    have hm0 : m = 0 := by omega
    have hs : s = [] := by
      apply Classical.byContradiction
      intro hne
      have := h.pos hne
      omega
    subst hm0 hs
    rfl
  · rw [dv_cons, hv, dv_dec, h.eq, show 48 + m - 48 = m from by omega]
/-- How many digits a number has. -/
def lenI (n : Int) : Nat := (decDigits n.natAbs).length
theorem lenI_le {n : Int} {k : Nat} (hk : 0 < k) : lenI n ≤ k ↔ n.natAbs < 10 ^ k := dec_len hk
theorem itoa_len (n : Int) : (itoa n).length = lenI n + (if n < 0 then 1 else 0) := by
  unfold lenI
  rw [itoa_split, List.length_append]
  unfold sgn
  split <;> simp <;> omega
theorem lenI_pos (n : Int) : 0 < lenI n := List.length_pos_iff.2 (dec_ne _)
/-- The digits of a number with a sign. -/
def bodyL (l : List UInt8) : List UInt8 := if l.head? = some 45 then l.tail else l
theorem body_itoa (n : Int) : bodyL (itoa n) = decDigits n.natAbs := by
  unfold bodyL
  by_cases h : n < 0
  · rw [itoa_below h]; simp
  · rw [itoa_pos (by omega), if_neg, show n.toNat = n.natAbs from by omega]
    intro e
    obtain ⟨c, r, hc⟩ : ∃ c r, decDigits n.toNat = c :: r := by
      cases hd : decDigits n.toNat with
      | nil => exact absurd hd (dec_ne _)
      | cons c r => exact ⟨c, r, rfl⟩
    rw [hc] at e
    have : c = 45 := by simpa using e
    rw [this] at hc
    exact dec_no45 _ _ hc
theorem below_itoa (n : Int) : (itoa n).head? = some 45 ↔ n < 0 := by
  by_cases h : n < 0
  · rw [itoa_below h]; simp [h]
  · rw [itoa_pos (by omega)]
    simp only [h, iff_false]
    intro e
    cases hd : decDigits n.toNat with
    | nil => exact absurd hd (dec_ne _)
    | cons c r =>
      rw [hd] at e
      have : c = 45 := by simpa using e
      rw [this] at hd
      exact dec_no45 _ _ hd
/-- Digits with a sign: the number. -/
theorem signed_dec (v : Nat) (s : Bool) : (if s = true ∧ decDigits v ≠ [48] then 45 :: decDigits v else decDigits v) = itoa (sV s v) := by
  rw [itoa_sV]
  have h0 : decDigits v = [48] ↔ v = 0 := by rw [← dec_zero]; exact ⟨dec_inj, fun h => by rw [h]⟩
  by_cases hs : s = true
  · by_cases hv : v = 0
    · rw [if_neg (fun h => h.2 (h0.2 hv)), if_neg (by simp [hv])]; rfl
    · rw [if_pos ⟨hs, fun h => hv (h0.1 h)⟩, if_pos ⟨hs, hv⟩]; rfl
  · rw [if_neg (fun h => hs h.1), if_neg (fun h => hs h.1)]; rfl
theorem sV_neg (s : Bool) (v : Nat) : sV (!s) v = -sV s v := by unfold sV; cases s <;> simp
end Go.Proofs.YtcoombhcdcniiaaGreatDoor
