/- Right series; the law Centers of layer 57. (Printed by gen_law57b.py.) The law Centers of layer 57. (Printed by gen_centers.py.) Counts of a series in limits, quantiles of its distribution and its median: what TopSeriesCounts compares. No program in sight. -/
import Derived.Test.YtcmhompbdanpdaaGreatDoorYp
import Derived.Test.YtcmhompbdanpdaaGreatDoorMve
namespace Go.Proofs.YtcmhompbdanpdaaGreatDoor
open Go.RowKit

def bigI (n : Int) : Bool := decide (n < -8000) || decide (8000 < n)
def rgS (l : List Int) : Bool := decide (1 < l.length) && decide (l.length ≤ 20) && !l.any bigI
theorem rgS_ok {l : List Int} (h : rgS l = true) : 2 ≤ l.length ∧ l.length ≤ 20 ∧ ∀ x ∈ l, -8000 ≤ x ∧ x ≤ 8000 := by
  unfold rgS at h
  simp only [Bool.and_eq_true, decide_eq_true_eq, Bool.not_eq_true'] at h
  obtain ⟨⟨h1, h2⟩, h3⟩ := h
  refine ⟨by omega, h2, fun x hx => ?_⟩
  have := List.any_eq_false.1 h3 x hx
  unfold bigI at this
  simp at this
  omega
theorem rgS_srs {l : List Int} (h : rgS l = true) : Srs l := by
  obtain ⟨h1, h2, h3⟩ := rgS_ok h
  exact ⟨by omega, by omega, fun x hx => by have := h3 x hx; omega, fun x hx => by have := h3 x hx; omega⟩
theorem rgS_ck {l : List Int} (h : rgS l = true) : ckSr l = 0 ∧ vrE l = 0 := by
  obtain ⟨h1, h2, h3⟩ := rgS_ok h
  have h4 : ckSr l = 0 := ckSr_zero.2 ⟨by omega, by omega, fun x hx => by have := h3 x hx; omega⟩
  exact ⟨h4, by unfold vrE; rw [if_pos h4, if_neg (by omega)]⟩
theorem cmpI_cases (m n : Int) : cmpI m n = -1 ∨ cmpI m n = 0 ∨ cmpI m n = 1 := by
  unfold cmpI; split
  · exact .inl rfl
  · split
    · exact .inr (.inr rfl)
    · exact .inr (.inl rfl)
theorem cmpR_cases (p q : Rat) : cmpR p q = -1 ∨ cmpR p q = 0 ∨ cmpR p q = 1 := by
  unfold cmpR; split
  · exact .inl rfl
  · split
    · exact .inr (.inr rfl)
    · exact .inr (.inl rfl)
theorem cmpR_pos {p q : Rat} : cmpR p q = 1 ↔ q < p := by
  unfold cmpR
  by_cases h : p < q
  · rw [if_pos h]; exact ⟨fun h3 => absurd h3 (by decide), fun h3 => absurd (Rat.le_of_lt h3) (Rat.not_le.2 h)⟩
  · rw [if_neg h]
    by_cases h2 : q < p
    · rw [if_pos h2]; exact ⟨fun _ => h2, fun _ => rfl⟩
    · rw [if_neg h2]; exact ⟨fun h3 => absurd h3 (by decide), fun h3 => absurd h3 h2⟩
theorem cmpR_minus {p q : Rat} : cmpR p q = -1 ↔ p < q := by
  rcases cmpR_cases p q with e | e | e <;> have := @cmpR_neg p q <;> rw [e] at this ⊢
  · exact ⟨fun _ => this.1 (by decide), fun _ => rfl⟩
  · exact ⟨fun h => absurd h (by decide), fun h => absurd (this.2 h) (by decide)⟩
  · exact ⟨fun h => absurd h (by decide), fun h => absurd (this.2 h) (by decide)⟩
theorem cmpR_zero {p q : Rat} : cmpR p q = 0 ↔ p = q := by
  constructor
  · intro h
    have h1 : ¬ p < q := fun e => by rw [cmpR_minus.2 e] at h; exact absurd h (by decide)
    have h2 : ¬ q < p := fun e => by rw [cmpR_pos.2 e] at h; exact absurd h (by decide)
    exact Rat.le_antisymm (Rat.not_lt.1 h2) (Rat.not_lt.1 h1)
  · rintro rfl
    unfold cmpR; rw [if_neg Rat.lt_irrefl, if_neg Rat.lt_irrefl]
theorem cmpI_one {m n : Int} : (cmpI m n = 1 ↔ n < m) ∧ (cmpI m n = -1 ↔ m < n) := by
  unfold cmpI
  by_cases h : m < n
  · rw [if_pos h]; exact ⟨⟨fun h => absurd h (by decide), fun h2 => by omega⟩, ⟨fun _ => h, fun _ => rfl⟩⟩
  · rw [if_neg h]
    by_cases h2 : n < m
    · rw [if_pos h2]; exact ⟨⟨fun _ => h2, fun _ => rfl⟩, ⟨fun h => absurd h (by decide), fun h3 => absurd h3 h⟩⟩
    · rw [if_neg h2]; exact ⟨⟨fun h => absurd h (by decide), fun h3 => absurd h3 h2⟩, ⟨fun h => absurd h (by decide), fun h3 => absurd h3 h⟩⟩
/-- What the law Centers says of the comparisons. -/
theorem centers {l : List Int} (h : rgS l = true) (hv : varS l ≠ 0) {lo hi s lw hg mid n : Int} (hs : s = cmpI (farI l lo hi) 0) (hlw : lw = cmpR (meanS l) (lo : Rat)) (hhg : hg = cmpR (meanS l) (hi : Rat)) (hmid : mid = cmpR (meanS l) (((lo + hi : Int) : Rat) / 2)) (hn : n = cmpR (cenS l lo hi) (capS l lo hi)) :
    (s = 1 ↔ lw = 1 ∧ hg = -1) ∧ (s = -1 ↔ lw = -1 ∨ hg = 1) ∧ (s ≠ -1 → n ≠ 1 ∧ (n = 0 ↔ mid = 0)) ∧ (s = -1 ∨ s = 0 ∨ s = 1) ∧ (lw = -1 ∨ lw = 0 ∨ lw = 1) ∧ (hg = -1 ∨ hg = 0 ∨ hg = 1) ∧ (mid = -1 ∨ mid = 0 ∨ mid = 1) ∧ (n = -1 ∨ n = 0 ∨ n = 1) := by
  obtain ⟨h1, h2, h3⟩ := rgS_ok h
  obtain ⟨f1, f2⟩ := far_sign (l := l) (by omega) lo hi
  have hpos : 0 < varS l := by
    by_cases hne : ∃ x ∈ l, ∃ y ∈ l, x ≠ y
    · exact varS_pos h1 hne
    · refine absurd ((varS_zero h1).2 fun x hx y hy => ?_) hv
      by_cases e : x = y
      · exact e
      · exact absurd ⟨x, hx, y, hy, e⟩ hne
  subst hs hlw hhg hmid hn
  refine ⟨?_, ?_, fun hs => ?_, cmpI_cases _ _, cmpR_cases _ _, cmpR_cases _ _, cmpR_cases _ _, cmpR_cases _ _⟩
  · rw [cmpI_one.1, cmpR_pos, cmpR_minus]; exact f1
  · rw [cmpI_one.2, cmpR_minus, cmpR_pos]; exact f2
  · have h0 : 0 ≤ farI l lo hi := by
      by_cases e : farI l lo hi < 0
      · exact absurd (cmpI_one.2.2 e) hs
      · omega
    obtain ⟨c1, c2⟩ := cen_cap h1 hpos lo hi h0
    refine ⟨fun e => ?_, ?_⟩
    · exact absurd (cmpR_pos.1 e) (Rat.not_lt.2 c1)
    · rw [cmpR_zero, cmpR_zero]; exact c2
theorem rat_half (n : Int) : Rat.divInt n 2 = (n : Rat) / 2 := by rw [Rat.divInt_eq_div]; rfl
end Go.Proofs.YtcmhompbdanpdaaGreatDoor
namespace Go.Proofs.YtcmhompbdanpdaaGreatDoor
open Go.RowKit

theorem SmR.div {j k : Nat} {p q : Rat} (hp : SmR j p) (hq : SmR k q) (h0 : q ≠ 0) : SmR (j + k) (p / q) := by
  rw [← rat_div p q]
  refine SmR.ofDiv ?_ ?_ ?_
  · have h1 := p.den_pos
    exact Int.mul_ne_zero (by omega) (fun e => h0 (Rat.num_eq_zero.1 e))
  · rw [Int.natAbs_mul, Nat.pow_add, Int.natAbs_natCast]; exact Nat.mul_lt_mul'' hp.1 hq.2
  · rw [Int.natAbs_mul, Nat.pow_add, Int.natAbs_natCast]; exact Nat.mul_lt_mul'' hp.2 hq.1
theorem times_ne {f : Int} {q : Rat} (hf : 0 < f) (h0 : q ≠ 0) : (f : Rat) * q ≠ 0 := fun e => by
  rcases Rat.mul_eq_zero.1 e with e | e
  · have := Rat.intCast_inj.1 (show (f : Rat) = ((0 : Int) : Rat) from e)
    omega
  · exact h0 e
theorem cap_small {l : List Int} (h : Srs l) (h2 : 2 ≤ l.length) (hv : varS l ≠ 0) {lo hi : Int} (h4 : -1048576 ≤ lo ∧ lo ≤ 1048576) (h5 : -1048576 ≤ hi ∧ hi ≤ 1048576) : SmR 60 (capS l lo hi) := by
  have s1 : SmR 10 ((hi - lo : Int) : Rat) := SmR.int (Nat.lt_of_le_of_lt (show (hi - lo).natAbs ≤ 4194304 by omega) (by decide)) (by decide)
  have s2 : SmR 10 ((36 : Int) : Rat) := SmR.int (by decide) (by decide)
  exact (s1.mul s1).div (s2.mul (varS_small h h2)) (times_ne (by decide) hv)
theorem cen_small {l : List Int} (h : Srs l) (h2 : 2 ≤ l.length) (hv : varS l ≠ 0) {lo hi : Int} (h4 : -1048576 ≤ lo ∧ lo ≤ 1048576) (h5 : -1048576 ≤ hi ∧ hi ≤ 1048576) : SmR 90 (cenS l lo hi) := by
  have s1 := (h.far h4 h5).2.2
  have s2 : SmR 10 ((9 : Int) : Rat) := SmR.int (by decide) (by decide)
  exact SmR.mono (k := 90) ((s1.mul s1).div (s2.mul (varS_small h h2)) (times_ne (f := 9) (by decide) hv)) (by decide)
theorem varS_ends {l : List Int} (h : rgS l = true) : varS l = 0 ↔ Lib.maxOf l = Lib.minOf l := by
  obtain ⟨h1, h2, h3⟩ := rgS_ok h
  rw [varS_zero h1, ← wdI_zero (show 0 < l.length by omega)]
  unfold wdI
  constructor <;> intro e <;> omega
end Go.Proofs.YtcmhompbdanpdaaGreatDoor
namespace Go.Proofs.YtcmhompbdanpdaaGreatDoor
open Go.RowKit

theorem ind_count (p : Int → Prop) [DecidablePred p] (l : List Int) : momW (fun v => if p v then 1 else 0) (serW l) = ((l.countP fun x => decide (p x) : Nat) : Int) := by
  rw [show serW l = gatW (oneW l) from rfl, momW_gat]
  induction l with
  | nil => rfl
  | cons x l ih =>
    have e : oneW (x :: l) = (x, 1) :: oneW l := rfl
    rw [e, momW_cons, ih, List.countP_cons]
    by_cases h : p x
    · simp only [if_pos h, decide_eq_true h, if_true]; push_cast; omega
    · simp only [if_neg h, decide_eq_false h]; simp
/-- The values that a histogram of three bins counts are those between its limits. -/
theorem bins_count (low w : Int) (hw : 1 ≤ w) (l : List Int) : hcN low w 3 l 1 + hcN low w 3 l 2 + hcN low w 3 l 3 = l.countP fun x => decide (low ≤ x ∧ x ≤ low + 3 * w - 1) := by
  have h : ∀ x, ((if binO low w 3 x = 1 then 1 else 0) + (if binO low w 3 x = 2 then 1 else 0) + (if binO low w 3 x = 3 then 1 else 0) : Nat) = if low ≤ x ∧ x ≤ low + 3 * w - 1 then 1 else 0 := by
    intro x
    by_cases h1 : x < low
    · rw [binO_lo h1, if_neg (by decide), if_neg (by decide), if_neg (by decide), if_neg (by omega)]
    · obtain ⟨q, hq, hb, _⟩ := binO_hi (bins := 3) (show low ≤ x by omega) hw
      rw [Int.tdiv_eq_ediv_of_nonneg (by omega)] at hq
      have hlt : (q : Int) < 3 ↔ x - low < 3 * w := by
        rw [← hq]
        exact Int.ediv_lt_iff_lt_mul (by omega)
      rw [hb]
      by_cases h2 : x ≤ low + 3 * w - 1
      · rw [if_pos (show low ≤ x ∧ x ≤ low + 3 * w - 1 from ⟨by omega, h2⟩)]
        have h3 := hlt.2 (by omega)
        have h4 : q = 0 ∨ q = 1 ∨ q = 2 := by omega
        rcases h4 with rfl | rfl | rfl <;> rfl
      · rw [if_neg (show ¬ (low ≤ x ∧ x ≤ low + 3 * w - 1) from fun h => h2 h.2)]
        have h3 : ¬ (q : Int) < 3 := fun h => by have := hlt.1 h; omega
        rw [if_neg (by omega), if_neg (by omega), if_neg (by omega)]
  induction l with
  | nil => rfl
  | cons x l ih =>
    have e : ∀ k, hcN low w 3 (x :: l) k = hcN low w 3 l k + (if binO low w 3 x = k then 1 else 0) := fun k => by
      unfold hcN
      rw [List.countP_cons]
      congr 1
      by_cases h : binO low w 3 x = k <;> simp [h]
    rw [e, e, e, List.countP_cons, ← ih]
    have := h x
    by_cases hh : low ≤ x ∧ x ≤ low + 3 * w - 1
    · rw [if_pos hh] at this
      have e3 : (if decide (low ≤ x ∧ x ≤ low + 3 * w - 1) = true then 1 else 0 : Nat) = 1 := if_pos (decide_eq_true hh)
      rw [e3]; omega
    · rw [if_neg hh] at this
      have e3 : (if decide (low ≤ x ∧ x ≤ low + 3 * w - 1) = true then 1 else 0 : Nat) = 0 := if_neg (by rw [decide_eq_false hh]; decide)
      rw [e3]; omega
theorem countP_all {p : Int → Bool} {l : List Int} (h : ∀ x ∈ l, p x = true) : l.countP p = l.length := List.countP_eq_length.2 h
theorem countP_none {p : Int → Bool} {l : List Int} (h : ∀ x ∈ l, p x = false) : l.countP p = 0 := List.countP_eq_zero.2 fun x hx => by rw [h x hx]; decide
/-- More than k values are at most v just if the k-th in order is. -/
theorem cnt_sorted {l : List Int} {k : Nat} (hk : k < l.length) (v : Int) : k + 1 ≤ (l.countP fun x => decide (x ≤ v)) ↔ at0 (sortL l) k ≤ v := by
  have hl : (sortL l).length = l.length := sortL_length l
  rw [← (sortL_perm l).countP_eq]
  obtain ⟨s, hs⟩ : ∃ s, sortL l = s := ⟨_, rfl⟩
  have hu := sortL_up l
  rw [hs] at hu hl ⊢
  have hks : k < s.length := by omega
  have e1 : at0 s k = s[k] := at0_get hks
  rw [e1]
  have hcut : s = s.take k ++ s[k] :: s.drop (k + 1) := by
    rw [← List.drop_eq_getElem_cons hks, List.take_append_drop]
  obtain ⟨y, hy⟩ : ∃ y, s[k] = y := ⟨_, rfl⟩
  rw [hy] at hcut ⊢
  obtain ⟨A, hA⟩ : ∃ A, s.take k = A := ⟨_, rfl⟩
  obtain ⟨B, hB⟩ : ∃ B, s.drop (k + 1) = B := ⟨_, rfl⟩
  have hAl : A.length = k := by rw [← hA, List.length_take]; omega
  rw [hA, hB] at hcut
  rw [hcut] at hu ⊢
  obtain ⟨_, u2, u3⟩ := List.pairwise_append.1 hu
  obtain ⟨u4, _⟩ := List.pairwise_cons.1 u2
  rw [List.countP_append, List.countP_cons]
  by_cases h : y ≤ v
  · rw [countP_all (l := A) fun x hx => by simpa using Int.le_trans (u3 x hx y List.mem_cons_self) h, if_pos (by simpa using h)]
    exact ⟨fun _ => h, fun _ => by omega⟩
  · rw [countP_none (l := B) fun x hx => by have := u4 x hx; simpa using (by omega : v < x), if_neg (by simpa using h)]
    have := List.countP_le_length (p := fun x => decide (x ≤ v)) (l := A)
    exact ⟨fun h2 => by omega, fun h2 => absurd h2 h⟩
/-- The first value from which on something holds. -/
theorem first_key {d : List Wt} {t : Int} (hu : UpW d) (ht : ∃ x ∈ d, x.1 = t) : ∃ y, d.find? (fun x => decide (t ≤ x.1)) = some y ∧ y.1 = t := by
  induction d with
  | nil => obtain ⟨x, hx, _⟩ := ht; cases hx
  | cons y d ih =>
    obtain ⟨h1, h2⟩ := List.pairwise_cons.1 hu
    obtain ⟨x, hx, e⟩ := ht
    rw [List.find?_cons]
    by_cases c : t ≤ y.1
    · rw [decide_eq_true c]
      refine ⟨y, rfl, ?_⟩
      rcases List.mem_cons.1 hx with rfl | hx
      · exact e
      · have := h1 x hx; omega
    · rw [decide_eq_false c]
      rcases List.mem_cons.1 hx with rfl | hx
      · omega
      · exact ih h2 ⟨x, hx, e⟩
theorem ser_key {l : List Int} {n : Int} : (∃ x ∈ serW l, x.1 = n) ↔ n ∈ l := by
  rw [show serW l = gatW (oneW l) from rfl, (gatW_spec _).2.2]
  unfold oneW
  constructor
  · rintro ⟨x, hx, e⟩
    obtain ⟨m, hm, rfl⟩ := List.mem_map.1 hx
    rw [← e]; exact hm
  · intro h; exact ⟨(n, 1), List.mem_map.2 ⟨n, h, rfl⟩, rfl⟩
/-- The probability of the values up to v. -/
theorem ser_prob {l : List Int} {lo v : Int} (h : ∀ x ∈ l, lo ≤ x) : probW (serW l) lo v = Rat.divInt ((l.countP fun x => decide (x ≤ v) : Nat) : Int) l.length := by
  unfold probW
  rw [(ser_mom l).1, ind_count (fun x => lo ≤ x ∧ x ≤ v)]
  congr 2
  refine List.countP_congr fun x hx => ?_
  have := h x hx
  simp [this]
/-- At least the share (k + 1) / n of the values up to v, just if the k-th value in order is at most v. -/
theorem ser_share {l : List Int} {lo v : Int} {k : Nat} (h : ∀ x ∈ l, lo ≤ x) (hk : k < l.length) : Rat.divInt ((k + 1 : Nat) : Int) l.length ≤ probW (serW l) lo v ↔ at0 (sortL l) k ≤ v := by
  rw [ser_prob h, ← cnt_sorted hk v, Rat.divInt_eq_div, Rat.divInt_eq_div, Rat.div_def, Rat.div_def]
  have hn : (0 : Rat) < ((l.length : Int) : Rat) := Rat.intCast_pos.2 (by omega)
  have hi := Rat.inv_pos.2 hn
  constructor
  · intro h2
    by_cases c : k + 1 ≤ l.countP fun x => decide (x ≤ v)
    · exact c
    · have c2 : ((l.countP fun x => decide (x ≤ v) : Nat) : Int) < ((k + 1 : Nat) : Int) := by omega
      have := Rat.mul_lt_mul_of_pos_right (Rat.intCast_lt_intCast.2 c2) hi
      exact absurd h2 (Rat.not_le.2 this)
  · intro h2
    have c2 : ((k + 1 : Nat) : Int) ≤ ((l.countP fun x => decide (x ≤ v) : Nat) : Int) := by omega
    exact Rat.mul_le_mul_of_nonneg_right (Rat.intCast_le_intCast.2 c2) (Rat.le_of_lt hi)
end Go.Proofs.YtcmhompbdanpdaaGreatDoor
