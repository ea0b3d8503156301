/- Decimal numerals: their values, the canonical ones. No program in sight. Numbers as words of nine digits: the words, how many there are, adding a multiple word by word. No program in sight. The estimate of a quotient's word, division word by word, sums with signs. No program in sight. Sums, products and quotients of decimal texts, as on paper; order of numerals; floored quotients. No program in sight. The product in columns; the quotient digit by digit. No program in sight. Rational numbers as texts: lowest terms. No program in sight. Small rational numbers; the variance of a series in both forms. No program in sight. Series: the errors, sums and their bounds, the mean and the variance as texts need them. No program in sight. Distributions: values with weights in ascending order; elements gathered one by one (as reference 26 does) and looked up by value (as package convolve does). No program in sight. Numerals made from the last digit on; numbers as texts between the bounds of ints. No program in sight. The distribution of a sum: all pairs, gathered; its errors as both sides find them. No program in sight. Sums of distributions: where a weight grows too long, the keys in order, and the moments. No program in sight. Means, variances and probabilities of distributions, as both sides reckon them. No program in sight. -/
import Derived.Lib.ItoaMem
import Derived.Lib.AtoiTie
namespace Go.Proofs.YtcmhompbdanpdaaGreatDoor
open Go.Lib

/-- The value of digits behind a number. -/
def dvF (acc : Nat) (l : List UInt8) : Nat := l.foldl (fun a c => a * 10 + (c.toNat - 48)) acc
/-- The value of digits. -/
def dv (l : List UInt8) : Nat := dvF 0 l
/-- Digits. -/
def Dgs (l : List UInt8) : Prop := ∀ c ∈ l, 48 ≤ c.toNat ∧ c.toNat ≤ 57
theorem dvF_eq (l : List UInt8) : ∀ acc, dvF acc l = acc * 10 ^ l.length + dv l := by
  unfold dv
  induction l with
  | nil => intro acc; simp [dvF]
  | cons c l ih =>
    intro acc
    have h1 := ih (acc * 10 + (c.toNat - 48))
    have h2 := ih (0 * 10 + (c.toNat - 48))
    show dvF (acc * 10 + (c.toNat - 48)) l = acc * 10 ^ (l.length + 1) + dvF (0 * 10 + (c.toNat - 48)) l
    rw [h1, h2, Nat.pow_succ]
    grind
theorem dv_append (a b : List UInt8) : dv (a ++ b) = dv a * 10 ^ b.length + dv b := by
  unfold dv
  show List.foldl _ 0 (a ++ b) = _
  rw [List.foldl_append]
  exact dvF_eq b _
theorem dv_nil : dv [] = 0 := rfl
theorem dv_one (c : UInt8) : dv [c] = c.toNat - 48 := by simp [dv, dvF]
theorem dv_snoc (l : List UInt8) (c : UInt8) : dv (l ++ [c]) = dv l * 10 + (c.toNat - 48) := by rw [dv_append, dv_one]; simp
theorem dv_cons (c : UInt8) (l : List UInt8) : dv (c :: l) = (c.toNat - 48) * 10 ^ l.length + dv l := by
  rw [show c :: l = [c] ++ l from rfl, dv_append, dv_one]
theorem Dgs.append {a b : List UInt8} (h : Dgs a) (h' : Dgs b) : Dgs (a ++ b) := fun c hc => (List.mem_append.1 hc).elim (h c) (h' c)
theorem Dgs.left {a b : List UInt8} (h : Dgs (a ++ b)) : Dgs a := fun c hc => h c (List.mem_append.2 (.inl hc))
theorem Dgs.right {a b : List UInt8} (h : Dgs (a ++ b)) : Dgs b := fun c hc => h c (List.mem_append.2 (.inr hc))
theorem Dgs.cons {c : UInt8} {b : List UInt8} (h : Dgs (c :: b)) : (48 ≤ c.toNat ∧ c.toNat ≤ 57) ∧ Dgs b := ⟨h c List.mem_cons_self, fun d hd => h d (List.mem_cons_of_mem _ hd)⟩
theorem Dgs.nil : Dgs [] := fun c hc => absurd hc (by simp)
theorem Dgs.take {a : List UInt8} (h : Dgs a) (k : Nat) : Dgs (a.take k) := fun c hc => h c (List.mem_of_mem_take hc)
theorem Dgs.drop {a : List UInt8} (h : Dgs a) (k : Nat) : Dgs (a.drop k) := fun c hc => h c (List.mem_of_mem_drop hc)
theorem dv_lt {l : List UInt8} (h : Dgs l) : dv l < 10 ^ l.length := by
  induction l with
  | nil => simp [dv, dvF]
  | cons c l ih =>
    have h1 := ih h.cons.2
    have h2 := h.cons.1
    rw [dv_cons, List.length_cons, Nat.pow_succ]
    have h3 : (c.toNat - 48) * 10 ^ l.length ≤ 9 * 10 ^ l.length := Nat.mul_le_mul_right _ (by omega)
    omega
theorem decFrom_dgs {l : List UInt8} (h : Dgs l) : ∀ acc, decFrom acc l = some (dvF acc l) := by
  induction l with
  | nil => intro acc; rfl
  | cons c l ih =>
    intro acc
    have h2 := h.cons.1
    rw [decFrom, digitVal, if_pos h2]
    exact ih h.cons.2 _
theorem ofNat_val {d : Nat} (h : d < 10) : (UInt8.ofNat (48 + d)).toNat = 48 + d := by
  rw [UInt8.toNat_ofNat']; omega
theorem ofNat_of {c : UInt8} (h : 48 ≤ c.toNat) : UInt8.ofNat (48 + (c.toNat - 48)) = c := by
  rw [show 48 + (c.toNat - 48) = c.toNat from by omega]
  exact UInt8.ofNat_toNat
theorem dec_small {n : Nat} (h : n < 10) : decDigits n = [UInt8.ofNat (48 + n)] := by rw [decDigits, dif_pos h]
theorem dec_big {n : Nat} (h : ¬ n < 10) : decDigits n = decDigits (n / 10) ++ [UInt8.ofNat (48 + n % 10)] := by rw [decDigits, dif_neg h]
theorem dec_facts (n : Nat) : Dgs (decDigits n) ∧ dv (decDigits n) = n ∧ decDigits n ≠ [] := by
  induction n using Nat.strongRecOn with
  | _ n ih =>
    by_cases h : n < 10
    · rw [dec_small h]
      refine ⟨fun c hc => ?_, ?_, by simp⟩
      · obtain rfl := List.mem_singleton.1 hc
        rw [ofNat_val h]; omega
      · rw [dv_one, ofNat_val h]; omega
    · obtain ⟨h1, h2, _⟩ := ih (n / 10) (by omega)
      rw [dec_big h]
      refine ⟨h1.append fun c hc => ?_, ?_, by simp⟩
      · obtain rfl := List.mem_singleton.1 hc
        rw [ofNat_val (by omega)]; omega
      · rw [dv_snoc, h2, ofNat_val (by omega)]; omega
theorem dgs_dec (n : Nat) : Dgs (decDigits n) := (dec_facts n).1
theorem dv_dec (n : Nat) : dv (decDigits n) = n := (dec_facts n).2.1
theorem dec_ne (n : Nat) : decDigits n ≠ [] := (dec_facts n).2.2
theorem dec_inj {m n : Nat} (h : decDigits m = decDigits n) : m = n := by rw [← dv_dec m, h, dv_dec]
theorem dec_zero : decDigits 0 = [48] := by rw [dec_small (by decide)]; rfl
theorem head_app {a b : List UInt8} (h : a ≠ []) : (a ++ b).head? = a.head? := by cases a with
  | nil => exact absurd rfl h
  | cons c r => rfl
theorem dec_head {n : Nat} (h : (decDigits n).head? = some 48) : n = 0 := by
  induction n using Nat.strongRecOn with
  | _ n ih =>
    by_cases h1 : n < 10
    · rw [dec_small h1] at h
      have h2 : UInt8.ofNat (48 + n) = 48 := by simpa using h
      have h3 := congrArg UInt8.toNat h2
      rw [ofNat_val h1] at h3
      have : (48 : UInt8).toNat = 48 := rfl
      omega
    · rw [dec_big h1, head_app (dec_ne _)] at h
      have := ih (n / 10) (by omega) h
      omega
/-- A canonical numeral. -/
def Can (l : List UInt8) : Prop := Dgs l ∧ l ≠ [] ∧ (l.head? = some 48 → l = [48])
theorem can_dec (n : Nat) : Can (decDigits n) := ⟨dgs_dec n, dec_ne n, fun h => by rw [dec_head h, dec_zero]⟩
theorem can_pos {l : List UInt8} (h : Can l) (h1 : l ≠ [48]) : 10 ^ (l.length - 1) ≤ dv l := by
  obtain ⟨hd, hne, hh⟩ := h
  cases l with
  | nil => exact absurd rfl hne
  | cons c r =>
    rw [dv_cons, List.length_cons, Nat.add_sub_cancel]
    have h2 : c ≠ 48 := fun e => h1 (hh (by rw [e]; rfl))
    have h3 : c.toNat ≠ 48 := fun e => h2 (UInt8.toNat_inj.1 e)
    have h4 := hd.cons.1
    have : 1 * 10 ^ r.length ≤ (c.toNat - 48) * 10 ^ r.length := Nat.mul_le_mul_right _ (by omega)
    omega
theorem dec_dv {l : List UInt8} (h : Can l) : decDigits (dv l) = l := by
  obtain ⟨k, hk⟩ : ∃ k, l.length = k := ⟨_, rfl⟩
  induction k generalizing l with
  | zero => exact absurd (List.length_eq_zero_iff.1 hk) h.2.1
  | succ k ih =>
    obtain ⟨i, c, rfl⟩ : ∃ i c, l = i ++ [c] := ⟨l.dropLast, l.getLast h.2.1, (List.dropLast_concat_getLast h.2.1).symm⟩
    have hc := h.1.right c (by simp)
    rw [dv_snoc]
    by_cases hi : i = []
    · subst hi
      rw [dv_nil, Nat.zero_mul, Nat.zero_add, dec_small (by omega), ofNat_of hc.1, List.nil_append]
    · have hci : Can i := ⟨h.1.left, hi, fun h48 => by
        have := h.2.2 (by rw [head_app hi]; exact h48)
        have hl := congrArg List.length this
        simp at hl
        exact absurd hl hi⟩
      have hn48 : i ≠ [48] := fun e => by
        have := h.2.2 (by rw [e]; rfl)
        rw [e] at this
        simp at this
      have hp := can_pos hci hn48
      have hp1 : 1 ≤ 10 ^ (i.length - 1) := Nat.one_le_pow _ _ (by decide)
      rw [dec_big (by omega), show (dv i * 10 + (c.toNat - 48)) / 10 = dv i from by omega, show (dv i * 10 + (c.toNat - 48)) % 10 = c.toNat - 48 from by omega, ih hci (by simpa using hk), ofNat_of hc.1]
theorem can_eq {a b : List UInt8} (ha : Can a) (hb : Can b) (h : dv a = dv b) : a = b := by rw [← dec_dv ha, ← dec_dv hb, h]
theorem dec_len_lt {n k : Nat} (h : n < 10 ^ k) (hk : 0 < k) : (decDigits n).length ≤ k := by
  apply Classical.byContradiction
  intro hn
  by_cases h48 : decDigits n = [48]
  · rw [h48] at hn; simp at hn; omega
  have h1 := can_pos (can_dec n) h48
  rw [dv_dec] at h1
  have h2 : 10 ^ k ≤ 10 ^ ((decDigits n).length - 1) := Nat.pow_le_pow_right (by decide) (by omega)
  omega
theorem dec_lt_len {n k : Nat} (h : (decDigits n).length ≤ k) : n < 10 ^ k := by
  have h1 := dv_lt (dgs_dec n)
  rw [dv_dec] at h1
  exact Nat.lt_of_lt_of_le h1 (Nat.pow_le_pow_right (by decide) h)
theorem dec_len {n k : Nat} (hk : 0 < k) : (decDigits n).length ≤ k ↔ n < 10 ^ k := ⟨dec_lt_len, fun h => dec_len_lt h hk⟩
/-! ### integers -/
theorem itoa_pos {n : Int} (h : 0 ≤ n) : itoa n = decDigits n.toNat := by unfold itoa; rw [if_neg (by omega)]
theorem itoa_below {n : Int} (h : n < 0) : itoa n = 45 :: decDigits n.natAbs := by unfold itoa; rw [if_pos h]
theorem dec_no45 (n : Nat) (r : List UInt8) : decDigits n ≠ 45 :: r := fun h => by
  have := (dgs_dec n) 45 (by rw [h]; simp)
  have e : (45 : UInt8).toNat = 45 := rfl
  omega
theorem itoa_inj {m n : Int} (h : itoa m = itoa n) : m = n := by
  by_cases hm : m < 0 <;> by_cases hn : n < 0
  · rw [itoa_below hm, itoa_below hn] at h
    have := dec_inj (List.cons.inj h).2
    omega
  · rw [itoa_below hm, itoa_pos (by omega)] at h
    exact absurd h.symm (dec_no45 _ _)
  · rw [itoa_pos (by omega), itoa_below hn] at h
    exact absurd h (dec_no45 _ _)
  · rw [itoa_pos (by omega), itoa_pos (by omega)] at h
    have := dec_inj h
    omega
/-- A text without its sign: the numeral of the magnitude. -/
def sgn (n : Int) : List UInt8 := if n < 0 then [45] else []
theorem itoa_split (n : Int) : itoa n = sgn n ++ decDigits n.natAbs := by
  unfold sgn
  by_cases h : n < 0
  · rw [if_pos h, itoa_below h]; rfl
  · rw [if_neg h, itoa_pos (by omega), show n.toNat = n.natAbs from by omega]; rfl
theorem itoa_zero : itoa 0 = [48] := by rw [itoa_pos (by omega)]; exact dec_zero
theorem itoa_one : itoa 1 = [49] := by rw [itoa_pos (by omega)]; exact dec_small (by decide)
/-- Zeros ahead, up to a length. -/
def padL (k : Nat) (l : List UInt8) : List UInt8 := List.replicate (k - l.length) 48 ++ l
theorem dv_zeros (k : Nat) : dv (List.replicate k 48) = 0 := by
  induction k with
  | zero => rfl
  | succ k ih => rw [List.replicate_succ, dv_cons, ih]; simp
theorem dv_pad (k : Nat) (l : List UInt8) : dv (padL k l) = dv l := by unfold padL; rw [dv_append, dv_zeros]; simp
theorem pad_len {k : Nat} {l : List UInt8} (h : l.length ≤ k) : (padL k l).length = k := by unfold padL; simp; omega
theorem dgs_zeros (k : Nat) : Dgs (List.replicate k 48) := fun c hc => by
  obtain rfl := (List.mem_replicate.1 hc).2
  decide
theorem dgs_pad {k : Nat} {l : List UInt8} (h : Dgs l) : Dgs (padL k l) := (dgs_zeros _).append h
/-- Digits of one length are told apart by their values. -/
theorem dgs_eq : ∀ {a b : List UInt8}, Dgs a → Dgs b → a.length = b.length → dv a = dv b → a = b
  | [], [], _, _, _, _ => rfl
  | [], _ :: _, _, _, h, _ => by simp at h
  | _ :: _, [], _, _, h, _ => by simp at h
  | c :: a, d :: b, ha, hb, hl, hv => by
    rw [dv_cons, dv_cons] at hv
    have hl' : a.length = b.length := by simpa using hl
    have h1 := dv_lt ha.cons.2
    have h2 := dv_lt hb.cons.2
    have hc := ha.cons.1
    have hd := hb.cons.1
    rw [hl'] at hv h1
    have hq : c.toNat - 48 = d.toNat - 48 := by
      obtain ⟨P, hP⟩ : ∃ P, 10 ^ b.length = P := ⟨_, rfl⟩
      rw [hP] at hv h1 h2
      have e1 : ((c.toNat - 48) * P + dv a) / P = c.toNat - 48 := by
        rw [Nat.mul_comm, Nat.mul_add_div (by omega), Nat.div_eq_of_lt h1]; rfl
      have e2 : ((d.toNat - 48) * P + dv b) / P = d.toNat - 48 := by
        rw [Nat.mul_comm, Nat.mul_add_div (by omega), Nat.div_eq_of_lt h2]; rfl
      rw [← e1, ← e2, hv]
    rw [hq] at hv
    rw [dgs_eq ha.cons.2 hb.cons.2 hl' (by omega), UInt8.toNat_inj.1 (by omega : c.toNat = d.toNat)]
/-- A numeral without the zeros ahead. -/
def bareL : List UInt8 → List UInt8
  | 48 :: c :: r => bareL (c :: r)
  | l => l
theorem bare_can {l : List UInt8} (h : Dgs l) (hn : l ≠ []) : bareL l = decDigits (dv l) := by
  induction l with
  | nil => exact absurd rfl hn
  | cons c r ih =>
    by_cases hc : c = 48
    · subst hc
      cases r with
      | nil => rw [show bareL [48] = [48] from rfl, show dv [48] = 0 from rfl, dec_zero]
      | cons d s =>
        rw [show bareL (48 :: d :: s) = bareL (d :: s) from rfl, ih h.cons.2 (by simp), dv_cons (48 : UInt8)]
        simp
    · have e : bareL (c :: r) = c :: r := by
        cases r with
        | nil => unfold bareL; split <;> first | rfl | (rename_i h; cases h)
        | cons d s => unfold bareL; split <;> first | rfl | (rename_i h; cases h; exact absurd rfl hc)
      rw [e, dec_dv ⟨h, by simp, fun h => absurd (by simpa using h) hc⟩]
end Go.Proofs.YtcmhompbdanpdaaGreatDoor
namespace Go.Proofs.YtcmhompbdanpdaaGreatDoor
open Go.Lib

def bB : Nat := 1000000000
/-- Word i of a number. -/
def wd (v i : Nat) : Nat := v / bB ^ i % bB
/-- How many words a number has: none for 0. -/
def nw (v : Nat) : Nat := if h : v = 0 then 0 else nw (v / bB) + 1
termination_by v
decreasing_by exact Nat.div_lt_self (by omega) (by decide)
theorem bB_pos (p : Nat) : 0 < bB ^ p := Nat.pow_pos (by decide)
theorem nw_zero : nw 0 = 0 := by rw [nw, dif_pos rfl]
theorem nw_pos {v : Nat} (h : v ≠ 0) : nw v = nw (v / bB) + 1 := by rw [nw, dif_neg h]
theorem nw_le (n : Nat) : ∀ v, nw v ≤ n ↔ v < bB ^ n := by
  induction n with
  | zero =>
    intro v
    by_cases h : v = 0
    · subst h; rw [nw_zero]; simp
    · rw [nw_pos h]; simp; omega
  | succ n ih =>
    intro v
    by_cases h : v = 0
    · subst h; rw [nw_zero]; simp [bB_pos]
    · rw [nw_pos h, Nat.pow_succ, Nat.add_le_add_iff_right, ih, Nat.div_lt_iff_lt_mul (by decide)]
theorem lt_nw (v : Nat) : v < bB ^ nw v := (nw_le _ _).1 (Nat.le_refl _)
theorem nw_eq_zero {v : Nat} : nw v = 0 ↔ v = 0 := by
  have h := nw_le 0 v
  simp at h
  rw [← h]
theorem wd_lt (v i : Nat) : wd v i < bB := Nat.mod_lt _ (by decide)
theorem wd_high {v i : Nat} (h : nw v ≤ i) : wd v i = 0 := by
  unfold wd
  rw [Nat.div_eq_of_lt ((nw_le _ _).1 h)]
  rfl
theorem wd_zero (v : Nat) : wd v 0 = v % bB := by unfold wd; simp
theorem wd_succ (v i : Nat) : wd v (i + 1) = wd (v / bB) i := by unfold wd; rw [Nat.pow_succ, Nat.mul_comm, Nat.div_div_eq_div_mul]
theorem wd_top {v : Nat} : v ≠ 0 → wd v (nw v - 1) ≠ 0 := by
  induction v using Nat.strongRecOn with
  | _ v ih =>
    intro h
    rw [nw_pos h, Nat.add_sub_cancel]
    by_cases h2 : v / bB = 0
    · rw [h2, nw_zero, wd_zero]
      have : v < bB := by
        rcases Nat.div_eq_zero_iff.1 h2 with h3 | h3
        · exact absurd h3 (by decide)
        · exact h3
      rw [Nat.mod_eq_of_lt this]; exact h
    · have h4 := ih (v / bB) (Nat.div_lt_self (by omega) (by decide)) h2
      have h5 : nw (v / bB) ≠ 0 := fun e => h2 (nw_eq_zero.1 e)
      obtain ⟨k, hk⟩ : ∃ k, nw (v / bB) = k + 1 := ⟨nw (v / bB) - 1, by omega⟩
      rw [hk, wd_succ]
      rw [hk] at h4
      exact h4
/-- The low words and the next one. -/
theorem mod_succ (v p : Nat) : v % bB ^ (p + 1) = v % bB ^ p + wd v p * bB ^ p := by
  unfold wd
  rw [Nat.pow_succ, Nat.mod_mul, Nat.mul_comm]
theorem wd_mod {v p j : Nat} (h : j < p) : wd (v % bB ^ p) j = wd v j := by
  unfold wd
  obtain ⟨k, rfl⟩ : ∃ k, p = j + (k + 1) := ⟨p - j - 1, by omega⟩
  rw [Nat.pow_add, Nat.mod_mul_right_div_self, Nat.pow_succ, Nat.mod_mul_left_mod]
/-- Words of a number that is put together of a low part and a high one. -/
theorem wd_join {A H p j : Nat} (hA : A < bB ^ p) : wd (A + H * bB ^ p) j = if j < p then wd A j else wd H (j - p) := by
  by_cases hj : j < p
  · rw [if_pos hj]
    have h1 := wd_mod (v := A + H * bB ^ p) hj
    rw [Nat.add_mul_mod_self_right, Nat.mod_eq_of_lt hA] at h1
    exact h1.symm
  · rw [if_neg hj]
    obtain ⟨k, rfl⟩ : ∃ k, j = p + k := ⟨j - p, by omega⟩
    unfold wd
    rw [Nat.add_sub_cancel_left, Nat.pow_add, ← Nat.div_div_eq_div_mul, Nat.add_mul_div_right _ _ (bB_pos p), Nat.div_eq_of_lt hA, Nat.zero_add]
theorem div_join (v p : Nat) : v = v % bB ^ p + v / bB ^ p * bB ^ p := by rw [Nat.mul_comm]; exact (Nat.mod_add_div _ _).symm
theorem wd_div (v p k : Nat) : wd (v / bB ^ p) k = wd v (p + k) := by unfold wd; rw [Nat.div_div_eq_div_mul, Nat.pow_add]
/-! ### a multiple is added -/
/-- The words behind i rounds: p = i + up words are done, A is their number. -/
structure CarI (vx vy : Nat) (k : Int) (up i : Nat) (A : Nat) (rest : Int) : Prop where
  low : A < bB ^ (i + up)
  lo : -999999999 ≤ rest
  hi : rest ≤ 999999999
  eq : (A : Int) + rest * (bB ^ (i + up) : Nat) = ((vx % bB ^ (i + up) : Nat) : Int) + k * (bB ^ up : Nat) * ((vy % bB ^ i : Nat) : Int)
theorem CarI.start (vx vy : Nat) (k : Int) (up : Nat) : CarI vx vy k up 0 (vx % bB ^ up) 0 := by
  refine ⟨by rw [Nat.zero_add]; exact Nat.mod_lt _ (bB_pos _), by decide, by decide, ?_⟩
  rw [Nat.pow_zero, Nat.mod_one, Nat.zero_add]
  simp
/-- The sum of a round. -/
def carS (vx vy : Nat) (k : Int) (up i : Nat) (rest : Int) : Int := (wd vx (i + up) : Int) + rest + k * (wd vy i : Int)
theorem carS_abs {vx vy : Nat} {k : Int} {up i : Nat} {A : Nat} {rest : Int} (h : CarI vx vy k up i A rest) (hk : -999999999 ≤ k ∧ k ≤ 999999999) :
    -999999999000000000 ≤ carS vx vy k up i rest ∧ carS vx vy k up i rest ≤ 999999999999999999 := by
  have h1 := wd_lt vx (i + up)
  have h2 := wd_lt vy i
  unfold bB at h1 h2
  have h3 := h.lo
  have h4 := h.hi
  unfold carS
  obtain ⟨a, ha⟩ : ∃ a, wd vx (i + up) = a := ⟨_, rfl⟩
  obtain ⟨b, hb⟩ : ∃ b, wd vy i = b := ⟨_, rfl⟩
  rw [ha] at h1 ⊢
  rw [hb] at h2 ⊢
  have h5 : k * (b : Int) ≤ 999999999 * 999999999 := by
    by_cases hk0 : 0 ≤ k
    · exact Int.mul_le_mul hk.2 (by omega) (by omega) (by omega)
    · have : k * (b : Int) ≤ 0 := Int.mul_nonpos_of_nonpos_of_nonneg (by omega) (by omega)
      omega
  have h6 : -(999999999 * 999999999) ≤ k * (b : Int) := by
    have : (-k) * (b : Int) ≤ 999999999 * 999999999 := by
      by_cases hk0 : 0 ≤ -k
      · exact Int.mul_le_mul (by omega) (by omega) (by omega) (by omega)
      · have : (-k) * (b : Int) ≤ 0 := Int.mul_nonpos_of_nonpos_of_nonneg (by omega) (by omega)
        omega
    rw [Int.neg_mul] at this
    omega
  omega
theorem CarI.step {vx vy : Nat} {k : Int} {up i : Nat} {A : Nat} {rest s : Int} (h : CarI vx vy k up i A rest) (hk : -999999999 ≤ k ∧ k ≤ 999999999) (hs : carS vx vy k up i rest = s) :
    CarI vx vy k up (i + 1) (A + (s % 1000000000).toNat * bB ^ (i + up)) (s / 1000000000) := by
  have hb := carS_abs h hk
  rw [hs] at hb
  have hd : 0 ≤ s % 1000000000 ∧ s % 1000000000 < 1000000000 := by omega
  obtain ⟨d, hdd⟩ : ∃ d : Nat, s % 1000000000 = d := ⟨(s % 1000000000).toNat, by omega⟩
  obtain ⟨q, hq⟩ : ∃ q, s / 1000000000 = q := ⟨_, rfl⟩
  have hsq : s = q * 1000000000 + d := by omega
  rw [hdd] at hd ⊢
  rw [hq]
  have hdB : d < bB := by unfold bB; omega
  rw [Int.toNat_natCast]
  have e1 : bB ^ (i + 1 + up) = bB ^ (i + up) * bB := by rw [show i + 1 + up = (i + up) + 1 from by omega, Nat.pow_succ]
  refine ⟨?_, by omega, by omega, ?_⟩
  · rw [e1]
    have h1 := h.low
    have : (d + 1) * bB ^ (i + up) ≤ bB * bB ^ (i + up) := Nat.mul_le_mul_right _ hdB
    rw [Nat.add_mul, Nat.one_mul] at this
    rw [Nat.mul_comm bB] at this
    omega
  · have h2 := h.eq
    rw [show i + 1 + up = (i + up) + 1 from by omega, mod_succ vx (i + up), mod_succ vy i]
    unfold carS at hs
    rw [Nat.pow_succ]
    have e3 : bB ^ (i + up) = bB ^ i * bB ^ up := Nat.pow_add _ _ _
    obtain ⟨P, hP⟩ : ∃ P : Nat, bB ^ (i + up) = P := ⟨_, rfl⟩
    obtain ⟨U, hU⟩ : ∃ P : Nat, bB ^ up = P := ⟨_, rfl⟩
    obtain ⟨I, hI⟩ : ∃ P : Nat, bB ^ i = P := ⟨_, rfl⟩
    rw [hP, hU, hI] at h2
    rw [hP, hU, hI] at e3
    rw [hP, hU, hI]
    obtain ⟨a, ha⟩ : ∃ a, wd vx (i + up) = a := ⟨_, rfl⟩
    obtain ⟨b, hb2⟩ : ∃ b, wd vy i = b := ⟨_, rfl⟩
    rw [ha, hb2] at hs ⊢
    obtain ⟨m, hm⟩ : ∃ m, vx % P = m := ⟨_, rfl⟩
    obtain ⟨n, hn⟩ : ∃ n, vy % I = n := ⟨_, rfl⟩
    rw [hm, hn] at h2 ⊢
    have hsq2 : s = q * (bB : Int) + d := hsq
    obtain ⟨Bv, hBv⟩ : ∃ b : Nat, bB = b := ⟨_, rfl⟩
    rw [hBv] at hsq2 ⊢
    clear ha hb2 hm hn hP hU hI h hb hd hdB hdd hq e1 hsq hBv hk
    rw [Int.natCast_add, Int.natCast_add, Int.natCast_add, Int.natCast_mul, Int.natCast_mul, Int.natCast_mul, Int.natCast_mul]
    have e3' : (P : Int) = (I : Int) * (U : Int) := by rw [e3, Int.natCast_mul]
    clear e3
    grind
theorem CarI.over {vx vy : Nat} {k : Int} {up i : Nat} {A : Nat} {rest : Int} (h : CarI vx vy k up i A rest) (hx : vx < bB ^ (i + up)) (hy : vy < bB ^ i)
    (t0 : 0 ≤ (vx : Int) + k * (bB ^ up : Nat) * (vy : Int)) (t1 : (vx : Int) + k * (bB ^ up : Nat) * (vy : Int) < (bB ^ (i + up) : Nat)) : rest = 0 := by
  have h2 := h.eq
  have h1 := h.low
  rw [Nat.mod_eq_of_lt hx, Nat.mod_eq_of_lt hy] at h2
  rw [← h2] at t0 t1
  have hp := bB_pos (i + up)
  obtain ⟨P, hP⟩ : ∃ P : Nat, bB ^ (i + up) = P := ⟨_, rfl⟩
  rw [hP] at t0 t1 h1 hp
  clear h2 hx hy h
  rcases Int.lt_trichotomy rest 0 with hr | hr | hr
  · exfalso
    have : rest * (P : Int) ≤ (-1) * (P : Int) := Int.mul_le_mul_of_nonneg_right (by omega) (by omega)
    omega
  · exact hr
  · exfalso
    have : 1 * (P : Int) ≤ rest * (P : Int) := Int.mul_le_mul_of_nonneg_right (by omega) (by omega)
    omega
/-- Behind the last round: the number with its words. -/
theorem CarI.done {vx vy : Nat} {k : Int} {up i : Nat} {A : Nat} (h : CarI vx vy k up i A 0) (hy : nw vy ≤ i) {v : Nat} (hv : (v : Int) = (vx : Int) + k * (bB ^ up : Nat) * (vy : Int)) :
    v = A + vx / bB ^ (i + up) * bB ^ (i + up) ∧ ∀ j, wd v j = if j < i + up then wd A j else wd vx j := by
  have h2 := h.eq
  rw [Nat.mod_eq_of_lt ((nw_le _ _).1 hy), Int.zero_mul, Int.add_zero] at h2
  have hj := div_join vx (i + up)
  have e : v = A + vx / bB ^ (i + up) * bB ^ (i + up) := by
    have h3 : (vx : Int) = ((vx % bB ^ (i + up) : Nat) : Int) + ((vx / bB ^ (i + up) * bB ^ (i + up) : Nat) : Int) := by exact_mod_cast hj
    have h4 : (v : Int) = (A : Int) + ((vx / bB ^ (i + up) * bB ^ (i + up) : Nat) : Int) := by rw [hv, h2]; omega
    exact_mod_cast h4
  refine ⟨e, fun j => ?_⟩
  rw [e, wd_join h.low]
  by_cases hj2 : j < i + up
  · rw [if_pos hj2, if_pos hj2]
  · rw [if_neg hj2, if_neg hj2, wd_div, show i + up + (j - (i + up)) = j from by omega]
/-- The word that a round makes, the others stay. -/
theorem CarI.word {A d p : Nat} (hA : A < bB ^ p) (hd : d < bB) (j : Nat) : wd (A + d * bB ^ p) j = if j < p then wd A j else if j = p then d else 0 := by
  rw [wd_join hA]
  by_cases h1 : j < p
  · rw [if_pos h1, if_pos h1]
  · rw [if_neg h1, if_neg h1]
    by_cases h2 : j = p
    · rw [if_pos h2, h2, Nat.sub_self, wd_zero, Nat.mod_eq_of_lt hd]
    · rw [if_neg h2, wd_high]
      rw [nw_le]
      exact Nat.lt_of_lt_of_le hd (by
        obtain ⟨m, hm⟩ : ∃ m, j - p = m + 1 := ⟨j - p - 1, by omega⟩
        rw [hm, Nat.pow_succ]
        exact Nat.le_mul_of_pos_left _ (bB_pos m))
/-! ### texts and words -/
theorem pow9 : (10 : Nat) ^ 9 = bB := by decide
theorem dec_word {v : Nat} (h : bB ≤ v) : decDigits v = decDigits (v / bB) ++ padL 9 (decDigits (v % bB)) := by
  have hlt : v % bB < bB := Nat.mod_lt _ (by decide)
  have hl : (decDigits (v % bB)).length ≤ 9 := dec_len_lt (by rw [pow9]; exact hlt) (by decide)
  have hq : v / bB ≠ 0 := fun e => by
    rcases Nat.div_eq_zero_iff.1 e with h3 | h3
    · exact absurd h3 (by decide)
    · omega
  refine can_eq (can_dec v) ⟨(dgs_dec _).append (dgs_pad (dgs_dec _)), by simp [dec_ne], fun h48 => ?_⟩ ?_
  · rw [head_app (dec_ne _)] at h48
    exact absurd (dec_head h48) hq
  · rw [dv_append, dv_dec, dv_dec, dv_pad, dv_dec, pad_len hl, pow9, Nat.mul_comm]
    exact (Nat.div_add_mod _ _).symm
/-- The last nine digits, and those before. -/
theorem dv_cut {l : List UInt8} (h : Dgs l) (k : Nat) (hk : l.length - k = 9) : dv (l.drop k) = dv l % bB ∧ dv (l.take k) = dv l / bB := by
  have h1 : dv l = dv (l.take k) * bB + dv (l.drop k) := by
    conv => lhs; rw [← List.take_append_drop k l]
    rw [dv_append, List.length_drop, hk, pow9]
  have h2 : dv (l.drop k) < bB := by
    have := dv_lt (h.drop k)
    rwa [List.length_drop, hk, pow9] at this
  rw [h1]
  constructor
  · rw [Nat.mul_comm, Nat.mul_add_mod, Nat.mod_eq_of_lt h2]
  · rw [Nat.mul_comm, Nat.mul_add_div (by decide), Nat.div_eq_of_lt h2]; rfl
end Go.Proofs.YtcmhompbdanpdaaGreatDoor
namespace Go.Proofs.YtcmhompbdanpdaaGreatDoor
open Go.Lib

/-- What the estimate divides by: the first word, rounded up. -/
def estB (y : Nat) : Nat := wd y (nw y - 1) + (if 1 < nw y then 1 else 0)
def estA (x y : Nat) : Nat := wd x (nw y) * bB + wd x (nw y - 1)
def estK (x y : Nat) : Nat := if 0 < estA x y / estB y then min (estA x y / estB y) 999999999 else 1
theorem nw_ge {y : Nat} (h : y ≠ 0) : bB ^ (nw y - 1) ≤ y := by
  apply Classical.byContradiction
  intro hn
  have h1 := (nw_le (nw y - 1) y).2 (by omega)
  have h2 : nw y ≠ 0 := fun e => h (nw_eq_zero.1 e)
  omega
theorem two_words (x n : Nat) (h : x < bB ^ (n + 2)) : x / bB ^ n = wd x (n + 1) * bB + wd x n := by
  have h1 : x / bB ^ n / bB = x / bB ^ (n + 1) := by rw [Nat.div_div_eq_div_mul, Nat.pow_succ]
  have h2 : x / bB ^ (n + 1) < bB := by rw [Nat.div_lt_iff_lt_mul (bB_pos _), ← Nat.pow_succ']; exact h
  unfold wd
  rw [Nat.mod_eq_of_lt h2, ← h1]
  have := Nat.div_add_mod (x / bB ^ n) bB
  rw [Nat.mul_comm] at this
  exact this.symm
theorem estB_pos {y : Nat} (h : y ≠ 0) : 0 < estB y := by
  have := wd_top h
  unfold estB
  omega
theorem est_bounds (x y : Nat) : estA x y < 1000000000000000000 ∧ estB y ≤ 1000000000 := by
  have h1 := wd_lt x (nw y)
  have h2 := wd_lt x (nw y - 1)
  have h3 := wd_lt y (nw y - 1)
  unfold estA estB
  unfold bB at *
  constructor
  · omega
  · split <;> omega
theorem est_ok {x y : Nat} (h0 : y ≠ 0) (h1 : y ≤ x) (h2 : x < y * bB) : 1 ≤ estK x y ∧ estK x y ≤ 999999999 ∧ estK x y * y ≤ x := by
  have hn : nw y ≠ 0 := fun e => h0 (nw_eq_zero.1 e)
  obtain ⟨n, hnn⟩ : ∃ n, nw y = n + 1 := ⟨nw y - 1, by omega⟩
  have hy := lt_nw y
  rw [hnn] at hy
  have hx : x < bB ^ (n + 2) := by
    refine Nat.lt_of_lt_of_le h2 ?_
    rw [show n + 2 = (n + 1) + 1 from rfl, Nat.pow_succ bB (n + 1)]
    exact Nat.mul_le_mul_right _ (by omega)
  have ha : estA x y = x / bB ^ n := by
    rw [two_words x n hx]
    unfold estA
    rw [hnn, Nat.add_sub_cancel]
  have hyt : wd y n = y / bB ^ n := by
    unfold wd
    exact Nat.mod_eq_of_lt (by rw [Nat.div_lt_iff_lt_mul (bB_pos _), ← Nat.pow_succ']; exact hy)
  have hB : estB y = y / bB ^ n + (if 1 < nw y then 1 else 0) := by
    unfold estB
    rw [hnn, Nat.add_sub_cancel, hyt]
  have hP := bB_pos n
  by_cases h3 : 1 < nw y
  · rw [if_pos h3] at hB
    unfold estK
    by_cases hk : 0 < estA x y / estB y
    · rw [if_pos hk]
      refine ⟨Nat.le_min.2 ⟨hk, by decide⟩, Nat.min_le_right _ _, ?_⟩
      obtain ⟨k, hkk⟩ : ∃ k, estA x y / estB y = k := ⟨_, rfl⟩
      rw [hkk]
      have h4 : k * estB y ≤ x / bB ^ n := by rw [← ha, ← hkk]; exact Nat.div_mul_le_self _ _
      have h5 : y ≤ estB y * bB ^ n := by
        rw [hB]
        have := Nat.lt_mul_div_succ y hP
        rw [Nat.mul_comm] at this
        exact Nat.le_of_lt this
      calc min k 999999999 * y ≤ k * y := Nat.mul_le_mul_right _ (Nat.min_le_left _ _)
        _ ≤ k * (estB y * bB ^ n) := Nat.mul_le_mul_left _ h5
        _ = k * estB y * bB ^ n := by rw [Nat.mul_assoc]
        _ ≤ x / bB ^ n * bB ^ n := Nat.mul_le_mul_right _ h4
        _ ≤ x := Nat.div_mul_le_self _ _
    · rw [if_neg hk]
      exact ⟨Nat.le_refl _, by decide, by omega⟩
  · rw [if_neg h3] at hB
    obtain rfl : n = 0 := by omega
    rw [Nat.pow_zero, Nat.div_one] at ha hB
    rw [Nat.add_zero] at hB
    unfold estK
    rw [ha, hB]
    have hk : 0 < x / y := Nat.div_pos h1 (by omega)
    have hk2 : x / y < bB := by rw [Nat.div_lt_iff_lt_mul (by omega), Nat.mul_comm]; exact h2
    rw [if_pos hk]
    have hk3 : x / y ≤ 999999999 := Nat.le_of_lt_succ hk2
    rw [Nat.min_eq_left hk3]
    exact ⟨hk, hk3, Nat.div_mul_le_self _ _⟩
/-! ### division -/
/-- What a word of the dividend makes of the rest behind it. -/
theorem div_word {v y j : Nat} (hy : y ≠ 0) : wd (v / y) j = (v / bB ^ (j + 1) % y * bB + wd v j) / y ∧ v / bB ^ j % y = (v / bB ^ (j + 1) % y * bB + wd v j) % y ∧ v / bB ^ (j + 1) % y * bB + wd v j < y * bB := by
  have h1 : v / bB ^ j / bB = v / bB ^ (j + 1) := by rw [Nat.div_div_eq_div_mul, Nat.pow_succ]
  obtain ⟨V, hV⟩ : ∃ V, v / bB ^ j = V := ⟨_, rfl⟩
  obtain ⟨H, hH⟩ : ∃ H, v / bB ^ (j + 1) = H := ⟨_, rfl⟩
  have hw : wd v j = V % bB := by unfold wd; rw [hV]
  have hq : wd (v / y) j = V / y % bB := by
    unfold wd
    rw [Nat.div_div_eq_div_mul, Nat.mul_comm, ← Nat.div_div_eq_div_mul, hV]
  rw [hV, hH] at h1
  rw [hw, hq, hH, hV]
  obtain ⟨w, hww⟩ : ∃ w, V % bB = w := ⟨_, rfl⟩
  have hlt : w < bB := by rw [← hww]; exact Nat.mod_lt _ (by decide)
  have hVe : V = H * bB + w := by
    have := Nat.div_add_mod V bB
    rw [h1, hww, Nat.mul_comm] at this
    exact this.symm
  rw [hww]
  have hr : H % y < y := Nat.mod_lt _ (by omega)
  have he : H = y * (H / y) + H % y := (Nat.div_add_mod _ _).symm
  obtain ⟨r, hrr⟩ : ∃ r, H % y = r := ⟨_, rfl⟩
  obtain ⟨q, hqq⟩ : ∃ q, H / y = q := ⟨_, rfl⟩
  rw [hrr] at hr he
  rw [hqq] at he
  rw [hrr]
  have hb : r * bB + w < y * bB := by
    have : (r + 1) * bB ≤ y * bB := Nat.mul_le_mul_right _ hr
    rw [Nat.add_mul] at this
    omega
  have hVy : V = y * (q * bB) + (r * bB + w) := by
    rw [hVe, he, Nat.add_mul, Nat.mul_assoc, Nat.add_assoc]
  refine ⟨?_, ?_, hb⟩
  · rw [hVy, Nat.mul_add_div (by omega), Nat.mul_comm q, Nat.mul_add_mod]
    exact Nat.mod_eq_of_lt (by rw [Nat.div_lt_iff_lt_mul (by omega), Nat.mul_comm bB y]; exact hb)
  · rw [hVy, Nat.mul_add_mod]
theorem div_sub {x y d x0 : Nat} (_hy : y ≠ 0) (h : x + d * y = x0) (hx : x < y) : d = x0 / y ∧ x = x0 % y := by
  subst h
  constructor
  · rw [Nat.add_mul_div_right _ _ (by omega), Nat.div_eq_of_lt hx, Nat.zero_add]
  · rw [Nat.add_mul_mod_self_right, Nat.mod_eq_of_lt hx]
/-! ### sums with signs -/
/-- The number with a sign. -/
def sV (s : Bool) (v : Nat) : Int := if s = true then -(v : Int) else v
def plS (s t : Bool) (v u : Nat) : Bool × Nat := if s = t then (s, v + u) else if u ≤ v then (s, v - u) else (t, u - v)
theorem plS_val (s t : Bool) (v u : Nat) : sV (plS s t v u).1 (plS s t v u).2 = sV s v + sV t u := by
  unfold plS
  by_cases h : s = t
  · subst h; rw [if_pos rfl]; unfold sV; cases s <;> simp; omega
  · rw [if_neg h]
    by_cases h2 : u ≤ v
    · rw [if_pos h2]; unfold sV
      cases s <;> cases t <;> simp at h ⊢ <;> omega
    · rw [if_neg h2]; unfold sV
      cases s <;> cases t <;> simp at h ⊢ <;> omega
theorem sV_abs (n : Int) : sV (decide (n < 0)) n.natAbs = n := by
  unfold sV
  by_cases h : n < 0
  · simp [h]; omega
  · simp [h]; omega
theorem itoa_sV (s : Bool) (v : Nat) : itoa (sV s v) = (if s = true ∧ v ≠ 0 then [45] else []) ++ decDigits v := by
  unfold sV
  cases s with
  | false => simp [itoa_pos]
  | true =>
    by_cases h : v = 0
    · subst h; simp [itoa_zero, dec_zero]
    · simp [h]
      rw [itoa_below (by omega)]
      simp
/-- The last digits, whether nine or fewer. -/
theorem dv_cut2 {l : List UInt8} (h : Dgs l) : dv (l.drop (l.length - 9)) = dv l % bB ∧ dv (l.take (l.length - 9)) = dv l / bB := by
  by_cases hl : 9 ≤ l.length
  · exact dv_cut h _ (by omega)
  · have h1 : dv l < bB := by
      refine Nat.lt_of_lt_of_le (dv_lt h) ?_
      rw [← pow9]
      exact Nat.pow_le_pow_right (by decide) (by omega)
    rw [show l.length - 9 = 0 from by omega, List.drop_zero, List.take_zero, Nat.mod_eq_of_lt h1, Nat.div_eq_of_lt h1]
    exact ⟨rfl, rfl⟩
end Go.Proofs.YtcmhompbdanpdaaGreatDoor
namespace Go.Proofs.YtcmhompbdanpdaaGreatDoor
open Go.Lib

/-! ### order -/
theorem lex_dv : ∀ {a b : List UInt8}, Dgs a → Dgs b → a.length = b.length → (a < b ↔ dv a < dv b)
  | [], [], _, _, _ => by simp [dv_nil]
  | [], _ :: _, _, _, h => by simp at h
  | _ :: _, [], _, _, h => by simp at h
  | c :: a, d :: b, ha, hb, hl => by
    have hl' : a.length = b.length := by simpa using hl
    have h1 := dv_lt ha.cons.2
    have h2 := dv_lt hb.cons.2
    have hc := ha.cons.1
    have hd := hb.cons.1
    rw [List.cons_lt_cons_iff, dv_cons, dv_cons, lex_dv ha.cons.2 hb.cons.2 hl', hl']
    rw [hl'] at h1
    obtain ⟨P, hP⟩ : ∃ P, 10 ^ b.length = P := ⟨_, rfl⟩
    rw [hP] at h1 h2 ⊢
    have hcd : c < d ↔ c.toNat - 48 < d.toNat - 48 := by rw [UInt8.lt_iff_toNat_lt]; omega
    have hce : c = d ↔ c.toNat - 48 = d.toNat - 48 := by rw [← UInt8.toNat_inj]; omega
    rw [hcd, hce]
    obtain ⟨x, hx⟩ : ∃ x, c.toNat - 48 = x := ⟨_, rfl⟩
    obtain ⟨y, hy⟩ : ∃ x, d.toNat - 48 = x := ⟨_, rfl⟩
    rw [hx, hy]
    clear hcd hce hx hy hc hd
    constructor
    · rintro (h | ⟨rfl, h⟩)
      · have : (x + 1) * P ≤ y * P := Nat.mul_le_mul_right _ h
        rw [Nat.add_mul] at this
        omega
      · omega
    · intro h
      rcases Nat.lt_trichotomy x y with h3 | h3 | h3
      · exact .inl h3
      · subst h3; exact .inr ⟨rfl, by omega⟩
      · have : (y + 1) * P ≤ x * P := Nat.mul_le_mul_right _ h3
        rw [Nat.add_mul] at this
        omega
/-- Shorter numerals are less. -/
theorem can_short {a b : List UInt8} (ha : Can a) (hb : Can b) (h : a.length < b.length) : dv a < dv b := by
  have h1 := dv_lt ha.1
  have hne : b ≠ [48] := fun e => by
    subst e
    have : a.length ≠ 0 := fun e => ha.2.1 (List.length_eq_zero_iff.1 e)
    have h' : a.length < 1 := h
    omega
  have h2 := can_pos hb hne
  have h3 : 10 ^ a.length ≤ 10 ^ (b.length - 1) := Nat.pow_le_pow_right (by decide) (by omega)
  omega
theorem less_dv {a b : List UInt8} (ha : Can a) (hb : Can b) : (a.length < b.length ∨ a.length = b.length ∧ a < b) ↔ dv a < dv b := by
  rcases Nat.lt_trichotomy a.length b.length with h | h | h
  · exact ⟨fun _ => can_short ha hb h, fun _ => .inl h⟩
  · rw [lex_dv ha.1 hb.1 h]
    exact ⟨fun h1 => h1.elim (fun h2 => absurd h2 (by omega)) (fun h2 => h2.2), fun h1 => .inr ⟨h, h1⟩⟩
  · have := can_short hb ha h
    exact ⟨fun h1 => by omega, fun h1 => by omega⟩
/-! ### a column of two digits -/
def colD (x y c : Nat) (add : Bool) : Nat × Nat :=
  if add = true then (if 9 < x + y + c then (x + y + c - 10, 1) else (x + y + c, 0)) else (if x < y + c then (x + 10 - y - c, 1) else (x - y - c, 0))
/-- What is on the paper behind k columns. -/
structure PapI (A B : List UInt8) (add : Bool) (k : Nat) (o : List UInt8) (c : Nat) : Prop where
  len : o.length = k
  dgs : Dgs o
  car : c ≤ 1
  eq : if add = true then dv o + c * 10 ^ k = dv (A.drop (A.length - k)) + dv (B.drop (B.length - k)) else dv o + dv (B.drop (B.length - k)) = dv (A.drop (A.length - k)) + c * 10 ^ k
theorem PapI.start (A B : List UInt8) (add : Bool) : PapI A B add 0 [] 0 := ⟨rfl, Dgs.nil, by decide, by simp [dv_nil]⟩
theorem drop_one {A : List UInt8} {k : Nat} (h : k < A.length) : A.drop (A.length - (k + 1)) = A.getD (A.length - (k + 1)) 0 :: A.drop (A.length - k) := by
  rw [List.drop_eq_getElem_cons (by omega), show A.length - (k + 1) + 1 = A.length - k from by omega]
  congr 1
  rw [List.getD_eq_getElem?_getD, List.getElem?_eq_getElem (by omega)]; rfl
theorem Dgs.at {A : List UInt8} (h : Dgs A) {i : Nat} (hi : i < A.length) : 48 ≤ (A.getD i 0).toNat ∧ (A.getD i 0).toNat ≤ 57 := by
  rw [List.getD_eq_getElem?_getD, List.getElem?_eq_getElem hi]
  exact h _ (List.getElem_mem _)
theorem colD_ok {x y c : Nat} {add : Bool} (hx : x ≤ 9) (hy : y ≤ 9) (hc : c ≤ 1) : (colD x y c add).1 ≤ 9 ∧ (colD x y c add).2 ≤ 1 := by
  unfold colD
  cases add <;> simp <;> split <;> simp <;> omega
theorem PapI.step {A B : List UInt8} {add : Bool} {k : Nat} {o : List UInt8} {c : Nat} (h : PapI A B add k o c) (hA : Dgs A) (hB : Dgs B) (hl : A.length = B.length) (hk : k < A.length) :
    PapI A B add (k + 1) (UInt8.ofNat (48 + (colD ((A.getD (A.length - (k + 1)) 0).toNat - 48) ((B.getD (B.length - (k + 1)) 0).toNat - 48) c add).1) :: o) (colD ((A.getD (A.length - (k + 1)) 0).toNat - 48) ((B.getD (B.length - (k + 1)) 0).toNat - 48) c add).2 := by
  have ha := hA.at (i := A.length - (k + 1)) (by omega)
  have hb := hB.at (i := B.length - (k + 1)) (by omega)
  have e1 := drop_one hk
  have e2 := drop_one (A := B) (k := k) (by omega)
  have h0 := h.eq
  obtain ⟨x, hx⟩ : ∃ x, (A.getD (A.length - (k + 1)) 0).toNat - 48 = x := ⟨_, rfl⟩
  obtain ⟨y, hy⟩ : ∃ x, (B.getD (B.length - (k + 1)) 0).toNat - 48 = x := ⟨_, rfl⟩
  have hlA : (A.drop (A.length - k)).length = k := by rw [List.length_drop]; omega
  have hlB : (B.drop (B.length - k)).length = k := by rw [List.length_drop]; omega
  have hx9 : x ≤ 9 := by omega
  have hy9 : y ≤ 9 := by omega
  have hco := colD_ok (add := add) hx9 hy9 h.car
  rw [hx, hy]
  have hd : (UInt8.ofNat (48 + (colD x y c add).1)).toNat = 48 + (colD x y c add).1 := ofNat_val (by omega)
  refine ⟨by rw [List.length_cons, h.len], fun z hz => ?_, hco.2, ?_⟩
  · rcases List.mem_cons.1 hz with rfl | hz
    · rw [hd]; omega
    · exact h.dgs z hz
  · rw [e1, e2, dv_cons, dv_cons, dv_cons, hlA, hlB, hx, hy, hd, h.len, Nat.pow_succ]
    obtain ⟨P, hP⟩ : ∃ P, 10 ^ k = P := ⟨_, rfl⟩
    obtain ⟨u, hu⟩ : ∃ u, dv (A.drop (A.length - k)) = u := ⟨_, rfl⟩
    obtain ⟨v, hv⟩ : ∃ u, dv (B.drop (B.length - k)) = u := ⟨_, rfl⟩
    obtain ⟨t, ht⟩ : ∃ u, dv o = u := ⟨_, rfl⟩
    rw [hP, hu, hv, ht] at h0
    rw [hP, hu, hv, ht]
    rw [show 48 + (colD x y c add).1 - 48 = (colD x y c add).1 from by omega]
    clear hP hu hv ht hd hco e1 e2 hlA hlB ha hb hx hy
    have hcar := h.car
    clear h
    cases add with
    | true =>
      simp only [if_true] at h0 ⊢
      unfold colD
      simp only [if_true]
      by_cases h9 : 9 < x + y + c
      · simp only [if_pos h9]
        obtain ⟨z, hz⟩ : ∃ z, x + y + c = z + 10 := ⟨x + y + c - 10, by omega⟩
        rw [hz, Nat.add_sub_cancel]
        have : (x + y + c) * P = (z + 10) * P := by rw [hz]
        grind
      · simp only [if_neg h9]
        grind
    | false =>
      simp only [Bool.false_eq_true, if_false] at h0 ⊢
      unfold colD
      simp only [Bool.false_eq_true, if_false]
      by_cases h9 : x < y + c
      · simp only [if_pos h9]
        obtain ⟨z, hz⟩ : ∃ z, x + 10 - y - c = z := ⟨_, rfl⟩
        have hz2 : x + 10 = z + y + c := by omega
        rw [hz]
        have : (x + 10) * P = (z + y + c) * P := by rw [hz2]
        grind
      · simp only [if_neg h9]
        obtain ⟨z, hz⟩ : ∃ z, x - y - c = z := ⟨_, rfl⟩
        have hz2 : x = z + y + c := by omega
        rw [hz]
        have : x * P = (z + y + c) * P := by rw [hz2]
        grind
theorem PapI.done {A B : List UInt8} {add : Bool} {n : Nat} {o : List UInt8} {c : Nat} (h : PapI A B add n o c) (hA : A.length = n) (hB : B.length = n) (hs : if add = true then dv A + dv B < 10 ^ n else dv B ≤ dv A) (hn : 0 < n) :
    bareL o = decDigits (if add = true then dv A + dv B else dv A - dv B) := by
  rw [bare_can h.dgs (fun e => by have := h.len; rw [e] at this; simp at this; omega)]
  have h0 := h.eq
  rw [hA, hB, Nat.sub_self, List.drop_zero, List.drop_zero] at h0
  have h1 := dv_lt h.dgs
  rw [h.len] at h1
  congr 1
  obtain ⟨P, hP⟩ : ∃ P, 10 ^ n = P := ⟨_, rfl⟩
  rw [hP] at h0 h1 hs
  have hc := h.car
  cases add with
  | true =>
    simp only [if_true] at h0 hs ⊢
    have : c = 0 ∨ c = 1 := by omega
    rcases this with rfl | rfl <;> omega
  | false =>
    simp only [Bool.false_eq_true, if_false] at h0 hs ⊢
    have : c = 0 ∨ c = 1 := by omega
    rcases this with rfl | rfl <;> omega
/-! ### floored quotients -/
theorem fdiv_of {m n q r : Int} (h : m = q * n + r) (hr : 0 ≤ r ∧ r < n ∨ n < r ∧ r ≤ 0) : m.fdiv n = q ∧ m.fmod n = r := by
  have key : ∀ m n q r : Int, m = q * n + r → 0 ≤ r → r < n → m.fdiv n = q := by
    intro m n q r h h0 h1
    rw [Int.fdiv_eq_ediv_of_nonneg _ (by omega), h, Int.add_comm, Int.add_mul_ediv_right _ _ (by omega), Int.ediv_eq_zero_of_lt h0 h1, Int.zero_add]
  have hq : m.fdiv n = q := by
    rcases hr with ⟨h0, h1⟩ | ⟨h0, h1⟩
    · exact key m n q r h h0 h1
    · rw [← Int.neg_fdiv_neg]
      exact key (-m) (-n) q (-r) (by rw [h]; grind) (by omega) (by omega)
  refine ⟨hq, ?_⟩
  have := Int.mul_fdiv_add_fmod m n
  rw [hq] at this
  grind
end Go.Proofs.YtcmhompbdanpdaaGreatDoor
namespace Go.Proofs.YtcmhompbdanpdaaGreatDoor
open Go.Lib

/-! ### columns -/
/-- The value of columns. -/
def cv (l : List Nat) : Nat := l.foldl (fun a c => a * 10 + c) 0
theorem cvF_eq (l : List Nat) : ∀ acc, l.foldl (fun a c => a * 10 + c) acc = acc * 10 ^ l.length + cv l := by
  unfold cv
  induction l with
  | nil => intro acc; simp
  | cons c l ih =>
    intro acc
    have h1 := ih (acc * 10 + c)
    have h2 := ih (0 * 10 + c)
    show l.foldl (fun a c => a * 10 + c) (acc * 10 + c) = acc * 10 ^ (l.length + 1) + l.foldl (fun a c => a * 10 + c) (0 * 10 + c)
    rw [h1, h2, Nat.pow_succ]
    grind
theorem cv_append (a b : List Nat) : cv (a ++ b) = cv a * 10 ^ b.length + cv b := by
  unfold cv
  rw [List.foldl_append]
  exact cvF_eq b _
theorem cv_cons (c : Nat) (l : List Nat) : cv (c :: l) = c * 10 ^ l.length + cv l := by
  rw [show c :: l = [c] ++ l from rfl, cv_append]
  simp [cv]
theorem cv_zeros (k : Nat) : cv (List.replicate k 0) = 0 := by
  induction k with
  | zero => rfl
  | succ k ih => rw [List.replicate_succ, cv_cons, ih]; simp
theorem cv_set {l : List Nat} {i : Nat} (h : i < l.length) (x : Nat) : cv (l.set i (l.getD i 0 + x)) = cv l + x * 10 ^ (l.length - 1 - i) := by
  induction l generalizing i with
  | nil => simp at h
  | cons c l ih =>
    cases i with
    | zero => rw [List.set_cons_zero, cv_cons, cv_cons]; simp; rw [Nat.add_mul]; omega
    | succ i =>
      have hi : i < l.length := by simpa using h
      rw [List.set_cons_succ, cv_cons, cv_cons, List.getD_cons_succ, ih hi, List.length_set, List.length_cons, show l.length + 1 - 1 - (i + 1) = l.length - 1 - i from by omega]
      omega
/-- The digit at a place. -/
def dAt (a : List UInt8) (i : Nat) : Nat := (a.getD i 0).toNat - 48
theorem dAt_le {a : List UInt8} (h : Dgs a) {i : Nat} (hi : i < a.length) : dAt a i ≤ 9 := by
  have := h.at hi
  unfold dAt; omega
theorem dv_take {a : List UInt8} {i : Nat} (h : i < a.length) : dv (a.take (i + 1)) = dv (a.take i) * 10 + dAt a i := by
  rw [List.take_add_one, List.getElem?_eq_getElem h]
  show dv (a.take i ++ [a[i]]) = _
  rw [dv_snoc]
  unfold dAt
  rw [List.getD_eq_getElem?_getD, List.getElem?_eq_getElem h]; rfl
/-- The columns behind i rows and k products of the next one. -/
structure ColI (a b : List UInt8) (i k : Nat) (cs : List Nat) : Prop where
  len : cs.length = a.length + b.length
  val : cv cs = dv (a.take i) * dv b * 10 ^ (a.length - i) + (if i < a.length then dAt a i * dv (b.take k) * 10 ^ (a.length - 1 - i) * 10 ^ (b.length - k) else 0)
  bnd : ∀ j, j < cs.length → cs.getD j 0 ≤ 81 * (i + (if i + k < j then 0 else 1))
theorem ColI.start (a b : List UInt8) : ColI a b 0 0 (List.replicate (a.length + b.length) 0) := by
  refine ⟨by simp, ?_, fun j hj => ?_⟩
  · rw [cv_zeros, List.take_zero, List.take_zero, dv_nil]
    simp
  · rw [List.length_replicate] at hj
    simp [hj]
theorem ColI.step {a b : List UInt8} {i k : Nat} {cs : List Nat} (h : ColI a b i k cs) (ha : Dgs a) (hb : Dgs b) (hi : i < a.length) (hk : k < b.length) :
    ColI a b i (k + 1) (cs.set (i + k + 1) (cs.getD (i + k + 1) 0 + dAt a i * dAt b k)) := by
  have hl := h.len
  refine ⟨by rw [List.length_set]; exact hl, ?_, fun j hj => ?_⟩
  · rw [cv_set (by omega), h.val, if_pos hi, if_pos hi, dv_take hk, hl]
    have e1 : a.length + b.length - 1 - (i + k + 1) = (a.length - 1 - i) + (b.length - (k + 1)) := by omega
    have e2 : b.length - k = (b.length - (k + 1)) + 1 := by omega
    rw [e1, e2, Nat.pow_add, Nat.pow_succ]
    grind
  · rw [List.length_set] at hj
    have hb0 := h.bnd j hj
    rw [List.getD_eq_getElem?_getD, List.getElem?_set]
    by_cases e : i + k + 1 = j
    · subst e
      rw [if_pos rfl, if_pos hj]
      rw [if_pos (by omega)] at hb0
      rw [if_neg (by omega)]
      have h1 := dAt_le ha hi
      have h2 := dAt_le hb hk
      have h3 : dAt a i * dAt b k ≤ 9 * 9 := Nat.mul_le_mul h1 h2
      show cs.getD (i + k + 1) 0 + dAt a i * dAt b k ≤ _
      omega
    · rw [if_neg e, ← List.getD_eq_getElem?_getD]
      refine Nat.le_trans hb0 ?_
      by_cases e2 : i + k < j
      · rw [if_pos e2, if_pos (by omega)]; exact Nat.le_refl _
      · rw [if_neg e2, if_neg (by omega)]; exact Nat.le_refl _
theorem ColI.row {a b : List UInt8} {i : Nat} {cs : List Nat} (h : ColI a b i b.length cs) (hi : i < a.length) : ColI a b (i + 1) 0 cs := by
  refine ⟨h.len, ?_, fun j hj => ?_⟩
  · rw [h.val, if_pos hi, List.take_length, Nat.sub_self, Nat.pow_zero, Nat.mul_one, dv_take hi, List.take_zero, dv_nil]
    have e : a.length - i = (a.length - (i + 1)) + 1 := by omega
    have e2 : a.length - 1 - i = a.length - (i + 1) := by omega
    rw [e, e2, Nat.pow_succ]
    have e3 : (if i + 1 < a.length then dAt a (i + 1) * 0 * 10 ^ (a.length - 1 - (i + 1)) * 10 ^ (b.length - 0) else 0) = 0 := by split <;> simp
    rw [e3]
    grind
  · have h1 := h.bnd j hj
    refine Nat.le_trans h1 ?_
    split <;> split <;> omega
theorem ColI.done {a b : List UInt8} {cs : List Nat} (h : ColI a b a.length 0 cs) : cv cs = dv a * dv b ∧ ∀ j, j < cs.length → cs.getD j 0 ≤ 81 * (a.length + 1) := by
  refine ⟨?_, fun j hj => ?_⟩
  · rw [h.val, if_neg (by omega), List.take_length, Nat.sub_self, Nat.pow_zero, Nat.mul_one, Nat.add_zero]
  · refine Nat.le_trans (h.bnd j hj) ?_
    split <;> omega
/-! ### columns are carried -/
structure ComI (cs : List Nat) (k : Nat) (o : List UInt8) (c M : Nat) : Prop where
  len : o.length = k
  dgs : Dgs o
  car : c ≤ M
  eq : dv o + c * 10 ^ k = cv (cs.drop (cs.length - k))
theorem ComI.start (cs : List Nat) (M : Nat) : ComI cs 0 [] 0 M := ⟨rfl, Dgs.nil, Nat.zero_le _, by simp [dv_nil, cv]⟩
theorem ComI.step {cs : List Nat} {k : Nat} {o : List UInt8} {c M : Nat} (h : ComI cs k o c M) (hk : k < cs.length) (hb : cs.getD (cs.length - (k + 1)) 0 ≤ M) :
    ComI cs (k + 1) (UInt8.ofNat (48 + (c + cs.getD (cs.length - (k + 1)) 0) % 10) :: o) ((c + cs.getD (cs.length - (k + 1)) 0) / 10) M := by
  obtain ⟨x, hx⟩ : ∃ x, cs.getD (cs.length - (k + 1)) 0 = x := ⟨_, rfl⟩
  rw [hx] at hb ⊢
  have hc := h.car
  have hd : (UInt8.ofNat (48 + (c + x) % 10)).toNat = 48 + (c + x) % 10 := ofNat_val (by omega)
  refine ⟨by rw [List.length_cons, h.len], fun z hz => ?_, by omega, ?_⟩
  · rcases List.mem_cons.1 hz with rfl | hz
    · rw [hd]; omega
    · exact h.dgs z hz
  · have e1 : cs.drop (cs.length - (k + 1)) = x :: cs.drop (cs.length - k) := by
      rw [List.drop_eq_getElem_cons (by omega), show cs.length - (k + 1) + 1 = cs.length - k from by omega]
      congr 1
      rw [← hx, List.getD_eq_getElem?_getD, List.getElem?_eq_getElem (by omega)]; rfl
    rw [e1, dv_cons, cv_cons, ← h.eq, hd, h.len, List.length_drop, show cs.length - (cs.length - k) = k from by omega, Nat.pow_succ]
    obtain ⟨P, hP⟩ : ∃ P, 10 ^ k = P := ⟨_, rfl⟩
    rw [hP, show 48 + (c + x) % 10 - 48 = (c + x) % 10 from by omega]
    obtain ⟨q, hq⟩ : ∃ q, (c + x) / 10 = q := ⟨_, rfl⟩
    obtain ⟨r, hr⟩ : ∃ q, (c + x) % 10 = q := ⟨_, rfl⟩
    have e2 : (c + x) * P = (10 * q + r) * P := by rw [← hq, ← hr, Nat.div_add_mod]
    rw [hq, hr]
    clear hq hr hd hx hb hc e1 h
    grind
theorem ComI.done {cs : List Nat} {o : List UInt8} {c M : Nat} (h : ComI cs cs.length o c M) (hv : cv cs < 10 ^ cs.length) (hn : 0 < cs.length) : bareL o = decDigits (cv cs) := by
  rw [bare_can h.dgs (fun e => by have := h.len; rw [e] at this; simp at this; omega)]
  have h0 := h.eq
  rw [Nat.sub_self, List.drop_zero] at h0
  have h1 : c = 0 := by
    rcases Nat.eq_zero_or_pos c with h2 | h2
    · exact h2
    · have : 1 * 10 ^ cs.length ≤ c * 10 ^ cs.length := Nat.mul_le_mul_right _ h2
      omega
  subst h1
  rw [← h0, Nat.zero_mul, Nat.add_zero]
theorem mul_fits {a b : List UInt8} (ha : Dgs a) (hb : Dgs b) : dv a * dv b < 10 ^ (a.length + b.length) := by
  rw [Nat.pow_add]
  exact Nat.mul_lt_mul'' (dv_lt ha) (dv_lt hb)
/-! ### the quotient, digit by digit -/
structure DivI (a : List UInt8) (y i : Nat) (q : List UInt8) (r : Nat) : Prop where
  len : q.length = i
  dgs : Dgs q
  lt : r < y
  eq : dv (a.take i) = dv q * y + r
theorem DivI.start (a : List UInt8) {y : Nat} (h : 0 < y) : DivI a y 0 [] 0 := ⟨rfl, Dgs.nil, h, by simp [dv_nil]⟩
theorem DivI.step {a : List UInt8} {y i : Nat} {q : List UInt8} {r d r' : Nat} (h : DivI a y i q r) (hi : i < a.length) (hd : d ≤ 9) (he : r * 10 + dAt a i = d * y + r') (hr : r' < y) : DivI a y (i + 1) (q ++ [UInt8.ofNat (48 + d)]) r' := by
  have hv : (UInt8.ofNat (48 + d)).toNat = 48 + d := ofNat_val (by omega)
  refine ⟨by rw [List.length_append, h.len]; rfl, h.dgs.append fun z hz => ?_, hr, ?_⟩
  · obtain rfl := List.mem_singleton.1 hz
    rw [hv]; omega
  · rw [dv_take hi, h.eq, dv_snoc, hv, show 48 + d - 48 = d from by omega]
    grind
theorem DivI.done {a : List UInt8} {y : Nat} {q : List UInt8} {r : Nat} (h : DivI a y a.length q r) (hn : a ≠ []) : bareL q = decDigits (dv a / y) ∧ r = dv a % y := by
  have h0 := h.eq
  rw [List.take_length] at h0
  have hl := h.lt
  have hq : dv q = dv a / y := by rw [h0, Nat.mul_comm, Nat.mul_add_div (by omega), Nat.div_eq_of_lt hl]; rfl
  refine ⟨?_, ?_⟩
  · rw [bare_can h.dgs (fun e => by have := h.len; rw [e] at this; exact hn (List.length_eq_zero_iff.1 this.symm)), hq]
  · rw [h0, Nat.mul_comm, Nat.mul_add_mod, Nat.mod_eq_of_lt hl]
theorem div_digit {r d y : Nat} (hr : r < y) (hd : d ≤ 9) : r * 10 + d < 10 * y := by omega
end Go.Proofs.YtcmhompbdanpdaaGreatDoor
namespace Go.Proofs.YtcmhompbdanpdaaGreatDoor
open Go.Lib

/-- The text of a rational number. -/
def rtL (q : Rat) : List UInt8 := itoa q.num ++ (if q.den = 1 then [] else 47 :: decDigits q.den)
theorem itoa_no47 (n : Int) : (47 : UInt8) ∉ itoa n := by
  have hd : ∀ m, (47 : UInt8) ∉ decDigits m := fun m h => by
    have := dgs_dec m 47 h
    have e : (47 : UInt8).toNat = 47 := rfl
    omega
  rw [itoa_split]
  intro h
  rcases List.mem_append.1 h with h | h
  · unfold sgn at h
    split at h
    · have := List.mem_singleton.1 h
      exact absurd this (by decide)
    · cases h
  · exact hd _ h
/-- Where a text is cut at the first 47. -/
theorem cut47 {a b c d : List UInt8} (ha : (47 : UInt8) ∉ a) (hc : (47 : UInt8) ∉ c) (h : a ++ 47 :: b = c ++ 47 :: d) : a = c ∧ b = d := by
  induction a generalizing c with
  | nil =>
    cases c with
    | nil => exact ⟨rfl, by simpa using h⟩
    | cons x c =>
      have : (47 : UInt8) = x := (List.cons.inj h).1
      exact absurd (by rw [this]; simp) hc
  | cons x a ih =>
    cases c with
    | nil =>
      have : x = (47 : UInt8) := (List.cons.inj h).1
      exact absurd (by rw [this]; simp) ha
    | cons y c =>
      obtain ⟨rfl, h2⟩ := List.cons.inj h
      obtain ⟨rfl, rfl⟩ := ih (fun h => ha (by simp [h])) (fun h => hc (by simp [h])) h2
      exact ⟨rfl, rfl⟩
theorem rtL_inj {p q : Rat} (h : rtL p = rtL q) : p = q := by
  unfold rtL at h
  by_cases hp : p.den = 1 <;> by_cases hq : q.den = 1
  · rw [if_pos hp, if_pos hq, List.append_nil, List.append_nil] at h
    exact Rat.ext (itoa_inj h) (by rw [hp, hq])
  · rw [if_pos hp, if_neg hq, List.append_nil] at h
    exact absurd (by rw [h]; simp) (itoa_no47 p.num)
  · rw [if_neg hp, if_pos hq, List.append_nil] at h
    exact absurd (by rw [← h]; simp) (itoa_no47 q.num)
  · rw [if_neg hp, if_neg hq] at h
    obtain ⟨h1, h2⟩ := cut47 (itoa_no47 _) (itoa_no47 _) h
    exact Rat.ext (itoa_inj h1) (dec_inj h2)
/-- The divisor of both parts: with the sign of the denominator. -/
def lowG (a b : Int) : Int := if b < 0 then -(Nat.gcd a.natAbs b.natAbs : Int) else (Nat.gcd a.natAbs b.natAbs : Int)
theorem lowG_ne (a : Int) {b : Int} (hb : b ≠ 0) : lowG a b ≠ 0 := by
  have : 0 < Nat.gcd a.natAbs b.natAbs := Nat.gcd_pos_of_pos_right _ (by omega)
  unfold lowG
  split <;> omega
theorem fdiv_exact {m n q : Int} (h : m = q * n) (hn : n ≠ 0) : m.fdiv n = q ∧ m.fmod n = 0 :=
  fdiv_of (by rw [h]; omega) (by omega)
theorem low_parts (a b : Int) (hb : b ≠ 0) : a = (Rat.divInt a b).num * lowG a b ∧ b = ((Rat.divInt a b).den : Int) * lowG a b := by
  have hg : Int.gcd b a = Nat.gcd a.natAbs b.natAbs := by unfold Int.gcd; exact Nat.gcd_comm _ _
  have h1 := Rat.num_divInt a b
  have h2 := Rat.den_divInt a b
  rw [hg] at h1 h2
  rw [if_neg hb] at h2
  obtain ⟨g, hgg⟩ : ∃ g, Nat.gcd a.natAbs b.natAbs = g := ⟨_, rfl⟩
  have hgp : 0 < g := by rw [← hgg]; exact Nat.gcd_pos_of_pos_right _ (by omega)
  have da : (g : Int) ∣ a := by rw [← hgg, ← Int.dvd_natAbs, Int.ofNat_dvd]; exact Nat.gcd_dvd_left _ _
  have db : g ∣ b.natAbs := by rw [← hgg]; exact Nat.gcd_dvd_right _ _
  rw [hgg] at h1 h2
  unfold lowG
  rw [hgg]
  have e2 : b.natAbs / g * g = b.natAbs := Nat.div_mul_cancel db
  rw [← h2] at e2
  have e2' : ((Rat.divInt a b).den : Int) * (g : Int) = (b.natAbs : Int) := by exact_mod_cast e2
  have e1 : (Rat.divInt a b).num * (g : Int) = b.sign * a := by
    rw [h1]
    exact Int.ediv_mul_cancel (Int.dvd_mul_of_dvd_right da)
  by_cases hb0 : b < 0
  · rw [if_pos hb0]
    rw [Int.sign_eq_neg_one_of_neg hb0] at e1
    constructor
    · rw [Int.mul_neg, e1]; omega
    · rw [Int.mul_neg, e2']; omega
  · rw [if_neg hb0]
    rw [Int.sign_eq_one_of_pos (by omega)] at e1
    constructor
    · rw [e1]; omega
    · rw [e2']; omega
theorem low_num (a b : Int) (hb : b ≠ 0) : a.fdiv (lowG a b) = (Rat.divInt a b).num ∧ b.fdiv (lowG a b) = ((Rat.divInt a b).den : Int) := by
  obtain ⟨h1, h2⟩ := low_parts a b hb
  exact ⟨(fdiv_exact h1 (lowG_ne a hb)).1, (fdiv_exact h2 (lowG_ne a hb)).1⟩
/-! ### the operations through numerators and denominators -/
theorem rat_add (p q : Rat) : Rat.divInt (p.num * q.den + q.num * p.den) ((p.den : Int) * q.den) = p + q := by
  rw [Rat.add_def', ← Rat.divInt_ofNat, Int.natCast_mul]
theorem rat_sub (p q : Rat) : Rat.divInt (p.num * q.den - q.num * p.den) ((p.den : Int) * q.den) = p - q := by
  rw [Rat.sub_def', ← Rat.divInt_ofNat, Int.natCast_mul]
theorem rat_mul (p q : Rat) : Rat.divInt (p.num * q.num) ((p.den : Int) * q.den) = p * q := by
  rw [Rat.mul_def', ← Rat.divInt_ofNat, Int.natCast_mul]
theorem rat_div (p q : Rat) : Rat.divInt (p.num * q.den) ((p.den : Int) * q.num) = p / q := by
  rw [Rat.div_def, Rat.inv_def]
  conv => rhs; rw [← Rat.num_divInt_den p]
  rw [Rat.divInt_mul_divInt]
theorem rat_lt (p q : Rat) : p < q ↔ p.num * q.den < q.num * p.den := Rat.lt_iff p q
theorem rat_eq (p q : Rat) : p = q ↔ p.num * q.den = q.num * p.den := Rat.eq_iff_mul_eq_mul
theorem rat_ofDiv (a b : Int) : Rat.divInt a b = (a : Rat) / (b : Rat) := Rat.divInt_eq_div a b
theorem rat_int (a : Int) : rtL (a : Rat) = itoa a := by
  unfold rtL
  rw [Rat.den_intCast, if_pos rfl, List.append_nil, Rat.num_intCast]
end Go.Proofs.YtcmhompbdanpdaaGreatDoor
namespace Go.Proofs.YtcmhompbdanpdaaGreatDoor
open Go.Lib

/-- A number whose parts have at most some digits. -/
def SmR (k : Nat) (q : Rat) : Prop := q.num.natAbs < 10 ^ k ∧ q.den < 10 ^ k
theorem SmR.mono {j k : Nat} {q : Rat} (h : SmR j q) (hk : j ≤ k) : SmR k q :=
  ⟨Nat.lt_of_lt_of_le h.1 (Nat.pow_le_pow_right (by decide) hk), Nat.lt_of_lt_of_le h.2 (Nat.pow_le_pow_right (by decide) hk)⟩
theorem divInt_le (a b : Int) (hb : b ≠ 0) : (Rat.divInt a b).num.natAbs ≤ a.natAbs ∧ (Rat.divInt a b).den ≤ b.natAbs := by
  obtain ⟨h1, h2⟩ := low_parts a b hb
  have hg : 1 ≤ (lowG a b).natAbs := by have := lowG_ne a hb; omega
  have e1 := congrArg Int.natAbs h1
  have e2 := congrArg Int.natAbs h2
  rw [Int.natAbs_mul] at e1 e2
  rw [Int.natAbs_natCast] at e2
  constructor
  · rw [e1]; exact Nat.le_mul_of_pos_right _ hg
  · rw [e2]; exact Nat.le_mul_of_pos_right _ hg
theorem SmR.ofDiv {k : Nat} {a b : Int} (hb : b ≠ 0) (ha : a.natAbs < 10 ^ k) (hb2 : b.natAbs < 10 ^ k) : SmR k (Rat.divInt a b) :=
  ⟨Nat.lt_of_le_of_lt (divInt_le a b hb).1 ha, Nat.lt_of_le_of_lt (divInt_le a b hb).2 hb2⟩
theorem SmR.int {k : Nat} {a : Int} (ha : a.natAbs < 10 ^ k) (hk : 0 < k) : SmR k (a : Rat) :=
  ⟨by rw [Rat.num_intCast]; exact ha, by rw [Rat.den_intCast]; exact Nat.one_lt_pow (by omega) (by decide)⟩
/-! ### sums -/
def sumI (l : List Int) : Int := l.foldl (fun s x => s + x) 0
def sqI (l : List Int) : Int := l.foldl (fun s x => s + x * x) 0
theorem foldI (f : Int → Int) (l : List Int) : ∀ s, l.foldl (fun s x => s + f x) s = s + l.foldl (fun s x => s + f x) 0 := by
  induction l with
  | nil => intro s; simp
  | cons x l ih => intro s; rw [List.foldl_cons, List.foldl_cons, ih, ih (0 + f x)]; omega
theorem sumI_cons (x : Int) (l : List Int) : sumI (x :: l) = x + sumI l := by
  unfold sumI
  rw [List.foldl_cons, foldI (fun x => x)]; omega
theorem sqI_cons (x : Int) (l : List Int) : sqI (x :: l) = x * x + sqI l := by
  unfold sqI
  rw [List.foldl_cons, foldI (fun x => x * x)]; omega
/-- The squares of the distances to a number, as the reference sums them. -/
def dvtS (m : Rat) (s : Rat) (l : List Int) : Rat := l.foldl (fun (s : Rat) (x : Int) => s + ((x : Rat) - m) * ((x : Rat) - m)) s
theorem dvtS_eq (m : Rat) (l : List Int) : ∀ s, dvtS m s l = s + (sqI l : Rat) - 2 * m * (sumI l : Rat) + (l.length : Rat) * (m * m) := by
  induction l with
  | nil => intro s; simp [dvtS, sqI, sumI]; grind
  | cons x l ih =>
    intro s
    show dvtS m (s + ((x : Rat) - m) * ((x : Rat) - m)) l = _
    rw [ih, sqI_cons, sumI_cons, List.length_cons, Rat.intCast_add, Rat.intCast_add, Rat.intCast_mul, Rat.natCast_add]
    grind
/-- The variance: the reference's form is the library's. -/
theorem var_eq (l : List Int) (h : 2 ≤ l.length) :
    dvtS ((sumI l : Rat) / (l.length : Rat)) 0 l / ((l.length : Rat) - 1) = (((l.length : Int) * sqI l - sumI l * sumI l : Int) : Rat) / (((l.length : Int) * ((l.length : Int) - 1) : Int) : Rat) := by
  rw [dvtS_eq]
  obtain ⟨n, hn⟩ : ∃ n, l.length = n := ⟨_, rfl⟩
  rw [hn] at h ⊢
  obtain ⟨S, hS⟩ : ∃ S : Rat, (sumI l : Rat) = S := ⟨_, rfl⟩
  obtain ⟨Q, hQ⟩ : ∃ S : Rat, (sqI l : Rat) = S := ⟨_, rfl⟩
  rw [Rat.intCast_sub, Rat.intCast_mul, Rat.intCast_mul, Rat.intCast_mul, Rat.intCast_sub, hS, hQ]
  have e : (((n : Int)) : Rat) = (n : Rat) := rfl
  have e1 : ((1 : Int) : Rat) = (1 : Rat) := rfl
  rw [e, e1]
  obtain ⟨N, hN⟩ : ∃ N : Rat, (n : Rat) = N := ⟨_, rfl⟩
  have h0 : N ≠ 0 := by
    rw [← hN]; intro e
    have := Rat.natCast_inj.1 (show (n : Rat) = ((0 : Nat) : Rat) from e)
    omega
  have h1 : N - 1 ≠ 0 := by
    rw [← hN]; intro e
    have e2 : (n : Rat) = ((1 : Nat) : Rat) := by
      have e3 : ((1 : Nat) : Rat) = 1 := rfl
      rw [e3]; grind
    have := Rat.natCast_inj.1 e2
    omega
  rw [hN]
  clear hN hS hQ e e1 hn
  grind
end Go.Proofs.YtcmhompbdanpdaaGreatDoor
namespace Go.Proofs.YtcmhompbdanpdaaGreatDoor
open Go.Lib

def inT (n : Int) : Bool := decide (-1048576 ≤ n) && decide (n ≤ 1048576)
/-- The error of a series. -/
def ckSr (l : List Int) : Int := if l.length = 0 then 13 else if 4096 < l.length then 5 else if l.any (fun n => !inT n) = true then 2 else 0
/-- The error of a series with limits. -/
def gvS (l : List Int) (lo hi : Int) : Int := if ckSr l = 0 then (if (!inT lo || !inT hi) = true then 2 else if hi < lo then 9 else 0) else ckSr l
theorem inT_iff {n : Int} : inT n = true ↔ -1048576 ≤ n ∧ n ≤ 1048576 := by unfold inT; simp
theorem ckSr_zero {l : List Int} : ckSr l = 0 ↔ 0 < l.length ∧ l.length ≤ 4096 ∧ ∀ x ∈ l, -1048576 ≤ x ∧ x ≤ 1048576 := by
  unfold ckSr
  by_cases h0 : l.length = 0
  · rw [if_pos h0]; exact ⟨fun h => absurd h (by decide), fun h => by omega⟩
  rw [if_neg h0]
  by_cases h1 : 4096 < l.length
  · rw [if_pos h1]; exact ⟨fun h => absurd h (by decide), fun h => by omega⟩
  rw [if_neg h1]
  by_cases h2 : l.any (fun n => !inT n) = true
  · rw [if_pos h2]
    refine ⟨fun h => absurd h (by decide), fun h => ?_⟩
    obtain ⟨x, hx, e⟩ := List.any_eq_true.1 h2
    have := inT_iff.2 (h.2.2 x hx)
    rw [this] at e; cases e
  · rw [if_neg h2]
    refine ⟨fun _ => ⟨by omega, by omega, fun x hx => ?_⟩, fun _ => rfl⟩
    apply inT_iff.1
    cases e : inT x with
    | true => rfl
    | false => exact absurd (List.any_eq_true.2 ⟨x, hx, by rw [e]; rfl⟩) h2
/-- A right series that is few. -/
structure Srs (l : List Int) : Prop where
  pos : 0 < l.length
  few : l.length ≤ 4096
  lo : ∀ x ∈ l, -1048576 ≤ x
  hi : ∀ x ∈ l, x ≤ 1048576
theorem Srs.of {l : List Int} (h : ckSr l = 0) : Srs l := by
  obtain ⟨h1, h2, h3⟩ := ckSr_zero.1 h
  exact ⟨h1, h2, fun x hx => (h3 x hx).1, fun x hx => (h3 x hx).2⟩
theorem sum_bound {l : List Int} (h : ∀ x ∈ l, -1048576 ≤ x ∧ x ≤ 1048576) : -(1048576 * (l.length : Int)) ≤ sumI l ∧ sumI l ≤ 1048576 * (l.length : Int) := by
  induction l with
  | nil => simp [sumI]
  | cons x l ih =>
    have h1 := ih (fun y hy => h y (List.mem_cons_of_mem _ hy))
    have h2 := h x List.mem_cons_self
    rw [sumI_cons, List.length_cons]
    omega
theorem sq_bound {l : List Int} (h : ∀ x ∈ l, -1048576 ≤ x ∧ x ≤ 1048576) : 0 ≤ sqI l ∧ sqI l ≤ 1099511627776 * (l.length : Int) := by
  induction l with
  | nil => simp [sqI]
  | cons x l ih =>
    have h1 := ih (fun y hy => h y (List.mem_cons_of_mem _ hy))
    have h2 := h x List.mem_cons_self
    rw [sqI_cons, List.length_cons]
    have h3 : 0 ≤ x * x := by
      by_cases hx : 0 ≤ x
      · exact Int.mul_nonneg hx hx
      · rw [← Int.neg_mul_neg]; exact Int.mul_nonneg (by omega) (by omega)
    have h4 : x * x ≤ 1048576 * 1048576 := by
      by_cases hx : 0 ≤ x
      · exact Int.mul_le_mul h2.2 h2.2 hx (by decide)
      · rw [← Int.neg_mul_neg]; exact Int.mul_le_mul (by omega) (by omega) (by omega) (by decide)
    omega
theorem sum_take (l : List Int) (k : Nat) (h : k < l.length) : sumI (l.take (k + 1)) = sumI (l.take k) + l[k] := by
  rw [List.take_add_one, List.getElem?_eq_getElem h]
  show sumI (l.take k ++ [l[k]]) = _
  unfold sumI
  rw [List.foldl_append]; rfl
theorem sq_take (l : List Int) (k : Nat) (h : k < l.length) : sqI (l.take (k + 1)) = sqI (l.take k) + l[k] * l[k] := by
  rw [List.take_add_one, List.getElem?_eq_getElem h]
  show sqI (l.take k ++ [l[k]]) = _
  unfold sqI
  rw [List.foldl_append]; rfl
theorem dev_take (m : Rat) (l : List Int) (k : Nat) (h : k < l.length) : dvtS m 0 (l.take (k + 1)) = dvtS m 0 (l.take k) + ((l[k] : Rat) - m) * ((l[k] : Rat) - m) := by
  rw [List.take_add_one, List.getElem?_eq_getElem h]
  show dvtS m 0 (l.take k ++ [l[k]]) = _
  unfold dvtS
  rw [List.foldl_append]; rfl
/-! ### mean and variance -/
def meanS (l : List Int) : Rat := Rat.divInt (sumI l) l.length
def varS (l : List Int) : Rat := Rat.divInt ((l.length : Int) * sqI l - sumI l * sumI l) ((l.length : Int) * ((l.length : Int) - 1))
theorem mul_abs_le {a b : Int} {A B : Nat} (ha : a.natAbs ≤ A) (hb : b.natAbs ≤ B) : (a * b).natAbs ≤ A * B := by
  rw [Int.natAbs_mul]; exact Nat.mul_le_mul ha hb
theorem add_abs_le {a b : Int} {A B : Nat} (ha : a.natAbs ≤ A) (hb : b.natAbs ≤ B) : (a + b).natAbs ≤ A + B := by omega
theorem sub_abs_le {a b : Int} {A B : Nat} (ha : a.natAbs ≤ A) (hb : b.natAbs ≤ B) : (a - b).natAbs ≤ A + B := by omega
theorem Srs.sums {l : List Int} (h : Srs l) (k : Nat) : (sumI (l.take k)).natAbs ≤ 4294967296 ∧ (sqI (l.take k)).natAbs ≤ 4503599627370496 := by
  have hm : ∀ x ∈ l.take k, -1048576 ≤ x ∧ x ≤ 1048576 := fun x hx => ⟨h.lo x (List.mem_of_mem_take hx), h.hi x (List.mem_of_mem_take hx)⟩
  have h1 := sum_bound hm
  have h2 := sq_bound hm
  have h3 : (l.take k).length ≤ 4096 := by rw [List.length_take]; have := h.few; omega
  omega
theorem Srs.sum {l : List Int} (h : Srs l) : (sumI l).natAbs ≤ 4294967296 ∧ (sqI l).natAbs ≤ 4503599627370496 := by
  have := h.sums l.length
  rwa [List.take_length] at this
theorem meanS_small {l : List Int} (h : Srs l) : SmR 20 (meanS l) :=
  SmR.ofDiv (by have := h.pos; omega) (Nat.lt_of_le_of_lt h.sum.1 (by decide)) (by have := h.few; rw [Int.natAbs_natCast]; exact Nat.lt_of_le_of_lt this (by decide))
theorem meanS_eq (l : List Int) : meanS l = (sumI l : Rat) / (l.length : Rat) := by
  unfold meanS
  rw [Rat.divInt_eq_div]; rfl
/-- The sum of squares up to a place, as one quotient. -/
theorem dev_div {l : List Int} (h : 0 < l.length) (k : Nat) : dvtS (meanS l) 0 (l.take k) = Rat.divInt ((l.length : Int) * (l.length : Int) * sqI (l.take k) - 2 * ((l.length : Int) * (sumI l * sumI (l.take k))) + ((l.take k).length : Int) * (sumI l * sumI l)) ((l.length : Int) * (l.length : Int)) := by
  rw [dvtS_eq, meanS_eq, Rat.divInt_eq_div]
  obtain ⟨n, hn⟩ : ∃ n, l.length = n := ⟨_, rfl⟩
  rw [hn] at h ⊢
  have e2 : ((2 : Int) : Rat) = (2 : Rat) := rfl
  simp only [Rat.intCast_add, Rat.intCast_sub, Rat.intCast_mul, e2]
  have en : (((n : Nat) : Int) : Rat) = (n : Rat) := rfl
  have ek : ((((l.take k).length : Nat) : Int) : Rat) = ((l.take k).length : Rat) := rfl
  rw [en, ek]
  have h0 : (n : Rat) ≠ 0 := fun e => by
    have := Rat.natCast_inj.1 (show (n : Rat) = ((0 : Nat) : Rat) from e)
    omega
  obtain ⟨N, hN⟩ : ∃ N : Rat, (n : Rat) = N := ⟨_, rfl⟩
  obtain ⟨K, hK⟩ : ∃ N : Rat, ((l.take k).length : Rat) = N := ⟨_, rfl⟩
  obtain ⟨S, hS⟩ : ∃ S : Rat, (sumI l : Rat) = S := ⟨_, rfl⟩
  obtain ⟨T, hT⟩ : ∃ S : Rat, (sumI (l.take k) : Rat) = S := ⟨_, rfl⟩
  obtain ⟨Q, hQ⟩ : ∃ S : Rat, (sqI (l.take k) : Rat) = S := ⟨_, rfl⟩
  rw [hN] at h0
  rw [hN, hK, hS, hT, hQ]
  clear hN hK hS hT hQ e2 en ek hn h
  grind
theorem dev_small {l : List Int} (h : Srs l) (k : Nat) : SmR 40 (dvtS (meanS l) 0 (l.take k)) := by
  rw [dev_div h.pos]
  have h1 := h.sum
  have h2 := h.sums k
  have hn : (l.length : Int).natAbs ≤ 4096 := by have := h.few; omega
  have hk : ((l.take k).length : Int).natAbs ≤ 4096 := by have := h.few; rw [List.length_take]; omega
  refine SmR.ofDiv ?_ ?_ ?_
  · have := h.pos
    intro e
    rcases Int.mul_eq_zero.1 e with e | e <;> omega
  · refine Nat.lt_of_le_of_lt (add_abs_le (sub_abs_le (mul_abs_le (mul_abs_le hn hn) h2.2) (mul_abs_le (show (2 : Int).natAbs ≤ 2 from by decide) (mul_abs_le hn (mul_abs_le h1.1 h2.1)))) (mul_abs_le hk (mul_abs_le h1.1 h1.1))) (by decide)
  · exact Nat.lt_of_le_of_lt (mul_abs_le hn hn) (by decide)
theorem varS_eq {l : List Int} (h : 2 ≤ l.length) : dvtS (meanS l) 0 l / ((l.length : Rat) - 1) = varS l := by
  unfold varS
  rw [meanS_eq, var_eq l h, Rat.divInt_eq_div]
theorem varS_small {l : List Int} (h : Srs l) (h2 : 2 ≤ l.length) : SmR 30 (varS l) := by
  have h1 := h.sum
  have hn : (l.length : Int).natAbs ≤ 4096 := by have := h.few; omega
  have hn1 : ((l.length : Int) - 1).natAbs ≤ 4096 := by have := h.few; omega
  refine SmR.ofDiv ?_ ?_ ?_
  · intro e
    rcases Int.mul_eq_zero.1 e with e | e <;> omega
  · exact Nat.lt_of_le_of_lt (sub_abs_le (mul_abs_le hn h1.2) (mul_abs_le h1.1 h1.1)) (by decide)
  · exact Nat.lt_of_le_of_lt (mul_abs_le hn hn1) (by decide)
end Go.Proofs.YtcmhompbdanpdaaGreatDoor
namespace Go.Proofs.YtcmhompbdanpdaaGreatDoor

/-- An element: value and weight. -/
abbrev Wt := Int × Int
/-- What a value weighs in a list. -/
def wAt (l : List Wt) (n : Int) : Int := l.foldr (fun x s => (if x.1 = n then x.2 else 0) + s) 0
theorem wAt_cons (x : Wt) (l : List Wt) (n : Int) : wAt (x :: l) n = (if x.1 = n then x.2 else 0) + wAt l n := rfl
theorem wAt_append (a b : List Wt) (n : Int) : wAt (a ++ b) n = wAt a n + wAt b n := by
  induction a with
  | nil => rw [List.nil_append]; show _ = 0 + _; omega
  | cons x a ih => rw [List.cons_append, wAt_cons, wAt_cons, ih]; omega
theorem wAt_none {l : List Wt} {n : Int} (h : ∀ x ∈ l, x.1 ≠ n) : wAt l n = 0 := by
  induction l with
  | nil => rfl
  | cons x l ih => rw [wAt_cons, if_neg (h x List.mem_cons_self), ih fun y hy => h y (List.mem_cons_of_mem _ hy)]; rfl
/-- Strictly ascending values. -/
def UpW (l : List Wt) : Prop := l.Pairwise fun a b => a.1 < b.1
/-- A further element put in its place. -/
def insW (x : Wt) : List Wt → List Wt
  | [] => [x]
  | y :: r => if y.1 < x.1 then y :: insW x r else if y.1 = x.1 then (y.1, y.2 + x.2) :: r else x :: y :: r
theorem insW_key (x : Wt) (l : List Wt) (n : Int) : (∃ y ∈ insW x l, y.1 = n) ↔ x.1 = n ∨ ∃ y ∈ l, y.1 = n := by
  induction l with
  | nil => simp [insW]
  | cons y r ih =>
    unfold insW
    by_cases h1 : y.1 < x.1
    · rw [if_pos h1]
      simp only [List.mem_cons, exists_eq_or_imp]
      rw [ih]
      constructor
      · rintro (h | h | h)
        · exact .inr (.inl h)
        · exact .inl h
        · exact .inr (.inr h)
      · rintro (h | h | h)
        · exact .inr (.inl h)
        · exact .inl h
        · exact .inr (.inr h)
    · rw [if_neg h1]
      by_cases h2 : y.1 = x.1
      · rw [if_pos h2]
        simp only [List.mem_cons, exists_eq_or_imp]
        rw [h2]
        constructor
        · rintro (h | h)
          · exact .inl h
          · exact .inr (.inr h)
        · rintro (h | h | h)
          · exact .inl h
          · exact .inl h
          · exact .inr h
      · rw [if_neg h2]
        simp only [List.mem_cons, exists_eq_or_imp]
theorem insW_at (x : Wt) (l : List Wt) (n : Int) : wAt (insW x l) n = (if x.1 = n then x.2 else 0) + wAt l n := by
  induction l with
  | nil => rfl
  | cons y r ih =>
    unfold insW
    by_cases h1 : y.1 < x.1
    · rw [if_pos h1, wAt_cons, ih, wAt_cons]; omega
    · rw [if_neg h1]
      by_cases h2 : y.1 = x.1
      · rw [if_pos h2, wAt_cons, wAt_cons]
        simp only [h2]
        split <;> omega
      · rw [if_neg h2, wAt_cons]
theorem insW_low {x : Wt} {l : List Wt} {a : Int} (hx : a < x.1) (h : ∀ y ∈ l, a < y.1) : ∀ y ∈ insW x l, a < y.1 := by
  intro y hy
  obtain ⟨z, hz⟩ : ∃ z, y.1 = z := ⟨_, rfl⟩
  rcases (insW_key x l y.1).1 ⟨y, hy, rfl⟩ with e | ⟨u, hu, e⟩
  · rw [← e]; exact hx
  · rw [← e]; exact h u hu
theorem insW_up {x : Wt} {l : List Wt} (h : UpW l) : UpW (insW x l) := by
  induction l with
  | nil => exact List.pairwise_singleton _ _
  | cons y r ih =>
    obtain ⟨h1, h2⟩ := List.pairwise_cons.1 h
    unfold insW
    by_cases c1 : y.1 < x.1
    · rw [if_pos c1]
      exact List.pairwise_cons.2 ⟨insW_low c1 h1, ih h2⟩
    · rw [if_neg c1]
      by_cases c2 : y.1 = x.1
      · rw [if_pos c2]
        exact List.pairwise_cons.2 ⟨h1, h2⟩
      · rw [if_neg c2]
        refine List.pairwise_cons.2 ⟨fun z hz => ?_, h⟩
        rcases List.mem_cons.1 hz with rfl | hz
        · omega
        · have := h1 z hz; omega
/-- All elements put together, one by one. -/
def gatW (l : List Wt) : List Wt := l.foldl (fun o x => insW x o) []
theorem gatW_snoc (l : List Wt) (x : Wt) : gatW (l ++ [x]) = insW x (gatW l) := by unfold gatW; rw [List.foldl_append]; rfl
theorem gatW_spec (l : List Wt) : UpW (gatW l) ∧ (∀ n, wAt (gatW l) n = wAt l n) ∧ ∀ n, (∃ y ∈ gatW l, y.1 = n) ↔ ∃ y ∈ l, y.1 = n := by
  have h : ∀ r : List Wt, UpW (gatW r.reverse) ∧ (∀ n, wAt (gatW r.reverse) n = wAt r.reverse n) ∧ ∀ n, (∃ y ∈ gatW r.reverse, y.1 = n) ↔ ∃ y ∈ r.reverse, y.1 = n := by
    intro r
    induction r with
    | nil => exact ⟨List.Pairwise.nil, fun _ => rfl, fun n => Iff.rfl⟩
    | cons x r ih =>
      obtain ⟨h1, h2, h3⟩ := ih
      rw [List.reverse_cons, gatW_snoc]
      refine ⟨insW_up h1, fun n => ?_, fun n => ?_⟩
      · rw [insW_at, h2, wAt_append, wAt_cons]
        show _ = _ + (_ + 0)
        omega
      · rw [insW_key, h3]
        constructor
        · rintro (e | ⟨y, hy, e⟩)
          · exact ⟨x, by simp, e⟩
          · exact ⟨y, List.mem_append_left _ hy, e⟩
        · rintro ⟨y, hy, e⟩
          rcases List.mem_append.1 hy with hy | hy
          · exact .inr ⟨y, hy, e⟩
          · rw [List.mem_singleton.1 hy] at e; exact .inl e
  have := h l.reverse
  rwa [List.reverse_reverse] at this
/-- Of an ascending list a value's weight is its element's. -/
theorem UpW.at {l : List Wt} (h : UpW l) {x : Wt} (hx : x ∈ l) : wAt l x.1 = x.2 := by
  induction l with
  | nil => cases hx
  | cons y r ih =>
    obtain ⟨h1, h2⟩ := List.pairwise_cons.1 h
    rw [wAt_cons]
    rcases List.mem_cons.1 hx with rfl | hx
    · rw [if_pos rfl, wAt_none fun z hz => by have := h1 z hz; omega]; omega
    · have h3 := h1 x hx
      rw [if_neg (by omega), ih h2 hx]; omega
/-- Two ascending lists with the same values and the same weights are one. -/
theorem UpW.ext {l m : List Wt} (hl : UpW l) (hm : UpW m) (hk : ∀ n, (∃ y ∈ l, y.1 = n) ↔ ∃ y ∈ m, y.1 = n) (ha : ∀ n, wAt l n = wAt m n) : l = m := by
  induction l generalizing m with
  | nil =>
    match m with
    | [] => rfl
    | y :: r =>
      obtain ⟨z, hz, _⟩ := (hk y.1).2 ⟨y, List.mem_cons_self, rfl⟩
      cases hz
  | cons x l ih =>
    match m with
    | [] =>
      obtain ⟨z, hz, _⟩ := (hk x.1).1 ⟨x, List.mem_cons_self, rfl⟩
      cases hz
    | y :: r =>
      obtain ⟨h1, h2⟩ := List.pairwise_cons.1 hl
      obtain ⟨h3, h4⟩ := List.pairwise_cons.1 hm
      have e1 : x.1 = y.1 := by
        obtain ⟨u, hu, eu⟩ := (hk x.1).1 ⟨x, List.mem_cons_self, rfl⟩
        obtain ⟨v, hv, ev⟩ := (hk y.1).2 ⟨y, List.mem_cons_self, rfl⟩
        rcases List.mem_cons.1 hu with rfl | hu
        · exact eu.symm
        · rcases List.mem_cons.1 hv with rfl | hv
          · exact ev
          · have a := h3 u hu
            have b := h1 v hv
            omega
      have e2 : x.2 = y.2 := by
        have a := hl.at (x := x) List.mem_cons_self
        have b := hm.at (x := y) List.mem_cons_self
        rw [← a, ← b, ha, e1]
      have e3 : x = y := Prod.ext e1 e2
      subst e3
      congr 1
      refine ih h2 h4 (fun n => ?_) (fun n => ?_)
      · constructor
        · rintro ⟨u, hu, eu⟩
          obtain ⟨v, hv, ev⟩ := (hk n).1 ⟨u, List.mem_cons_of_mem _ hu, eu⟩
          rcases List.mem_cons.1 hv with rfl | hv
          · have := h1 u hu; omega
          · exact ⟨v, hv, ev⟩
        · rintro ⟨u, hu, eu⟩
          obtain ⟨v, hv, ev⟩ := (hk n).2 ⟨u, List.mem_cons_of_mem _ hu, eu⟩
          rcases List.mem_cons.1 hv with rfl | hv
          · have := h3 u hu; omega
          · exact ⟨v, hv, ev⟩
      · have := ha n
        rw [wAt_cons, wAt_cons] at this
        omega
end Go.Proofs.YtcmhompbdanpdaaGreatDoor
namespace Go.Proofs.YtcmhompbdanpdaaGreatDoor
open Go.Lib

/-- The digits made so far, the number that is left. -/
structure OfI (n m : Nat) (s : List UInt8) : Prop where
  dgs : Dgs s
  eq : n = m * 10 ^ s.length + dv s
  pos : s ≠ [] → 0 < m
theorem OfI.start (n : Nat) : OfI n n [] := ⟨Dgs.nil, by simp [dv_nil], fun h => absurd rfl h⟩
theorem OfI.step {n m : Nat} {s : List UInt8} (h : OfI n m s) (hm : 9 < m) : OfI n (m / 10) (UInt8.ofNat (48 + m % 10) :: s) := by
  have hv : (UInt8.ofNat (48 + m % 10)).toNat = 48 + m % 10 := ofNat_val (by omega)
  refine ⟨fun c hc => ?_, ?_, fun _ => by omega⟩
  · rcases List.mem_cons.1 hc with rfl | hc
    · rw [hv]; omega
    · exact h.dgs c hc
  · rw [dv_cons, hv, List.length_cons, Nat.pow_succ, h.eq]
    have e : m = m / 10 * 10 + m % 10 := by omega
    obtain ⟨q, hq⟩ : ∃ q, m / 10 = q := ⟨_, rfl⟩
    obtain ⟨r, hr⟩ : ∃ q, m % 10 = q := ⟨_, rfl⟩
    rw [hq, hr] at e ⊢
    rw [show 48 + r - 48 = r from by omega, e]
    grind
theorem OfI.done {n m : Nat} {s : List UInt8} (h : OfI n m s) (hm : m ≤ 9) : UInt8.ofNat (48 + m) :: s = decDigits n := by
  have hv : (UInt8.ofNat (48 + m)).toNat = 48 + m := ofNat_val (by omega)
  refine can_eq ⟨fun c hc => ?_, by simp, fun h48 => ?_⟩ (can_dec n) ?_
  · rcases List.mem_cons.1 hc with rfl | hc
    · rw [hv]; omega
    · exact h.dgs c hc
  · have h1 : UInt8.ofNat (48 + m) = 48 := by simpa using h48
    have h2 := congrArg UInt8.toNat h1
    rw [hv] at h2
    have e : (48 : UInt8).toNat = 48 := rfl
    have hm0 : m = 0 := by omega
    have hs : s = [] := by
      apply Classical.byContradiction
      intro hne
      have := h.pos hne
      omega
    subst hm0 hs
    rfl
  · rw [dv_cons, hv, dv_dec, h.eq, show 48 + m - 48 = m from by omega]
/-- How many digits a number has. -/
def lenI (n : Int) : Nat := (decDigits n.natAbs).length
theorem lenI_le {n : Int} {k : Nat} (hk : 0 < k) : lenI n ≤ k ↔ n.natAbs < 10 ^ k := dec_len hk
theorem itoa_len (n : Int) : (itoa n).length = lenI n + (if n < 0 then 1 else 0) := by
  unfold lenI
  rw [itoa_split, List.length_append]
  unfold sgn
  split <;> simp <;> omega
theorem lenI_pos (n : Int) : 0 < lenI n := List.length_pos_iff.2 (dec_ne _)
/-- The digits of a number with a sign. -/
def bodyL (l : List UInt8) : List UInt8 := if l.head? = some 45 then l.tail else l
theorem body_itoa (n : Int) : bodyL (itoa n) = decDigits n.natAbs := by
  unfold bodyL
  by_cases h : n < 0
  · rw [itoa_below h]; simp
  · rw [itoa_pos (by omega), if_neg, show n.toNat = n.natAbs from by omega]
    intro e
    obtain ⟨c, r, hc⟩ : ∃ c r, decDigits n.toNat = c :: r := by
      cases hd : decDigits n.toNat with
      | nil => exact absurd hd (dec_ne _)
      | cons c r => exact ⟨c, r, rfl⟩
    rw [hc] at e
    have : c = 45 := by simpa using e
    rw [this] at hc
    exact dec_no45 _ _ hc
theorem below_itoa (n : Int) : (itoa n).head? = some 45 ↔ n < 0 := by
  by_cases h : n < 0
  · rw [itoa_below h]; simp [h]
  · rw [itoa_pos (by omega)]
    simp only [h, iff_false]
    intro e
    cases hd : decDigits n.toNat with
    | nil => exact absurd hd (dec_ne _)
    | cons c r =>
      rw [hd] at e
      have : c = 45 := by simpa using e
      rw [this] at hd
      exact dec_no45 _ _ hd
/-- Digits with a sign: the number. -/
theorem signed_dec (v : Nat) (s : Bool) : (if s = true ∧ decDigits v ≠ [48] then 45 :: decDigits v else decDigits v) = itoa (sV s v) := by
  rw [itoa_sV]
  have h0 : decDigits v = [48] ↔ v = 0 := by rw [← dec_zero]; exact ⟨dec_inj, fun h => by rw [h]⟩
  by_cases hs : s = true
  · by_cases hv : v = 0
    · rw [if_neg (fun h => h.2 (h0.2 hv)), if_neg (by simp [hv])]; rfl
    · rw [if_pos ⟨hs, fun h => hv (h0.1 h)⟩, if_pos ⟨hs, hv⟩]; rfl
  · rw [if_neg (fun h => hs h.1), if_neg (fun h => hs h.1)]; rfl
theorem sV_neg (s : Bool) (v : Nat) : sV (!s) v = -sV s v := by unfold sV; cases s <;> simp
end Go.Proofs.YtcmhompbdanpdaaGreatDoor
namespace Go.Proofs.YtcmhompbdanpdaaGreatDoor

def sumsW (a b : List Wt) : List Wt := a.flatMap fun x => b.map fun y => (x.1 + y.1, x.2 * y.2)
def jnW (a b : List Wt) : List Wt := gatW (sumsW a b)
/-- The error of a sum of distributions. -/
def jnE (a b : List Wt) : Int := if (jnW a b).any (fun x => !inT x.1) = true then 2 else if 4096 < (jnW a b).length then 5 else if (jnW a b).any (fun x => !decide (lenI x.2 ≤ 1024)) = true then 11 else 0
theorem sumsW_mem {a b : List Wt} {z : Wt} : z ∈ sumsW a b ↔ ∃ x ∈ a, ∃ y ∈ b, z = (x.1 + y.1, x.2 * y.2) := by
  unfold sumsW
  simp only [List.mem_flatMap, List.mem_map]
  constructor
  · rintro ⟨x, hx, y, hy, e⟩; exact ⟨x, hx, y, hy, e.symm⟩
  · rintro ⟨x, hx, y, hy, e⟩; exact ⟨x, hx, y, hy, e.symm⟩
theorem jnW_key {a b : List Wt} (n : Int) : (∃ z ∈ jnW a b, z.1 = n) ↔ ∃ x ∈ a, ∃ y ∈ b, x.1 + y.1 = n := by
  rw [show jnW a b = gatW (sumsW a b) from rfl, (gatW_spec _).2.2]
  constructor
  · rintro ⟨z, hz, e⟩
    obtain ⟨x, hx, y, hy, rfl⟩ := sumsW_mem.1 hz
    exact ⟨x, hx, y, hy, e⟩
  · rintro ⟨x, hx, y, hy, e⟩
    exact ⟨_, sumsW_mem.2 ⟨x, hx, y, hy, rfl⟩, e⟩
theorem jnW_up (a b : List Wt) : UpW (jnW a b) := (gatW_spec _).1
theorem jnW_at (a b : List Wt) (n : Int) : wAt (jnW a b) n = wAt (sumsW a b) n := (gatW_spec _).2.1 n
/-- The ends of an ascending list. -/
theorem UpW.head_le {x : Wt} {l : List Wt} (h : UpW (x :: l)) : ∀ y ∈ x :: l, x.1 ≤ y.1 := by
  intro y hy
  rcases List.mem_cons.1 hy with rfl | hy
  · exact Int.le_refl _
  · exact Int.le_of_lt ((List.pairwise_cons.1 h).1 y hy)
theorem UpW.le_last {l : List Wt} {x : Wt} (h : UpW (l ++ [x])) : ∀ y ∈ l ++ [x], y.1 ≤ x.1 := by
  intro y hy
  rcases List.mem_append.1 hy with hy | hy
  · exact Int.le_of_lt ((List.pairwise_append.1 h).2.2 y hy x (List.mem_singleton.2 rfl))
  · rw [List.mem_singleton.1 hy]; exact Int.le_refl _
/-- All sums lie in the range just if the ends do. -/
theorem jn_range {a b a' b' : List Wt} {x y u v : Wt} (ha : UpW a) (hb : UpW b) (ea : a = x :: a') (eb : b = y :: b') {a2 b2 : List Wt} (fa : a = a2 ++ [u]) (fb : b = b2 ++ [v]) :
    (jnW a b).any (fun z => !inT z.1) = true ↔ ¬ (inT (x.1 + y.1) = true ∧ inT (u.1 + v.1) = true) := by
  have h1 : ∀ p ∈ a, x.1 ≤ p.1 := by rw [ea]; exact UpW.head_le (by rw [← ea]; exact ha)
  have h2 : ∀ p ∈ b, y.1 ≤ p.1 := by rw [eb]; exact UpW.head_le (by rw [← eb]; exact hb)
  have h3 : ∀ p ∈ a, p.1 ≤ u.1 := by rw [fa]; exact UpW.le_last (by rw [← fa]; exact ha)
  have h4 : ∀ p ∈ b, p.1 ≤ v.1 := by rw [fb]; exact UpW.le_last (by rw [← fb]; exact hb)
  have mx : x ∈ a := by rw [ea]; exact List.mem_cons_self
  have my : y ∈ b := by rw [eb]; exact List.mem_cons_self
  have mu : u ∈ a := by rw [fa]; simp
  have mv : v ∈ b := by rw [fb]; simp
  rw [List.any_eq_true]
  constructor
  · rintro ⟨z, hz, e⟩ ⟨k1, k2⟩
    obtain ⟨p, hp, q, hq, e2⟩ := (jnW_key z.1).1 ⟨z, hz, rfl⟩
    have i1 := inT_iff.1 k1
    have i2 := inT_iff.1 k2
    have j1 := h1 p hp
    have j2 := h2 q hq
    have j3 := h3 p hp
    have j4 := h4 q hq
    have : inT z.1 = true := inT_iff.2 (by omega)
    rw [this] at e; cases e
  · intro h
    by_cases k1 : inT (x.1 + y.1) = true
    · have k2 : inT (u.1 + v.1) = false := by
        cases e : inT (u.1 + v.1) with
        | false => rfl
        | true => exact absurd ⟨k1, e⟩ h
      obtain ⟨z, hz, e⟩ := (jnW_key (a := a) (b := b) (u.1 + v.1)).2 ⟨u, mu, v, mv, rfl⟩
      exact ⟨z, hz, by rw [e, k2]; rfl⟩
    · have k3 : inT (x.1 + y.1) = false := by
        cases e : inT (x.1 + y.1) with
        | false => rfl
        | true => exact absurd e k1
      obtain ⟨z, hz, e⟩ := (jnW_key (a := a) (b := b) (x.1 + y.1)).2 ⟨x, mx, y, my, rfl⟩
      exact ⟨z, hz, by rw [e, k3]; rfl⟩
/-- Positive weights: what a value weighs so far is at most what it weighs in the end. -/
def PosW (l : List Wt) : Prop := ∀ x ∈ l, 0 < x.2
theorem sums_pos {a b : List Wt} (ha : PosW a) (hb : PosW b) : PosW (sumsW a b) := by
  intro z hz
  obtain ⟨x, hx, y, hy, rfl⟩ := sumsW_mem.1 hz
  exact Int.mul_pos (ha x hx) (hb y hy)
theorem wAt_nonneg {l : List Wt} (h : PosW l) (n : Int) : 0 ≤ wAt l n := by
  induction l with
  | nil => exact Int.le_refl 0
  | cons x l ih =>
    have h1 := ih fun y hy => h y (List.mem_cons_of_mem _ hy)
    have h2 := h x List.mem_cons_self
    rw [wAt_cons]; split <;> omega
theorem wAt_pre {l m : List Wt} (h : PosW (l ++ m)) (n : Int) : 0 ≤ wAt l n ∧ wAt l n ≤ wAt (l ++ m) n := by
  have h1 := wAt_nonneg (l := l) (fun x hx => h x (List.mem_append_left _ hx)) n
  have h2 := wAt_nonneg (l := m) (fun x hx => h x (List.mem_append_right _ hx)) n
  rw [wAt_append]; omega
theorem wAt_mem {l : List Wt} (h : PosW l) {x : Wt} (hx : x ∈ l) : x.2 ≤ wAt l x.1 := by
  induction l with
  | nil => cases hx
  | cons y l ih =>
    have hp : PosW l := fun z hz => h z (List.mem_cons_of_mem _ hz)
    have h2 := wAt_nonneg hp x.1
    have h3 := h y List.mem_cons_self
    rw [wAt_cons]
    rcases List.mem_cons.1 hx with rfl | hx
    · rw [if_pos rfl]; omega
    · have := ih hp hx
      split <;> omega
theorem gat_pos {l : List Wt} (h : PosW l) : PosW (gatW l) := by
  intro x hx
  obtain ⟨h1, h2, h3⟩ := gatW_spec l
  have h4 := h1.at hx
  rw [h2] at h4
  obtain ⟨y, hy, e⟩ := (h3 x.1).1 ⟨x, hx, rfl⟩
  have h5 := wAt_mem h hy
  have h6 := h y hy
  rw [e] at h5
  omega
/-- A longer number has no fewer digits. -/
theorem lenI_mono {m n : Int} (h0 : 0 ≤ m) (h : m ≤ n) (hn : lenI n ≤ 1024) : lenI m ≤ 1024 := by
  rw [lenI_le (by decide)] at *
  omega
theorem jn_fits {a b : List Wt} : jnE a b = 0 ↔ (∀ x ∈ jnW a b, inT x.1 = true) ∧ (jnW a b).length ≤ 4096 ∧ ∀ x ∈ jnW a b, lenI x.2 ≤ 1024 := by
  unfold jnE
  constructor
  · intro h
    by_cases h1 : (jnW a b).any (fun x => !inT x.1) = true
    · rw [if_pos h1] at h; exact absurd h (by decide)
    rw [if_neg h1] at h
    by_cases h2 : 4096 < (jnW a b).length
    · rw [if_pos h2] at h; exact absurd h (by decide)
    rw [if_neg h2] at h
    by_cases h3 : (jnW a b).any (fun x => !decide (lenI x.2 ≤ 1024)) = true
    · rw [if_pos h3] at h; exact absurd h (by decide)
    refine ⟨fun x hx => ?_, by omega, fun x hx => ?_⟩
    · cases e : inT x.1 with
      | true => rfl
      | false => exact absurd (List.any_eq_true.2 ⟨x, hx, by rw [e]; rfl⟩) h1
    · by_cases e : lenI x.2 ≤ 1024
      · exact e
      · exact absurd (List.any_eq_true.2 ⟨x, hx, by rw [decide_eq_false e]; rfl⟩) h3
  · rintro ⟨h1, h2, h3⟩
    rw [if_neg, if_neg (by omega), if_neg]
    · intro h
      obtain ⟨x, hx, e⟩ := List.any_eq_true.1 h
      rw [decide_eq_true (h3 x hx)] at e; cases e
    · intro h
      obtain ⟨x, hx, e⟩ := List.any_eq_true.1 h
      rw [h1 x hx] at e; cases e
end Go.Proofs.YtcmhompbdanpdaaGreatDoor
namespace Go.Proofs.YtcmhompbdanpdaaGreatDoor

/-- A weight that is too long on the way stays so. -/
theorem jn_long {a b pre suf : List Wt} {z : Wt} (ha : PosW a) (hb : PosW b) (e : sumsW a b = pre ++ z :: suf) (h : ¬ lenI (wAt pre z.1 + z.2) ≤ 1024) : ∃ x ∈ jnW a b, ¬ lenI x.2 ≤ 1024 := by
  have hp : PosW (sumsW a b) := sums_pos ha hb
  obtain ⟨x, hx, ex⟩ := ((gatW_spec (sumsW a b)).2.2 z.1).2 ⟨z, by rw [e]; simp, rfl⟩
  refine ⟨x, hx, fun h2 => h ?_⟩
  have h3 := (jnW_up a b).at hx
  rw [jnW_at, ex] at h3
  have e2 : sumsW a b = (pre ++ [z]) ++ suf := by rw [e]; simp
  rw [e2] at h3 hp
  have h4 := wAt_pre hp z.1
  have h5 : wAt (pre ++ [z]) z.1 = wAt pre z.1 + z.2 := by
    rw [wAt_append, wAt_cons, if_pos rfl]
    show _ + (_ + 0) = _
    omega
  rw [h5, h3] at h4
  exact lenI_mono h4.1 h4.2 h2
theorem jn_long1 {a b pre suf : List Wt} {z : Wt} (ha : PosW a) (hb : PosW b) (e : sumsW a b = pre ++ z :: suf) (h : ¬ lenI z.2 ≤ 1024) : ∃ x ∈ jnW a b, ¬ lenI x.2 ≤ 1024 := by
  have hp : PosW (sumsW a b) := sums_pos ha hb
  refine jn_long ha hb e fun h2 => h ?_
  have h3 := wAt_nonneg (l := pre) (fun x hx => hp x (by rw [e]; exact List.mem_append_left _ hx)) z.1
  have h4 := hp z (by rw [e]; simp)
  exact lenI_mono (Int.le_of_lt h4) (by omega) h2
theorem jn_short {a b pre suf : List Wt} (ha : PosW a) (hb : PosW b) (e : sumsW a b = pre ++ suf) (h : ∀ x ∈ jnW a b, lenI x.2 ≤ 1024) (n : Int) (hn : ∃ z ∈ sumsW a b, z.1 = n) : lenI (wAt pre n) ≤ 1024 := by
  have hp : PosW (sumsW a b) := sums_pos ha hb
  obtain ⟨x, hx, ex⟩ := ((gatW_spec (sumsW a b)).2.2 n).2 hn
  have h2 := h x hx
  have h3 := (jnW_up a b).at hx
  rw [jnW_at, ex] at h3
  rw [e] at h3 hp
  have h4 := wAt_pre hp n
  rw [h3] at h4
  exact lenI_mono h4.1 h4.2 h2
/-- The values in order, each with what it weighs. -/
theorem keys_jn {a b : List Wt} {K : List Int} (hK : K.Pairwise fun x y => x < y) (hm : ∀ n, n ∈ K ↔ ∃ z ∈ sumsW a b, z.1 = n) : K.map (fun n => (n, wAt (sumsW a b) n)) = jnW a b := by
  have hu : UpW (K.map fun n => (n, wAt (sumsW a b) n)) := by
    unfold UpW
    rw [List.pairwise_map]
    exact hK
  have hk : ∀ n, (∃ y ∈ K.map (fun n => (n, wAt (sumsW a b) n)), y.1 = n) ↔ n ∈ K := fun n => by
    constructor
    · rintro ⟨y, hy, e⟩
      obtain ⟨k, hk, rfl⟩ := List.mem_map.1 hy
      rw [← e]; exact hk
    · intro h; exact ⟨_, List.mem_map.2 ⟨n, h, rfl⟩, rfl⟩
  refine UpW.ext hu (jnW_up a b) (fun n => ?_) (fun n => ?_)
  · rw [hk, hm]; exact ((gatW_spec (sumsW a b)).2.2 n).symm
  · rw [jnW_at]
    by_cases h : n ∈ K
    · have := hu.at (x := (n, wAt (sumsW a b) n)) (List.mem_map.2 ⟨n, h, rfl⟩)
      exact this
    · rw [wAt_none fun x hx e => h ((hk n).1 ⟨x, hx, e⟩), wAt_none fun x hx e => h ((hm n).2 ⟨x, hx, e⟩)]
/-! ### moments -/
/-- The sum of the weights, each times what a function makes of its value. -/
def momW (g : Int → Int) (l : List Wt) : Int := l.foldr (fun x s => x.2 * g x.1 + s) 0
theorem momW_cons (g : Int → Int) (x : Wt) (l : List Wt) : momW g (x :: l) = x.2 * g x.1 + momW g l := rfl
theorem momW_append (g : Int → Int) (a b : List Wt) : momW g (a ++ b) = momW g a + momW g b := by
  induction a with
  | nil => rw [List.nil_append]; show _ = 0 + _; omega
  | cons x a ih => rw [List.cons_append, momW_cons, momW_cons, ih]; omega
theorem momW_ins (g : Int → Int) (x : Wt) (l : List Wt) : momW g (insW x l) = x.2 * g x.1 + momW g l := by
  induction l with
  | nil => rfl
  | cons y r ih =>
    unfold insW
    by_cases h1 : y.1 < x.1
    · rw [if_pos h1, momW_cons, ih, momW_cons]; omega
    · rw [if_neg h1]
      by_cases h2 : y.1 = x.1
      · rw [if_pos h2, momW_cons, momW_cons]
        show (y.2 + x.2) * g y.1 + _ = _
        rw [h2, Int.add_mul]; omega
      · rw [if_neg h2, momW_cons]
theorem momW_gat (g : Int → Int) (l : List Wt) : momW g (gatW l) = momW g l := by
  have h : ∀ r : List Wt, momW g (gatW r.reverse) = momW g r.reverse := by
    intro r
    induction r with
    | nil => rfl
    | cons x r ih =>
      rw [List.reverse_cons, gatW_snoc, momW_ins, ih, momW_append]
      show _ = _ + (_ + 0)
      omega
  have := h l.reverse
  rwa [List.reverse_reverse] at this
theorem momW_add (f g : Int → Int) (l : List Wt) : momW (fun v => f v + g v) l = momW f l + momW g l := by
  induction l with
  | nil => rfl
  | cons x l ih => rw [momW_cons, momW_cons, momW_cons, ih, Int.mul_add]; omega
theorem momW_mul (k : Int) (g : Int → Int) (l : List Wt) : momW (fun v => k * g v) l = k * momW g l := by
  induction l with
  | nil => show (0 : Int) = k * 0; omega
  | cons x l ih => rw [momW_cons, momW_cons, ih, Int.mul_add]; congr 1; rw [← Int.mul_assoc, ← Int.mul_assoc, Int.mul_comm x.2 k]
theorem momW_row (g : Int → Int) (x : Wt) (b : List Wt) : momW g (b.map fun y => (x.1 + y.1, x.2 * y.2)) = x.2 * momW (fun v => g (x.1 + v)) b := by
  induction b with
  | nil => show (0 : Int) = x.2 * 0; omega
  | cons y b ih =>
    rw [List.map_cons, momW_cons, ih, momW_cons, Int.mul_add, Int.mul_assoc]
theorem momW_sums (g : Int → Int) (a b : List Wt) : momW g (sumsW a b) = momW (fun u => momW (fun v => g (u + v)) b) a := by
  induction a with
  | nil => rfl
  | cons x a ih =>
    show momW g ((b.map fun y => (x.1 + y.1, x.2 * y.2)) ++ sumsW a b) = _
    rw [momW_append, momW_row, ih, momW_cons]
/-- Total, first and second moment of a sum. -/
theorem mom_jn (a b : List Wt) :
    momW (fun _ => 1) (jnW a b) = momW (fun _ => 1) a * momW (fun _ => 1) b ∧
    momW (fun v => v) (jnW a b) = momW (fun v => v) a * momW (fun _ => 1) b + momW (fun _ => 1) a * momW (fun v => v) b ∧
    momW (fun v => v * v) (jnW a b) = momW (fun v => v * v) a * momW (fun _ => 1) b + 2 * (momW (fun v => v) a * momW (fun v => v) b) + momW (fun _ => 1) a * momW (fun v => v * v) b := by
  have hj : ∀ g, momW g (jnW a b) = momW g (sumsW a b) := fun g => momW_gat g _
  have hc : ∀ (k : Int) (l : List Wt), momW (fun _ => k) l = momW (fun _ => 1) l * k := fun k l => by
    induction l with
    | nil => show (0 : Int) = 0 * k; omega
    | cons x l ih => rw [momW_cons, momW_cons, ih, Int.add_mul, Int.mul_one]
  have hr : ∀ (k : Int) (g : Int → Int) (l : List Wt), momW (fun v => g v * k) l = momW g l * k := fun k g l => by
    have : (fun v => g v * k) = fun v => k * g v := by funext v; exact Int.mul_comm _ _
    rw [this, momW_mul, Int.mul_comm]
  refine ⟨?_, ?_, ?_⟩
  · rw [hj, momW_sums]
    exact hc _ _
  · rw [hj, momW_sums]
    have e : (fun u => momW (fun v => u + v) b) = fun u => u * momW (fun _ => 1) b + momW (fun v => v) b := by
      funext u
      rw [momW_add, hc u b, Int.mul_comm]
    rw [e, momW_add, hr, hc (momW (fun v => v) b) a]
  · rw [hj, momW_sums]
    have e : (fun u => momW (fun v => (u + v) * (u + v)) b) = fun u => (u * u * momW (fun _ => 1) b + u * (2 * momW (fun v => v) b)) + momW (fun v => v * v) b := by
      funext u
      have e2 : (fun v => (u + v) * (u + v)) = fun v : Int => (u * u + 2 * u * v) + v * v := by funext v; grind
      rw [e2, momW_add, momW_add, hc (u * u) b, momW_mul]
      grind
    rw [e, momW_add, momW_add, hr, hr, hc (momW (fun v => v * v) b) a]
    grind
end Go.Proofs.YtcmhompbdanpdaaGreatDoor
namespace Go.Proofs.YtcmhompbdanpdaaGreatDoor

def rmW (g : Int → Rat) (l : List Wt) : Rat := l.foldr (fun x s => (x.2 : Rat) * g x.1 + s) 0
theorem rmW_cons (g : Int → Rat) (x : Wt) (l : List Wt) : rmW g (x :: l) = (x.2 : Rat) * g x.1 + rmW g l := rfl
theorem rmW_int (g : Int → Int) (l : List Wt) : rmW (fun v => (g v : Rat)) l = (momW g l : Rat) := by
  induction l with
  | nil => rfl
  | cons x l ih => rw [rmW_cons, ih, momW_cons, Rat.intCast_add, Rat.intCast_mul]
theorem rmW_add (f g : Int → Rat) (l : List Wt) : rmW (fun v => f v + g v) l = rmW f l + rmW g l := by
  induction l with
  | nil => show (0 : Rat) = 0 + 0; grind
  | cons x l ih => rw [rmW_cons, rmW_cons, rmW_cons, ih]; grind
theorem rmW_mul (k : Rat) (g : Int → Rat) (l : List Wt) : rmW (fun v => k * g v) l = k * rmW g l := by
  induction l with
  | nil => show (0 : Rat) = k * 0; grind
  | cons x l ih => rw [rmW_cons, rmW_cons, ih]; grind
/-- Chances, each times something, one by one added. -/
theorem fold_chance (T : Int) (g : Int → Rat) (l : List Wt) : ∀ s, l.foldl (fun (s : Rat) (x : Wt) => s + Rat.divInt x.2 T * g x.1) s = s + rmW g l / (T : Rat) := by
  induction l with
  | nil => intro s; show s = s + 0 / _; rw [Rat.div_def, Rat.zero_mul]; grind
  | cons x l ih =>
    intro s
    rw [List.foldl_cons, ih, rmW_cons, Rat.divInt_eq_div]
    rw [Rat.div_def, Rat.div_def, Rat.div_def]
    grind
def totW (l : List Wt) : Int := momW (fun _ => 1) l
def meanW (l : List Wt) : Rat := Rat.divInt (momW (fun v => v) l) (totW l)
def varW (l : List Wt) : Rat := Rat.divInt (momW (fun v => v * v) l) (totW l) - meanW l * meanW l
def probW (l : List Wt) (lo hi : Int) : Rat := Rat.divInt (momW (fun v => if lo ≤ v ∧ v ≤ hi then 1 else 0) l) (totW l)
theorem totW_pos {l : List Wt} (h : PosW l) (h0 : l ≠ []) : 0 < totW l := by
  match l, h0 with
  | x :: l, _ =>
    have h1 : ∀ m : List Wt, PosW m → 0 ≤ totW m := by
      intro m hm
      induction m with
      | nil => exact Int.le_refl 0
      | cons y m ih =>
        have h2 := hm y List.mem_cons_self
        have h3 := ih fun z hz => hm z (List.mem_cons_of_mem _ hz)
        unfold totW at h3 ⊢
        rw [momW_cons]; omega
    have h2 := h x List.mem_cons_self
    have h3 := h1 l fun z hz => h z (List.mem_cons_of_mem _ hz)
    unfold totW at h3 ⊢
    rw [momW_cons]; omega
theorem meanW_eq (l : List Wt) : meanW l = (momW (fun v => v) l : Rat) / (totW l : Rat) := Rat.divInt_eq_div _ _
/-- The mean as the reference adds it. -/
theorem center_fold (l : List Wt) : l.foldl (fun (s : Rat) (x : Wt) => s + Rat.divInt x.2 (totW l) * (x.1 : Rat)) 0 = meanW l := by
  rw [fold_chance (totW l) (fun v => (v : Rat)) l 0, rmW_int (fun v => v), meanW_eq]; grind
/-- The variance as the reference adds it. -/
theorem spread_fold {l : List Wt} (h : totW l ≠ 0) : l.foldl (fun (s : Rat) (x : Wt) => s + Rat.divInt x.2 (totW l) * (((x.1 : Rat) - meanW l) * ((x.1 : Rat) - meanW l))) 0 = varW l := by
  obtain ⟨m, hm⟩ : ∃ m, meanW l = m := ⟨_, rfl⟩
  rw [hm, fold_chance (totW l) (fun v => ((v : Rat) - m) * ((v : Rat) - m)) l 0]
  have e1 : (fun v : Int => ((v : Rat) - m) * ((v : Rat) - m)) = fun v : Int => (((v * v : Int) : Rat) + (-(2 * m)) * (v : Rat)) + m * m * (((1 : Int) : Int) : Rat) := by
    funext v
    rw [Rat.intCast_mul]
    grind
  have e2 : rmW (fun v : Int => ((v : Rat) - m) * ((v : Rat) - m)) l = (momW (fun v => v * v) l : Rat) + (-(2 * m)) * (momW (fun v => v) l : Rat) + m * m * (totW l : Rat) := by
    rw [e1, rmW_add, rmW_add, rmW_int (fun v => v * v), rmW_mul, rmW_int (fun v => v), rmW_mul, rmW_int (fun _ => 1)]
    rfl
  rw [e2]
  unfold varW
  rw [hm, Rat.divInt_eq_div]
  have hT : (totW l : Rat) ≠ 0 := fun e => h (Rat.intCast_inj.1 (show (totW l : Rat) = ((0 : Int) : Rat) from e))
  have hmm : (momW (fun v => v) l : Rat) = m * (totW l : Rat) := by
    rw [← hm, meanW_eq]
    exact (Rat.div_mul_cancel hT).symm
  rw [hmm]
  obtain ⟨T, hTT⟩ : ∃ T : Rat, (totW l : Rat) = T := ⟨_, rfl⟩
  obtain ⟨Q, hQ⟩ : ∃ Q : Rat, (momW (fun v => v * v) l : Rat) = Q := ⟨_, rfl⟩
  rw [hTT] at hT ⊢
  rw [hQ]
  have : (m * T) / T = m := Rat.mul_div_cancel hT
  grind
theorem within_fold (l : List Wt) (lo hi : Int) : l.foldl (fun (s : Rat) (x : Wt) => if lo ≤ x.1 ∧ x.1 ≤ hi then s + Rat.divInt x.2 (totW l) else s) 0 = probW l lo hi := by
  have h : (fun (s : Rat) (x : Wt) => if lo ≤ x.1 ∧ x.1 ≤ hi then s + Rat.divInt x.2 (totW l) else s) = fun (s : Rat) (x : Wt) => s + Rat.divInt x.2 (totW l) * (((if lo ≤ x.1 ∧ x.1 ≤ hi then 1 else 0 : Int) : Int) : Rat) := by
    funext s x
    split
    · show _ = _ + _ * (1 : Rat); grind
    · show _ = _ + _ * (0 : Rat); grind
  rw [h, fold_chance (totW l) (fun v => ((if lo ≤ v ∧ v ≤ hi then 1 else 0 : Int) : Rat)) l 0, rmW_int (fun v => if lo ≤ v ∧ v ≤ hi then 1 else 0)]
  unfold probW
  rw [Rat.divInt_eq_div]; grind
/-- Mean and variance of a sum. -/
theorem jn_moments {a b : List Wt} (ha : totW a ≠ 0) (hb : totW b ≠ 0) : totW (jnW a b) = totW a * totW b ∧ meanW (jnW a b) = meanW a + meanW b ∧ varW (jnW a b) = varW a + varW b := by
  obtain ⟨h1, h2, h3⟩ := mom_jn a b
  have hA : (totW a : Rat) ≠ 0 := fun e => ha (Rat.intCast_inj.1 (show (totW a : Rat) = ((0 : Int) : Rat) from e))
  have hB : (totW b : Rat) ≠ 0 := fun e => hb (Rat.intCast_inj.1 (show (totW b : Rat) = ((0 : Int) : Rat) from e))
  have e1 : totW (jnW a b) = totW a * totW b := h1
  have em : meanW (jnW a b) = meanW a + meanW b := by
    rw [meanW_eq, meanW_eq, meanW_eq, e1, h2]
    rw [Rat.intCast_add, Rat.intCast_mul, Rat.intCast_mul, Rat.intCast_mul]
    show ((_ * (totW b : Rat) + (totW a : Rat) * _) / _) = _
    obtain ⟨A, hAA⟩ : ∃ A : Rat, (totW a : Rat) = A := ⟨_, rfl⟩
    obtain ⟨B, hBB⟩ : ∃ A : Rat, (totW b : Rat) = A := ⟨_, rfl⟩
    rw [hAA] at hA ⊢
    rw [hBB] at hB ⊢
    grind
  refine ⟨e1, em, ?_⟩
  unfold varW
  rw [em, e1, h3, Rat.divInt_eq_div, Rat.divInt_eq_div, Rat.divInt_eq_div, meanW_eq, meanW_eq]
  rw [Rat.intCast_add, Rat.intCast_add, Rat.intCast_mul, Rat.intCast_mul, Rat.intCast_mul, Rat.intCast_mul, Rat.intCast_mul]
  obtain ⟨A, hAA⟩ : ∃ A : Rat, (totW a : Rat) = A := ⟨_, rfl⟩
  obtain ⟨B, hBB⟩ : ∃ A : Rat, (totW b : Rat) = A := ⟨_, rfl⟩
  have hAA' : (momW (fun _ => 1) a : Rat) = A := hAA
  have hBB' : (momW (fun _ => 1) b : Rat) = B := hBB
  rw [hAA', hBB', hAA, hBB]
  rw [hAA] at hA
  rw [hBB] at hB
  have e2 : ((2 : Int) : Rat) = 2 := rfl
  rw [e2]
  grind
end Go.Proofs.YtcmhompbdanpdaaGreatDoor
