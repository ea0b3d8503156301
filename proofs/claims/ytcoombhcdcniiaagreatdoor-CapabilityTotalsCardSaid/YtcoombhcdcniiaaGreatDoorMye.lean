/- Series with limits: both, Given, varied, index and Capability, both sides. (Printed by gen_cap.py.) The centered capability, both sides. (Printed by gen_cen.py.) -/
import Derived.Test.YtcoombhcdcniiaaGreatDoorMyb
namespace Go.Proofs.YtcoombhcdcniiaaGreatDoor
open Go.RowKit

def viS (l : List Int) (lo hi : Int) : Int := if gvS l lo hi = 0 then (if vrE l = 0 then (if varS l = 0 then 10 else 0) else vrE l) else gvS l lo hi
theorem gvS_ok {l : List Int} {lo hi : Int} (h : gvS l lo hi = 0) : ckSr l = 0 ∧ (-1048576 ≤ lo ∧ lo ≤ 1048576) ∧ (-1048576 ≤ hi ∧ hi ≤ 1048576) ∧ lo ≤ hi := by
  unfold gvS at h
  by_cases h0 : ckSr l = 0
  · rw [if_pos h0] at h
    by_cases h1 : (!inT lo || !inT hi) = true
    · rw [if_pos h1] at h; exact absurd h (by decide)
    · rw [if_neg h1] at h
      by_cases h2 : hi < lo
      · rw [if_pos h2] at h; exact absurd h (by decide)
      · cases e1 : inT lo with
        | false => rw [e1] at h1; exact absurd rfl h1
        | true =>
          cases e2 : inT hi with
          | false => rw [e1, e2] at h1; exact absurd rfl h1
          | true => exact ⟨h0, inT_iff.1 e1, inT_iff.1 e2, by omega⟩
  · rw [if_neg h0] at h; exact absurd h h0
theorem viS_ok {l : List Int} {lo hi : Int} (h : viS l lo hi = 0) : gvS l lo hi = 0 ∧ vrE l = 0 ∧ varS l ≠ 0 := by
  unfold viS at h
  by_cases h0 : gvS l lo hi = 0
  · rw [if_pos h0] at h
    by_cases h1 : vrE l = 0
    · rw [if_pos h1] at h
      by_cases h2 : varS l = 0
      · rw [if_pos h2] at h; exact absurd h (by decide)
      · exact ⟨h0, h1, h2⟩
    · rw [if_neg h1] at h; exact absurd h h1
  · rw [if_neg h0] at h; exact absurd h h0
theorem vrE_ok {l : List Int} (h : vrE l = 0) : ckSr l = 0 ∧ 2 ≤ l.length := by
  unfold vrE at h
  by_cases h0 : ckSr l = 0
  · rw [if_pos h0] at h
    by_cases h1 : l.length = 1
    · rw [if_pos h1] at h; exact absurd h (by decide)
    · exact ⟨h0, by have := (Srs.of h0).pos; omega⟩
  · rw [if_neg h0] at h; exact absurd h h0
theorem SmR.mul {j k : Nat} {p q : Rat} (hp : SmR j p) (hq : SmR k q) : SmR (j + k) (p * q) := by
  rw [← rat_mul p q]
  refine SmR.ofDiv ?_ ?_ ?_
  · have h1 := p.den_pos
    have h2 := q.den_pos
    exact Int.mul_ne_zero (by omega) (by omega)
  · rw [Int.natAbs_mul, Nat.pow_add]; exact Nat.mul_lt_mul'' hp.1 hq.1
  · rw [Int.natAbs_mul, Nat.pow_add, Int.natAbs_natCast, Int.natAbs_natCast]; exact Nat.mul_lt_mul'' hp.2 hq.2
theorem fit_mul {m n : Int} {j k : Nat} (hm : m.natAbs < 10 ^ j) (hn : n.natAbs < 10 ^ k) (h : j + k ≤ 1000 := by decide) (h0 : 0 < j + k := by decide) : lenI (m * n) ≤ 1024 := by
  refine Nat.le_trans ((lenI_le (k := j + k) h0).2 ?_) (Nat.le_trans h (by decide))
  rw [Int.natAbs_mul, Nat.pow_add]; exact Nat.mul_lt_mul'' hm hn
theorem fit_nn {j k : Nat} {p q : Rat} (hp : SmR j p) (hq : SmR k q) (h : j + k ≤ 1000 := by decide) (h0 : 0 < j + k := by decide) : lenI (p.num * q.num) ≤ 1024 := fit_mul hp.1 hq.1 h h0
theorem fit_nd {j k : Nat} {p q : Rat} (hp : SmR j p) (hq : SmR k q) (h : j + k ≤ 1000 := by decide) (h0 : 0 < j + k := by decide) : lenI (p.num * (q.den : Int)) ≤ 1024 := fit_mul hp.1 (by rw [Int.natAbs_natCast]; exact hq.2) h h0
theorem fit_dn {j k : Nat} {p q : Rat} (hp : SmR j p) (hq : SmR k q) (h : j + k ≤ 1000 := by decide) (h0 : 0 < j + k := by decide) : lenI ((p.den : Int) * q.num) ≤ 1024 := fit_mul (by rw [Int.natAbs_natCast]; exact hp.2) hq.1 h h0
theorem fit_dd {j k : Nat} {p q : Rat} (hp : SmR j p) (hq : SmR k q) (h : j + k ≤ 1000 := by decide) (h0 : 0 < j + k := by decide) : lenI ((p.den : Int) * (q.den : Int)) ≤ 1024 := fit_mul (by rw [Int.natAbs_natCast]; exact hp.2) (by rw [Int.natAbs_natCast]; exact hq.2) h h0
theorem dec_two {n : Nat} (h : 10 ≤ n) (h2 : n < 100) : Lib.decDigits n = [UInt8.ofNat (48 + n / 10), UInt8.ofNat (48 + n % 10)] := by
  rw [dec_big (by omega), dec_small (by omega)]; rfl
theorem txR_36 : TxR ⟨#[51, 54]⟩ ((36 : Int) : Rat) := by
  unfold TxR; rw [rat_int, itoa_pos (by decide)]
  show _ = Lib.decDigits 36
  rw [dec_two (by decide) (by decide)]; rfl
theorem txR_9 : TxR ⟨#[57]⟩ ((9 : Int) : Rat) := by
  unfold TxR; rw [rat_int, itoa_pos (by decide)]
  show _ = Lib.decDigits 9
  rw [dec_small (by decide)]; rfl
set_option maxHeartbeats 2000000 in
theorem zboth_any (ao : Option Addr) (l : List Int) (c : Nat) (lo hi : Int) (w : World) (R : Ending → World → Prop) (hl : l.length ≤ 1000000000) (hc : CellsAt w ao (I64s l)) (hR : ∀ w', Below w.heap.size w w' → R (.returned (.int .i64 (gvS l lo hi))) w') :
    Calls Tryz.prog 61 #[.slice ao l.length c, .agg #[.int .i64 lo, .int .i64 hi]] w R := by
  have HR := Lib.hid hR
  have HC := Lib.hid hc
  have HL := Lib.hid hl
  have HV : Hid (gvS l lo hi = if ckSr l = 0 then (if (!inT lo || !inT hi) = true then 2 else if hi < lo then 9 else 0) else ckSr l) := rfl
  obtain ⟨w1, E1, HB1, s1, b0, b1⟩ := box2 w (.int .i64 lo) (.int .i64 hi) 34
  have HC1 := Lib.hid (HC.out.below HB1.out)
  clear hR hc hl
  go_enter Tryz.func61, Tryz.ntmps61
  go_wp2_with (rw [E1.out])
  refine zcheck_any ao l c _ _ HL.out HC1.out ?_
  obtain ⟨e, he⟩ : ∃ e, ckSr l = e := ⟨_, rfl⟩
  rw [he]
  rw [he] at HV
  by_cases h0 : e = 0
  · subst h0
    have HV2 : Hid (gvS l lo hi = if (!inT lo || !inT hi) = true then 2 else if hi < lo then 9 else 0) := by unfold Hid; rw [HV.out, if_pos rfl]
    clear he HV
    go_wp2_with fail
    with_reducible refine zin_any lo _ _ ?_
    cases i1 : inT lo with
    | false =>
      have e2 : Hid (gvS l lo hi = 2) := by unfold Hid; rw [HV2.out, if_pos (by rw [i1]; rfl)]
      clear i1
      go_wp2_with fail
      exact ret_i (HR.out _ HB1.out) rfl e2.out
    | true =>
      have I1 := Lib.hid i1
      clear i1
      go_wp2_with fail
      with_reducible refine zin_any hi _ _ ?_
      cases i2 : inT hi with
      | false =>
        have e2 : Hid (gvS l lo hi = 2) := by unfold Hid; rw [HV2.out, if_pos (by rw [i2, I1.out]; rfl)]
        clear i2
        go_wp2_with fail
        exact ret_i (HR.out _ HB1.out) rfl e2.out
      | true =>
        have e1 : Hid (gvS l lo hi = if hi < lo then 9 else 0) := by unfold Hid; rw [HV2.out, if_neg (by rw [i2, I1.out]; decide)]
        clear i2
        by_cases hh : hi < lo
        · have K2 : (hi < lo) = True := eq_true hh
          have e2 : Hid (gvS l lo hi = 9) := by unfold Hid; rw [e1.out, if_pos hh]
          clear hh
          go_wp2_with fail
          exact ret_i (HR.out _ HB1.out) rfl e2.out
        · have K2 : (hi < lo) = False := eq_false hh
          have e2 : Hid (gvS l lo hi = 0) := by unfold Hid; rw [e1.out, if_neg hh]
          clear hh
          go_wp2_with fail
          exact ret_i (HR.out _ HB1.out) rfl e2.out
  · have K : (e != 0) = true := by simpa using h0
    have e2 : Hid (gvS l lo hi = e) := by unfold Hid; rw [HV.out, if_neg h0]
    clear he h0
    go_wp2_with fail
    exact ret_i (HR.out _ HB1.out) rfl e2.out
set_option maxHeartbeats 2000000 in
theorem zgiven_any (ao : Option Addr) (l : List Int) (c : Nat) (lo hi : Int) (w : World) (R : Ending → World → Prop) (hl : l.length ≤ 1000000000) (hc : CellsAt w ao (I64s l)) (hR : ∀ w', Below w.heap.size w w' → R (.returned (.int .i64 (gvS l lo hi))) w') :
    Calls Tryz.prog 32 #[.slice ao l.length c, .agg #[.int .i64 lo, .int .i64 hi]] w R := by
  have HR := Lib.hid hR
  have HC := Lib.hid hc
  have HL := Lib.hid hl
  have HV : Hid (gvS l lo hi = if ckSr l = 0 then (if (!inT lo || !inT hi) = true then 2 else if hi < lo then 9 else 0) else ckSr l) := rfl
  obtain ⟨w1, E1, HB1, s1, b0, b1⟩ := box2 w (.int .i64 lo) (.int .i64 hi) 34
  have HC1 := Lib.hid (HC.out.below HB1.out)
  clear hR hc hl
  go_enter Tryz.func32, Tryz.ntmps32
  go_wp2_with (rw [E1.out])
  refine zrcheck_any ao l c _ _ HL.out HC1.out ?_
  obtain ⟨e, he⟩ : ∃ e, ckSr l = e := ⟨_, rfl⟩
  rw [he]
  rw [he] at HV
  by_cases h0 : e = 0
  · subst h0
    have HV2 : Hid (gvS l lo hi = if (!inT lo || !inT hi) = true then 2 else if hi < lo then 9 else 0) := by unfold Hid; rw [HV.out, if_pos rfl]
    clear he HV
    go_wp2_with fail
    with_reducible refine zvalue_any lo _ _ ?_
    cases i1 : inT lo with
    | false =>
      have e2 : Hid (gvS l lo hi = 2) := by unfold Hid; rw [HV2.out, if_pos (by rw [i1]; rfl)]
      clear i1
      go_wp2_with fail
      exact ret_i (HR.out _ HB1.out) rfl e2.out
    | true =>
      have I1 := Lib.hid i1
      clear i1
      go_wp2_with fail
      with_reducible refine zvalue_any hi _ _ ?_
      cases i2 : inT hi with
      | false =>
        have e2 : Hid (gvS l lo hi = 2) := by unfold Hid; rw [HV2.out, if_pos (by rw [i2, I1.out]; rfl)]
        clear i2
        go_wp2_with fail
        exact ret_i (HR.out _ HB1.out) rfl e2.out
      | true =>
        have e1 : Hid (gvS l lo hi = if hi < lo then 9 else 0) := by unfold Hid; rw [HV2.out, if_neg (by rw [i2, I1.out]; decide)]
        clear i2
        by_cases hh : hi < lo
        · have K2 : (hi < lo) = True := eq_true hh
          have e2 : Hid (gvS l lo hi = 9) := by unfold Hid; rw [e1.out, if_pos hh]
          clear hh
          go_wp2_with fail
          exact ret_i (HR.out _ HB1.out) rfl e2.out
        · have K2 : (hi < lo) = False := eq_false hh
          have e2 : Hid (gvS l lo hi = 0) := by unfold Hid; rw [e1.out, if_neg hh]
          clear hh
          go_wp2_with fail
          exact ret_i (HR.out _ HB1.out) rfl e2.out
  · have K : (e != 0) = true := by simpa using h0
    have e2 : Hid (gvS l lo hi = e) := by unfold Hid; rw [HV.out, if_neg h0]
    clear he h0
    go_wp2_with fail
    exact ret_i (HR.out _ HB1.out) rfl e2.out
set_option maxHeartbeats 2000000 in
theorem zvaried_any (ao : Option Addr) (l : List Int) (c : Nat) (lo hi : Int) (w : World) (R : Ending → World → Prop) (hl : l.length ≤ 1000000000) (hc : CellsAt w ao (I64s l)) (hE : Env w) (hR : ∀ r w', Below w.heap.size w w' → (viS l lo hi = 0 → TxR r (varS l)) → (viS l lo hi ≠ 0 → r = ⟨#[]⟩) → R (.returned (.tuple #[.string r, .int .i64 (viS l lo hi)])) w') :
    Calls Tryz.prog 51 #[.slice ao l.length c, .agg #[.int .i64 lo, .int .i64 hi]] w R := by
  have HR := Lib.hid hR
  have HC := Lib.hid hc
  have HL := Lib.hid hl
  have HV : Hid (viS l lo hi = if gvS l lo hi = 0 then (if vrE l = 0 then (if varS l = 0 then 10 else 0) else vrE l) else gvS l lo hi) := rfl
  obtain ⟨w1, E1, HB1, s1, b0, b1⟩ := box2 w (.int .i64 lo) (.int .i64 hi) 34
  have HC1 := Lib.hid (HC.out.below HB1.out)
  have HE1 := Lib.hid (hE.below HB1.out)
  clear hR hc hl hE
  go_enter Tryz.func51, Tryz.ntmps51
  go_wp2_with (rw [E1.out])
  refine zboth_any ao l c lo hi _ _ HL.out HC1.out fun w2 HB => ?_
  have HB2 := Lib.hid (HB1.out.trans (HB.mono HB1.out.size))
  have HC2 := Lib.hid (HC1.out.below HB)
  have HE2 := Lib.hid (HE1.out.below HB)
  clear HB
  obtain ⟨e, he⟩ : ∃ e, gvS l lo hi = e := ⟨_, rfl⟩
  rw [he]
  rw [he] at HV
  by_cases h0 : e = 0
  · subst h0
    have HV2 : Hid (viS l lo hi = if vrE l = 0 then (if varS l = 0 then 10 else 0) else vrE l) := by unfold Hid; rw [HV.out, if_pos rfl]
    clear he HV
    go_wp2_with fail
    refine zvariance_any ao l c _ _ HL.out HC2.out HE2.out fun r w3 HB hr1 hr2 => ?_
    have HB3 := Lib.hid (HB2.out.trans (HB.mono HB2.out.size))
    clear HB
    obtain ⟨v, hv⟩ : ∃ v, vrE l = v := ⟨_, rfl⟩
    rw [hv] at hr1 hr2 HV2 ⊢
    have Hr1 := Lib.hid hr1
    have Hr2 := Lib.hid hr2
    clear hr1 hr2
    by_cases v0 : v = 0
    · subst v0
      have hT := Hr1.out rfl
      have hq := hT.beqL 0 (c := [48]) rtL_0
      by_cases q0 : varS l = 0
      · rw [decide_eq_true q0] at hq
        have e2 : Hid (viS l lo hi = 10) := by unfold Hid; rw [HV2.out, if_pos rfl, if_pos q0]
        rw [e2.out] at HR
        clear hv hT q0
        go_wp2_with fail
        exact HR.out _ _ HB3.out (fun h => absurd h (by decide)) (fun _ => rfl)
      · rw [decide_eq_false q0] at hq
        have e2 : Hid (viS l lo hi = 0) := by unfold Hid; rw [HV2.out, if_pos rfl, if_neg q0]
        rw [e2.out] at HR
        have HT := Lib.hid hT
        clear hv hT q0
        go_wp2_with fail
        exact HR.out _ _ HB3.out (fun _ => HT.out) (fun h => absurd rfl h)
    · have K : (v != 0) = true := by simpa using v0
      have K2 : (v == 0) = false := by simpa using v0
      have e2 : Hid (viS l lo hi = v) := by unfold Hid; rw [HV2.out, if_neg v0]
      rw [e2.out] at HR
      have V0 := Lib.hid v0
      clear hv v0
      go_wp2_with fail
      exact HR.out _ _ HB3.out (fun h => absurd h V0.out) (fun _ => rfl)
  · have K : (e != 0) = true := by simpa using h0
    have e2 : Hid (viS l lo hi = e) := by unfold Hid; rw [HV.out, if_neg h0]
    rw [e2.out] at HR
    have H0 := Lib.hid h0
    clear he h0
    go_wp2_with fail
    exact HR.out _ _ HB2.out (fun h => absurd h H0.out) (fun _ => rfl)
set_option maxHeartbeats 2000000 in
theorem zrvaried_any (ao : Option Addr) (l : List Int) (c : Nat) (lo hi : Int) (w : World) (R : Ending → World → Prop) (hl : l.length ≤ 1000000000) (hc : CellsAt w ao (I64s l)) (hR : ∀ w', Below w.heap.size w w' → R (.returned (.int .i64 (viS l lo hi))) w') :
    Calls Tryz.prog 54 #[.slice ao l.length c, .agg #[.int .i64 lo, .int .i64 hi]] w R := by
  have HR := Lib.hid hR
  have HC := Lib.hid hc
  have HL := Lib.hid hl
  have HV : Hid (viS l lo hi = if gvS l lo hi = 0 then (if vrE l = 0 then (if varS l = 0 then 10 else 0) else vrE l) else gvS l lo hi) := rfl
  obtain ⟨w1, E1, HB1, s1, b0, b1⟩ := box2 w (.int .i64 lo) (.int .i64 hi) 34
  have HC1 := Lib.hid (HC.out.below HB1.out)
  clear hR hc hl
  go_enter Tryz.func54, Tryz.ntmps54
  go_wp2_with (rw [E1.out])
  refine zgiven_any ao l c lo hi _ _ HL.out HC1.out fun w2 HB => ?_
  have HB2 := Lib.hid (HB1.out.trans (HB.mono HB1.out.size))
  have HC2 := Lib.hid (HC1.out.below HB)
  clear HB
  obtain ⟨e, he⟩ : ∃ e, gvS l lo hi = e := ⟨_, rfl⟩
  rw [he]
  rw [he] at HV
  by_cases h0 : e = 0
  · subst h0
    have h1 := (gvS_ok he).1
    have HS := Lib.hid (Srs.of h1)
    have hvr : Hid (vrE l = if l.length = 1 then 14 else 0) := by unfold Hid vrE; rw [if_pos h1]
    clear he h1
    by_cases h2 : l.length = 1
    · have K1 : ((l.length : Int) == 1) = true := by simp [h2]
      have e2 : Hid (viS l lo hi = 14) := by unfold Hid; rw [HV.out, hvr.out, if_pos rfl, if_pos h2]; exact if_neg (by decide)
      clear h2
      go_wp2_with fail
      exact ret_i (HR.out _ HB2.out) rfl e2.out
    · have K1 : ((l.length : Int) == 1) = false := by simpa using (by omega : ¬ (l.length : Int) = 1)
      have h3 : Hid (2 ≤ l.length) := by have := HS.out.pos; unfold Hid; omega
      have e1 : Hid (viS l lo hi = if varS l = 0 then 10 else 0) := by unfold Hid; rw [HV.out, hvr.out, if_pos rfl, if_neg h2, if_pos rfl]
      clear h2
      go_wp2_with fail
      refine zdev_any ao l c _ _ HS.out h3.out HC2.out fun r w3 HB hr => ?_
      have HB3 := Lib.hid (HB2.out.trans (HB.mono HB2.out.size))
      have hq := hr.beqL 0 (c := [48]) rtL_0
      clear HB hr
      by_cases q0 : varS l = 0
      · rw [decide_eq_true q0] at hq
        have e2 : Hid (viS l lo hi = 10) := by unfold Hid; rw [e1.out, if_pos q0]
        clear q0
        go_wp2_with fail
        exact ret_i (HR.out _ HB3.out) rfl e2.out
      · rw [decide_eq_false q0] at hq
        have e2 : Hid (viS l lo hi = 0) := by unfold Hid; rw [e1.out, if_neg q0]
        clear q0
        go_wp2_with fail
        exact ret_i (HR.out _ HB3.out) rfl e2.out
  · have K : (e != 0) = true := by simpa using h0
    have e2 : Hid (viS l lo hi = e) := by unfold Hid; rw [HV.out, if_neg h0]
    clear he h0
    go_wp2_with fail
    exact ret_i (HR.out _ HB2.out) rfl e2.out
set_option maxHeartbeats 2000000 in
theorem zindex57_any (a b : ByteArray) (p q : Rat) (f : Int) (hf : 0 < f ∧ f ≤ 36) (ha : TxR a p) (hb : TxR b q) (hp : SmR 40 p) (hq : SmR 30 q) (h0 : q ≠ 0) (w : World) (R : Ending → World → Prop) (hE : Env w)
   (hR : ∀ r w', Below w.heap.size w w' → TxR r (p * p / ((f : Rat) * q)) → R (.returned (.tuple #[.string r, .int .i64 0])) w') :
    Calls Tryz.prog 52 #[.string a, .int .i64 f, .string b] w R := by
  have HR := Lib.hid hR
  have HE := Lib.hid hE
  have HA := Lib.hid ha
  have HB := Lib.hid hb
  have Hf := Lib.hid hf
  have hfs : SmR 10 (f : Rat) := SmR.int (Nat.lt_of_le_of_lt (show f.natAbs ≤ 36 by omega) (by decide)) (by decide)
  have Sp : Hid (OkR p) := (hp.mono (by decide)).ok
  have Sq : Hid (OkR q) := (hq.mono (by decide)).ok
  have Sf : Hid (OkR (f : Rat)) := (hfs.mono (by decide)).ok
  have Spp : Hid (OkR (p * p)) := ((hp.mul hp).mono (by decide)).ok
  have Sfq : Hid (OkR ((f : Rat) * q)) := ((hfs.mul hq).mono (by decide)).ok
  have L1 := Lib.hid (fit_nn hp hp)
  have L2 := Lib.hid (fit_dd hp hp)
  have L3 := Lib.hid (fit_nn hfs hq)
  have L4 := Lib.hid (fit_dd hfs hq)
  have L5 := Lib.hid (fit_nd (hp.mul hp) (hfs.mul hq))
  have L6 := Lib.hid (fit_dn (hp.mul hp) (hfs.mul hq))
  have N0 : Hid ((f : Rat) * q ≠ 0) := fun e => by
    rcases Rat.mul_eq_zero.1 e with e | e
    · have := Rat.intCast_inj.1 (show (f : Rat) = ((0 : Int) : Rat) from e)
      omega
    · exact h0 e
  clear hR hE ha hb hp hq h0 hf hfs
  go_enter Tryz.func52, Tryz.ntmps52
  go_wp2_with fail
  with_reducible refine rmul_any a a p p HA.out HA.out Sp.out Sp.out L1.out L2.out _ _ HE.out fun r1 w1 hb hr => ?_
  have B1 := Lib.hid hb
  have T1 := Lib.hid hr
  have HE1 := Lib.hid (HE.out.below hb)
  clear hb hr
  go_wp2_with fail
  with_reducible refine rwhole_any f _ _ (by have := Hf.out; omega) (by have := Hf.out; omega) HE1.out fun r2 w2 hb hr => ?_
  have B2 := Lib.hid (bstep B1.out hb)
  have T2 := Lib.hid hr
  have HE2 := Lib.hid (HE1.out.below hb)
  clear hb hr
  go_wp2_with fail
  with_reducible refine rmul_any r2 b _ q T2.out HB.out Sf.out Sq.out L3.out L4.out _ _ HE2.out fun r3 w3 hb hr => ?_
  have B3 := Lib.hid (bstep B2.out hb)
  have T3 := Lib.hid hr
  have HE3 := Lib.hid (HE2.out.below hb)
  clear hb hr
  go_wp2_with fail
  with_reducible refine rdiv_any r1 r3 _ _ T1.out T3.out Spp.out Sfq.out N0.out L5.out L6.out _ _ HE3.out fun r4 w4 hb hr => ?_
  have B4 := Lib.hid (bstep B3.out hb)
  have T4 := Lib.hid hr
  clear hb hr
  go_wp2_with fail
  exact HR.out _ _ B4.out T4.out
set_option maxHeartbeats 2000000 in
theorem zcap_any (ao : Option Addr) (l : List Int) (c : Nat) (lo hi : Int) (w : World) (R : Ending → World → Prop) (hl : l.length ≤ 1000000000) (hc : CellsAt w ao (I64s l)) (hE : Env w) (hR : ∀ r w', Below w.heap.size w w' → (viS l lo hi = 0 → TxR r (capS l lo hi)) → (viS l lo hi ≠ 0 → r = ⟨#[]⟩) → R (.returned (.tuple #[.string r, .int .i64 (viS l lo hi)])) w') :
    Calls Tryz.prog 20 #[.slice ao l.length c, .agg #[.int .i64 lo, .int .i64 hi]] w R := by
  have HR := Lib.hid hR
  have HC := Lib.hid hc
  have HL := Lib.hid hl
  obtain ⟨w1, E1, HB1, s1, b0, b1⟩ := box2 w (.int .i64 lo) (.int .i64 hi) 34
  have HC1 := Lib.hid (HC.out.below HB1.out)
  have HE1 := Lib.hid (hE.below HB1.out)
  clear hR hc hl hE
  go_enter Tryz.func20, Tryz.ntmps20
  go_wp2_with (rw [E1.out])
  refine zvaried_any ao l c lo hi _ _ HL.out HC1.out HE1.out fun r w2 hb hr1 hr2 => ?_
  have HB2 := Lib.hid (HB1.out.trans (hb.mono HB1.out.size))
  have HE2 := Lib.hid (HE1.out.below hb)
  have d0 := cellB hb b0 (lt_of_cell' b0)
  have d1 := cellB hb b1 (lt_of_cell' b1)
  obtain ⟨e, he⟩ : ∃ e, viS l lo hi = e := ⟨_, rfl⟩
  rw [he] at hr1 hr2 HR ⊢
  clear hb b0 b1
  by_cases h0 : e = 0
  · subst h0
    obtain ⟨h1, h2, h3⟩ := viS_ok he
    obtain ⟨_, h4, h5, h6⟩ := gvS_ok h1
    obtain ⟨h7, h8⟩ := vrE_ok h2
    have hv : SmR 30 (varS l) := varS_small (Srs.of h7) h8
    have HV := Lib.hid hv
    have HN := Lib.hid h3
    have HT := Lib.hid (hr1 rfl)
    have H4 := Lib.hid h4
    have H5 := Lib.hid h5
    have K1 : IntKind.i64.wrap (hi - lo) = hi - lo := by rw [IntKind.wrap_i64] <;> omega
    have S1 : Hid (SmR 40 ((hi - lo : Int) : Rat)) := SmR.int (Nat.lt_of_le_of_lt (show (hi - lo).natAbs ≤ 4194304 by omega) (by decide)) (by decide)
    have h41 := h4.1
    have h42 := h4.2
    have h51 := h5.1
    have h52 := h5.2
    clear he h1 h2 h3 h7 h8 hv hr1 hr2 h4 h5
    go_wp2_with fail
    (try rw [K1])
    with_reducible refine rwhole_any (hi - lo) _ _ (by omega) (by omega) HE2.out fun r3 w3 hb hr => ?_
    have B3 := Lib.hid (HB2.out.trans (hb.mono HB2.out.size))
    have T3 := Lib.hid hr
    have HE3 := Lib.hid (HE2.out.below hb)
    clear hb hr
    go_wp2_with fail
    with_reducible refine zindex57_any r3 r _ _ 36 (by decide) T3.out HT.out S1.out HV.out HN.out _ _ HE3.out fun r4 w4 hb hr => ?_
    have B4 := Lib.hid (bstep B3.out hb)
    have T4 : Hid (TxR r4 (capS l lo hi)) := hr
    clear hb hr
    go_wp2_with fail
    exact HR.out _ _ B4.out (fun _ => T4.out) (fun h => absurd rfl h)
  · have K : (e != 0) = true := by simpa using h0
    have H0 := Lib.hid h0
    clear he h0 hr1 hr2
    go_wp2_with fail
    exact HR.out _ _ HB2.out (fun h => absurd h H0.out) (fun _ => rfl)
set_option maxHeartbeats 2000000 in
theorem zrcap_any (ao : Option Addr) (l : List Int) (c : Nat) (lo hi : Int) (w : World) (R : Ending → World → Prop) (hl : l.length ≤ 1000000000) (hc : CellsAt w ao (I64s l)) (hR : ∀ r w', Below w.heap.size w w' → (viS l lo hi = 0 → TxR r (capS l lo hi)) → (viS l lo hi ≠ 0 → r = ⟨#[]⟩) → R (.returned (.tuple #[.string r, .int .i64 (viS l lo hi)])) w') :
    Calls Tryz.prog 21 #[.slice ao l.length c, .agg #[.int .i64 lo, .int .i64 hi]] w R := by
  have HR := Lib.hid hR
  have HC := Lib.hid hc
  have HL := Lib.hid hl
  obtain ⟨w1, E1, HB1, s1, b0, b1⟩ := box2 w (.int .i64 lo) (.int .i64 hi) 34
  have HC1 := Lib.hid (HC.out.below HB1.out)
  clear hR hc hl
  go_enter Tryz.func21, Tryz.ntmps21
  go_wp2_with (rw [E1.out])
  refine zrvaried_any ao l c lo hi _ _ HL.out HC1.out fun w2 hb => ?_
  have HB2 := Lib.hid (HB1.out.trans (hb.mono HB1.out.size))
  have HC2 := Lib.hid (HC1.out.below hb)
  have d0 := cellB hb b0 (lt_of_cell' b0)
  have d1 := cellB hb b1 (lt_of_cell' b1)
  obtain ⟨e, he⟩ : ∃ e, viS l lo hi = e := ⟨_, rfl⟩
  rw [he] at HR ⊢
  clear hb b0 b1
  by_cases h0 : e = 0
  · subst h0
    obtain ⟨h1, h2, h3⟩ := viS_ok he
    obtain ⟨_, h4, h5, h6⟩ := gvS_ok h1
    obtain ⟨h7, h8⟩ := vrE_ok h2
    have HS := Lib.hid (Srs.of h7)
    have H8 := Lib.hid h8
    have hv : SmR 30 (varS l) := varS_small (Srs.of h7) h8
    have HV : Hid (SmR 500 (varS l)) := hv.mono (by decide)
    have hfs : SmR 10 ((36 : Int) : Rat) := SmR.int (by decide) (by decide)
    have HF : Hid (SmR 500 ((36 : Int) : Rat)) := hfs.mono (by decide)
    have HFV : Hid (SmR 500 (((36 : Int) : Rat) * varS l)) := (hfs.mul hv).mono (by decide)
    have N0 : Hid (((36 : Int) : Rat) * varS l ≠ 0) := fun e => by
      rcases Rat.mul_eq_zero.1 e with e | e
      · exact absurd e (by decide)
      · exact h3 e
    have T36 : Hid (TxR ⟨#[51, 54]⟩ ((36 : Int) : Rat)) := txR_36
    have K1 : IntKind.i64.wrap (hi - lo) = hi - lo := by rw [IntKind.wrap_i64] <;> omega
    have s1' : SmR 10 ((hi - lo : Int) : Rat) := SmR.int (Nat.lt_of_le_of_lt (show (hi - lo).natAbs ≤ 4194304 by omega) (by decide)) (by decide)
    have S1 : Hid (SmR 500 ((hi - lo : Int) : Rat)) := s1'.mono (by decide)
    have S2 : Hid (SmR 500 (((hi - lo : Int) : Rat) * ((hi - lo : Int) : Rat))) := (s1'.mul s1').mono (by decide)
    have h41 := h4.1
    have h42 := h4.2
    have h51 := h5.1
    have h52 := h5.2
    clear he h1 h2 h3 h7 h8 hv h4 h5 hfs s1'
    go_wp2_with fail
    (try rw [K1])
    with_reducible refine ywhole_any (hi - lo) (by omega) (by omega) _ _ fun r3 w3 hb hr => ?_
    have B3 := Lib.hid (HB2.out.trans (hb.mono HB2.out.size))
    have C3 := Lib.hid (HC2.out.below hb)
    have T3 := Lib.hid hr
    clear hb hr
    go_wp2_with fail
    with_reducible refine ytimes_any r3 r3 _ _ T3.out T3.out S1.out S1.out _ _ fun r4 w4 hb hr => ?_
    have B4 := Lib.hid (bstep B3.out hb)
    have C4 := Lib.hid (C3.out.below hb)
    have T4 := Lib.hid hr
    clear hb hr
    go_wp2_with fail
    refine zdev_any ao l c _ _ HS.out H8.out C4.out fun r5 w5 hb hr => ?_
    have B5 := Lib.hid (bstep B4.out hb)
    have T5 := Lib.hid hr
    clear hb hr
    go_wp2_with fail
    with_reducible refine ytimes_any _ r5 _ _ T36.out T5.out HF.out HV.out _ _ fun r6 w6 hb hr => ?_
    have B6 := Lib.hid (bstep B5.out hb)
    have T6 := Lib.hid hr
    clear hb hr
    go_wp2_with fail
    with_reducible refine yby_any r4 r6 _ _ T4.out T6.out S2.out HFV.out N0.out _ _ fun r7 w7 hb hr => ?_
    have B7 := Lib.hid (bstep B6.out hb)
    have T7 : Hid (TxR r7 (capS l lo hi)) := hr
    clear hb hr
    go_wp2_with fail
    exact HR.out _ _ B7.out (fun _ => T7.out) (fun h => absurd rfl h)
  · have K : (e != 0) = true := by simpa using h0
    have H0 := Lib.hid h0
    clear he h0
    go_wp2_with fail
    exact HR.out _ _ HB2.out (fun h => absurd h H0.out) (fun _ => rfl)
end Go.Proofs.YtcoombhcdcniiaaGreatDoor
namespace Go.Proofs.YtcoombhcdcniiaaGreatDoor
open Go.RowKit

theorem compareInt_eq (x y : Int) : Lib.compareInt x y = cmpI x y := by
  unfold Lib.compareInt cmpI; rfl
theorem farS_sign {l : List Int} (h : 0 < l.length) (lo hi : Int) : cmpI (farS l lo hi).num 0 = cmpI (farI l lo hi) 0 := by
  have hp : (0 : Int) < (l.length : Int) := by omega
  have h1 : 0 ≤ (farS l lo hi).num ↔ 0 ≤ farI l lo hi := by
    rw [Rat.num_nonneg]; unfold farS; exact Rat.divInt_nonneg_iff_of_pos_right hp
  have h2 : 0 ≤ -(farS l lo hi).num ↔ 0 ≤ -farI l lo hi := by
    have e : -farS l lo hi = Rat.divInt (-farI l lo hi) l.length := by
      unfold farS
      rw [Rat.divInt_eq_div, Rat.divInt_eq_div, Rat.intCast_neg]; grind
    rw [← Rat.neg_num, Rat.num_nonneg, e]; exact Rat.divInt_nonneg_iff_of_pos_right hp
  unfold cmpI
  by_cases a : farI l lo hi < 0
  · rw [if_pos a, if_pos (by omega)]
  · rw [if_neg a, if_neg (by omega)]
    by_cases b : 0 < farI l lo hi
    · rw [if_pos b, if_pos (by omega)]
    · rw [if_neg b, if_neg (by omega)]
theorem SmR.neg {k : Nat} {q : Rat} (h : SmR k q) : SmR k (-q) := ⟨by rw [Rat.neg_num, Int.natAbs_neg]; exact h.1, by rw [Rat.neg_den]; exact h.2⟩
theorem Srs.far {l : List Int} (h : Srs l) {lo hi : Int} (h1 : -1048576 ≤ lo ∧ lo ≤ 1048576) (h2 : -1048576 ≤ hi ∧ hi ≤ 1048576) :
    (-4294967296 ≤ (l.length : Int) * hi ∧ (l.length : Int) * hi ≤ 4294967296) ∧ (-4294967296 ≤ (l.length : Int) * lo ∧ (l.length : Int) * lo ≤ 4294967296) ∧ SmR 20 (farS l lo hi) := by
  have hn : (l.length : Int).natAbs ≤ 4096 := by have := h.few; omega
  have a := mul_abs_le hn (show hi.natAbs ≤ 1048576 by omega)
  have b := mul_abs_le hn (show lo.natAbs ≤ 1048576 by omega)
  have s := h.sum.1
  refine ⟨by omega, by omega, ?_⟩
  unfold farS
  refine SmR.ofDiv (by have := h.pos; omega) ?_ (Nat.lt_of_le_of_lt hn (by decide))
  unfold farI
  exact Nat.lt_of_le_of_lt (show _ ≤ 8589934592 by omega) (by decide)
theorem min_of_lt {p q : Rat} (h : p < q) : p = min p q := (if_pos (Rat.le_of_lt h)).symm
theorem min_of_nlt {p q : Rat} (h : ¬ p < q) : q = min p q := by
  by_cases hp : p ≤ q
  · have e : p = q := Rat.le_antisymm hp (Rat.not_lt.1 h)
    rw [e]; exact (if_pos Rat.le_refl).symm
  · exact (if_neg hp).symm
theorem cmpR_neg {p q : Rat} : cmpR p q < 0 ↔ p < q := by
  unfold cmpR
  by_cases h : p < q
  · rw [if_pos h]; exact ⟨fun _ => h, fun _ => by decide⟩
  · rw [if_neg h]
    by_cases h2 : q < p
    · rw [if_pos h2]; exact ⟨fun h3 => absurd h3 (by decide), fun h3 => absurd h3 h⟩
    · rw [if_neg h2]; exact ⟨fun h3 => absurd h3 (by decide), fun h3 => absurd h3 h⟩
theorem zcompare_any (x y : Int) (w : World) (R : Ending → World → Prop) (hR : R (.returned (.int .i64 (cmpI x y))) w) :
    Calls Tryz.prog 58 #[.int .i64 x, .int .i64 y] w R := by
  refine (Tryz.cmp_Compare_int x y w).mono ?_
  rintro e w' ⟨rfl, rfl⟩
  rw [compareInt_eq]; exact hR
set_option maxRecDepth 100000 in
set_option maxHeartbeats 4000000 in
theorem zcentered_any (ao : Option Addr) (l : List Int) (c : Nat) (lo hi : Int) (w : World) (R : Ending → World → Prop) (hl : l.length ≤ 1000000000) (hc : CellsAt w ao (I64s l)) (hE : Env w)
   (hR : ∀ r s w', Below w.heap.size w w' → (viS l lo hi = 0 → TxR r (cenS l lo hi) ∧ s = cmpI (farI l lo hi) 0) → (viS l lo hi ≠ 0 → r = ⟨#[]⟩ ∧ s = 0) → R (.returned (.tuple #[.string r, .int .i64 s, .int .i64 (viS l lo hi)])) w') :
    Calls Tryz.prog 22 #[.slice ao l.length c, .agg #[.int .i64 lo, .int .i64 hi]] w R := by
  have HR := Lib.hid hR
  have HC := Lib.hid hc
  have HL := Lib.hid hl
  obtain ⟨w1, E1, HB1, s1, b0, b1⟩ := box2 w (.int .i64 lo) (.int .i64 hi) 34
  have HC1 := Lib.hid (HC.out.below HB1.out)
  have HE1 := Lib.hid (hE.below HB1.out)
  clear hR hc hl hE
  go_enter Tryz.func22, Tryz.ntmps22
  go_wp2_with (rw [E1.out])
  refine zvaried_any ao l c lo hi _ _ HL.out HC1.out HE1.out fun r w2 hb hr1 hr2 => ?_
  have HB2 := Lib.hid (HB1.out.trans (hb.mono HB1.out.size))
  have HE2 := Lib.hid (HE1.out.below hb)
  have HC2 := Lib.hid (HC1.out.below hb)
  have d0 := cellB hb b0 (lt_of_cell' b0)
  have d1 := cellB hb b1 (lt_of_cell' b1)
  obtain ⟨e, he⟩ : ∃ e, viS l lo hi = e := ⟨_, rfl⟩
  rw [he] at hr1 hr2 HR ⊢
  clear hb b0 b1
  by_cases h0 : e = 0
  · subst h0
    obtain ⟨h1, h2, h3⟩ := viS_ok he
    obtain ⟨_, h4, h5, h6⟩ := gvS_ok h1
    obtain ⟨h7, h8⟩ := vrE_ok h2
    have HS := Lib.hid (Srs.of h7)
    have HV : Hid (SmR 30 (varS l)) := varS_small (Srs.of h7) h8
    have HN := Lib.hid h3
    have HT := Lib.hid (hr1 rfl)
    obtain ⟨f1, f2, f3⟩ := HS.out.far h4 h5
    have HF : Hid (SmR 40 (farS l lo hi)) := f3.mono (by decide)
    have hfar : Hid (farI l lo hi = min ((l.length : Int) * hi - sumI l) (sumI l - (l.length : Int) * lo)) := rfl
    have hfs : Hid (farS l lo hi = Rat.divInt (farI l lo hi) l.length) := rfl
    have hss := HS.out.sumA
    have hpos := HS.out.pos
    have hfew := HS.out.few
    obtain ⟨S, hS⟩ : ∃ S, sumI l = S := ⟨_, rfl⟩
    obtain ⟨y1, hy1⟩ : ∃ y, (l.length : Int) * hi = y := ⟨_, rfl⟩
    obtain ⟨y2, hy2⟩ : ∃ y, (l.length : Int) * lo = y := ⟨_, rfl⟩
    rw [hS, hy1, hy2] at hfar
    rw [hy1] at f1
    rw [hy2] at f2
    rw [hS] at hss
    have HSm := Lib.hid hS
    have HY1 := Lib.hid hy1
    have HY2 := Lib.hid hy2
    obtain ⟨f11, f12⟩ := f1
    obtain ⟨f21, f22⟩ := f2
    obtain ⟨s11, s12⟩ := hss
    have K1 : IntKind.i64.wrap y1 = y1 := by rw [IntKind.wrap_i64] <;> omega
    have K2 : IntKind.i64.wrap y2 = y2 := by rw [IntKind.wrap_i64] <;> omega
    have K3 : IntKind.i64.wrap (y1 - S) = y1 - S := by rw [IntKind.wrap_i64] <;> omega
    have K4 : IntKind.i64.wrap (S - y2) = S - y2 := by rw [IntKind.wrap_i64] <;> omega
    have hfb : Hid (-9000000000 ≤ farI l lo hi ∧ farI l lo hi ≤ 9000000000) := by unfold Hid; rw [hfar.out]; omega
    clear he h1 h2 h3 h7 h8 hr1 hr2 h4 h5 f3 hS hy1 hy2
    go_wp2_with fail
    have HCd := Lib.hid (HC2.out.below (Below.refl _ _).drew)
    refine regionL [0, 1, 2, 3, 4, 7, 9, 10, 11, 12] (fun w' => w'.cell? ⟨w.heap.size, 0, none⟩ = some (.int .i64 lo) ∧ w'.cell? ⟨w.heap.size, 1, none⟩ = some (.int .i64 hi)) (by kernel_rfl) (⟨d0, d1⟩) (fun Qn hPQ hQn hS0 => ?_)
    iterate 10 (refine takeL (v := ?_) rfl rfl (by kernel_rfl) (by kernel_rfl) (by kernel_rfl) hPQ hS0 (by kernel_rfl) ?_ ?_; rotate_left; (focus (intro w hSw; (try dsimp only at hSw); obtain ⟨k0, k1⟩ := hSw; go_simp; (try with_reducible rfl))); (try simp only [Act.put, List.setIfInBounds_toArray, List.set_cons_zero, List.set_cons_succ]))
    refine ofL (wpAnyH_ready (rs := [5]) (by kernel_rfl) (by simp) ?_)
    refine AllReadyH.cons (o := _) rfl (fun K hK => ?_) AllReadyH.nil
    go_simp
    refine zsum_any ao l c _ _ HS.out HCd.out ?_
    rw [HSm.out]
    refine hK.out _ _ (hS0) (fun hS1 => toL [6] ?_)
    clear hK K hS0
    (try simp only [Act.put, List.setIfInBounds_toArray, List.set_cons_zero, List.set_cons_succ])
    iterate 1 (refine takeL (v := ?_) rfl rfl (by kernel_rfl) (by kernel_rfl) (by kernel_rfl) hPQ hS1 (by kernel_rfl) ?_ ?_; rotate_left; (focus (intro w hSw; (try dsimp only at hSw); obtain ⟨k0, k1⟩ := hSw; go_simp; (try with_reducible rfl))); (try simp only [Act.put, List.setIfInBounds_toArray, List.set_cons_zero, List.set_cons_succ]))
    refine ofL (wpAnyH_ready (rs := [8]) (by kernel_rfl) (by simp) ?_)
    refine AllReadyH.cons (o := _) rfl (fun K hK => ?_) AllReadyH.nil
    go_simp
    refine zsum_any ao l c _ _ HS.out HCd.out ?_
    rw [HSm.out]
    refine hK.out _ _ (hS1) (fun hS2 => toL [13, 14, 15] ?_)
    clear hK K hS1
    (try simp only [Act.put, List.setIfInBounds_toArray, List.set_cons_zero, List.set_cons_succ])
    iterate 3 (refine takeL (v := ?_) rfl rfl (by kernel_rfl) (by kernel_rfl) (by kernel_rfl) hPQ hS2 (by kernel_rfl) ?_ ?_; rotate_left; (focus (intro w hSw; (try dsimp only at hSw); obtain ⟨k0, k1⟩ := hSw; go_simp; (try with_reducible rfl))); (try simp only [Act.put, List.setIfInBounds_toArray, List.set_cons_zero, List.set_cons_succ]))
    refine ofL (wpAnyH_done (by kernel_rfl) (hQn.out _ _ ?_) _)
    clear hS2 hPQ hQn Qn
    simp only [HY1.out, HY2.out, K1, K2, K3, K4, ← hfar.out]
    have HB5 : Hid (Below w.heap.size w w2.drew) := HB2.out.drew
    have HE5 : Hid (Env w2.drew) := HE2.out.drew
    go_wp2_with fail
    with_reducible refine rof_any (farI l lo hi) (l.length : Int) _ _ (by have := hfb.out; omega) (by have := hfb.out; omega) (by omega) (by omega) (by omega) HE5.out fun r6 w6 hb hr => ?_
    have B6 := Lib.hid (bstep HB5.out hb)
    have T6 : Hid (TxR r6 (farS l lo hi)) := hr
    have HE6 := Lib.hid (HE5.out.below hb)
    clear hb hr
    go_wp2_with fail
    with_reducible refine zindex57_any r6 r _ _ 9 (by decide) T6.out HT.out HF.out HV.out HN.out _ _ HE6.out fun r7 w7 hb hr => ?_
    have B7 := Lib.hid (bstep B6.out hb)
    have T7 : Hid (TxR r7 (cenS l lo hi)) := hr
    clear hb hr
    go_wp2_with fail
    with_reducible refine zcompare_any (farI l lo hi) 0 _ _ ?_
    go_wp2_with fail
    go_ret3
    exact HR.out _ _ _ B7.out (fun _ => ⟨T7.out, rfl⟩) (fun h => absurd rfl h)
  · have K : (e != 0) = true := by simpa using h0
    have H0 := Lib.hid h0
    clear he h0 hr1 hr2
    go_wp2_with fail
    go_ret3
    exact HR.out _ 0 _ HB2.out (fun h => absurd h H0.out) (fun _ => ⟨rfl, rfl⟩)
set_option maxRecDepth 100000 in
set_option maxHeartbeats 4000000 in
theorem zdist_any (ao : Option Addr) (l : List Int) (c : Nat) (lo hi : Int) (w : World) (R : Ending → World → Prop) (h : Srs l) (h4 : -1048576 ≤ lo ∧ lo ≤ 1048576) (h5 : -1048576 ≤ hi ∧ hi ≤ 1048576) (hc : CellsAt w ao (I64s l))
   (hR : ∀ r w', Below w.heap.size w w' → TxR r (farS l lo hi) → R (.returned (.string r)) w') :
    Calls Tryz.prog 59 #[.slice ao l.length c, .agg #[.int .i64 lo, .int .i64 hi]] w R := by
  have HR := Lib.hid hR
  have HC := Lib.hid hc
  have HS := Lib.hid h
  obtain ⟨w1, E1, HB1, s1, b0, b1⟩ := box2 w (.int .i64 lo) (.int .i64 hi) 34
  have HC1 := Lib.hid (HC.out.below HB1.out)
  have hU : Hid (SmR 500 ((hi : Rat) - meanS l)) := (h.subS h5).mono (by decide)
  have hD : Hid (SmR 500 (meanS l - (lo : Rat))) := by
    have e : meanS l - (lo : Rat) = -((lo : Rat) - meanS l) := by grind
    unfold Hid; rw [e]; exact (h.subS h4).neg.mono (by decide)
  have HM : Hid (SmR 500 (meanS l)) := (meanS_small h).mono (by decide)
  have SL : Hid (SmR 500 (lo : Rat)) := (SmR.int (k := 20) (Nat.lt_of_le_of_lt (show lo.natAbs ≤ 4194304 by omega) (by decide)) (by decide)).mono (by decide)
  have SH : Hid (SmR 500 (hi : Rat)) := (SmR.int (k := 20) (Nat.lt_of_le_of_lt (show hi.natAbs ≤ 4194304 by omega) (by decide)) (by decide)).mono (by decide)
  have HF : Hid (farS l lo hi = min ((hi : Rat) - meanS l) (meanS l - (lo : Rat))) := far_eq h.pos lo hi
  have H4 := Lib.hid h4
  have H5 := Lib.hid h5
  clear hR hc h h4 h5
  go_enter Tryz.func59, Tryz.ntmps59
  go_wp2_with (rw [E1.out])
  have HCd := Lib.hid (HC1.out.below (Below.refl _ _).drew)
  have HBd : Hid (Below w.heap.size w w1.drew) := HB1.out.drew
  refine regionL [0, 1, 3, 6, 8, 9] (fun w' => w'.cell? ⟨w.heap.size, 0, none⟩ = some (.int .i64 lo) ∧ w'.cell? ⟨w.heap.size, 1, none⟩ = some (.int .i64 hi)) (by kernel_rfl) (⟨b0, b1⟩) (fun Qn hPQ hQn hS0 => ?_)
  iterate 6 (refine takeL (v := ?_) rfl rfl (by kernel_rfl) (by kernel_rfl) (by kernel_rfl) hPQ hS0 (by kernel_rfl) ?_ ?_; rotate_left; (focus (intro w hSw; (try dsimp only at hSw); obtain ⟨k0, k1⟩ := hSw; go_simp; (try with_reducible rfl))); (try simp only [Act.put, List.setIfInBounds_toArray, List.set_cons_zero, List.set_cons_succ]))
  refine ofL (wpAnyH_ready (rs := [2]) (by kernel_rfl) (by simp) ?_)
  refine AllReadyH.cons (o := _) rfl (fun K hK => ?_) AllReadyH.nil
  go_simp
  with_reducible refine ywhole_any hi (by have := H5.out; omega) (by have := H5.out; omega) _ _ fun r2 w2 hb hr => ?_
  have B2 := Lib.hid (bstep HBd.out hb)
  have C2 := Lib.hid (HCd.out.below hb)
  have d20 := cellB hb b0 (lt_of_cell' b0)
  have d21 := cellB hb b1 (lt_of_cell' b1)
  have T2 := Lib.hid hr
  clear hb hr
  refine hK.out _ _ (⟨d20, d21⟩) (fun hS1 => toL [] ?_)
  clear hK K hS0
  (try simp only [Act.put, List.setIfInBounds_toArray, List.set_cons_zero, List.set_cons_succ])
  refine ofL (wpAnyH_ready (rs := [4]) (by kernel_rfl) (by simp) ?_)
  refine AllReadyH.cons (o := _) rfl (fun K hK => ?_) AllReadyH.nil
  go_simp
  refine zcenter_any ao l c _ _ HS.out C2.out fun r4 w4 hb hr => ?_
  have B4 := Lib.hid (bstep B2.out hb)
  have C4 := Lib.hid (C2.out.below hb)
  have d40 := cellB hb d20 (lt_of_cell' d20)
  have d41 := cellB hb d21 (lt_of_cell' d21)
  have T4 := Lib.hid hr
  clear hb hr
  refine hK.out _ _ (⟨d40, d41⟩) (fun hS2 => toL [] ?_)
  clear hK K hS1
  (try simp only [Act.put, List.setIfInBounds_toArray, List.set_cons_zero, List.set_cons_succ])
  refine ofL (wpAnyH_ready (rs := [5]) (by kernel_rfl) (by simp) ?_)
  refine AllReadyH.cons (o := _) rfl (fun K hK => ?_) AllReadyH.nil
  go_simp
  with_reducible refine yminus_any r2 r4 _ _ T2.out T4.out SH.out HM.out _ _ fun r5 w5 hb hr => ?_
  have B5 := Lib.hid (bstep B4.out hb)
  have C5 := Lib.hid (C4.out.below hb)
  have d50 := cellB hb d40 (lt_of_cell' d40)
  have d51 := cellB hb d41 (lt_of_cell' d41)
  have T5 := Lib.hid hr
  clear hb hr
  refine hK.out _ _ (⟨d50, d51⟩) (fun hS3 => toL [] ?_)
  clear hK K hS2
  (try simp only [Act.put, List.setIfInBounds_toArray, List.set_cons_zero, List.set_cons_succ])
  refine ofL (wpAnyH_ready (rs := [7]) (by kernel_rfl) (by simp) ?_)
  refine AllReadyH.cons (o := _) rfl (fun K hK => ?_) AllReadyH.nil
  go_simp
  refine zcenter_any ao l c _ _ HS.out C5.out fun r7 w7 hb hr => ?_
  have B7 := Lib.hid (bstep B5.out hb)
  have C7 := Lib.hid (C5.out.below hb)
  have d70 := cellB hb d50 (lt_of_cell' d50)
  have d71 := cellB hb d51 (lt_of_cell' d51)
  have T7 := Lib.hid hr
  clear hb hr
  refine hK.out _ _ (⟨d70, d71⟩) (fun hS4 => toL [] ?_)
  clear hK K hS3
  (try simp only [Act.put, List.setIfInBounds_toArray, List.set_cons_zero, List.set_cons_succ])
  refine ofL (wpAnyH_ready (rs := [10]) (by kernel_rfl) (by simp) ?_)
  refine AllReadyH.cons (o := _) rfl (fun K hK => ?_) AllReadyH.nil
  go_simp
  with_reducible refine ywhole_any lo (by have := H4.out; omega) (by have := H4.out; omega) _ _ fun r10 w10 hb hr => ?_
  have B10 := Lib.hid (bstep B7.out hb)
  have C10 := Lib.hid (C7.out.below hb)
  have d100 := cellB hb d70 (lt_of_cell' d70)
  have d101 := cellB hb d71 (lt_of_cell' d71)
  have T10 := Lib.hid hr
  clear hb hr
  refine hK.out _ _ (⟨d100, d101⟩) (fun hS5 => toL [] ?_)
  clear hK K hS4
  (try simp only [Act.put, List.setIfInBounds_toArray, List.set_cons_zero, List.set_cons_succ])
  refine ofL (wpAnyH_ready (rs := [11]) (by kernel_rfl) (by simp) ?_)
  refine AllReadyH.cons (o := _) rfl (fun K hK => ?_) AllReadyH.nil
  go_simp
  with_reducible refine yminus_any r7 r10 _ _ T7.out T10.out HM.out SL.out _ _ fun r11 w11 hb hr => ?_
  have B11 := Lib.hid (bstep B10.out hb)
  have C11 := Lib.hid (C10.out.below hb)
  have d110 := cellB hb d100 (lt_of_cell' d100)
  have d111 := cellB hb d101 (lt_of_cell' d101)
  have T11 := Lib.hid hr
  clear hb hr
  refine hK.out _ _ (⟨d110, d111⟩) (fun hS6 => toL [12, 13] ?_)
  clear hK K hS5
  (try simp only [Act.put, List.setIfInBounds_toArray, List.set_cons_zero, List.set_cons_succ])
  iterate 2 (refine takeL (v := ?_) rfl rfl (by kernel_rfl) (by kernel_rfl) (by kernel_rfl) hPQ hS6 (by kernel_rfl) ?_ ?_; rotate_left; (focus (intro w hSw; (try dsimp only at hSw); obtain ⟨k0, k1⟩ := hSw; go_simp; (try with_reducible rfl))); (try simp only [Act.put, List.setIfInBounds_toArray, List.set_cons_zero, List.set_cons_succ]))
  refine ofL (wpAnyH_done (by kernel_rfl) (hQn.out _ _ ?_) _)
  clear hS6 hPQ hQn Qn
  obtain ⟨U, hU1⟩ : ∃ U, (hi : Rat) - meanS l = U := ⟨_, rfl⟩
  obtain ⟨D, hD1⟩ : ∃ D, meanS l - (lo : Rat) = D := ⟨_, rfl⟩
  rw [hU1, hD1] at HF
  rw [hU1] at T5 hU
  rw [hD1] at T11 hD
  clear hU1 hD1
  go_wp2_with fail
  with_reducible refine yorder_any r5 r11 U D T5.out T11.out hU.out hD.out _ _ fun w12 hb => ?_
  have B12 := Lib.hid (bstep B11.out hb)
  clear hb
  by_cases hlt : U < D
  · have K : (cmpR U D < 0) = True := eq_true (cmpR_neg.2 hlt)
    have e2 : Hid (farS l lo hi = U) := HF.out.trans (min_of_lt hlt).symm
    clear hlt
    go_wp2_with fail
    exact ret_str (HR.out r5 _ B12.out (by rw [e2.out]; exact T5.out)) rfl
  · have K : (cmpR U D < 0) = False := eq_false (fun h => hlt (cmpR_neg.1 h))
    have e2 : Hid (farS l lo hi = D) := HF.out.trans (min_of_nlt hlt).symm
    clear hlt
    go_wp2_with fail
    exact ret_str (HR.out r11 _ B12.out (by rw [e2.out]; exact T11.out)) rfl
set_option maxRecDepth 100000 in
set_option maxHeartbeats 4000000 in
theorem zrcentered_any (ao : Option Addr) (l : List Int) (c : Nat) (lo hi : Int) (w : World) (R : Ending → World → Prop) (hl : l.length ≤ 1000000000) (hc : CellsAt w ao (I64s l))
   (hR : ∀ r s w', Below w.heap.size w w' → (viS l lo hi = 0 → TxR r (cenS l lo hi) ∧ s = cmpI (farI l lo hi) 0) → (viS l lo hi ≠ 0 → r = ⟨#[]⟩ ∧ s = 0) → R (.returned (.tuple #[.string r, .int .i64 s, .int .i64 (viS l lo hi)])) w') :
    Calls Tryz.prog 23 #[.slice ao l.length c, .agg #[.int .i64 lo, .int .i64 hi]] w R := by
  have HR := Lib.hid hR
  have HC := Lib.hid hc
  have HL := Lib.hid hl
  obtain ⟨w1, E1, HB1, s1, b0, b1⟩ := box2 w (.int .i64 lo) (.int .i64 hi) 34
  have HC1 := Lib.hid (HC.out.below HB1.out)
  clear hR hc hl
  go_enter Tryz.func23, Tryz.ntmps23
  go_wp2_with (rw [E1.out])
  refine zrvaried_any ao l c lo hi _ _ HL.out HC1.out fun w2 hb => ?_
  have HB2 := Lib.hid (HB1.out.trans (hb.mono HB1.out.size))
  have HC2 := Lib.hid (HC1.out.below hb)
  have d0 := cellB hb b0 (lt_of_cell' b0)
  have d1 := cellB hb b1 (lt_of_cell' b1)
  obtain ⟨e, he⟩ : ∃ e, viS l lo hi = e := ⟨_, rfl⟩
  rw [he] at HR ⊢
  clear hb b0 b1
  by_cases h0 : e = 0
  · subst h0
    obtain ⟨h1, h2, h3⟩ := viS_ok he
    obtain ⟨_, h4, h5, h6⟩ := gvS_ok h1
    obtain ⟨h7, h8⟩ := vrE_ok h2
    have HS := Lib.hid (Srs.of h7)
    have H8 := Lib.hid h8
    have hv : SmR 30 (varS l) := varS_small (Srs.of h7) h8
    have HV : Hid (SmR 500 (varS l)) := hv.mono (by decide)
    have hfs : SmR 10 ((9 : Int) : Rat) := SmR.int (by decide) (by decide)
    have HF : Hid (SmR 500 ((9 : Int) : Rat)) := hfs.mono (by decide)
    have HFV : Hid (SmR 500 (((9 : Int) : Rat) * varS l)) := (hfs.mul hv).mono (by decide)
    have N0 : Hid (((9 : Int) : Rat) * varS l ≠ 0) := fun e => by
      rcases Rat.mul_eq_zero.1 e with e | e
      · exact absurd e (by decide)
      · exact h3 e
    have T9 : Hid (TxR ⟨#[57]⟩ ((9 : Int) : Rat)) := txR_9
    have f3 := (HS.out.far h4 h5).2.2
    have S1 : Hid (SmR 500 (farS l lo hi)) := f3.mono (by decide)
    have S2 : Hid (SmR 500 (farS l lo hi * farS l lo hi)) := (f3.mul f3).mono (by decide)
    have H4 := Lib.hid h4
    have H5 := Lib.hid h5
    have HG : Hid (cmpI (farS l lo hi).num 0 = cmpI (farI l lo hi) 0) := farS_sign HS.out.pos lo hi
    clear he h1 h2 h3 h4 h5 h6 h7 h8 hv hfs f3
    go_wp2_with fail
    refine zdist_any ao l c lo hi _ _ HS.out H4.out H5.out HC2.out fun r3 w3 hb hr => ?_
    have B3 := Lib.hid (bstep HB2.out hb)
    have C3 := Lib.hid (HC2.out.below hb)
    have T3 := Lib.hid hr
    clear hb hr
    go_wp2_with fail
    with_reducible refine ytimes_any r3 r3 _ _ T3.out T3.out S1.out S1.out _ _ fun r4 w4 hb hr => ?_
    have B4 := Lib.hid (bstep B3.out hb)
    have C4 := Lib.hid (C3.out.below hb)
    have T4 := Lib.hid hr
    clear hb hr
    go_wp2_with fail
    refine zdev_any ao l c _ _ HS.out H8.out C4.out fun r5 w5 hb hr => ?_
    have B5 := Lib.hid (bstep B4.out hb)
    have T5 := Lib.hid hr
    clear hb hr
    go_wp2_with fail
    with_reducible refine ytimes_any _ r5 _ _ T9.out T5.out HF.out HV.out _ _ fun r6 w6 hb hr => ?_
    have B6 := Lib.hid (bstep B5.out hb)
    have T6 := Lib.hid hr
    clear hb hr
    go_wp2_with fail
    with_reducible refine yby_any r4 r6 _ _ T4.out T6.out S2.out HFV.out N0.out _ _ fun r7 w7 hb hr => ?_
    have B7 := Lib.hid (bstep B6.out hb)
    have T7 : Hid (TxR r7 (cenS l lo hi)) := hr
    clear hb hr
    go_wp2_with fail
    with_reducible refine ysignum_any r3 _ T3.out S1.out _ _ fun w8 hb => ?_
    have B8 := Lib.hid (bstep B7.out hb)
    clear hb
    rw [HG.out]
    go_wp2_with fail
    go_ret3
    exact HR.out _ _ _ B8.out (fun _ => ⟨T7.out, rfl⟩) (fun h => absurd rfl h)
  · have K : (e != 0) = true := by simpa using h0
    have H0 := Lib.hid h0
    clear he h0
    go_wp2_with fail
    go_ret3
    exact HR.out _ 0 _ HB2.out (fun h => absurd h H0.out) (fun _ => ⟨rfl, rfl⟩)
end Go.Proofs.YtcoombhcdcniiaaGreatDoor
