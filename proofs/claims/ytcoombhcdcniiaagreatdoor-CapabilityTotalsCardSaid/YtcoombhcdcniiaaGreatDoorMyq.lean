/- Right series; the law Centers of layer 57. (Printed by gen_law57b.py.) The law Centers of layer 57. (Printed by gen_centers.py.) -/
import Derived.Test.YtcoombhcdcniiaaGreatDoorYp
namespace Go.Proofs.YtcoombhcdcniiaaGreatDoor
open Go.RowKit

def bigI (n : Int) : Bool := decide (n < -8000) || decide (8000 < n)
def rgS (l : List Int) : Bool := decide (1 < l.length) && decide (l.length ≤ 20) && !l.any bigI
theorem rgS_ok {l : List Int} (h : rgS l = true) : 2 ≤ l.length ∧ l.length ≤ 20 ∧ ∀ x ∈ l, -8000 ≤ x ∧ x ≤ 8000 := by
  unfold rgS at h
  simp only [Bool.and_eq_true, decide_eq_true_eq, Bool.not_eq_true'] at h
  obtain ⟨⟨h1, h2⟩, h3⟩ := h
  refine ⟨by omega, h2, fun x hx => ?_⟩
  have := List.any_eq_false.1 h3 x hx
  unfold bigI at this
  simp at this
  omega
theorem rgS_srs {l : List Int} (h : rgS l = true) : Srs l := by
  obtain ⟨h1, h2, h3⟩ := rgS_ok h
  exact ⟨by omega, by omega, fun x hx => by have := h3 x hx; omega, fun x hx => by have := h3 x hx; omega⟩
theorem rgS_ck {l : List Int} (h : rgS l = true) : ckSr l = 0 ∧ vrE l = 0 := by
  obtain ⟨h1, h2, h3⟩ := rgS_ok h
  have h4 : ckSr l = 0 := ckSr_zero.2 ⟨by omega, by omega, fun x hx => by have := h3 x hx; omega⟩
  exact ⟨h4, by unfold vrE; rw [if_pos h4, if_neg (by omega)]⟩
set_option maxHeartbeats 1000000 in
theorem zright1_any (n : Int) (w : World) (R : Ending → World → Prop) (hR : R (.returned (.bool (bigI n))) w) :
    Calls Tryz.prog 66 #[.int .i64 n] w R := by
  go_enter Tryz.func66, Tryz.ntmps66
  go_wp2
  all_goals exact ret_eq hR (by simp [bigI, *] <;> omega)
set_option maxHeartbeats 2000000 in
theorem zright_any (ao : Option Addr) (l : List Int) (c : Nat) (w : World) (R : Ending → World → Prop) (hc : CellsAt w ao (I64s l)) (hR : R (.returned (.bool (rgS l))) w) :
    Calls Tryz.prog 31 #[.slice ao l.length c] w R := by
  have HR := Lib.hid hR
  have HC := Lib.hid hc
  clear hR hc
  by_cases h1 : 1 < l.length
  · have K1 : (1 < (l.length : Int)) = True := eq_true (by omega)
    by_cases h2 : l.length ≤ 20
    · have K2 : ((l.length : Int) ≤ 20) = True := eq_true (by omega)
      have HL : Hid (l.length ≤ 1000000000) := by unfold Hid; omega
      have e : Hid (rgS l = !l.any bigI) := by unfold Hid rgS; rw [decide_eq_true h1, decide_eq_true h2]; rfl
      clear h1 h2
      go_enter Tryz.func31, Tryz.ntmps31
      go_wp2_with fail
      refine zcontains_any 66 bigI ao l c _ _ (enters_of Tryz.func66 (by kernel_rfl) rfl) HL.out HC.out (fun n w R h => zright1_any n w R h) ?_
      go_wp2_with fail
      exact ret_b HR.out rfl e.out
    · have K2 : ((l.length : Int) ≤ 20) = False := eq_false (by omega)
      have e : Hid (rgS l = false) := by unfold Hid rgS; rw [decide_eq_false h2]; simp
      clear h1 h2
      go_enter Tryz.func31, Tryz.ntmps31
      go_wp2_with fail
      exact ret_b HR.out rfl e.out
  · have K1 : (1 < (l.length : Int)) = False := eq_false (by omega)
    have e : Hid (rgS l = false) := by unfold Hid rgS; rw [decide_eq_false h1]; simp
    clear h1
    go_enter Tryz.func31, Tryz.ntmps31
    go_wp2_with fail
    exact ret_b HR.out rfl e.out
theorem cmpI_cases (m n : Int) : cmpI m n = -1 ∨ cmpI m n = 0 ∨ cmpI m n = 1 := by
  unfold cmpI; split
  · exact .inl rfl
  · split
    · exact .inr (.inr rfl)
    · exact .inr (.inl rfl)
theorem cmpR_cases (p q : Rat) : cmpR p q = -1 ∨ cmpR p q = 0 ∨ cmpR p q = 1 := by
  unfold cmpR; split
  · exact .inl rfl
  · split
    · exact .inr (.inr rfl)
    · exact .inr (.inl rfl)
theorem cmpR_pos {p q : Rat} : cmpR p q = 1 ↔ q < p := by
  unfold cmpR
  by_cases h : p < q
  · rw [if_pos h]; exact ⟨fun h3 => absurd h3 (by decide), fun h3 => absurd (Rat.le_of_lt h3) (Rat.not_le.2 h)⟩
  · rw [if_neg h]
    by_cases h2 : q < p
    · rw [if_pos h2]; exact ⟨fun _ => h2, fun _ => rfl⟩
    · rw [if_neg h2]; exact ⟨fun h3 => absurd h3 (by decide), fun h3 => absurd h3 h2⟩
theorem cmpR_minus {p q : Rat} : cmpR p q = -1 ↔ p < q := by
  rcases cmpR_cases p q with e | e | e <;> have := @cmpR_neg p q <;> rw [e] at this ⊢
  · exact ⟨fun _ => this.1 (by decide), fun _ => rfl⟩
  · exact ⟨fun h => absurd h (by decide), fun h => absurd (this.2 h) (by decide)⟩
  · exact ⟨fun h => absurd h (by decide), fun h => absurd (this.2 h) (by decide)⟩
theorem cmpR_zero {p q : Rat} : cmpR p q = 0 ↔ p = q := by
  constructor
  · intro h
    have h1 : ¬ p < q := fun e => by rw [cmpR_minus.2 e] at h; exact absurd h (by decide)
    have h2 : ¬ q < p := fun e => by rw [cmpR_pos.2 e] at h; exact absurd h (by decide)
    exact Rat.le_antisymm (Rat.not_lt.1 h2) (Rat.not_lt.1 h1)
  · rintro rfl
    unfold cmpR; rw [if_neg Rat.lt_irrefl, if_neg Rat.lt_irrefl]
theorem cmpI_one {m n : Int} : (cmpI m n = 1 ↔ n < m) ∧ (cmpI m n = -1 ↔ m < n) := by
  unfold cmpI
  by_cases h : m < n
  · rw [if_pos h]; exact ⟨⟨fun h => absurd h (by decide), fun h2 => by omega⟩, ⟨fun _ => h, fun _ => rfl⟩⟩
  · rw [if_neg h]
    by_cases h2 : n < m
    · rw [if_pos h2]; exact ⟨⟨fun _ => h2, fun _ => rfl⟩, ⟨fun h => absurd h (by decide), fun h3 => absurd h3 h⟩⟩
    · rw [if_neg h2]; exact ⟨⟨fun h => absurd h (by decide), fun h3 => absurd h3 h2⟩, ⟨fun h => absurd h (by decide), fun h3 => absurd h3 h⟩⟩
/-- What the law Centers says of the comparisons. -/
theorem centers {l : List Int} (h : rgS l = true) (hv : varS l ≠ 0) {lo hi s lw hg mid n : Int} (hs : s = cmpI (farI l lo hi) 0) (hlw : lw = cmpR (meanS l) (lo : Rat)) (hhg : hg = cmpR (meanS l) (hi : Rat)) (hmid : mid = cmpR (meanS l) (((lo + hi : Int) : Rat) / 2)) (hn : n = cmpR (cenS l lo hi) (capS l lo hi)) :
    (s = 1 ↔ lw = 1 ∧ hg = -1) ∧ (s = -1 ↔ lw = -1 ∨ hg = 1) ∧ (s ≠ -1 → n ≠ 1 ∧ (n = 0 ↔ mid = 0)) ∧ (s = -1 ∨ s = 0 ∨ s = 1) ∧ (lw = -1 ∨ lw = 0 ∨ lw = 1) ∧ (hg = -1 ∨ hg = 0 ∨ hg = 1) ∧ (mid = -1 ∨ mid = 0 ∨ mid = 1) ∧ (n = -1 ∨ n = 0 ∨ n = 1) := by
  obtain ⟨h1, h2, h3⟩ := rgS_ok h
  obtain ⟨f1, f2⟩ := far_sign (l := l) (by omega) lo hi
  have hpos : 0 < varS l := by
    by_cases hne : ∃ x ∈ l, ∃ y ∈ l, x ≠ y
    · exact varS_pos h1 hne
    · refine absurd ((varS_zero h1).2 fun x hx y hy => ?_) hv
      by_cases e : x = y
      · exact e
      · exact absurd ⟨x, hx, y, hy, e⟩ hne
  subst hs hlw hhg hmid hn
  refine ⟨?_, ?_, fun hs => ?_, cmpI_cases _ _, cmpR_cases _ _, cmpR_cases _ _, cmpR_cases _ _, cmpR_cases _ _⟩
  · rw [cmpI_one.1, cmpR_pos, cmpR_minus]; exact f1
  · rw [cmpI_one.2, cmpR_minus, cmpR_pos]; exact f2
  · have h0 : 0 ≤ farI l lo hi := by
      by_cases e : farI l lo hi < 0
      · exact absurd (cmpI_one.2.2 e) hs
      · omega
    obtain ⟨c1, c2⟩ := cen_cap h1 hpos lo hi h0
    refine ⟨fun e => ?_, ?_⟩
    · exact absurd (cmpR_pos.1 e) (Rat.not_lt.2 c1)
    · rw [cmpR_zero, cmpR_zero]; exact c2
theorem rat_half (n : Int) : Rat.divInt n 2 = (n : Rat) / 2 := by rw [Rat.divInt_eq_div]; rfl
end Go.Proofs.YtcoombhcdcniiaaGreatDoor
namespace Go.Proofs.YtcoombhcdcniiaaGreatDoor
open Go.RowKit

theorem SmR.div {j k : Nat} {p q : Rat} (hp : SmR j p) (hq : SmR k q) (h0 : q ≠ 0) : SmR (j + k) (p / q) := by
  rw [← rat_div p q]
  refine SmR.ofDiv ?_ ?_ ?_
  · have h1 := p.den_pos
    exact Int.mul_ne_zero (by omega) (fun e => h0 (Rat.num_eq_zero.1 e))
  · rw [Int.natAbs_mul, Nat.pow_add, Int.natAbs_natCast]; exact Nat.mul_lt_mul'' hp.1 hq.2
  · rw [Int.natAbs_mul, Nat.pow_add, Int.natAbs_natCast]; exact Nat.mul_lt_mul'' hp.2 hq.1
theorem times_ne {f : Int} {q : Rat} (hf : 0 < f) (h0 : q ≠ 0) : (f : Rat) * q ≠ 0 := fun e => by
  rcases Rat.mul_eq_zero.1 e with e | e
  · have := Rat.intCast_inj.1 (show (f : Rat) = ((0 : Int) : Rat) from e)
    omega
  · exact h0 e
theorem cap_small {l : List Int} (h : Srs l) (h2 : 2 ≤ l.length) (hv : varS l ≠ 0) {lo hi : Int} (h4 : -1048576 ≤ lo ∧ lo ≤ 1048576) (h5 : -1048576 ≤ hi ∧ hi ≤ 1048576) : SmR 60 (capS l lo hi) := by
  have s1 : SmR 10 ((hi - lo : Int) : Rat) := SmR.int (Nat.lt_of_le_of_lt (show (hi - lo).natAbs ≤ 4194304 by omega) (by decide)) (by decide)
  have s2 : SmR 10 ((36 : Int) : Rat) := SmR.int (by decide) (by decide)
  exact (s1.mul s1).div (s2.mul (varS_small h h2)) (times_ne (by decide) hv)
theorem cen_small {l : List Int} (h : Srs l) (h2 : 2 ≤ l.length) (hv : varS l ≠ 0) {lo hi : Int} (h4 : -1048576 ≤ lo ∧ lo ≤ 1048576) (h5 : -1048576 ≤ hi ∧ hi ≤ 1048576) : SmR 90 (cenS l lo hi) := by
  have s1 := (h.far h4 h5).2.2
  have s2 : SmR 10 ((9 : Int) : Rat) := SmR.int (by decide) (by decide)
  exact SmR.mono (k := 90) ((s1.mul s1).div (s2.mul (varS_small h h2)) (times_ne (f := 9) (by decide) hv)) (by decide)
theorem varS_ends {l : List Int} (h : rgS l = true) : varS l = 0 ↔ Lib.maxOf l = Lib.minOf l := by
  obtain ⟨h1, h2, h3⟩ := rgS_ok h
  rw [varS_zero h1, ← wdI_zero (show 0 < l.length by omega)]
  unfold wdI
  constructor <;> intro e <;> omega
set_option maxRecDepth 100000 in
set_option maxHeartbeats 8000000 in
theorem lawCenters_any (ao : Option Addr) (l : List Int) (c : Nat) (lo hi : Int) (w : World) (R : Ending → World → Prop) (hc : CellsAt w ao (I64s l)) (hE : Env w) (hR : ∀ w', Below w.heap.size w w' → R (.returned (.bool true)) w') :
    Calls Tryz.prog 9 #[.slice ao l.length c, .agg #[.int .i64 lo, .int .i64 hi]] w R := by
  have HR := Lib.hid hR
  have HC := Lib.hid hc
  have HE := Lib.hid hE
  clear hR hc hE
  obtain ⟨w1, E1, HB1, s1, b0, b1⟩ := box2 w (.int .i64 lo) (.int .i64 hi) 34
  have HC1 := Lib.hid (HC.out.below HB1.out)
  have HE1 := Lib.hid (HE.out.below HB1.out)
  go_enter Tryz.func9, Tryz.ntmps9
  go_wp2_with (rw [E1.out])
  refine zright_any ao l c _ _ HC1.out ?_
  cases hr : rgS l with
  | false =>
    clear hr
    go_wp2_with fail
    refine zawake_any _ _ HE1.out fun w9 hb => ?_
    have B9 := Lib.hid (bstep HB1.out hb)
    clear hb
    go_wp2_with fail
    exact HR.out _ B9.out
  | true =>
    have Hrg := Lib.hid hr
    have HL : Hid (l.length ≤ 1000000000) := by have := (rgS_ok hr).2.1; unfold Hid; omega
    have hp : Hid (0 < l.length) := by have := (rgS_ok hr).1; unfold Hid; omega
    have hq : Hid (l.length ≤ 100000) := by have := (rgS_ok hr).2.1; unfold Hid; omega
    clear hr
    go_wp2_with fail
    refine zgiven_any ao l c lo hi _ _ HL.out HC1.out fun w2 hb => ?_
    have B2 := Lib.hid (bstep HB1.out hb)
    have C2 := Lib.hid (HC1.out.below hb)
    have E2 := Lib.hid (HE1.out.below hb)
    have d20 := cellB hb b0 (lt_of_cell' b0)
    have d21 := cellB hb b1 (lt_of_cell' b1)
    clear hb b0 b1
    obtain ⟨e, he⟩ : ∃ e, gvS l lo hi = e := ⟨_, rfl⟩
    rw [he]
    by_cases h0 : e = 0
    · subst h0
      obtain ⟨_, h4, h5, h6⟩ := gvS_ok he
      have HG := Lib.hid he
      have H4 := Lib.hid h4
      have H5 := Lib.hid h5
      clear he h4 h5 h6
      obtain ⟨bd, od, rfl, hbd, hdc⟩ := C2.out.ints hp.out
      have HDC := Lib.hid hdc
      clear hdc hbd
      go_wp2_with fail
      refine zmin_any bd od l.length c l _ _ hp.out rfl hq.out HDC.out ?_
      go_wp2_with fail
      refine zmax_any bd od l.length c l _ _ hp.out rfl hq.out HDC.out ?_
      obtain ⟨mx, hmx⟩ : ∃ y, Lib.maxOf l = y := ⟨_, rfl⟩
      obtain ⟨mn, hmn⟩ : ∃ y, Lib.minOf l = y := ⟨_, rfl⟩
      rw [hmx, hmn]
      by_cases hm : mn = mx
      · have K1 : (mn == mx) = true := by simp [hm]
        clear hm hmx hmn
        go_wp2_with fail
        refine zawake_any _ _ E2.out fun w9 hb => ?_
        have B9 := Lib.hid (bstep B2.out hb)
        clear hb
        go_wp2_with fail
        exact HR.out _ B9.out
      · have K1 : (mn == mx) = false := by simpa using hm
        have hv : varS l ≠ 0 := fun e => hm (by rw [← hmx, ← hmn]; exact ((varS_ends Hrg.out).1 e).symm)
        have HVN := Lib.hid hv
        have hvi : Hid (viS l lo hi = 0) := by unfold Hid viS; rw [if_pos HG.out, if_pos (rgS_ck Hrg.out).2, if_neg hv]
        have HS := Lib.hid (rgS_srs Hrg.out)
        have H8 : Hid (2 ≤ l.length) := (rgS_ok Hrg.out).1
        have sm : SmR 20 (meanS l) := meanS_small HS.out
        have HM : Hid (OkR (meanS l)) := (sm.mono (by decide)).ok
        have sl : SmR 20 (lo : Rat) := SmR.int (Nat.lt_of_le_of_lt (show lo.natAbs ≤ 4194304 by have := H4.out; omega) (by decide)) (by decide)
        have sh : SmR 20 (hi : Rat) := SmR.int (Nat.lt_of_le_of_lt (show hi.natAbs ≤ 4194304 by have := H5.out; omega) (by decide)) (by decide)
        have smid : SmR 20 (((lo + hi : Int) : Rat) / 2) := by
          rw [← rat_half]
          exact SmR.ofDiv (by decide) (Nat.lt_of_le_of_lt (show (lo + hi).natAbs ≤ 4194304 by have := H4.out; have := H5.out; omega) (by decide)) (by decide)
        have OL : Hid (OkR (lo : Rat)) := (sl.mono (by decide)).ok
        have OH : Hid (OkR (hi : Rat)) := (sh.mono (by decide)).ok
        have OM : Hid (OkR (((lo + hi : Int) : Rat) / 2)) := (smid.mono (by decide)).ok
        have hv30 : SmR 30 (varS l) := varS_small HS.out H8.out
        have L1 := Lib.hid (fit_nd sm sl)
        have L2 := Lib.hid (fit_nd sl sm)
        have L3 := Lib.hid (fit_nd sm sh)
        have L4 := Lib.hid (fit_nd sh sm)
        have L5 := Lib.hid (fit_nd sm smid)
        have L6 := Lib.hid (fit_nd smid sm)
        have scap : SmR 60 (capS l lo hi) := cap_small HS.out H8.out hv H4.out H5.out
        have scen : SmR 90 (cenS l lo hi) := cen_small HS.out H8.out hv H4.out H5.out
        have OC : Hid (OkR (capS l lo hi)) := (scap.mono (by decide)).ok
        have ON : Hid (OkR (cenS l lo hi)) := (scen.mono (by decide)).ok
        have L7 := Lib.hid (fit_nd scen scap)
        have L8 := Lib.hid (fit_nd scap scen)
        have KW : IntKind.i64.wrap (lo + hi) = lo + hi := by have := H4.out; have := H5.out; rw [IntKind.wrap_i64] <;> omega
        clear hm hmx hmn hv sm sl sh smid hv30 scap scen
        go_wp2_with fail
        refine zcap_any _ l c lo hi _ _ HL.out C2.out E2.out fun a w3 hb h1 h2 => ?_
        have B3 := Lib.hid (bstep B2.out hb)
        have C3 := Lib.hid (C2.out.below hb)
        have E3 := Lib.hid (E2.out.below hb)
        have d30 := cellB hb d20 (lt_of_cell' d20)
        have d31 := cellB hb d21 (lt_of_cell' d21)
        clear d20 d21 hb
        have TA := Lib.hid (h1 hvi.out)
        rw [hvi.out]
        clear h1 h2
        go_wp2_with fail
        refine zcentered_any _ l c lo hi _ _ HL.out C3.out E3.out fun b s w4 hb h1 h2 => ?_
        have B4 := Lib.hid (bstep B3.out hb)
        have C4 := Lib.hid (C3.out.below hb)
        have E4 := Lib.hid (E3.out.below hb)
        have d40 := cellB hb d30 (lt_of_cell' d30)
        have d41 := cellB hb d31 (lt_of_cell' d31)
        clear d30 d31 hb
        obtain ⟨TB0, hs⟩ := h1 hvi.out
        have TB := Lib.hid TB0
        have HSg := Lib.hid hs
        rw [hvi.out]
        clear h1 h2 TB0 hs
        go_wp2_with fail
        refine zmean_any _ l c _ _ HL.out C4.out E4.out fun m w5 hb h1 h2 => ?_
        have B5 := Lib.hid (bstep B4.out hb)
        have C5 := Lib.hid (C4.out.below hb)
        have E5 := Lib.hid (E4.out.below hb)
        have d50 := cellB hb d40 (lt_of_cell' d40)
        have d51 := cellB hb d41 (lt_of_cell' d41)
        clear d40 d41 hb
        have TM := Lib.hid (h1 (rgS_ck Hrg.out).1)
        rw [(rgS_ck Hrg.out).1]
        clear h1 h2
        go_wp2_with fail
        refine ywhole_any lo (by have := H4.out; omega) (by have := H4.out; omega) _ _ fun x1 w6 hb hr => ?_
        have B6 := Lib.hid (bstep B5.out hb)
        have C6 := Lib.hid (C5.out.below hb)
        have E6 := Lib.hid (E5.out.below hb)
        have d60 := cellB hb d50 (lt_of_cell' d50)
        have d61 := cellB hb d51 (lt_of_cell' d51)
        clear d50 d51 hb
        have T1 := Lib.hid hr
        clear hr
        go_wp2_with fail
        refine rcompare_any m x1 _ _ TM.out T1.out HM.out OL.out L1.out L2.out _ _ E6.out fun w7 hb => ?_
        have B7 := Lib.hid (bstep B6.out hb)
        have C7 := Lib.hid (C6.out.below hb)
        have E7 := Lib.hid (E6.out.below hb)
        have d70 := cellB hb d60 (lt_of_cell' d60)
        have d71 := cellB hb d61 (lt_of_cell' d61)
        clear d60 d61 hb
        obtain ⟨lw, hlw⟩ : ∃ z, cmpR (meanS l) (lo : Rat) = z := ⟨_, rfl⟩
        rw [hlw]
        have HLW := Lib.hid hlw
        clear hlw
        go_wp2_with fail
        refine ywhole_any hi (by have := H5.out; omega) (by have := H5.out; omega) _ _ fun x2 w8 hb hr => ?_
        have B8 := Lib.hid (bstep B7.out hb)
        have C8 := Lib.hid (C7.out.below hb)
        have E8 := Lib.hid (E7.out.below hb)
        have d80 := cellB hb d70 (lt_of_cell' d70)
        have d81 := cellB hb d71 (lt_of_cell' d71)
        clear d70 d71 hb
        have T2 := Lib.hid hr
        clear hr
        go_wp2_with fail
        refine rcompare_any m x2 _ _ TM.out T2.out HM.out OH.out L3.out L4.out _ _ E8.out fun w9 hb => ?_
        have B9 := Lib.hid (bstep B8.out hb)
        have C9 := Lib.hid (C8.out.below hb)
        have E9 := Lib.hid (E8.out.below hb)
        have d90 := cellB hb d80 (lt_of_cell' d80)
        have d91 := cellB hb d81 (lt_of_cell' d81)
        clear d80 d81 hb
        obtain ⟨hg, hhg⟩ : ∃ z, cmpR (meanS l) (hi : Rat) = z := ⟨_, rfl⟩
        rw [hhg]
        have HHG := Lib.hid hhg
        clear hhg
        go_wp2_with fail
        refine yover_any (lo + hi) 2 (by have := H4.out; have := H5.out; omega) (by have := H4.out; have := H5.out; omega) (by decide) (by decide) (by decide) _ _ fun x3 w10 hb hr => ?_
        have B10 := Lib.hid (bstep B9.out hb)
        have C10 := Lib.hid (C9.out.below hb)
        have E10 := Lib.hid (E9.out.below hb)
        have d100 := cellB hb d90 (lt_of_cell' d90)
        have d101 := cellB hb d91 (lt_of_cell' d91)
        clear d90 d91 hb
        rw [rat_half] at hr
        have T3 := Lib.hid hr
        clear hr
        go_wp2_with fail
        refine rcompare_any m x3 _ _ TM.out T3.out HM.out OM.out L5.out L6.out _ _ E10.out fun w11 hb => ?_
        have B11 := Lib.hid (bstep B10.out hb)
        have C11 := Lib.hid (C10.out.below hb)
        have E11 := Lib.hid (E10.out.below hb)
        have d110 := cellB hb d100 (lt_of_cell' d100)
        have d111 := cellB hb d101 (lt_of_cell' d101)
        clear d100 d101 hb
        obtain ⟨mid, hmid⟩ : ∃ z, cmpR (meanS l) (((lo + hi : Int) : Rat) / 2) = z := ⟨_, rfl⟩
        rw [hmid]
        have HMID := Lib.hid hmid
        clear hmid
        go_wp2_with fail
        refine rcompare_any b a _ _ TB.out TA.out ON.out OC.out L7.out L8.out _ _ E11.out fun w12 hb => ?_
        have B12 := Lib.hid (bstep B11.out hb)
        have C12 := Lib.hid (C11.out.below hb)
        have E12 := Lib.hid (E11.out.below hb)
        have d120 := cellB hb d110 (lt_of_cell' d110)
        have d121 := cellB hb d111 (lt_of_cell' d111)
        clear d110 d111 hb
        obtain ⟨n, hn⟩ : ∃ z, cmpR (cenS l lo hi) (capS l lo hi) = z := ⟨_, rfl⟩
        rw [hn]
        obtain ⟨f1, f2, f3, r1, r2, r3, r4, r5⟩ := centers Hrg.out HVN.out HSg.out HLW.out.symm HHG.out.symm HMID.out.symm hn.symm
        clear hn
        rcases r1 with rfl | rfl | rfl
        · -- the mean lies outside
          have hX : lw = -1 ∨ hg = 1 := f2.1 rfl
          rcases r2 with rfl | rfl | rfl <;> rcases r3 with rfl | rfl | rfl
          all_goals (first | (exfalso; omega) | skip)
          all_goals (clear hX f1 f2 f3 r4 r5; go_wp2_with fail)
          all_goals (refine zawake_any _ _ E12.out fun w99 hb => ?_; have B99 := Lib.hid (bstep B12.out hb); clear hb; go_wp2_with fail; exact HR.out _ B99.out)
        · have hq := f3 (by decide)
          obtain ⟨B, hB1, hB2⟩ : ∃ B : Bool, (n == 0) = B ∧ (mid == 0) = B := ⟨n == 0, rfl, by
            by_cases e : n = 0
            · rw [hq.2.1 e, e]
            · have h2 : mid ≠ 0 := fun e2 => e (hq.2.2 e2)
              rw [show (mid == 0) = false by simpa using h2, show (n == 0) = false by simpa using e]⟩
          have Kn : (n ≤ 0) = True := eq_true (by omega)
          rcases r2 with rfl | rfl | rfl <;> rcases r3 with rfl | rfl | rfl
          all_goals (first | (exfalso; omega) | skip)
          all_goals (clear f1 f2 f3 r4 r5 hq; go_wp2_with fail)
          all_goals (refine zawake_any _ _ E12.out fun w99 hb => ?_; have B99 := Lib.hid (bstep B12.out hb); clear hb; go_wp2_with fail; exact HR.out _ B99.out)
        · have hq := f3 (by decide)
          obtain ⟨B, hB1, hB2⟩ : ∃ B : Bool, (n == 0) = B ∧ (mid == 0) = B := ⟨n == 0, rfl, by
            by_cases e : n = 0
            · rw [hq.2.1 e, e]
            · have h2 : mid ≠ 0 := fun e2 => e (hq.2.2 e2)
              rw [show (mid == 0) = false by simpa using h2, show (n == 0) = false by simpa using e]⟩
          have Kn : (n ≤ 0) = True := eq_true (by omega)
          rcases r2 with rfl | rfl | rfl <;> rcases r3 with rfl | rfl | rfl
          all_goals (first | (exfalso; omega) | skip)
          all_goals (clear f1 f2 f3 r4 r5 hq; go_wp2_with fail)
          all_goals (refine zawake_any _ _ E12.out fun w99 hb => ?_; have B99 := Lib.hid (bstep B12.out hb); clear hb; go_wp2_with fail; exact HR.out _ B99.out)
    · have K : (e != 0) = true := by simpa using h0
      clear he h0
      go_wp2_with fail
      refine zawake_any _ _ E2.out fun w9 hb => ?_
      have B9 := Lib.hid (bstep B2.out hb)
      clear hb
      go_wp2_with fail
      exact HR.out _ B9.out
    end Go.Proofs.YtcoombhcdcniiaaGreatDoor
