/- The median of a series between two quantiles. No program in sight. within, sign, Check of dist; Check, Few, Same of reference 26. (Printed by gen_dcheck.py.) Add, Sub, Parts, Neg of package ratio. (Printed by gen_addsub.py.) weight, moment, sum, share, Total, Mean, Variance, Probability of dist at right distributions with short weights. (Printed by gen_dsum.py.) Quantile of dist at right distributions with short weights. -/
import Derived.Test.YtcmhompbdanpdaaGreatDoorMyq
import Derived.Test.YtcmhompbdanpdaaGreatDoorMzb
import Derived.Test.YtcmhompbdanpdaaGreatDoorMwa
import Derived.Test.YtcmhompbdanpdaaGreatDoorMyb
namespace Go.Proofs.YtcmhompbdanpdaaGreatDoor
open Go.RowKit

theorem half_share {l : List Int} {lo v : Int} (h : ∀ x ∈ l, lo ≤ x) (h0 : 0 < l.length) : (1 : Rat) / 2 ≤ probW (serW l) lo v ↔ at0 (sortL l) ((l.length - 1) / 2) ≤ v := by
  have hk : (l.length - 1) / 2 < l.length := by omega
  rw [ser_prob h, ← cnt_sorted hk v, Rat.divInt_eq_div]
  obtain ⟨c, hc⟩ : ∃ c, (l.countP fun x => decide (x ≤ v)) = c := ⟨_, rfl⟩
  obtain ⟨n, hn⟩ : ∃ n, l.length = n := ⟨_, rfl⟩
  rw [hc, hn]
  rw [hn] at h0
  have hN : (0 : Rat) < ((n : Int) : Rat) := Rat.intCast_pos.2 (by omega)
  have key : (1 : Rat) / 2 ≤ ((c : Int) : Rat) / ((n : Int) : Rat) ↔ ((n : Int) : Rat) ≤ 2 * ((c : Int) : Rat) := by
    obtain ⟨C, hC⟩ : ∃ C : Rat, ((c : Int) : Rat) = C := ⟨_, rfl⟩
    obtain ⟨N, hNN⟩ : ∃ N : Rat, ((n : Int) : Rat) = N := ⟨_, rfl⟩
    rw [hC, hNN]
    rw [hNN] at hN
    have e : C / N * N = C := Rat.div_mul_cancel (by grind)
    constructor
    · intro h1
      have h2 := Rat.mul_le_mul_of_nonneg_right h1 (Rat.le_of_lt hN)
      rw [e] at h2; grind
    · intro h1
      by_cases h2 : (1 : Rat) / 2 ≤ C / N
      · exact h2
      · have h3 := Rat.mul_lt_mul_of_pos_right (Rat.not_le.1 h2) hN
        rw [e] at h3; grind
  rw [key]
  have e2 : (2 : Rat) * ((c : Int) : Rat) = ((2 * c : Int) : Rat) := by rw [Rat.intCast_mul]; rfl
  rw [e2, Rat.intCast_le_intCast]
  omega
/-- The two middle values in order, and the median between them. -/
theorem med_between {l : List Int} (h0 : 0 < l.length) : at0 (sortL l) ((l.length - 1) / 2) ≤ at0 (sortL l) (l.length / 2) ∧ ((at0 (sortL l) ((l.length - 1) / 2) : Int) : Rat) ≤ medS l ∧ medS l ≤ ((at0 (sortL l) (l.length / 2) : Int) : Rat) := by
  have hl := sortL_length l
  have hk1 : (l.length - 1) / 2 < (sortL l).length := by omega
  have hk2 : l.length / 2 < (sortL l).length := by omega
  have hle : at0 (sortL l) ((l.length - 1) / 2) ≤ at0 (sortL l) (l.length / 2) := by
    rw [at0_get hk1, at0_get hk2]
    by_cases e : (l.length - 1) / 2 = l.length / 2
    · simp only [e]; exact Int.le_refl _
    · have := List.pairwise_iff_getElem.1 (sortL_up l)
      exact this _ _ hk1 hk2 (by omega)
  refine ⟨hle, ?_, ?_⟩
  · unfold medS
    obtain ⟨a, ha⟩ : ∃ a, at0 (sortL l) ((l.length - 1) / 2) = a := ⟨_, rfl⟩
    obtain ⟨b, hb⟩ : ∃ a, at0 (sortL l) (l.length / 2) = a := ⟨_, rfl⟩
    rw [ha, hb] at hle ⊢
    have hq : ((a : Int) : Rat) ≤ (b : Rat) := Rat.intCast_le_intCast.2 hle
    rw [Rat.divInt_eq_div, Rat.intCast_add]
    have e2 : ((2 : Int) : Rat) = 2 := rfl
    rw [e2]; grind
  · unfold medS
    obtain ⟨a, ha⟩ : ∃ a, at0 (sortL l) ((l.length - 1) / 2) = a := ⟨_, rfl⟩
    obtain ⟨b, hb⟩ : ∃ a, at0 (sortL l) (l.length / 2) = a := ⟨_, rfl⟩
    rw [ha, hb] at hle ⊢
    have hq : ((a : Int) : Rat) ≤ (b : Rat) := Rat.intCast_le_intCast.2 hle
    rw [Rat.divInt_eq_div, Rat.intCast_add]
    have e2 : ((2 : Int) : Rat) = 2 := rfl
    rw [e2]; grind
theorem sort_mem {l : List Int} {k : Nat} (hk : k < l.length) : at0 (sortL l) k ∈ l := by
  rw [at0_get (by rw [sortL_length]; exact hk)]
  exact (sortL_perm l).mem_iff.1 (List.getElem_mem _)
/-- The quantile of a share: the value in that place, in order. -/
theorem quant {l : List Int} {c : Int → Bool} {k : Nat} (hk : k < l.length) (hc : ∀ v, c v = true ↔ at0 (sortL l) k ≤ v) : ∃ y, (serW l).find? (fun x => c x.1) = some y ∧ y.1 = at0 (sortL l) k := by
  have e : (fun x : Wt => c x.1) = fun x => decide (at0 (sortL l) k ≤ x.1) := by
    funext x
    by_cases h : at0 (sortL l) k ≤ x.1
    · rw [decide_eq_true h]; exact (hc _).2 h
    · rw [decide_eq_false h]
      cases e : c x.1 with
      | false => rfl
      | true => exact absurd ((hc _).1 e) h
  rw [e]
  exact first_key (ser_up l) (ser_key.2 (sort_mem hk))
end Go.Proofs.YtcmhompbdanpdaaGreatDoor
namespace Go.Proofs.YtcmhompbdanpdaaGreatDoor
open Go.RowKit

set_option maxHeartbeats 1000000 in
theorem dwithin_any (n : Int) (w : World) (R : Ending → World → Prop) (hR : R (.returned (.bool (inT n))) w) :
    Calls Tryz.prog 156 #[.int .i64 n] w R := by
  go_enter Tryz.func156, Tryz.ntmps156
  go_wp2
  all_goals exact ret_eq hR (by simp [inT, *] <;> omega)
set_option maxHeartbeats 1000000 in
theorem wSign_any (a : ByteArray) (n : Int) (ha : Txt a n) (hl : lenI n ≤ 1024) (w : World) (R : Ending → World → Prop) (hR : ∀ w', Below w.heap.size w w' → R (.returned (.tuple #[.int .i64 n.sign, .int .i64 0])) w') :
    Calls Tryz.prog 210 #[.string a] w R := by
  have HR := Lib.hid hR
  have HA := Lib.hid ha
  have HL := Lib.hid hl
  clear hR ha hl
  go_enter Tryz.func210, Tryz.ntmps210
  go_wp2_with fail
  refine wcheckI_any a n HA.out HL.out _ _ fun w1 hb => ?_
  have B1 := Lib.hid hb
  clear hb
  go_wp2_with fail
  refine wsign_any a n HA.out _ _ ?_
  go_wp2_with fail
  exact HR.out _ B1.out
set_option maxHeartbeats 1000000 in
theorem dsign_any (a : ByteArray) (n : Int) (ha : Txt a n) (hl : lenI n ≤ 1024) (w : World) (R : Ending → World → Prop) (hR : ∀ w', Below w.heap.size w w' → R (.returned (.int .i64 n.sign)) w') :
    Calls Tryz.prog 155 #[.string a] w R := by
  have HR := Lib.hid hR
  have HA := Lib.hid ha
  have HL := Lib.hid hl
  clear hR ha hl
  go_enter Tryz.func155, Tryz.ntmps155
  go_wp2_with fail
  refine wSign_any a n HA.out HL.out _ _ fun w1 hb => ?_
  have B1 := Lib.hid hb
  clear hb
  go_wp2_with fail
  exact HR.out _ B1.out
theorem sign_le {n : Int} : n.sign ≤ 0 ↔ n ≤ 0 := by
  rcases Int.lt_trichotomy n 0 with h | h | h
  · rw [Int.sign_eq_neg_one_of_neg h]; omega
  · subst h; decide
  · rw [Int.sign_eq_one_of_pos h]; omega
theorem cmp_le {n : Int} : cmpI n 0 ≤ 0 ↔ n ≤ 0 := by
  unfold cmpI
  by_cases h : n < 0
  · rw [if_pos h]; omega
  · rw [if_neg h]
    by_cases h2 : 0 < n
    · rw [if_pos h2]; omega
    · rw [if_neg h2]; omega
theorem len_zero : lenI 0 ≤ 1 := (lenI_le (by decide)).2 (by decide)
theorem tx_0 : Txt ⟨#[48]⟩ 0 := Txt.zero
set_option maxRecDepth 100000 in
set_option maxHeartbeats 4000000 in
theorem dcheck_any (ao : Option Addr) (vs : List Wd) (c : Nat) (w : World) (R : Ending → World → Prop) (hl : vs.length ≤ 1000000000) (hc : CellsAt w ao (wdsC vs)) (hs : vs.length ≤ 4096 → ∀ i, i < vs.length → (wdAt vs i).t.size ≤ 1000000) (hR : ∀ w', Below w.heap.size w w' → R (.returned (.int .i64 (dcE vs))) w') :
    Calls Tryz.prog 91 #[.slice ao vs.length c] w R := by
  have HR := Lib.hid hR
  have HC := Lib.hid hc
  obtain ⟨n, hn⟩ : ∃ n, vs.length = n := ⟨_, rfl⟩
  have HN := Lib.hid hn
  have HS := Lib.hid hs
  have hE : Hid (dcE vs = if n = 0 then 13 else if 4096 < n then 5 else firE (dcX vs) n) := by unfold Hid dcE; rw [hn]
  rw [hn] at hl ⊢
  clear hR hc hs hn
  by_cases h0 : n = 0
  · have K0 : ((n : Int) == 0) = true := by simp [h0]
    have e : Hid (dcE vs = 13) := by unfold Hid; rw [hE.out, if_pos h0]
    rw [e.out] at HR
    clear h0 hE
    go_enter Tryz.func91, Tryz.ntmps91
    go_wp2_with fail
    exact HR.out _ (Below.refl _ _)
  · have K0 : ((n : Int) == 0) = false := by simpa using h0
    by_cases h1 : 4096 < n
    · have K1 : ((4096 : Int) < (n : Int)) = True := eq_true (by omega)
      have e : Hid (dcE vs = 5) := by unfold Hid; rw [hE.out, if_neg h0, if_pos h1]
      rw [e.out] at HR
      clear h0 h1 hE
      go_enter Tryz.func91, Tryz.ntmps91
      go_wp2_with fail
      exact HR.out _ (Below.refl _ _)
    · have K1 : ((4096 : Int) < (n : Int)) = False := eq_false (by omega)
      have e : Hid (dcE vs = firE (dcX vs) n) := by unfold Hid; rw [hE.out, if_neg h0, if_neg h1]
      rw [e.out] at HR
      have HP : Hid (0 < n) := by unfold Hid; omega
      have HF : Hid (n ≤ 4096) := by unfold Hid; omega
      have HS2 : Hid (∀ i, i < n → (wdAt vs i).t.size ≤ 1000000) := by have := HS.out; rw [HN.out] at this; exact this HF.out
      clear h0 h1 hE e
      go_enter Tryz.func91, Tryz.ntmps91
      go_wp2_with fail
      go_loopw [16] (fun i wr => ∃ k : Nat, i = .int .i64 k ∧ k ≤ n ∧ Hid (Below w.heap.size w wr) ∧ Hid (firE (dcX vs) k = 0)) (fun i _ => n - (intOf i).toNat)
      case atStart => exact ⟨0, rfl, Nat.zero_le _, Below.refl _ _, rfl⟩
      case round =>
        obtain ⟨k, rfl, hk, HBr, HF0⟩ := hrel
        by_cases hlt : k < n
        · have K2 : ((k : Int) < (n : Int)) = True := eq_true (by omega)
          obtain ⟨b, o, rfl, hbw, hcell⟩ := HC.out.wds (by rw [HN.out]; exact HP.out)
          have hcr : ∀ i, i < n → wr.cell? ⟨b, o + i * 2, none⟩ = some (.int .i64 (wdAt vs i).n) ∧ wr.cell? ⟨b, o + i * 2 + 1, none⟩ = some (.string (wdAt vs i).t) := fun i hi => by
            obtain ⟨h1, h2⟩ := hcell i (by rw [HN.out]; exact hi)
            exact ⟨cellB HBr.out h1 hbw, cellB HBr.out h2 hbw⟩
          obtain ⟨g0, g1⟩ := hcr k hlt
          obtain ⟨p0, _⟩ := hcr (k - 1) (by omega)
          have hsz := HS2.out k hlt
          have hX : Hid (dcX vs k = if ckB (wdAt vs k).t ≠ 0 then ckB (wdAt vs k).t else if tV (wdAt vs k).t ≤ 0 ∨ inT (wdAt vs k).n = false then 2 else if 0 < k ∧ (wdAt vs k).n ≤ (wdAt vs (k - 1)).n then 9 else 0) := rfl
          have hit : Hid (∀ e : Int, dcX vs k = e → e ≠ 0 → firE (dcX vs) n = e) := fun e h1 h2 => by rw [← h1]; exact firE_at HF0.out (by rw [h1]; exact h2) hlt
          have step : Hid (dcX vs k = 0 → firE (dcX vs) (k + 1) = 0) := fun h1 => firE_step HF0.out h1
          obtain ⟨x, hx⟩ : ∃ x, (wdAt vs k).n = x := ⟨_, rfl⟩
          obtain ⟨t, ht⟩ : ∃ t, (wdAt vs k).t = t := ⟨_, rfl⟩
          obtain ⟨y, hy⟩ : ∃ y, (wdAt vs (k - 1)).n = y := ⟨_, rfl⟩
          rw [hx] at g0 hX
          rw [ht] at g1 hsz hX
          rw [hy] at p0 hX
          obtain ⟨k1, hk1⟩ : ∃ k1, k - 1 = k1 := ⟨_, rfl⟩
          rw [hk1] at p0
          have HK1 := Lib.hid hk1
          clear hk1
          have HT : Hid (Tx t t.data.toList) := rfl
          have HSZ : Hid (t.size ≤ 1000000) := hsz
          have HBw := Lib.hid hbw
          have SZ : Hid (b < wr.heap.size) := by have := HBr.out.size; unfold Hid; omega
          obtain ⟨w2, E2, HB2, s2, b0, b1⟩ := box2 wr (.int .i64 x) (.string t) 67
          have p1 := cellB HB2.out p0 SZ.out
          have B2 := Lib.hid (HBr.out.trans (HB2.out.mono HBr.out.size))
          clear hcell hcr hbw hx ht hy hsz
          go_wp2_with (rw [E2.out])
          clear E2
          refine wcheck_any t _ HT.out (by have := HSZ.out; omega) _ _ fun w3 hb => ?_
          have B3 := Lib.hid (B2.out.trans (hb.mono B2.out.size))
          have c0 := cellB hb b0 (lt_of_cell' b0)
          have c1 := cellB hb b1 (lt_of_cell' b1)
          have p2 := cellB hb p1 (lt_of_cell' p1)
          clear hb b0 b1 p0 p1
          obtain ⟨e, he⟩ : ∃ e, ckT t.data.toList = e := ⟨_, rfl⟩
          rw [he]
          have hck : ckB t = e := he
          rw [hck] at hX
          by_cases e0 : e = 0
          · subst e0
            obtain ⟨m, hm1, hm2⟩ := ckT_zero he
            have TM : Hid (Txt t m) := hm1
            have LM : Hid (lenI m ≤ 1024) := hm2
            rw [TM.out.val] at hX
            clear he hm1 hm2 hck
            go_wp2_with fail
            refine dsign_any t m TM.out LM.out _ _ fun w4 hb => ?_
            have B4 := Lib.hid (B3.out.trans (hb.mono B3.out.size))
            have d0 := cellB hb c0 (lt_of_cell' c0)
            have q0 := cellB hb p2 (lt_of_cell' p2)
            clear hb c0 c1 p2
            by_cases m0 : m ≤ 0
            · have K3 : (m.sign ≤ 0) = True := eq_true (sign_le.2 m0)
              have e2 : Hid (firE (dcX vs) n = 2) := hit.out 2 (by rw [hX.out, if_neg (by simp), if_pos (.inl m0)]) (by decide)
              clear m0
              go_wp2_with fail
              exact ret_i (HR.out _ B4.out) rfl e2.out
            · have K3 : (m.sign ≤ 0) = False := eq_false (fun h => m0 (sign_le.1 h))
              have HM0 := Lib.hid m0
              clear m0
              go_wp2_with fail
              refine dwithin_any x _ _ ?_
              cases hin : inT x with
              | false =>
                have e2 : Hid (firE (dcX vs) n = 2) := hit.out 2 (by rw [hX.out, if_neg (by simp), if_pos (.inr hin)]) (by decide)
                clear hin
                go_wp2_with fail
                exact ret_i (HR.out _ B4.out) rfl e2.out
              | true =>
                have hX2 : Hid (dcX vs k = if 0 < k ∧ x ≤ y then 9 else 0) := by unfold Hid; rw [hX.out, if_neg (by simp), if_neg (by rintro (h | h); (have := HM0.out; omega); rw [hin] at h; cases h)]
                clear hin
                by_cases k0 : 0 < k
                · have K4 : ((0 : Int) < (k : Int)) = True := eq_true (by omega)
                  have hkb : k ≤ 4096 := by have := HF.out; omega
                  have K6 : IntKind.i64.wrap ((k : Int) - 1) = (k1 : Int) := by have := HK1.out; rw [IntKind.wrap_i64] <;> omega
                  have K7 : (k1 < n) = True := eq_true (by have := HK1.out; omega)
                  have K8 : ((k1 : Int) < (n : Int)) = True := eq_true (by have := HK1.out; omega)
                  by_cases hxy : x ≤ y
                  · have K5 : (x ≤ y) = True := eq_true hxy
                    have e2 : Hid (firE (dcX vs) n = 9) := hit.out 9 (by rw [hX2.out, if_pos ⟨k0, hxy⟩]) (by decide)
                    clear hxy
                    go_wp2_with fail
                    refine regionL [0, 1, 2, 3, 4, 5, 6, 7, 8, 9, 10, 11, 12, 13] (fun w' => w'.cell? ⟨wr.heap.size, 0, none⟩ = some (.int .i64 x) ∧ w'.cell? ⟨b, o + k1 * 2, none⟩ = some (.int .i64 y) ∧ True) (by kernel_rfl) (⟨d0, q0, trivial⟩) (fun Qn hPQ hQn hS0 => ?_)
                    iterate 14 (refine takeL (v := ?_) rfl rfl (by kernel_rfl) (by kernel_rfl) (by kernel_rfl) hPQ hS0 (by kernel_rfl) ?_ ?_; rotate_left; (focus (intro w hSw; (try dsimp only at hSw); obtain ⟨e0, e1, _⟩ := hSw; go_simp; (try with_reducible rfl))); (try simp only [Act.put, List.setIfInBounds_toArray, List.set_cons_zero, List.set_cons_succ]))
                    refine ofL (wpAnyH_done (by kernel_rfl) (hQn.out _ _ ?_) _)
                    clear hS0 hPQ hQn Qn
                    go_wp2_with fail
                    exact ret_i (HR.out _ B4.out.drew) rfl e2.out
                  · have K5 : (x ≤ y) = False := eq_false hxy
                    have e2 := Lib.hid (step.out (by rw [hX2.out, if_neg (fun h => hxy h.2)]))
                    have B5 : Hid (Below w.heap.size w w4.drew) := B4.out.drew
                    clear hxy
                    go_wp2_with fail
                    refine regionL [0, 1, 2, 3, 4, 5, 6, 7, 8, 9, 10, 11, 12, 13] (fun w' => w'.cell? ⟨wr.heap.size, 0, none⟩ = some (.int .i64 x) ∧ w'.cell? ⟨b, o + k1 * 2, none⟩ = some (.int .i64 y) ∧ True) (by kernel_rfl) (⟨d0, q0, trivial⟩) (fun Qn hPQ hQn hS0 => ?_)
                    iterate 14 (refine takeL (v := ?_) rfl rfl (by kernel_rfl) (by kernel_rfl) (by kernel_rfl) hPQ hS0 (by kernel_rfl) ?_ ?_; rotate_left; (focus (intro w hSw; (try dsimp only at hSw); obtain ⟨e0, e1, _⟩ := hSw; go_simp; (try with_reducible rfl))); (try simp only [Act.put, List.setIfInBounds_toArray, List.set_cons_zero, List.set_cons_succ]))
                    refine ofL (wpAnyH_done (by kernel_rfl) (hQn.out _ _ ?_) _)
                    clear hS0 hPQ hQn Qn
                    go_wp2_with fail
                    exact ⟨⟨k + 1, by go_num, by omega, B5, e2⟩, by simp [intOf]; omega⟩
                · have K4 : ((0 : Int) < (k : Int)) = False := eq_false (by omega)
                  have K4b : (0 < k) = False := eq_false k0
                  have hkb : k ≤ 4096 := by omega
                  have e2 := Lib.hid (step.out (by rw [hX2.out, if_neg (fun h => k0 h.1)]))
                  have B5 : Hid (Below w.heap.size w w4.drew) := B4.out.drew
                  clear k0
                  go_wp2_with fail
                  refine regionL [0, 1, 2, 3, 4, 5, 6, 7, 8, 9, 10, 11, 12, 13] (fun w' => w'.cell? ⟨wr.heap.size, 0, none⟩ = some (.int .i64 x) ∧ w'.cell? ⟨b, o + k1 * 2, none⟩ = some (.int .i64 y) ∧ True) (by kernel_rfl) (⟨d0, q0, trivial⟩) (fun Qn hPQ hQn hS0 => ?_)
                  iterate 3 (refine takeL (v := ?_) rfl rfl (by kernel_rfl) (by kernel_rfl) (by kernel_rfl) hPQ hS0 (by kernel_rfl) ?_ ?_; rotate_left; (focus (intro w hSw; (try dsimp only at hSw); obtain ⟨e0, e1, _⟩ := hSw; go_simp; (try with_reducible rfl))); (try simp only [Act.put, List.setIfInBounds_toArray, List.set_cons_zero, List.set_cons_succ]))
                  iterate 9 ((first | refine skipL rfl rfl (by kernel_rfl) (by kernel_rfl) (by kernel_rfl) hPQ hS0 (by kernel_rfl) ?_ | refine skipN rfl rfl (by kernel_rfl) (by kernel_rfl) (by kernel_rfl) hPQ hS0 (by kernel_rfl) ?_); (try simp only [Act.put, List.setIfInBounds_toArray, List.set_cons_zero, List.set_cons_succ]))
                  iterate 2 (refine takeL (v := ?_) rfl rfl (by kernel_rfl) (by kernel_rfl) (by kernel_rfl) hPQ hS0 (by kernel_rfl) ?_ ?_; rotate_left; (focus (intro w hSw; (try dsimp only at hSw); obtain ⟨e0, e1, _⟩ := hSw; go_simp; (try with_reducible rfl))); (try simp only [Act.put, List.setIfInBounds_toArray, List.set_cons_zero, List.set_cons_succ]))
                  refine ofL (wpAnyH_done (by kernel_rfl) (hQn.out _ _ ?_) _)
                  clear hS0 hPQ hQn Qn
                  go_wp2_with fail
                  exact ⟨⟨k + 1, by go_num, by omega, B5, e2⟩, by simp [intOf]; omega⟩
          · have K3 : (e != 0) = true := by simpa using e0
            have e2 : Hid (firE (dcX vs) n = e) := hit.out e (by rw [hX.out, if_pos e0]) e0
            clear he hck e0
            go_wp2_with fail
            exact ret_i (HR.out _ B3.out) rfl e2.out
        · have K2 : ((k : Int) < (n : Int)) = False := eq_false (by omega)
          obtain rfl : k = n := by omega
          have HF1 := HF0
          go_wp2_with fail
          exact ret_i (HR.out _ HBr.out) rfl HF1.out
set_option maxRecDepth 100000 in
set_option maxHeartbeats 4000000 in
theorem xdcheck_any (ao : Option Addr) (vs : List Wd) (c : Nat) (w : World) (R : Ending → World → Prop) (hl : vs.length ≤ 1000000000) (hc : CellsAt w ao (wdsC vs)) (hs : vs.length ≤ 4096 → ∀ i, i < vs.length → (wdAt vs i).t.size ≤ 1000000) (hR : ∀ w', Below w.heap.size w w' → R (.returned (.int .i64 (dcE vs))) w') :
    Calls Tryz.prog 97 #[.slice ao vs.length c] w R := by
  have HR := Lib.hid hR
  have HC := Lib.hid hc
  obtain ⟨n, hn⟩ : ∃ n, vs.length = n := ⟨_, rfl⟩
  have HN := Lib.hid hn
  have HS := Lib.hid hs
  have hE : Hid (dcE vs = if n = 0 then 13 else if 4096 < n then 5 else firE (dcX vs) n) := by unfold Hid dcE; rw [hn]
  rw [hn] at hl ⊢
  clear hR hc hs hn
  by_cases h0 : n = 0
  · have K0 : ((n : Int) == 0) = true := by simp [h0]
    have e : Hid (dcE vs = 13) := by unfold Hid; rw [hE.out, if_pos h0]
    rw [e.out] at HR
    clear h0 hE
    go_enter Tryz.func97, Tryz.ntmps97
    go_wp2_with fail
    exact HR.out _ (Below.refl _ _)
  · have K0 : ((n : Int) == 0) = false := by simpa using h0
    by_cases h1 : 4096 < n
    · have K1 : ((4096 : Int) < (n : Int)) = True := eq_true (by omega)
      have e : Hid (dcE vs = 5) := by unfold Hid; rw [hE.out, if_neg h0, if_pos h1]
      rw [e.out] at HR
      clear h0 h1 hE
      go_enter Tryz.func97, Tryz.ntmps97
      go_wp2_with fail
      exact HR.out _ (Below.refl _ _)
    · have K1 : ((4096 : Int) < (n : Int)) = False := eq_false (by omega)
      have e : Hid (dcE vs = firE (dcX vs) n) := by unfold Hid; rw [hE.out, if_neg h0, if_neg h1]
      rw [e.out] at HR
      have HP : Hid (0 < n) := by unfold Hid; omega
      have HF : Hid (n ≤ 4096) := by unfold Hid; omega
      have HS2 : Hid (∀ i, i < n → (wdAt vs i).t.size ≤ 1000000) := by have := HS.out; rw [HN.out] at this; exact this HF.out
      clear h0 h1 hE e
      go_enter Tryz.func97, Tryz.ntmps97
      go_wp2_with fail
      go_loopw [3] (fun i wr => ∃ k : Nat, i = .int .i64 k ∧ k ≤ n ∧ Hid (Below w.heap.size w wr) ∧ Hid (firE (dcX vs) k = 0)) (fun i _ => n - (intOf i).toNat)
      case atStart => exact ⟨0, rfl, Nat.zero_le _, Below.refl _ _, rfl⟩
      case round =>
        obtain ⟨k, rfl, hk, HBr, HF0⟩ := hrel
        by_cases hlt : k < n
        · have K2 : ((k : Int) < (n : Int)) = True := eq_true (by omega)
          obtain ⟨b, o, rfl, hbw, hcell⟩ := HC.out.wds (by rw [HN.out]; exact HP.out)
          have hcr : ∀ i, i < n → wr.cell? ⟨b, o + i * 2, none⟩ = some (.int .i64 (wdAt vs i).n) ∧ wr.cell? ⟨b, o + i * 2 + 1, none⟩ = some (.string (wdAt vs i).t) := fun i hi => by
            obtain ⟨h1, h2⟩ := hcell i (by rw [HN.out]; exact hi)
            exact ⟨cellB HBr.out h1 hbw, cellB HBr.out h2 hbw⟩
          obtain ⟨g0, g1⟩ := hcr k hlt
          obtain ⟨p0, _⟩ := hcr (k - 1) (by omega)
          have hsz := HS2.out k hlt
          have hX : Hid (dcX vs k = if ckB (wdAt vs k).t ≠ 0 then ckB (wdAt vs k).t else if tV (wdAt vs k).t ≤ 0 ∨ inT (wdAt vs k).n = false then 2 else if 0 < k ∧ (wdAt vs k).n ≤ (wdAt vs (k - 1)).n then 9 else 0) := rfl
          have hit : Hid (∀ e : Int, dcX vs k = e → e ≠ 0 → firE (dcX vs) n = e) := fun e h1 h2 => by rw [← h1]; exact firE_at HF0.out (by rw [h1]; exact h2) hlt
          have step : Hid (dcX vs k = 0 → firE (dcX vs) (k + 1) = 0) := fun h1 => firE_step HF0.out h1
          obtain ⟨x, hx⟩ : ∃ x, (wdAt vs k).n = x := ⟨_, rfl⟩
          obtain ⟨t, ht⟩ : ∃ t, (wdAt vs k).t = t := ⟨_, rfl⟩
          obtain ⟨y, hy⟩ : ∃ y, (wdAt vs (k - 1)).n = y := ⟨_, rfl⟩
          rw [hx] at g0 hX
          rw [ht] at g1 hsz hX
          rw [hy] at p0 hX
          obtain ⟨k1, hk1⟩ : ∃ k1, k - 1 = k1 := ⟨_, rfl⟩
          rw [hk1] at p0
          have HK1 := Lib.hid hk1
          clear hk1
          have HT : Hid (Tx t t.data.toList) := rfl
          have HSZ : Hid (t.size ≤ 1000000) := hsz
          have HBw := Lib.hid hbw
          have SZ : Hid (b < wr.heap.size) := by have := HBr.out.size; unfold Hid; omega
          have B3 := HBr
          clear hcell hcr hbw hx ht hy hsz
          have p2 := p0
          have c0 := g0
          clear p0
          go_wp2_with fail
          refine xcheckT_any t _ HT.out (by have := HSZ.out; omega) _ _ ?_
          obtain ⟨e, he⟩ : ∃ e, ckT t.data.toList = e := ⟨_, rfl⟩
          rw [he]
          have hck : ckB t = e := he
          rw [hck] at hX
          by_cases e0 : e = 0
          · subst e0
            obtain ⟨m, hm1, hm2⟩ := ckT_zero he
            have TM : Hid (Txt t m) := hm1
            have LM : Hid (lenI m ≤ 1024) := hm2
            rw [TM.out.val] at hX
            clear he hm1 hm2 hck
            go_wp2_with fail
            refine xorder_any t _ m 0 TM.out tx_0 (by have := LM.out; omega) (by have := len_zero; omega) _ _ fun w4 hb => ?_
            have B4 := Lib.hid (B3.out.trans (hb.mono B3.out.size))
            have d0 := cellB hb c0 SZ.out
            have q0 := cellB hb p2 SZ.out
            clear hb c0 p2
            by_cases m0 : m ≤ 0
            · have K3 : (cmpI m 0 ≤ 0) = True := eq_true (cmp_le.2 m0)
              have e2 : Hid (firE (dcX vs) n = 2) := hit.out 2 (by rw [hX.out, if_neg (by simp), if_pos (.inl m0)]) (by decide)
              clear m0
              go_wp2_with fail
              exact ret_i (HR.out _ B4.out) rfl e2.out
            · have K3 : (cmpI m 0 ≤ 0) = False := eq_false (fun h => m0 (cmp_le.1 h))
              have HM0 := Lib.hid m0
              clear m0
              go_wp2_with fail
              refine zvalue_any x _ _ ?_
              cases hin : inT x with
              | false =>
                have e2 : Hid (firE (dcX vs) n = 2) := hit.out 2 (by rw [hX.out, if_neg (by simp), if_pos (.inr hin)]) (by decide)
                clear hin
                go_wp2_with fail
                exact ret_i (HR.out _ B4.out) rfl e2.out
              | true =>
                have hX2 : Hid (dcX vs k = if 0 < k ∧ x ≤ y then 9 else 0) := by unfold Hid; rw [hX.out, if_neg (by simp), if_neg (by rintro (h | h); (have := HM0.out; omega); rw [hin] at h; cases h)]
                clear hin
                by_cases k0 : 0 < k
                · have K4 : ((0 : Int) < (k : Int)) = True := eq_true (by omega)
                  have hkb : k ≤ 4096 := by have := HF.out; omega
                  have K6 : IntKind.i64.wrap ((k : Int) - 1) = (k1 : Int) := by have := HK1.out; rw [IntKind.wrap_i64] <;> omega
                  have K7 : (k1 < n) = True := eq_true (by have := HK1.out; omega)
                  have K8 : ((k1 : Int) < (n : Int)) = True := eq_true (by have := HK1.out; omega)
                  by_cases hxy : x ≤ y
                  · have K5 : (x ≤ y) = True := eq_true hxy
                    have e2 : Hid (firE (dcX vs) n = 9) := hit.out 9 (by rw [hX2.out, if_pos ⟨k0, hxy⟩]) (by decide)
                    clear hxy
                    go_wp2_with fail
                    refine regionL [0, 1, 2, 3, 4, 5, 6, 7, 8, 9, 10, 11, 12, 13, 14, 15] (fun w' => w'.cell? ⟨b, o + k * 2, none⟩ = some (.int .i64 x) ∧ w'.cell? ⟨b, o + k1 * 2, none⟩ = some (.int .i64 y) ∧ True) (by kernel_rfl) (⟨d0, q0, trivial⟩) (fun Qn hPQ hQn hS0 => ?_)
                    iterate 16 (refine takeL (v := ?_) rfl rfl (by kernel_rfl) (by kernel_rfl) (by kernel_rfl) hPQ hS0 (by kernel_rfl) ?_ ?_; rotate_left; (focus (intro w hSw; (try dsimp only at hSw); obtain ⟨e0, e1, _⟩ := hSw; go_simp; (try with_reducible rfl))); (try simp only [Act.put, List.setIfInBounds_toArray, List.set_cons_zero, List.set_cons_succ]))
                    refine ofL (wpAnyH_done (by kernel_rfl) (hQn.out _ _ ?_) _)
                    clear hS0 hPQ hQn Qn
                    go_wp2_with fail
                    exact ret_i (HR.out _ B4.out.drew) rfl e2.out
                  · have K5 : (x ≤ y) = False := eq_false hxy
                    have e2 := Lib.hid (step.out (by rw [hX2.out, if_neg (fun h => hxy h.2)]))
                    have B5 : Hid (Below w.heap.size w w4.drew) := B4.out.drew
                    clear hxy
                    go_wp2_with fail
                    refine regionL [0, 1, 2, 3, 4, 5, 6, 7, 8, 9, 10, 11, 12, 13, 14, 15] (fun w' => w'.cell? ⟨b, o + k * 2, none⟩ = some (.int .i64 x) ∧ w'.cell? ⟨b, o + k1 * 2, none⟩ = some (.int .i64 y) ∧ True) (by kernel_rfl) (⟨d0, q0, trivial⟩) (fun Qn hPQ hQn hS0 => ?_)
                    iterate 16 (refine takeL (v := ?_) rfl rfl (by kernel_rfl) (by kernel_rfl) (by kernel_rfl) hPQ hS0 (by kernel_rfl) ?_ ?_; rotate_left; (focus (intro w hSw; (try dsimp only at hSw); obtain ⟨e0, e1, _⟩ := hSw; go_simp; (try with_reducible rfl))); (try simp only [Act.put, List.setIfInBounds_toArray, List.set_cons_zero, List.set_cons_succ]))
                    refine ofL (wpAnyH_done (by kernel_rfl) (hQn.out _ _ ?_) _)
                    clear hS0 hPQ hQn Qn
                    go_wp2_with fail
                    exact ⟨⟨k + 1, by go_num, by omega, B5, e2⟩, by simp [intOf]; omega⟩
                · have K4 : ((0 : Int) < (k : Int)) = False := eq_false (by omega)
                  have K4b : (0 < k) = False := eq_false k0
                  have hkb : k ≤ 4096 := by omega
                  have e2 := Lib.hid (step.out (by rw [hX2.out, if_neg (fun h => k0 h.1)]))
                  have B5 : Hid (Below w.heap.size w w4.drew) := B4.out.drew
                  clear k0
                  go_wp2_with fail
                  refine regionL [0, 1, 2, 3, 4, 5, 6, 7, 8, 9, 10, 11, 12, 13, 14, 15] (fun w' => w'.cell? ⟨b, o + k * 2, none⟩ = some (.int .i64 x) ∧ w'.cell? ⟨b, o + k1 * 2, none⟩ = some (.int .i64 y) ∧ True) (by kernel_rfl) (⟨d0, q0, trivial⟩) (fun Qn hPQ hQn hS0 => ?_)
                  iterate 3 (refine takeL (v := ?_) rfl rfl (by kernel_rfl) (by kernel_rfl) (by kernel_rfl) hPQ hS0 (by kernel_rfl) ?_ ?_; rotate_left; (focus (intro w hSw; (try dsimp only at hSw); obtain ⟨e0, e1, _⟩ := hSw; go_simp; (try with_reducible rfl))); (try simp only [Act.put, List.setIfInBounds_toArray, List.set_cons_zero, List.set_cons_succ]))
                  iterate 12 ((first | refine skipL rfl rfl (by kernel_rfl) (by kernel_rfl) (by kernel_rfl) hPQ hS0 (by kernel_rfl) ?_ | refine skipN rfl rfl (by kernel_rfl) (by kernel_rfl) (by kernel_rfl) hPQ hS0 (by kernel_rfl) ?_); (try simp only [Act.put, List.setIfInBounds_toArray, List.set_cons_zero, List.set_cons_succ]))
                  iterate 1 (refine takeL (v := ?_) rfl rfl (by kernel_rfl) (by kernel_rfl) (by kernel_rfl) hPQ hS0 (by kernel_rfl) ?_ ?_; rotate_left; (focus (intro w hSw; (try dsimp only at hSw); obtain ⟨e0, e1, _⟩ := hSw; go_simp; (try with_reducible rfl))); (try simp only [Act.put, List.setIfInBounds_toArray, List.set_cons_zero, List.set_cons_succ]))
                  refine ofL (wpAnyH_done (by kernel_rfl) (hQn.out _ _ ?_) _)
                  clear hS0 hPQ hQn Qn
                  go_wp2_with fail
                  exact ⟨⟨k + 1, by go_num, by omega, B5, e2⟩, by simp [intOf]; omega⟩
          · have K3 : (e != 0) = true := by simpa using e0
            have e2 : Hid (firE (dcX vs) n = e) := hit.out e (by rw [hX.out, if_pos e0]) e0
            clear he hck e0
            go_wp2_with fail
            exact ret_i (HR.out _ B3.out) rfl e2.out
        · have K2 : ((k : Int) < (n : Int)) = False := eq_false (by omega)
          obtain rfl : k = n := by omega
          have HF1 := HF0
          go_wp2_with fail
          exact ret_i (HR.out _ HBr.out) rfl HF1.out
end Go.Proofs.YtcmhompbdanpdaaGreatDoor
namespace Go.Proofs.YtcmhompbdanpdaaGreatDoor
open Go.RowKit

set_option maxHeartbeats 1000000 in
theorem do_add (bs : Nat) (a b : ByteArray) (z : Int) (w : World) (R : Ending → World → Prop) (hs : SumOk w bs)
   (hop : ∀ R1 : Ending → World → Prop, (∀ r w', Below w.heap.size w w' → Txt r z → R1 (.returned (.tuple #[.string r, .int .i64 0])) w') → Calls Tryz.prog 95 #[.string a, .string b] w R1)
   (hR : ∀ r w', Mut bs w w' → SumOk w' bs → Txt r z → R (.returned (.string r)) w') :
    Calls Tryz.prog 172 #[.pointer (some ⟨bs, 0, none⟩), .func (.func 95) #[] #[], .string a, .string b] w R := by
  have HR := Lib.hid hR
  have HS := Lib.hid hs
  have HOP := Lib.hid hop
  have c0 := cell_at hs (j := 0) (v := .int .i64 0) rfl
  have hlt := lt_of_block hs
  clear hR hs hop
  go_enter Tryz.func172, Tryz.ntmps172
  go_wp2_with fail
  refine HOP.out _ fun r w1 hb1 hr1 => ?_
  have T1 := Lib.hid hr1
  have S1 := Lib.hid (HS.out.below hb1)
  have M1 : Hid (Mut bs w w1) := Mut.of_below hb1 (Nat.le_of_lt hlt)
  have c1 := cell_at S1.out (j := 0) (v := .int .i64 0) rfl
  have fz := frozen_at S1.out 0
  obtain ⟨w2, E2⟩ : ∃ z, w1.setCell ⟨bs, 0, none⟩ (.int .i64 0) = z := ⟨_, rfl⟩
  have S2 : Hid (SumOk w2 bs) := by rw [← E2]; exact S1.out.store
  have M2 : Hid (Mut bs w w2) := by rw [← E2]; exact M1.out.trans ((Chg.refl bs w1).setCell _ _).mut
  clear hb1 hr1
  go_wp2_with (rw [E2])
  exact ret_str (HR.out r _ M2.out S2.out T1.out) rfl
theorem sadd_any (bs : Nat) (a b : ByteArray) (m n : Int) (ha : Txt a m) (hb : Txt b n) (hm : lenI m ≤ 1024) (hn : lenI n ≤ 1024) (hmn : lenI (m + n) ≤ 1024) (w : World) (R : Ending → World → Prop) (hE : Env w) (hs : SumOk w bs)
   (hR : ∀ r w', Mut bs w w' → SumOk w' bs → Txt r (m + n) → R (.returned (.string r)) w') :
    Calls Tryz.prog 206 #[.pointer (some ⟨bs, 0, none⟩), .string a, .string b] w R := by
  have HR := Lib.hid hR
  clear hR
  go_enter Tryz.func206, Tryz.ntmps206
  go_wp2_with fail
  with_reducible refine do_add bs a b (m + n) _ _ hs (fun R1 h1 => wadd_any a b m n ha hb hm hn hmn _ R1 hE h1) fun r w1 hm1 hs1 hr1 => ?_
  have M1 := Lib.hid hm1
  have S1 := Lib.hid hs1
  have T1 := Lib.hid hr1
  clear hm1 hs1 hr1
  go_wp2_with fail
  exact ret_str (HR.out r _ M1.out S1.out T1.out) rfl
set_option maxHeartbeats 2000000 in
theorem add1_any (bs : Nat) (a b c d : ByteArray) (n p m q : Int) (ha : Txt a n) (hb : Txt b p) (hc : Txt c m) (hd : Txt d q) (ln : lenI n ≤ 1024) (lp : lenI p ≤ 1024) (lm : lenI m ≤ 1024) (lq : lenI q ≤ 1024) (l1 : lenI (n * q) ≤ 1024) (l2 : lenI (m * p) ≤ 1024) (l3 : lenI (p * q) ≤ 1024) (l4 : lenI (n * q + m * p) ≤ 1024)
   (w : World) (R : Ending → World → Prop) (hs : SumOk w bs) (W : World) (hW : Env W) (hB : Below W.heap.size W w) (hb2 : W.heap.size ≤ bs)
   (hR : ∀ r1 r2 w', Mut bs w w' → SumOk w' bs → Txt r1 (n * q + m * p) → Txt r2 (p * q) → R (.returned (.tuple #[.string r1, .string r2])) w') :
    Calls Tryz.prog 205 #[.pointer (some ⟨bs, 0, none⟩), .string a, .string b, .string c, .string d] w R := by
  have HR := Lib.hid hR
  have HA := Lib.hid ha
  have HBt := Lib.hid hb
  have HC := Lib.hid hc
  have HD := Lib.hid hd
  have LN := Lib.hid ln
  have LP := Lib.hid lp
  have LM := Lib.hid lm
  have LQ := Lib.hid lq
  have L1 := Lib.hid l1
  have L2 := Lib.hid l2
  have L3 := Lib.hid l3
  have L4 := Lib.hid l4
  have HS := Lib.hid hs
  have HW := Lib.hid hW
  have HB := Lib.hid hB
  have HB2 := Lib.hid hb2
  have BS0 := Lib.hid (lt_of_block hs)
  have M0 : Hid (Mut bs w w) := Mut.of_below (Below.refl _ _) (Nat.le_of_lt BS0.out)
  have S0 := HS
  have B0 := HB
  clear hR ha hb hc hd ln lp lm lq l1 l2 l3 l4 hs hW hB hb2
  obtain ⟨w1, E1, HB1, s1, X1⟩ := box_ex w #[.string a, .string d] 61
  have M1 : Hid (Mut bs w w1) := M0.out.trans (Mut.of_below HB1.out (Nat.le_of_lt BS0.out))
  have S1 := Lib.hid (S0.out.below HB1.out)
  have B1 : Hid (Below W.heap.size W w1) := B0.out.trans (HB1.out.mono B0.out.size)
  have HE1 := Lib.hid (HW.out.below B1.out)
  clear s1
  go_enter Tryz.func205, Tryz.ntmps205
  go_wp2_with (rw [E1])
  with_reducible refine smul_any bs _ a d n q HA.out HD.out LN.out LQ.out L1.out _ _ HE1.out S1.out X1.out (Nat.ne_of_gt BS0.out) W HW.out B1.out HB2.out fun r1 w2 hm2 hs2 hr2 => ?_
  have M2 : Hid (Mut bs w w2) := M1.out.trans hm2
  have S2 := Lib.hid hs2
  have T2 := Lib.hid hr2
  have BS2 := Lib.hid (lt_of_block hs2)
  have B2 : Hid (Below W.heap.size W w2) := B1.out.trans (hm2.1.mono HB2.out)
  clear hm2 hs2 hr2
  obtain ⟨w3, E3, HB3, s3, X3⟩ := box_ex w2 #[.string c, .string b] 61
  have M3 : Hid (Mut bs w w3) := M2.out.trans (Mut.of_below HB3.out (Nat.le_of_lt BS2.out))
  have S3 := Lib.hid (S2.out.below HB3.out)
  have B3 : Hid (Below W.heap.size W w3) := B2.out.trans (HB3.out.mono B2.out.size)
  have HE3 := Lib.hid (HW.out.below B3.out)
  clear s3
  go_wp2_with (rw [E3])
  with_reducible refine smul_any bs _ c b m p HC.out HBt.out LM.out LP.out L2.out _ _ HE3.out S3.out X3.out (Nat.ne_of_gt BS2.out) W HW.out B3.out HB2.out fun r2 w4 hm4 hs4 hr4 => ?_
  have M4 : Hid (Mut bs w w4) := M3.out.trans hm4
  have S4 := Lib.hid hs4
  have T4 := Lib.hid hr4
  have BS4 := Lib.hid (lt_of_block hs4)
  have B4 : Hid (Below W.heap.size W w4) := B3.out.trans (hm4.1.mono HB2.out)
  clear hm4 hs4 hr4
  have HE4 := Lib.hid (HW.out.below B4.out)
  go_wp2_with fail
  with_reducible refine sadd_any bs r1 r2 (n * q) (m * p) T2.out T4.out L1.out L2.out L4.out _ _ HE4.out S4.out fun r3 w5 hm5 hs5 hr5 => ?_
  have M5 : Hid (Mut bs w w5) := M4.out.trans hm5
  have S5 := Lib.hid hs5
  have T5 := Lib.hid hr5
  have BS5 := Lib.hid (lt_of_block hs5)
  have B5 : Hid (Below W.heap.size W w5) := B4.out.trans (hm5.1.mono HB2.out)
  clear hm5 hs5 hr5
  obtain ⟨w6, E6, HB6, s6, X6⟩ := box_ex w5 #[.string b, .string d] 61
  have M6 : Hid (Mut bs w w6) := M5.out.trans (Mut.of_below HB6.out (Nat.le_of_lt BS5.out))
  have S6 := Lib.hid (S5.out.below HB6.out)
  have B6 : Hid (Below W.heap.size W w6) := B5.out.trans (HB6.out.mono B5.out.size)
  have HE6 := Lib.hid (HW.out.below B6.out)
  clear s6
  go_wp2_with (rw [E6])
  with_reducible refine smul_any bs _ b d p q HBt.out HD.out LP.out LQ.out L3.out _ _ HE6.out S6.out X6.out (Nat.ne_of_gt BS5.out) W HW.out B6.out HB2.out fun r4 w7 hm7 hs7 hr7 => ?_
  have M7 : Hid (Mut bs w w7) := M6.out.trans hm7
  have S7 := Lib.hid hs7
  have T7 := Lib.hid hr7
  have BS7 := Lib.hid (lt_of_block hs7)
  have B7 : Hid (Below W.heap.size W w7) := B6.out.trans (hm7.1.mono HB2.out)
  clear hm7 hs7 hr7
  go_wp2_with fail
  exact HR.out _ _ _ M7.out S7.out T5.out T7.out
set_option maxHeartbeats 2000000 in
theorem sub1_any (bs : Nat) (a b c d : ByteArray) (n p m q : Int) (ha : Txt a n) (hb : Txt b p) (hc : Txt c m) (hd : Txt d q) (ln : lenI n ≤ 1024) (lp : lenI p ≤ 1024) (lm : lenI m ≤ 1024) (lq : lenI q ≤ 1024) (l1 : lenI (n * q) ≤ 1024) (l2 : lenI (m * p) ≤ 1024) (l3 : lenI (p * q) ≤ 1024) (l4 : lenI (n * q - m * p) ≤ 1024)
   (w : World) (R : Ending → World → Prop) (hs : SumOk w bs) (W : World) (hW : Env W) (hB : Below W.heap.size W w) (hb2 : W.heap.size ≤ bs)
   (hR : ∀ r1 r2 w', Mut bs w w' → SumOk w' bs → Txt r1 (n * q - m * p) → Txt r2 (p * q) → R (.returned (.tuple #[.string r1, .string r2])) w') :
    Calls Tryz.prog 164 #[.pointer (some ⟨bs, 0, none⟩), .string a, .string b, .string c, .string d] w R := by
  have HR := Lib.hid hR
  have HA := Lib.hid ha
  have HBt := Lib.hid hb
  have HC := Lib.hid hc
  have HD := Lib.hid hd
  have LN := Lib.hid ln
  have LP := Lib.hid lp
  have LM := Lib.hid lm
  have LQ := Lib.hid lq
  have L1 := Lib.hid l1
  have L2 := Lib.hid l2
  have L3 := Lib.hid l3
  have L4 := Lib.hid l4
  have HS := Lib.hid hs
  have HW := Lib.hid hW
  have HB := Lib.hid hB
  have HB2 := Lib.hid hb2
  have BS0 := Lib.hid (lt_of_block hs)
  have M0 : Hid (Mut bs w w) := Mut.of_below (Below.refl _ _) (Nat.le_of_lt BS0.out)
  have S0 := HS
  have B0 := HB
  clear hR ha hb hc hd ln lp lm lq l1 l2 l3 l4 hs hW hB hb2
  obtain ⟨w1, E1, HB1, s1, X1⟩ := box_ex w #[.string a, .string d] 61
  have M1 : Hid (Mut bs w w1) := M0.out.trans (Mut.of_below HB1.out (Nat.le_of_lt BS0.out))
  have S1 := Lib.hid (S0.out.below HB1.out)
  have B1 : Hid (Below W.heap.size W w1) := B0.out.trans (HB1.out.mono B0.out.size)
  have HE1 := Lib.hid (HW.out.below B1.out)
  clear s1
  go_enter Tryz.func164, Tryz.ntmps164
  go_wp2_with (rw [E1])
  with_reducible refine smul_any bs _ a d n q HA.out HD.out LN.out LQ.out L1.out _ _ HE1.out S1.out X1.out (Nat.ne_of_gt BS0.out) W HW.out B1.out HB2.out fun r1 w2 hm2 hs2 hr2 => ?_
  have M2 : Hid (Mut bs w w2) := M1.out.trans hm2
  have S2 := Lib.hid hs2
  have T2 := Lib.hid hr2
  have BS2 := Lib.hid (lt_of_block hs2)
  have B2 : Hid (Below W.heap.size W w2) := B1.out.trans (hm2.1.mono HB2.out)
  clear hm2 hs2 hr2
  obtain ⟨w3, E3, HB3, s3, X3⟩ := box_ex w2 #[.string c, .string b] 61
  have M3 : Hid (Mut bs w w3) := M2.out.trans (Mut.of_below HB3.out (Nat.le_of_lt BS2.out))
  have S3 := Lib.hid (S2.out.below HB3.out)
  have B3 : Hid (Below W.heap.size W w3) := B2.out.trans (HB3.out.mono B2.out.size)
  have HE3 := Lib.hid (HW.out.below B3.out)
  clear s3
  go_wp2_with (rw [E3])
  with_reducible refine smul_any bs _ c b m p HC.out HBt.out LM.out LP.out L2.out _ _ HE3.out S3.out X3.out (Nat.ne_of_gt BS2.out) W HW.out B3.out HB2.out fun r2 w4 hm4 hs4 hr4 => ?_
  have M4 : Hid (Mut bs w w4) := M3.out.trans hm4
  have S4 := Lib.hid hs4
  have T4 := Lib.hid hr4
  have BS4 := Lib.hid (lt_of_block hs4)
  have B4 : Hid (Below W.heap.size W w4) := B3.out.trans (hm4.1.mono HB2.out)
  clear hm4 hs4 hr4
  have HE4 := Lib.hid (HW.out.below B4.out)
  go_wp2_with fail
  with_reducible refine ssub_any bs r1 r2 (n * q) (m * p) T2.out T4.out L1.out L2.out L4.out _ _ HE4.out S4.out fun r3 w5 hm5 hs5 hr5 => ?_
  have M5 : Hid (Mut bs w w5) := M4.out.trans hm5
  have S5 := Lib.hid hs5
  have T5 := Lib.hid hr5
  have BS5 := Lib.hid (lt_of_block hs5)
  have B5 : Hid (Below W.heap.size W w5) := B4.out.trans (hm5.1.mono HB2.out)
  clear hm5 hs5 hr5
  obtain ⟨w6, E6, HB6, s6, X6⟩ := box_ex w5 #[.string b, .string d] 61
  have M6 : Hid (Mut bs w w6) := M5.out.trans (Mut.of_below HB6.out (Nat.le_of_lt BS5.out))
  have S6 := Lib.hid (S5.out.below HB6.out)
  have B6 : Hid (Below W.heap.size W w6) := B5.out.trans (HB6.out.mono B5.out.size)
  have HE6 := Lib.hid (HW.out.below B6.out)
  clear s6
  go_wp2_with (rw [E6])
  with_reducible refine smul_any bs _ b d p q HBt.out HD.out LP.out LQ.out L3.out _ _ HE6.out S6.out X6.out (Nat.ne_of_gt BS5.out) W HW.out B6.out HB2.out fun r4 w7 hm7 hs7 hr7 => ?_
  have M7 : Hid (Mut bs w w7) := M6.out.trans hm7
  have S7 := Lib.hid hs7
  have T7 := Lib.hid hr7
  have BS7 := Lib.hid (lt_of_block hs7)
  have B7 : Hid (Below W.heap.size W w7) := B6.out.trans (hm7.1.mono HB2.out)
  clear hm7 hs7 hr7
  go_wp2_with fail
  exact HR.out _ _ _ M7.out S7.out T5.out T7.out
set_option maxRecDepth 100000 in
set_option maxHeartbeats 4000000 in
theorem made_add (a b : ByteArray) (p q : Rat) (ha : TxR a p) (hb : TxR b q) (hp : OkR p) (hq : OkR q) (l1 : lenI (p.num * (q.den : Int)) ≤ 1024) (l2 : lenI (q.num * (p.den : Int)) ≤ 1024) (l3 : lenI ((p.den : Int) * (q.den : Int)) ≤ 1024) (l4 : lenI (p.num * (q.den : Int) + q.num * (p.den : Int)) ≤ 1024) (w : World) (R : Ending → World → Prop) (hE : Env w)
   (hR : ∀ r w', Below w.heap.size w w' → TxR r (p + q) → R (.returned (.tuple #[.string r, .int .i64 0])) w') :
    Calls Tryz.prog 139 #[.string a, .string b, .func (.func 205) #[] #[]] w R := by
  have HR := Lib.hid hR
  have HA := Lib.hid ha
  have HBt := Lib.hid hb
  have HP := Lib.hid hp
  have HQ := Lib.hid hq
  have L1 := Lib.hid l1
  have L2 := Lib.hid l2
  have L3 := Lib.hid l3
  have L4 := Lib.hid l4
  have HE := Lib.hid hE
  obtain ⟨w1, E1, HB1, s1, X1⟩ := box_ex w #[.string a, .string b] 34
  have HE1 := Lib.hid (HE.out.below HB1.out)
  have hdn : Hid ((p.den : Int) * (q.den : Int) ≠ 0) := by
    unfold Hid
    have h1 := p.den_pos
    have h2 := q.den_pos
    exact Int.mul_ne_zero (by omega) (by omega)
  have hval : Hid (Rat.divInt (p.num * (q.den : Int) + q.num * (p.den : Int)) ((p.den : Int) * (q.den : Int)) = p + q) := rat_add p q
  clear hR ha hb hp hq l1 l2 l3 l4 hE s1
  go_enter Tryz.func139, Tryz.ntmps139
  go_wp2_with (rw [E1])
  with_reducible refine checks_any _ a b p q HA.out HBt.out HP.out HQ.out _ _ HE1.out X1.out fun w2 hb2 => ?_
  have B2 : Hid (Below w.heap.size w w2) := HB1.out.trans (hb2.mono HB1.out.size)
  have HE2 := Lib.hid (HE.out.below B2.out)
  clear hb2
  go_wp2_with fail
  with_reducible refine rcut_any a p HA.out HP.out _ _ HE2.out fun n d f w3 hb3 hn hd hf => ?_
  have B3 : Hid (Below w.heap.size w w3) := B2.out.trans (hb3.mono B2.out.size)
  have TN := Lib.hid hn
  have TD := Lib.hid hd
  have HE3 := Lib.hid (HE.out.below B3.out)
  clear hb3 hn hd hf
  go_wp2_with fail
  with_reducible refine rcut_any b q HBt.out HQ.out _ _ HE3.out fun n2 d2 f2 w4 hb4 hn hd hf => ?_
  have B4 : Hid (Below w.heap.size w w4) := B3.out.trans (hb4.mono B3.out.size)
  have TN2 := Lib.hid hn
  have TD2 := Lib.hid hd
  clear hb4 hn hd hf
  obtain ⟨w5, E5, HB5, s5, X5⟩ := box_ex w4 #[.int .i64 0] 143
  have B5 : Hid (Below w.heap.size w w5) := B4.out.trans (HB5.out.mono B4.out.size)
  have S5 : Hid (SumOk w5 w4.heap.size) := X5
  have L5 : Hid (w.heap.size ≤ w4.heap.size) := B4.out.size
  clear s5
  go_wp2_with (rw [E5])
  with_reducible refine add1_any _ n d n2 d2 p.num (p.den : Int) q.num (q.den : Int) TN.out TD.out TN2.out TD2.out HP.out.num HP.out.lden HQ.out.num HQ.out.lden L1.out L2.out L3.out L4.out _ _ S5.out w HE.out B5.out L5.out fun r1 r2 w6 hm6 hs6 h61 h62 => ?_
  have B6 : Hid (Below w.heap.size w w6) := B5.out.trans (hm6.1.mono L5.out)
  have S6 := Lib.hid hs6
  have c6 := cell_at hs6 (j := 0) (v := .int .i64 0) rfl
  have T1 := Lib.hid h61
  have T2 := Lib.hid h62
  have KZ := h62.beqL 0 itoa_0
  rw [decide_eq_false hdn.out] at KZ
  clear hm6 hs6 h61 h62
  go_wp2_with fail
  with_reducible refine slowest_any _ r1 r2 _ _ T1.out T2.out L4.out L3.out hdn.out _ _ S6.out w HE.out B6.out L5.out fun r w7 hm7 hs7 hr7 => ?_
  rw [hval.out] at hr7
  have B7 : Hid (Below w.heap.size w w7) := B6.out.trans (hm7.1.mono L5.out)
  have T7 := Lib.hid hr7
  have c7 : w7.drew.cell? ⟨w4.heap.size, 0, none⟩ = some (.int .i64 0) := cell_at hs7 (j := 0) (v := .int .i64 0) rfl
  have Bd : Hid (Below w.heap.size w w7.drew) := B7.out.drew
  clear hm7 hs7 hr7
  go_wp2_with fail
  refine regionL [0, 1, 2, 3, 4, 5, 6] (fun w' => w'.cell? ⟨w4.heap.size, 0, none⟩ = some (.int .i64 0) ∧ True) (by kernel_rfl) (⟨c7, trivial⟩) (fun Qn hPQ hQn hS0 => ?_)
  iterate 7 (refine takeL (v := ?_) rfl rfl (by kernel_rfl) (by kernel_rfl) (by kernel_rfl) hPQ hS0 (by kernel_rfl) ?_ ?_; rotate_left; (focus (intro w hSw; (try dsimp only at hSw); obtain ⟨k0, _⟩ := hSw; go_simp; (try with_reducible rfl))); (try simp only [Act.put, List.setIfInBounds_toArray, List.set_cons_zero, List.set_cons_succ]))
  refine ofL (wpAnyH_done (by kernel_rfl) (hQn.out _ _ ?_) _)
  clear hS0 hPQ hQn Qn
  go_wp2_with fail
  exact HR.out _ _ Bd.out T7.out
set_option maxHeartbeats 1000000 in
theorem radd_any (a b : ByteArray) (p q : Rat) (ha : TxR a p) (hb : TxR b q) (hp : OkR p) (hq : OkR q) (l1 : lenI (p.num * (q.den : Int)) ≤ 1024) (l2 : lenI (q.num * (p.den : Int)) ≤ 1024) (l3 : lenI ((p.den : Int) * (q.den : Int)) ≤ 1024) (l4 : lenI (p.num * (q.den : Int) + q.num * (p.den : Int)) ≤ 1024) (w : World) (R : Ending → World → Prop) (hE : Env w)
   (hR : ∀ r w', Below w.heap.size w w' → TxR r (p + q) → R (.returned (.tuple #[.string r, .int .i64 0])) w') :
    Calls Tryz.prog 152 #[.string a, .string b] w R := by
  have HR := Lib.hid hR
  clear hR
  go_enter Tryz.func152, Tryz.ntmps152
  go_wp2_with fail
  with_reducible refine made_add a b p q ha hb hp hq l1 l2 l3 l4 _ _ hE fun r w1 hb1 hr1 => ?_
  have B1 := Lib.hid hb1
  have T1 := Lib.hid hr1
  clear hb1 hr1
  go_wp2_with fail
  exact HR.out _ _ B1.out T1.out
set_option maxRecDepth 100000 in
set_option maxHeartbeats 4000000 in
theorem made_sub (a b : ByteArray) (p q : Rat) (ha : TxR a p) (hb : TxR b q) (hp : OkR p) (hq : OkR q) (l1 : lenI (p.num * (q.den : Int)) ≤ 1024) (l2 : lenI (q.num * (p.den : Int)) ≤ 1024) (l3 : lenI ((p.den : Int) * (q.den : Int)) ≤ 1024) (l4 : lenI (p.num * (q.den : Int) - q.num * (p.den : Int)) ≤ 1024) (w : World) (R : Ending → World → Prop) (hE : Env w)
   (hR : ∀ r w', Below w.heap.size w w' → TxR r (p - q) → R (.returned (.tuple #[.string r, .int .i64 0])) w') :
    Calls Tryz.prog 139 #[.string a, .string b, .func (.func 164) #[] #[]] w R := by
  have HR := Lib.hid hR
  have HA := Lib.hid ha
  have HBt := Lib.hid hb
  have HP := Lib.hid hp
  have HQ := Lib.hid hq
  have L1 := Lib.hid l1
  have L2 := Lib.hid l2
  have L3 := Lib.hid l3
  have L4 := Lib.hid l4
  have HE := Lib.hid hE
  obtain ⟨w1, E1, HB1, s1, X1⟩ := box_ex w #[.string a, .string b] 34
  have HE1 := Lib.hid (HE.out.below HB1.out)
  have hdn : Hid ((p.den : Int) * (q.den : Int) ≠ 0) := by
    unfold Hid
    have h1 := p.den_pos
    have h2 := q.den_pos
    exact Int.mul_ne_zero (by omega) (by omega)
  have hval : Hid (Rat.divInt (p.num * (q.den : Int) - q.num * (p.den : Int)) ((p.den : Int) * (q.den : Int)) = p - q) := rat_sub p q
  clear hR ha hb hp hq l1 l2 l3 l4 hE s1
  go_enter Tryz.func139, Tryz.ntmps139
  go_wp2_with (rw [E1])
  with_reducible refine checks_any _ a b p q HA.out HBt.out HP.out HQ.out _ _ HE1.out X1.out fun w2 hb2 => ?_
  have B2 : Hid (Below w.heap.size w w2) := HB1.out.trans (hb2.mono HB1.out.size)
  have HE2 := Lib.hid (HE.out.below B2.out)
  clear hb2
  go_wp2_with fail
  with_reducible refine rcut_any a p HA.out HP.out _ _ HE2.out fun n d f w3 hb3 hn hd hf => ?_
  have B3 : Hid (Below w.heap.size w w3) := B2.out.trans (hb3.mono B2.out.size)
  have TN := Lib.hid hn
  have TD := Lib.hid hd
  have HE3 := Lib.hid (HE.out.below B3.out)
  clear hb3 hn hd hf
  go_wp2_with fail
  with_reducible refine rcut_any b q HBt.out HQ.out _ _ HE3.out fun n2 d2 f2 w4 hb4 hn hd hf => ?_
  have B4 : Hid (Below w.heap.size w w4) := B3.out.trans (hb4.mono B3.out.size)
  have TN2 := Lib.hid hn
  have TD2 := Lib.hid hd
  clear hb4 hn hd hf
  obtain ⟨w5, E5, HB5, s5, X5⟩ := box_ex w4 #[.int .i64 0] 143
  have B5 : Hid (Below w.heap.size w w5) := B4.out.trans (HB5.out.mono B4.out.size)
  have S5 : Hid (SumOk w5 w4.heap.size) := X5
  have L5 : Hid (w.heap.size ≤ w4.heap.size) := B4.out.size
  clear s5
  go_wp2_with (rw [E5])
  with_reducible refine sub1_any _ n d n2 d2 p.num (p.den : Int) q.num (q.den : Int) TN.out TD.out TN2.out TD2.out HP.out.num HP.out.lden HQ.out.num HQ.out.lden L1.out L2.out L3.out L4.out _ _ S5.out w HE.out B5.out L5.out fun r1 r2 w6 hm6 hs6 h61 h62 => ?_
  have B6 : Hid (Below w.heap.size w w6) := B5.out.trans (hm6.1.mono L5.out)
  have S6 := Lib.hid hs6
  have c6 := cell_at hs6 (j := 0) (v := .int .i64 0) rfl
  have T1 := Lib.hid h61
  have T2 := Lib.hid h62
  have KZ := h62.beqL 0 itoa_0
  rw [decide_eq_false hdn.out] at KZ
  clear hm6 hs6 h61 h62
  go_wp2_with fail
  with_reducible refine slowest_any _ r1 r2 _ _ T1.out T2.out L4.out L3.out hdn.out _ _ S6.out w HE.out B6.out L5.out fun r w7 hm7 hs7 hr7 => ?_
  rw [hval.out] at hr7
  have B7 : Hid (Below w.heap.size w w7) := B6.out.trans (hm7.1.mono L5.out)
  have T7 := Lib.hid hr7
  have c7 : w7.drew.cell? ⟨w4.heap.size, 0, none⟩ = some (.int .i64 0) := cell_at hs7 (j := 0) (v := .int .i64 0) rfl
  have Bd : Hid (Below w.heap.size w w7.drew) := B7.out.drew
  clear hm7 hs7 hr7
  go_wp2_with fail
  refine regionL [0, 1, 2, 3, 4, 5, 6] (fun w' => w'.cell? ⟨w4.heap.size, 0, none⟩ = some (.int .i64 0) ∧ True) (by kernel_rfl) (⟨c7, trivial⟩) (fun Qn hPQ hQn hS0 => ?_)
  iterate 7 (refine takeL (v := ?_) rfl rfl (by kernel_rfl) (by kernel_rfl) (by kernel_rfl) hPQ hS0 (by kernel_rfl) ?_ ?_; rotate_left; (focus (intro w hSw; (try dsimp only at hSw); obtain ⟨k0, _⟩ := hSw; go_simp; (try with_reducible rfl))); (try simp only [Act.put, List.setIfInBounds_toArray, List.set_cons_zero, List.set_cons_succ]))
  refine ofL (wpAnyH_done (by kernel_rfl) (hQn.out _ _ ?_) _)
  clear hS0 hPQ hQn Qn
  go_wp2_with fail
  exact HR.out _ _ Bd.out T7.out
set_option maxHeartbeats 1000000 in
theorem rsub_any (a b : ByteArray) (p q : Rat) (ha : TxR a p) (hb : TxR b q) (hp : OkR p) (hq : OkR q) (l1 : lenI (p.num * (q.den : Int)) ≤ 1024) (l2 : lenI (q.num * (p.den : Int)) ≤ 1024) (l3 : lenI ((p.den : Int) * (q.den : Int)) ≤ 1024) (l4 : lenI (p.num * (q.den : Int) - q.num * (p.den : Int)) ≤ 1024) (w : World) (R : Ending → World → Prop) (hE : Env w)
   (hR : ∀ r w', Below w.heap.size w w' → TxR r (p - q) → R (.returned (.tuple #[.string r, .int .i64 0])) w') :
    Calls Tryz.prog 104 #[.string a, .string b] w R := by
  have HR := Lib.hid hR
  clear hR
  go_enter Tryz.func104, Tryz.ntmps104
  go_wp2_with fail
  with_reducible refine made_sub a b p q ha hb hp hq l1 l2 l3 l4 _ _ hE fun r w1 hb1 hr1 => ?_
  have B1 := Lib.hid hb1
  have T1 := Lib.hid hr1
  clear hb1 hr1
  go_wp2_with fail
  exact HR.out _ _ B1.out T1.out
end Go.Proofs.YtcmhompbdanpdaaGreatDoor
namespace Go.Proofs.YtcmhompbdanpdaaGreatDoor
open Go.RowKit

theorem two_abs {a b : Int} {k : Nat} (ha : a.natAbs < 10 ^ k) (hb : b.natAbs < 10 ^ k) : (a + b).natAbs < 10 ^ (k + 1) ∧ (a - b).natAbs < 10 ^ (k + 1) := by
  rw [Nat.pow_succ]; omega
theorem cross_abs {j k : Nat} {p q : Rat} (hp : SmR j p) (hq : SmR k q) : (p.num * (q.den : Int)).natAbs < 10 ^ (j + k) ∧ (q.num * (p.den : Int)).natAbs < 10 ^ (j + k) := by
  constructor
  · rw [Int.natAbs_mul, Nat.pow_add, Int.natAbs_natCast]; exact Nat.mul_lt_mul'' hp.1 hq.2
  · rw [Int.natAbs_mul, Nat.add_comm, Nat.pow_add, Int.natAbs_natCast]; exact Nat.mul_lt_mul'' hq.1 hp.2
theorem fit_sub {j k : Nat} {p q : Rat} (hp : SmR j p) (hq : SmR k q) (h : j + k + 1 ≤ 1000 := by decide) : lenI (p.num * (q.den : Int) - q.num * (p.den : Int)) ≤ 1024 :=
  Nat.le_trans ((lenI_le (Nat.succ_pos _)).2 (two_abs (cross_abs hp hq).1 (cross_abs hp hq).2).2) (Nat.le_trans h (by decide))
theorem fit_add {j k : Nat} {p q : Rat} (hp : SmR j p) (hq : SmR k q) (h : j + k + 1 ≤ 1000 := by decide) : lenI (p.num * (q.den : Int) + q.num * (p.den : Int)) ≤ 1024 :=
  Nat.le_trans ((lenI_le (Nat.succ_pos _)).2 (two_abs (cross_abs hp hq).1 (cross_abs hp hq).2).1) (Nat.le_trans h (by decide))
/-! ### sums over the rows -/
def wtAt (l : List Wt) (i : Nat) : Wt := l.getD i (0, 0)
theorem wtAt_lt {l : List Wt} {i : Nat} (h : i < l.length) : wtAt l i = l[i] := by unfold wtAt; rw [List.getD_eq_getElem?_getD, List.getElem?_eq_getElem h]; rfl
def pS (f : Nat → Int) : Nat → Int
  | 0 => 0
  | n + 1 => pS f n + f n
theorem pS_mom (g : Int → Int) (l : List Wt) : ∀ k, k ≤ l.length → pS (fun i => (wtAt l i).2 * g (wtAt l i).1) k = momW g (l.take k)
  | 0, _ => rfl
  | k + 1, h => by
    rw [pS, pS_mom g l k (by omega), List.take_succ_eq_append_getElem h, momW_append, wtAt_lt h]
    show _ = _ + (l[k].2 * g l[k].1 + 0)
    omega
theorem pS_all (g : Int → Int) (l : List Wt) : pS (fun i => (wtAt l i).2 * g (wtAt l i).1) l.length = momW g l := by rw [pS_mom g l _ (Nat.le_refl _), List.take_length]
theorem pS_abs {f : Nat → Int} {B : Nat} : ∀ {n : Nat}, (∀ i, i < n → (f i).natAbs ≤ B) → (pS f n).natAbs ≤ n * B
  | 0, _ => by simp [pS]
  | n + 1, h => by
    have h1 := pS_abs (n := n) fun i hi => h i (by omega)
    have h2 := h n (by omega)
    rw [pS, Nat.add_mul, Nat.one_mul]
    omega
/-- A right distribution whose weights have at most 200 digits. -/
structure Dk (l : List Wt) : Prop where
  ds : Ds l
  lt : ∀ x ∈ l, x.2.natAbs < 10 ^ 200
theorem Dk.at {l : List Wt} (h : Dk l) {i : Nat} (hi : i < l.length) : 0 < (wtAt l i).2 ∧ (-1048576 ≤ (wtAt l i).1 ∧ (wtAt l i).1 ≤ 1048576) ∧ (wtAt l i).2.natAbs < 10 ^ 200 := by
  rw [wtAt_lt hi]
  exact ⟨(h.ds.at hi).1, (h.ds.at hi).2.1, h.lt _ (List.getElem_mem hi)⟩
theorem v_abs {v : Int} (h : -1048576 ≤ v ∧ v ≤ 1048576) : v.natAbs < 10 ^ 7 := by omega
theorem pow_abs {v : Int} (h : -1048576 ≤ v ∧ v ≤ 1048576) : ∀ k : Nat, (v ^ k).natAbs ≤ 10 ^ (7 * k)
  | 0 => by simp
  | k + 1 => by
    rw [Int.pow_succ, Int.natAbs_mul, Nat.mul_succ, Nat.pow_add]
    exact Nat.mul_le_mul (pow_abs h k) (Nat.le_of_lt (v_abs h))
theorem mul_abs {n m : Int} {j k : Nat} (h1 : n.natAbs < 10 ^ j) (h2 : m.natAbs ≤ 10 ^ k) : (n * m).natAbs < 10 ^ (j + k) := by
  rw [Int.natAbs_mul, Nat.pow_add]
  exact Nat.lt_of_le_of_lt (Nat.mul_le_mul_left _ h2) (Nat.mul_lt_mul_of_pos_right h1 (Nat.pow_pos (by decide)))
theorem abs_len {n : Int} {k : Nat} (h : n.natAbs < 10 ^ k) (h0 : 0 < k := by decide) (hk : k ≤ 1024 := by decide) : lenI n ≤ 1024 := Nat.le_trans ((lenI_le h0).2 h) hk
theorem abs_mono {n : Int} {j k : Nat} (h : n.natAbs < 10 ^ j) (hk : j ≤ k := by decide) : n.natAbs < 10 ^ k := Nat.lt_of_lt_of_le h (Nat.pow_le_pow_right (by decide) hk)
/-- A sum of up to 4096 terms. -/
theorem pS_fit {f : Nat → Int} {n k : Nat} (h : ∀ i, i < n → (f i).natAbs < 10 ^ k) (hn : n ≤ 4096) {j : Nat} (hj : j ≤ n) : (pS f j).natAbs < 10 ^ (k + 4) := by
  have h1 := pS_abs (n := j) (B := 10 ^ k - 1) (f := f) fun i hi => by have := h i (by omega); omega
  have h2 : j * (10 ^ k - 1) ≤ 4096 * (10 ^ k - 1) := Nat.mul_le_mul_right _ (by omega)
  have h3 : 0 < 10 ^ k := Nat.pow_pos (by decide)
  rw [Nat.pow_add]
  omega
theorem Dk.cells {l : List Wt} {w : World} {ao : Option Addr} (hc : CellsAt w ao (wdsC (wts l))) (h0 : 0 < l.length) :
    ∃ b o, ao = some ⟨b, o, none⟩ ∧ b < w.heap.size ∧ ∀ i, i < l.length → w.cell? ⟨b, o + i * 2, none⟩ = some (.int .i64 (wtAt l i).1) ∧ w.cell? ⟨b, o + i * 2 + 1, none⟩ = some (.string (tB (Lib.itoa (wtAt l i).2))) := by
  obtain ⟨b, o, e, hb, hcell⟩ := CellsAt.wds hc (by rw [wts_length]; exact h0)
  refine ⟨b, o, e, hb, fun i hi => ?_⟩
  have := hcell i (by rw [wts_length]; exact hi)
  rw [wts_at hi] at this
  rw [wtAt_lt hi]; exact this
/-! ### what is added -/
set_option maxHeartbeats 1000000 in
theorem dweight_any (v : Int) (t : ByteArray) (w : World) (R : Ending → World → Prop) (hR : ∀ w', Below w.heap.size w w' → R (.returned (.tuple #[.string t, .int .i64 0])) w') :
    Calls Tryz.prog 101 #[.agg #[.int .i64 v, .string t]] w R := by
  have HR := Lib.hid hR
  obtain ⟨w1, E1, HB1, s1, b0, b1⟩ := box2 w (.int .i64 v) (.string t) 67
  clear hR
  go_enter Tryz.func101, Tryz.ntmps101
  go_wp2_with (rw [E1.out])
  exact HR.out _ HB1.out
set_option maxHeartbeats 1000000 in
theorem dmoment_any (k : Int) (w : World) (R : Ending → World → Prop) (hR : ∀ B w', Below w.heap.size w w' → w'.cell? ⟨B, 0, none⟩ = some (.int .i64 k) → R (.returned (.func (.func 162) #[] #[.pointer (some ⟨B, 0, none⟩)])) w') :
    Calls Tryz.prog 103 #[.int .i64 k] w R := by
  have HR := Lib.hid hR
  obtain ⟨w1, E1, HB1, s1, X1⟩ := box_ex w #[.int .i64 k] 3
  have b0 := cell_at X1.out (j := 0) (v := .int .i64 k) rfl
  clear hR
  go_enter Tryz.func103, Tryz.ntmps103
  go_wp2_with (rw [E1])
  exact HR.out _ _ HB1.out b0
set_option maxHeartbeats 2000000 in
theorem dmom1_any (v n : Int) (t : ByteArray) (k Bp : Nat) (ht : Txt t n) (hk : k ≤ 2) (hv : -1048576 ≤ v ∧ v ≤ 1048576) (hn : n.natAbs < 10 ^ 200) (w : World) (R : Ending → World → Prop) (hE : Env w) (hp : w.cell? ⟨Bp, 0, none⟩ = some (.int .i64 k))
   (hR : ∀ r w', Below w.heap.size w w' → Txt r (n * v ^ k) → R (.returned (.tuple #[.string r, .int .i64 0])) w') :
    Calls Tryz.prog 162 #[.agg #[.int .i64 v, .string t], .pointer (some ⟨Bp, 0, none⟩)] w R := by
  have HR := Lib.hid hR
  have HE := Lib.hid hE
  have hfit : Hid (∀ j, j ≤ 2 → lenI (n * v ^ j) ≤ 1024) := fun j hj => abs_len (abs_mono (mul_abs hn (pow_abs hv j)) (k := 250) (by omega))
  have hpw : Hid (∀ j : Nat, n * v ^ j * v = n * v ^ (j + 1)) := fun j => by rw [Int.pow_succ, Int.mul_assoc]
  have HV := Lib.hid hv
  have LV : Hid (lenI v ≤ 1024) := abs_len (v_abs hv)
  have T0 : Hid (Txt t (n * v ^ 0)) := by unfold Hid; rw [Int.pow_zero, Int.mul_one]; exact ht
  obtain ⟨w1, E1, HB1, s1, b0, b1⟩ := box2 w (.int .i64 v) (.string t) 67
  have p0 := cellB HB1.out hp (lt_of_cell' hp)
  clear hR hE hp hn hv ht
  go_enter Tryz.func162, Tryz.ntmps162
  go_wp2_with (rw [E1.out])
  clear E1
  have HV0 := Lib.hid b0
  have LB := Lib.hid (lt_of_cell' b0)
  clear b1 p0
  go_loopw [10, 5] (fun i s wr => ∃ (j : Nat) (r : ByteArray), i = .int .i64 j ∧ s = .string r ∧ j ≤ k ∧ Hid (Txt r (n * v ^ j)) ∧ Hid (Below w1.heap.size w1 wr)) (fun i _ _ => k - (intOf i).toNat)
  case atStart => exact ⟨0, t, rfl, rfl, Nat.zero_le _, T0, Below.refl _ _⟩
  case round =>
    obtain ⟨j, r, rfl, rfl, hj, HT, HBr⟩ := hrel
    have c0 := cellB HBr.out HV0.out LB.out
    have B1 := Lib.hid (HB1.out.trans (HBr.out.mono HB1.out.size))
    by_cases hlt : j < k
    · have K1 : ((j : Int) < (k : Int)) = True := eq_true (by omega)
      have HEr := Lib.hid (HE.out.below B1.out)
      go_wp2_with fail
      refine wof_any v _ _ (by have := HV.out; omega) (by have := HV.out; omega) HEr.out fun r1 w2 hb hr => ?_
      have B2 := Lib.hid (HBr.out.trans (hb.mono HBr.out.size))
      have T1 := Lib.hid hr
      have HE2 := Lib.hid (HE.out.below (HB1.out.trans (B2.out.mono HB1.out.size)))
      clear hb hr
      go_wp2_with fail
      refine wmul_any r r1 _ _ HT.out T1.out (hfit.out j (by omega)) LV.out (by rw [hpw.out]; exact hfit.out _ (by omega)) _ _ HE2.out fun r2 w3 hb hr => ?_
      have B3 := Lib.hid (B2.out.trans (hb.mono B2.out.size))
      rw [hpw.out] at hr
      have T2 := Lib.hid hr
      clear hb hr
      go_wp2_with fail
      exact ⟨⟨j + 1, r2, by go_num, rfl, by omega, T2, B3⟩, by simp [intOf]; omega⟩
    · have K1 : ((j : Int) < (k : Int)) = False := eq_false (by omega)
      obtain rfl : j = k := by omega
      go_wp2_with fail
      exact HR.out _ _ B1.out HT.out
set_option maxHeartbeats 1000000 in
theorem dprob1_any (v n lo hi : Int) (t : ByteArray) (Bp : Nat) (ht : Txt t n) (w : World) (R : Ending → World → Prop) (hp : w.cell? ⟨Bp, 0, none⟩ = some (.int .i64 lo)) (hq : w.cell? ⟨Bp, 1, none⟩ = some (.int .i64 hi))
   (hR : ∀ r w', Below w.heap.size w w' → Txt r (n * (if lo ≤ v ∧ v ≤ hi then 1 else 0)) → R (.returned (.tuple #[.string r, .int .i64 0])) w') :
    Calls Tryz.prog 117 #[.agg #[.int .i64 v, .string t], .pointer (some ⟨Bp, 0, none⟩)] w R := by
  have HR := Lib.hid hR
  have T0 := Lib.hid ht
  obtain ⟨w1, E1, HB1, s1, b0, b1⟩ := box2 w (.int .i64 v) (.string t) 67
  have p0 := cellB HB1.out hp (lt_of_cell' hp)
  have p1 := cellB HB1.out hq (lt_of_cell' hq)
  clear hR hp hq ht
  by_cases h1 : v < lo
  · have K1 : (v < lo) = True := eq_true h1
    have e : Hid (n * (if lo ≤ v ∧ v ≤ hi then 1 else 0) = 0) := by unfold Hid; rw [if_neg (by omega), Int.mul_zero]
    rw [e.out] at HR
    clear h1 e
    go_enter Tryz.func117, Tryz.ntmps117
    go_wp2_with (rw [E1.out])
    exact HR.out _ _ HB1.out tx_0
  · have K1 : (v < lo) = False := eq_false h1
    by_cases h2 : hi < v
    · have K2 : (hi < v) = True := eq_true h2
      have e : Hid (n * (if lo ≤ v ∧ v ≤ hi then 1 else 0) = 0) := by unfold Hid; rw [if_neg (by omega), Int.mul_zero]
      rw [e.out] at HR
      clear h1 h2 e
      go_enter Tryz.func117, Tryz.ntmps117
      go_wp2_with (rw [E1.out])
      exact HR.out _ _ HB1.out tx_0
    · have K2 : (hi < v) = False := eq_false h2
      have e : Hid (n * (if lo ≤ v ∧ v ≤ hi then 1 else 0) = n) := by unfold Hid; rw [if_pos (by omega), Int.mul_one]
      rw [e.out] at HR
      clear h1 h2 e
      go_enter Tryz.func117, Tryz.ntmps117
      go_wp2_with (rw [E1.out])
      exact HR.out _ _ HB1.out T0.out
set_option maxRecDepth 100000 in
set_option maxHeartbeats 4000000 in
theorem dsum_w (ao : Option Addr) (l : List Wt) (c : Nat) (h : Dk l) (w : World) (R : Ending → World → Prop) (hE : Env w) (hc : CellsAt w ao (wdsC (wts l))) 
   (hR : ∀ r w', Below w.heap.size w w' → Txt r (pS (fun i => (wtAt l i).2) l.length) → R (.returned (.tuple #[.string r, .int .i64 0])) w') :
    Calls Tryz.prog 100 #[.slice ao l.length c, .func (.func 101) #[] #[]] w R := by
  have HR := Lib.hid hR
  have HC := Lib.hid hc
  have HE := Lib.hid hE
  obtain ⟨f, hf⟩ : ∃ f : Nat → Int, (fun i => (wtAt l i).2) = f := ⟨_, rfl⟩
  have hfb : ∀ i, i < l.length → (f i).natAbs < 10 ^ 214 := fun i hi2 => by
    rw [← hf]
    exact abs_mono (h.at hi2).2.2 (by decide)
  have HF1 : Hid (∀ i, i < l.length → lenI (f i) ≤ 1024) := fun i hi2 => abs_len (hfb i hi2)
  have HF2 : Hid (∀ j, j ≤ l.length → lenI (pS f j) ≤ 1024) := fun j hj => abs_len (pS_fit hfb h.ds.few hj)
  have hn : l.length ≤ 4096 := h.ds.few
  have hpos : 0 < l.length := h.ds.pos
  rw [hf] at HR
  clear hR hc hE hfb
  go_enter Tryz.func100, Tryz.ntmps100
  go_wp2_with fail
  go_loopw [13, 6] (fun i s wr => ∃ (j : Nat) (r : ByteArray), i = .int .i64 j ∧ s = .string r ∧ j ≤ l.length ∧ Hid (Txt r (pS f j)) ∧ Hid (Below w.heap.size w wr)) (fun i _ _ => l.length - (intOf i).toNat)
  case atStart => exact ⟨0, _, rfl, rfl, Nat.zero_le _, tx_0, Below.refl _ _⟩
  case round =>
    obtain ⟨j, r, rfl, rfl, hj, HT, HBr⟩ := hrel
    by_cases hlt : j < l.length
    · have K1 : ((j : Int) < (l.length : Int)) = True := eq_true (by omega)
      obtain ⟨b, o, rfl, hbw, hcell⟩ := Dk.cells HC.out hpos
      obtain ⟨h0, h1⟩ := hcell j hlt
      have g0 := cellB HBr.out h0 hbw
      have g1 := cellB HBr.out h1 hbw
      obtain ⟨w2, E2, HB2, s2, b0, b1⟩ := box2 wr (.int .i64 (wtAt l j).1) (.string (tB (Lib.itoa (wtAt l j).2))) 67
      have B2 := Lib.hid (HBr.out.trans (HB2.out.mono HBr.out.size))
      have HE2 := Lib.hid (HE.out.below B2.out)
      clear hcell h0 h1
      go_wp2_with (rw [E2.out])
      clear E2
      refine dweight_any _ _ _ _ fun w4 hb => ?_
      have HF : Hid (Txt (tB (Lib.itoa (wtAt l j).2)) (f j)) := by unfold Hid; rw [← hf]; exact Txt.of _
      obtain ⟨r1, hr1⟩ : ∃ z, tB (Lib.itoa (wtAt l j).2) = z := ⟨_, rfl⟩
      rw [hr1] at HF ⊢
      clear hr1
      have B4 := Lib.hid (B2.out.trans (hb.mono B2.out.size))
      have HE4 := Lib.hid (HE.out.below B4.out)
      clear hb g0 g1 b0 b1
      go_wp2_with fail
      refine wadd_any r r1 _ _ HT.out HF.out (HF2.out _ hj) (HF1.out _ hlt) (HF2.out (j + 1) hlt) _ _ HE4.out fun r2 w5 hb hr => ?_
      have B5 := Lib.hid (B4.out.trans (hb.mono B4.out.size))
      have T5 : Hid (Txt r2 (pS f (j + 1))) := hr
      clear hb hr
      go_wp2_with fail
      exact ⟨⟨j + 1, r2, by go_num, rfl, by omega, T5, B5⟩, by simp [intOf]; omega⟩
    · have K1 : ((j : Int) < (l.length : Int)) = False := eq_false (by omega)
      obtain rfl : j = l.length := by omega
      go_wp2_with fail
      exact HR.out _ _ HBr.out HT.out
set_option maxRecDepth 100000 in
set_option maxHeartbeats 4000000 in
theorem dsum_m (ao : Option Addr) (l : List Wt) (c : Nat) (k Bp : Nat) (hk : k ≤ 2) (h : Dk l) (w : World) (R : Ending → World → Prop) (hE : Env w) (hc : CellsAt w ao (wdsC (wts l))) (hp : w.cell? ⟨Bp, 0, none⟩ = some (.int .i64 k)) 
   (hR : ∀ r w', Below w.heap.size w w' → Txt r (pS (fun i => (wtAt l i).2 * (wtAt l i).1 ^ k) l.length) → R (.returned (.tuple #[.string r, .int .i64 0])) w') :
    Calls Tryz.prog 100 #[.slice ao l.length c, .func (.func 162) #[] #[.pointer (some ⟨Bp, 0, none⟩)]] w R := by
  have HR := Lib.hid hR
  have HC := Lib.hid hc
  have HE := Lib.hid hE
  have HP := Lib.hid hp
  obtain ⟨f, hf⟩ : ∃ f : Nat → Int, (fun i => (wtAt l i).2 * (wtAt l i).1 ^ k) = f := ⟨_, rfl⟩
  have hfb : ∀ i, i < l.length → (f i).natAbs < 10 ^ 214 := fun i hi2 => by
    rw [← hf]
    exact abs_mono (mul_abs (h.at hi2).2.2 (pow_abs (h.at hi2).2.1 k)) (by omega)
  have HF1 : Hid (∀ i, i < l.length → lenI (f i) ≤ 1024) := fun i hi2 => abs_len (hfb i hi2)
  have HF2 : Hid (∀ j, j ≤ l.length → lenI (pS f j) ≤ 1024) := fun j hj => abs_len (pS_fit hfb h.ds.few hj)
  have hn : l.length ≤ 4096 := h.ds.few
  have hpos : 0 < l.length := h.ds.pos
  rw [hf] at HR
  clear hR hc hE hp hfb
  go_enter Tryz.func100, Tryz.ntmps100
  go_wp2_with fail
  go_loopw [13, 6] (fun i s wr => ∃ (j : Nat) (r : ByteArray), i = .int .i64 j ∧ s = .string r ∧ j ≤ l.length ∧ Hid (Txt r (pS f j)) ∧ Hid (Below w.heap.size w wr)) (fun i _ _ => l.length - (intOf i).toNat)
  case atStart => exact ⟨0, _, rfl, rfl, Nat.zero_le _, tx_0, Below.refl _ _⟩
  case round =>
    obtain ⟨j, r, rfl, rfl, hj, HT, HBr⟩ := hrel
    by_cases hlt : j < l.length
    · have K1 : ((j : Int) < (l.length : Int)) = True := eq_true (by omega)
      obtain ⟨b, o, rfl, hbw, hcell⟩ := Dk.cells HC.out hpos
      obtain ⟨h0, h1⟩ := hcell j hlt
      have g0 := cellB HBr.out h0 hbw
      have g1 := cellB HBr.out h1 hbw
      obtain ⟨w2, E2, HB2, s2, b0, b1⟩ := box2 wr (.int .i64 (wtAt l j).1) (.string (tB (Lib.itoa (wtAt l j).2))) 67
      have B2 := Lib.hid (HBr.out.trans (HB2.out.mono HBr.out.size))
      have HE2 := Lib.hid (HE.out.below B2.out)
      have q0 := cellB B2.out HP.out (lt_of_cell' HP.out)
      clear hcell h0 h1
      go_wp2_with (rw [E2.out])
      clear E2
      refine dmom1_any _ _ _ k Bp (Txt.of _) hk (h.at hlt).2.1 (h.at hlt).2.2 _ _ HE2.out q0 fun r1 w4 hb hr => ?_
      have HF : Hid (Txt r1 (f j)) := by unfold Hid; rw [← hf]; exact hr
      clear hr
      have B4 := Lib.hid (B2.out.trans (hb.mono B2.out.size))
      have HE4 := Lib.hid (HE.out.below B4.out)
      clear hb g0 g1 b0 b1 q0
      go_wp2_with fail
      refine wadd_any r r1 _ _ HT.out HF.out (HF2.out _ hj) (HF1.out _ hlt) (HF2.out (j + 1) hlt) _ _ HE4.out fun r2 w5 hb hr => ?_
      have B5 := Lib.hid (B4.out.trans (hb.mono B4.out.size))
      have T5 : Hid (Txt r2 (pS f (j + 1))) := hr
      clear hb hr
      go_wp2_with fail
      exact ⟨⟨j + 1, r2, by go_num, rfl, by omega, T5, B5⟩, by simp [intOf]; omega⟩
    · have K1 : ((j : Int) < (l.length : Int)) = False := eq_false (by omega)
      obtain rfl : j = l.length := by omega
      go_wp2_with fail
      exact HR.out _ _ HBr.out HT.out
set_option maxRecDepth 100000 in
set_option maxHeartbeats 4000000 in
theorem dsum_p (ao : Option Addr) (l : List Wt) (c : Nat) (lo hi : Int) (Bp : Nat) (h : Dk l) (w : World) (R : Ending → World → Prop) (hE : Env w) (hc : CellsAt w ao (wdsC (wts l))) (hp : w.cell? ⟨Bp, 0, none⟩ = some (.int .i64 lo)) (hq : w.cell? ⟨Bp, 1, none⟩ = some (.int .i64 hi)) 
   (hR : ∀ r w', Below w.heap.size w w' → Txt r (pS (fun i => (wtAt l i).2 * (if lo ≤ (wtAt l i).1 ∧ (wtAt l i).1 ≤ hi then 1 else 0)) l.length) → R (.returned (.tuple #[.string r, .int .i64 0])) w') :
    Calls Tryz.prog 100 #[.slice ao l.length c, .func (.func 117) #[] #[.pointer (some ⟨Bp, 0, none⟩)]] w R := by
  have HR := Lib.hid hR
  have HC := Lib.hid hc
  have HE := Lib.hid hE
  have HP := Lib.hid hp
  have HQ := Lib.hid hq
  obtain ⟨f, hf⟩ : ∃ f : Nat → Int, (fun i => (wtAt l i).2 * (if lo ≤ (wtAt l i).1 ∧ (wtAt l i).1 ≤ hi then 1 else 0)) = f := ⟨_, rfl⟩
  have hfb : ∀ i, i < l.length → (f i).natAbs < 10 ^ 214 := fun i hi2 => by
    rw [← hf]
    exact by
      refine abs_mono (j := 200) ?_ (by decide)
      have h3 := (h.at hi2).2.2
      dsimp only
      split
      · rwa [Int.mul_one]
      · rw [Int.mul_zero]; exact Nat.pow_pos (by decide)
  have HF1 : Hid (∀ i, i < l.length → lenI (f i) ≤ 1024) := fun i hi2 => abs_len (hfb i hi2)
  have HF2 : Hid (∀ j, j ≤ l.length → lenI (pS f j) ≤ 1024) := fun j hj => abs_len (pS_fit hfb h.ds.few hj)
  have hn : l.length ≤ 4096 := h.ds.few
  have hpos : 0 < l.length := h.ds.pos
  rw [hf] at HR
  clear hR hc hE hp hq hfb
  go_enter Tryz.func100, Tryz.ntmps100
  go_wp2_with fail
  go_loopw [13, 6] (fun i s wr => ∃ (j : Nat) (r : ByteArray), i = .int .i64 j ∧ s = .string r ∧ j ≤ l.length ∧ Hid (Txt r (pS f j)) ∧ Hid (Below w.heap.size w wr)) (fun i _ _ => l.length - (intOf i).toNat)
  case atStart => exact ⟨0, _, rfl, rfl, Nat.zero_le _, tx_0, Below.refl _ _⟩
  case round =>
    obtain ⟨j, r, rfl, rfl, hj, HT, HBr⟩ := hrel
    by_cases hlt : j < l.length
    · have K1 : ((j : Int) < (l.length : Int)) = True := eq_true (by omega)
      obtain ⟨b, o, rfl, hbw, hcell⟩ := Dk.cells HC.out hpos
      obtain ⟨h0, h1⟩ := hcell j hlt
      have g0 := cellB HBr.out h0 hbw
      have g1 := cellB HBr.out h1 hbw
      obtain ⟨w2, E2, HB2, s2, b0, b1⟩ := box2 wr (.int .i64 (wtAt l j).1) (.string (tB (Lib.itoa (wtAt l j).2))) 67
      have B2 := Lib.hid (HBr.out.trans (HB2.out.mono HBr.out.size))
      have HE2 := Lib.hid (HE.out.below B2.out)
      have q0 := cellB B2.out HP.out (lt_of_cell' HP.out)
      have q1 := cellB B2.out HQ.out (lt_of_cell' HQ.out)
      clear hcell h0 h1
      go_wp2_with (rw [E2.out])
      clear E2
      refine dprob1_any _ _ lo hi _ Bp (Txt.of _) _ _ q0 q1 fun r1 w4 hb hr => ?_
      have HF : Hid (Txt r1 (f j)) := by unfold Hid; rw [← hf]; exact hr
      clear hr
      have B4 := Lib.hid (B2.out.trans (hb.mono B2.out.size))
      have HE4 := Lib.hid (HE.out.below B4.out)
      clear hb g0 g1 b0 b1 q0 q1
      go_wp2_with fail
      refine wadd_any r r1 _ _ HT.out HF.out (HF2.out _ hj) (HF1.out _ hlt) (HF2.out (j + 1) hlt) _ _ HE4.out fun r2 w5 hb hr => ?_
      have B5 := Lib.hid (B4.out.trans (hb.mono B4.out.size))
      have T5 : Hid (Txt r2 (pS f (j + 1))) := hr
      clear hb hr
      go_wp2_with fail
      exact ⟨⟨j + 1, r2, by go_num, rfl, by omega, T5, B5⟩, by simp [intOf]; omega⟩
    · have K1 : ((j : Int) < (l.length : Int)) = False := eq_false (by omega)
      obtain rfl : j = l.length := by omega
      go_wp2_with fail
      exact HR.out _ _ HBr.out HT.out
/-! ### sizes -/
theorem Dk.tot {l : List Wt} (h : Dk l) : (totW l).natAbs < 10 ^ 204 ∧ 0 < totW l := by
  refine ⟨?_, totW_pos h.ds.wpos (fun e => by have := h.ds.pos; rw [e] at this; exact absurd this (by decide))⟩
  unfold totW
  rw [← pS_all]
  exact pS_fit (k := 200) (fun i hi => by rw [Int.mul_one]; exact (h.at hi).2.2) h.ds.few (Nat.le_refl _)
theorem Dk.mom {l : List Wt} (h : Dk l) {k : Nat} (hk : k ≤ 2) : (momW (fun v => v ^ k) l).natAbs < 10 ^ 218 := by
  rw [← pS_all]
  exact pS_fit (k := 214) (fun i hi => abs_mono (mul_abs (h.at hi).2.2 (pow_abs (h.at hi).2.1 k)) (by omega)) h.ds.few (Nat.le_refl _)
theorem mom_p1 (l : List Wt) : momW (fun v => v ^ 1) l = momW (fun v => v) l := by simp only [Int.pow_succ, Int.pow_zero, Int.one_mul]
theorem mom_p2 (l : List Wt) : momW (fun v => v ^ 2) l = momW (fun v => v * v) l := by simp only [Int.pow_succ, Int.pow_zero, Int.one_mul]
theorem Dk.sm {l : List Wt} (h : Dk l) {k : Nat} (hk : k ≤ 2) : SmR 218 (Rat.divInt (momW (fun v => v ^ k) l) (totW l)) :=
  SmR.ofDiv (by have := h.tot.2; omega) (h.mom hk) (abs_mono h.tot.1)
theorem Dk.mean {l : List Wt} (h : Dk l) : SmR 218 (meanW l) := by
  have := h.sm (k := 1) (by decide)
  rw [mom_p1] at this; exact this
theorem Dk.var {l : List Wt} (h : Dk l) : SmR 218 (Rat.divInt (momW (fun v => v * v) l) (totW l)) := by
  have := h.sm (k := 2) (by decide)
  rw [mom_p2] at this; exact this
theorem Dk.prob {l : List Wt} (h : Dk l) (lo hi : Int) : (momW (fun v => if lo ≤ v ∧ v ≤ hi then 1 else 0) l).natAbs < 10 ^ 204 := by
  rw [← pS_all]
  refine pS_fit (k := 200) (fun i hi2 => ?_) h.ds.few (Nat.le_refl _)
  have h3 := (h.at hi2).2.2
  try dsimp only
  split
  · rwa [Int.mul_one]
  · rw [Int.mul_zero]; exact Nat.pow_pos (by decide)
theorem pS_w (l : List Wt) : pS (fun i => (wtAt l i).2) l.length = totW l := by
  unfold totW; rw [← pS_all]; simp only [Int.mul_one]
/-! ### share, Total, Mean, Variance, Probability -/
set_option maxHeartbeats 1000000 in
theorem dshare_m (ao : Option Addr) (l : List Wt) (c : Nat) (k Bp : Nat) (hk : k ≤ 2) (h : Dk l) (w : World) (R : Ending → World → Prop) (hE : Env w) (hc : CellsAt w ao (wdsC (wts l))) (hp : w.cell? ⟨Bp, 0, none⟩ = some (.int .i64 k)) 
   (hR : ∀ r w', Below w.heap.size w w' → TxR r (Rat.divInt (momW (fun v => v ^ k) l) (totW l)) → R (.returned (.tuple #[.string r, .int .i64 0])) w') :
    Calls Tryz.prog 102 #[.slice ao l.length c, .func (.func 162) #[] #[.pointer (some ⟨Bp, 0, none⟩)]] w R := by
  have HR := Lib.hid hR
  have HC := Lib.hid hc
  have HE := Lib.hid hE
  have HK := Lib.hid h
  clear hR
  go_enter Tryz.func102, Tryz.ntmps102
  go_wp2_with fail
  refine dsum_m ao l c k Bp hk h _ _ hE hc hp fun r1 w1 hb hr => ?_
  have e := pS_all (fun v => v ^ k) l
  rw [e] at hr
  have B1 := Lib.hid hb
  have T1 := Lib.hid hr
  have HC1 := Lib.hid (HC.out.below B1.out)
  have HE1 := Lib.hid (HE.out.below B1.out)
  clear hb hr e hc hE hp
  go_wp2_with fail
  refine dsum_w ao l c h _ _ HE1.out HC1.out fun r2 w2 hb hr => ?_
  rw [pS_w] at hr
  have B2 := Lib.hid (B1.out.trans (hb.mono B1.out.size))
  have T2 := Lib.hid hr
  have HE2 := Lib.hid (HE.out.below B2.out)
  clear hb hr
  go_wp2_with fail
  refine rmake_any r1 r2 _ _ T1.out T2.out (abs_len (h.mom hk)) (abs_len HK.out.tot.1) (by have := HK.out.tot.2; omega) _ _ HE2.out fun r w3 hb hr => ?_
  have B3 := Lib.hid (B2.out.trans (hb.mono B2.out.size))
  have T3 := Lib.hid hr
  clear hb hr h
  go_wp2_with fail
  exact HR.out _ _ B3.out T3.out
set_option maxHeartbeats 1000000 in
theorem dshare_p (ao : Option Addr) (l : List Wt) (c : Nat) (lo hi : Int) (Bp : Nat) (h : Dk l) (w : World) (R : Ending → World → Prop) (hE : Env w) (hc : CellsAt w ao (wdsC (wts l))) (hp : w.cell? ⟨Bp, 0, none⟩ = some (.int .i64 lo)) (hq : w.cell? ⟨Bp, 1, none⟩ = some (.int .i64 hi)) 
   (hR : ∀ r w', Below w.heap.size w w' → TxR r (Rat.divInt (momW (fun v => if lo ≤ v ∧ v ≤ hi then 1 else 0) l) (totW l)) → R (.returned (.tuple #[.string r, .int .i64 0])) w') :
    Calls Tryz.prog 102 #[.slice ao l.length c, .func (.func 117) #[] #[.pointer (some ⟨Bp, 0, none⟩)]] w R := by
  have HR := Lib.hid hR
  have HC := Lib.hid hc
  have HE := Lib.hid hE
  have HK := Lib.hid h
  clear hR
  go_enter Tryz.func102, Tryz.ntmps102
  go_wp2_with fail
  refine dsum_p ao l c lo hi Bp h _ _ hE hc hp hq fun r1 w1 hb hr => ?_
  have e := pS_all (fun v => if lo ≤ v ∧ v ≤ hi then 1 else 0) l
  rw [e] at hr
  have B1 := Lib.hid hb
  have T1 := Lib.hid hr
  have HC1 := Lib.hid (HC.out.below B1.out)
  have HE1 := Lib.hid (HE.out.below B1.out)
  clear hb hr e hc hE hp hq
  go_wp2_with fail
  refine dsum_w ao l c h _ _ HE1.out HC1.out fun r2 w2 hb hr => ?_
  rw [pS_w] at hr
  have B2 := Lib.hid (B1.out.trans (hb.mono B1.out.size))
  have T2 := Lib.hid hr
  have HE2 := Lib.hid (HE.out.below B2.out)
  clear hb hr
  go_wp2_with fail
  refine rmake_any r1 r2 _ _ T1.out T2.out (abs_len (h.prob lo hi)) (abs_len HK.out.tot.1) (by have := HK.out.tot.2; omega) _ _ HE2.out fun r w3 hb hr => ?_
  have B3 := Lib.hid (B2.out.trans (hb.mono B2.out.size))
  have T3 := Lib.hid hr
  clear hb hr h
  go_wp2_with fail
  exact HR.out _ _ B3.out T3.out
theorem Dk.size {l : List Wt} (h : Dk l) : (wts l).length ≤ 4096 → ∀ i, i < (wts l).length → (wdAt (wts l) i).t.size ≤ 1000000 := fun _ i hi => by
  rw [wts_length] at hi
  rw [wts_at hi, (wdOf_txt _).size]
  have := (h.ds.at hi).2.2
  split <;> omega
set_option maxHeartbeats 1000000 in
theorem dcheck_ok (ao : Option Addr) (l : List Wt) (c : Nat) (h : Dk l) (w : World) (R : Ending → World → Prop) (hc : CellsAt w ao (wdsC (wts l))) (hR : ∀ w', Below w.heap.size w w' → R (.returned (.int .i64 0)) w') :
    Calls Tryz.prog 91 #[.slice ao l.length c] w R := by
  have h1 := dcheck_any ao (wts l) c w R (by rw [wts_length]; have := h.ds.few; omega) hc h.size (by rw [h.ds.check]; exact hR)
  rw [wts_length] at h1
  exact h1
set_option maxHeartbeats 1000000 in
theorem dtotal_any (ao : Option Addr) (l : List Wt) (c : Nat) (h : Dk l) (w : World) (R : Ending → World → Prop) (hE : Env w) (hc : CellsAt w ao (wdsC (wts l)))
   (hR : ∀ r w', Below w.heap.size w w' → Txt r (totW l) → R (.returned (.tuple #[.string r, .int .i64 0])) w') :
    Calls Tryz.prog 34 #[.slice ao l.length c] w R := by
  have HR := Lib.hid hR
  have HC := Lib.hid hc
  have HE := Lib.hid hE
  have HK := Lib.hid h
  clear hR hc hE h
  go_enter Tryz.func34, Tryz.ntmps34
  go_wp2_with fail
  refine dcheck_ok ao l c HK.out _ _ HC.out fun w1 hb => ?_
  have B1 := Lib.hid hb
  have HC1 := Lib.hid (HC.out.below B1.out)
  have HE1 := Lib.hid (HE.out.below B1.out)
  clear hb
  go_wp2_with fail
  refine dsum_w ao l c HK.out _ _ HE1.out HC1.out fun r2 w2 hb hr => ?_
  rw [pS_w] at hr
  have B2 := Lib.hid (B1.out.trans (hb.mono B1.out.size))
  have T2 := Lib.hid hr
  clear hb hr
  go_wp2_with fail
  exact HR.out _ _ B2.out T2.out
set_option maxHeartbeats 1000000 in
theorem dmean_any (ao : Option Addr) (l : List Wt) (c : Nat) (h : Dk l) (w : World) (R : Ending → World → Prop) (hE : Env w) (hc : CellsAt w ao (wdsC (wts l)))
   (hR : ∀ r w', Below w.heap.size w w' → TxR r (meanW l) → R (.returned (.tuple #[.string r, .int .i64 0])) w') :
    Calls Tryz.prog 35 #[.slice ao l.length c] w R := by
  have HR := Lib.hid hR
  have HC := Lib.hid hc
  have HE := Lib.hid hE
  have HK := Lib.hid h
  clear hR hc hE h
  go_enter Tryz.func35, Tryz.ntmps35
  go_wp2_with fail
  refine dcheck_ok ao l c HK.out _ _ HC.out fun w1 hb => ?_
  have B1 := Lib.hid hb
  have HC1 := Lib.hid (HC.out.below B1.out)
  have HE1 := Lib.hid (HE.out.below B1.out)
  clear hb
  go_wp2_with fail
  refine dmoment_any 1 _ _ fun Bp w2 hb hp => ?_
  have B2 := Lib.hid (B1.out.trans (hb.mono B1.out.size))
  have HC2 := Lib.hid (HC.out.below B2.out)
  have HE2 := Lib.hid (HE.out.below B2.out)
  have HP := Lib.hid hp
  clear hb hp
  go_wp2_with fail
  refine dshare_m ao l c 1 Bp (by decide) HK.out _ _ HE2.out HC2.out HP.out fun r w3 hb hr => ?_
  rw [mom_p1] at hr
  have B3 := Lib.hid (B2.out.trans (hb.mono B2.out.size))
  have T3 : Hid (TxR r (meanW l)) := hr
  clear hb hr
  go_wp2_with fail
  exact HR.out _ _ B3.out T3.out
set_option maxHeartbeats 2000000 in
theorem dvar_any (ao : Option Addr) (l : List Wt) (c : Nat) (h : Dk l) (w : World) (R : Ending → World → Prop) (hE : Env w) (hc : CellsAt w ao (wdsC (wts l)))
   (hR : ∀ r w', Below w.heap.size w w' → TxR r (varW l) → R (.returned (.tuple #[.string r, .int .i64 0])) w') :
    Calls Tryz.prog 36 #[.slice ao l.length c] w R := by
  have HR := Lib.hid hR
  have HC := Lib.hid hc
  have HE := Lib.hid hE
  have HK := Lib.hid h
  clear hR hc hE h
  have SM := Lib.hid HK.out.mean
  have SV := Lib.hid HK.out.var
  have SQ := Lib.hid (SM.out.mul SM.out)
  go_enter Tryz.func36, Tryz.ntmps36
  go_wp2_with fail
  refine dmean_any ao l c HK.out _ _ HE.out HC.out fun r1 w1 hb hr => ?_
  have B1 := Lib.hid hb
  have T1 := Lib.hid hr
  have HC1 := Lib.hid (HC.out.below B1.out)
  have HE1 := Lib.hid (HE.out.below B1.out)
  clear hb hr
  go_wp2_with fail
  refine dmoment_any 2 _ _ fun Bp w2 hb hp => ?_
  have B2 := Lib.hid (B1.out.trans (hb.mono B1.out.size))
  have HC2 := Lib.hid (HC.out.below B2.out)
  have HE2 := Lib.hid (HE.out.below B2.out)
  have HP := Lib.hid hp
  clear hb hp
  go_wp2_with fail
  refine dshare_m ao l c 2 Bp (by decide) HK.out _ _ HE2.out HC2.out HP.out fun r3 w3 hb hr => ?_
  rw [mom_p2] at hr
  have B3 := Lib.hid (B2.out.trans (hb.mono B2.out.size))
  have T3 := Lib.hid hr
  have HE3 := Lib.hid (HE.out.below B3.out)
  clear hb hr
  go_wp2_with fail
  refine rmul_any r1 r1 _ _ T1.out T1.out (SM.out.mono (by decide)).ok (SM.out.mono (by decide)).ok (fit_nn SM.out SM.out) (fit_dd SM.out SM.out) _ _ HE3.out fun r4 w4 hb hr => ?_
  have B4 := Lib.hid (B3.out.trans (hb.mono B3.out.size))
  have T4 := Lib.hid hr
  have HE4 := Lib.hid (HE.out.below B4.out)
  clear hb hr
  go_wp2_with fail
  refine rsub_any r3 r4 _ _ T3.out T4.out (SV.out.mono (by decide)).ok (SQ.out.mono (by decide)).ok (fit_nd SV.out SQ.out) (fit_nd SQ.out SV.out) (fit_dd SV.out SQ.out) (fit_sub SV.out SQ.out) _ _ HE4.out fun r5 w5 hb hr => ?_
  have B5 := Lib.hid (B4.out.trans (hb.mono B4.out.size))
  have T5 : Hid (TxR r5 (varW l)) := hr
  clear hb hr
  go_wp2_with fail
  exact HR.out _ _ B5.out T5.out
set_option maxHeartbeats 1000000 in
theorem dprob_any (ao : Option Addr) (l : List Wt) (c : Nat) (lo hi : Int) (h : Dk l) (hle : lo ≤ hi) (w : World) (R : Ending → World → Prop) (hE : Env w) (hc : CellsAt w ao (wdsC (wts l)))
   (hR : ∀ r w', Below w.heap.size w w' → TxR r (probW l lo hi) → R (.returned (.tuple #[.string r, .int .i64 0])) w') :
    Calls Tryz.prog 45 #[.slice ao l.length c, .agg #[.int .i64 lo, .int .i64 hi]] w R := by
  have HR := Lib.hid hR
  have HC := Lib.hid hc
  have HE := Lib.hid hE
  have HK := Lib.hid h
  clear hR hc hE h
  have K1 : (hi < lo) = False := eq_false (by omega)
  obtain ⟨w0, E0, HB0, s0, b0, b1⟩ := box2 w (.int .i64 lo) (.int .i64 hi) 25
  have HC0 := Lib.hid (HC.out.below HB0.out)
  go_enter Tryz.func45, Tryz.ntmps45
  go_wp2_with (rw [E0.out])
  clear E0
  refine dcheck_ok ao l c HK.out _ _ HC0.out fun w1 hb => ?_
  have B1 := Lib.hid (HB0.out.trans (hb.mono HB0.out.size))
  have HC1 := Lib.hid (HC.out.below B1.out)
  have HE1 := Lib.hid (HE.out.below B1.out)
  have c0 := cellB hb b0 (lt_of_cell' b0)
  have c1 := cellB hb b1 (lt_of_cell' b1)
  clear hb b0 b1
  go_wp2_with fail
  refine dshare_p ao l c lo hi _ HK.out _ _ HE1.out HC1.out c0 c1 fun r w3 hb hr => ?_
  have B3 := Lib.hid (B1.out.trans (hb.mono B1.out.size))
  have T3 : Hid (TxR r (probW l lo hi)) := hr
  clear hb hr
  go_wp2_with fail
  exact HR.out _ _ B3.out T3.out
end Go.Proofs.YtcmhompbdanpdaaGreatDoor
namespace Go.Proofs.YtcmhompbdanpdaaGreatDoor
open Go.RowKit

theorem find_hit {c : Wt → Bool} {l : List Wt} {j : Nat} (hj : j < l.length) (h : ∀ i, i < j → c (wtAt l i) = false) (hc : c (wtAt l j) = true) : l.find? c = some (wtAt l j) := by
  rw [List.find?_eq_some_iff_getElem]
  refine ⟨hc, j, hj, (wtAt_lt hj).symm, fun i hi => ?_⟩
  have := h i hi
  rw [wtAt_lt (by omega)] at this
  simp [this]
theorem find_miss {c : Wt → Bool} {l : List Wt} (h : ∀ i, i < l.length → c (wtAt l i) = false) : l.find? c = none := by
  rw [List.find?_eq_none]
  intro x hx
  obtain ⟨i, hi, e⟩ := List.mem_iff_getElem.1 hx
  have := h i hi
  rw [wtAt_lt hi, e] at this
  simp [this]
theorem Dk.probR {l : List Wt} (h : Dk l) (lo hi : Int) : SmR 204 (probW l lo hi) := SmR.ofDiv (by have := h.tot.2; omega) (h.prob lo hi) h.tot.1
theorem cmpR_ge {p q : Rat} : 0 ≤ cmpR p q ↔ q ≤ p := by
  unfold cmpR
  rw [← Rat.not_lt]
  by_cases h : p < q
  · rw [if_pos h]; exact ⟨fun e => absurd e (by decide), fun e => absurd h e⟩
  · rw [if_neg h]
    refine ⟨fun _ => h, fun _ => ?_⟩
    split <;> decide
theorem cmpR_lt {p q : Rat} : cmpR p q < 0 ↔ p < q := by
  unfold cmpR
  by_cases h : p < q
  · rw [if_pos h]; exact ⟨fun _ => h, fun _ => by decide⟩
  · rw [if_neg h]
    refine ⟨fun e => ?_, fun e => absurd e h⟩
    split at e <;> exact absurd e (by decide)
theorem cmpR_gt {p q : Rat} : 0 < cmpR p q ↔ q < p := by
  unfold cmpR
  by_cases h : p < q
  · rw [if_pos h]; exact ⟨fun e => absurd e (by decide), fun e => absurd e (Rat.not_lt.2 (Rat.le_of_lt h))⟩
  · rw [if_neg h]
    by_cases h2 : q < p
    · rw [if_pos h2]; exact ⟨fun _ => h2, fun _ => by decide⟩
    · rw [if_neg h2]; exact ⟨fun e => absurd e (by decide), fun e => absurd e h2⟩
theorem txR_0 : TxR ⟨#[48]⟩ 0 := by
  unfold TxR; rw [rtL_0]; rfl
theorem rtL_1 : rtL 1 = [49] := by rw [show (1 : Rat) = ((1 : Int) : Rat) from rfl, rat_int, itoa_1]
theorem txR_1 : TxR ⟨#[49]⟩ 1 := by
  unfold TxR; rw [rtL_1]; rfl
theorem sm_int {a : Int} {k : Nat} (ha : a.natAbs < 10 ^ k) (hk : 0 < k) : SmR k (a : Rat) := SmR.int ha hk
theorem sm_0 : SmR 1 (0 : Rat) := SmR.int (a := 0) (by decide) (by decide)
theorem sm_1 : SmR 1 (1 : Rat) := SmR.int (a := 1) (by decide) (by decide)
set_option maxRecDepth 100000 in
set_option maxHeartbeats 4000000 in
theorem dquant_any (ao : Option Addr) (l : List Wt) (c : Nat) (a : ByteArray) (p : Rat) (y : Wt) (h : Dk l) (ha : TxR a p) (hs : SmR 200 p) (h0 : 0 ≤ p) (h1 : p ≤ 1) (hy : l.find? (fun x => decide (p ≤ probW l (-1048576) x.1)) = some y) (w : World) (R : Ending → World → Prop) (hE : Env w) (hc : CellsAt w ao (wdsC (wts l)))
   (hR : ∀ w', Below w.heap.size w w' → R (.returned (.tuple #[.int .i64 y.1, .int .i64 0])) w') :
    Calls Tryz.prog 71 #[.slice ao l.length c, .string a] w R := by
  have HR := Lib.hid hR
  have HC := Lib.hid hc
  have HE := Lib.hid hE
  have HK := Lib.hid h
  have TA := Lib.hid ha
  have SP := Lib.hid hs
  have OP := Lib.hid (hs.mono (by decide)).ok
  have HY := Lib.hid hy
  have K0 : (cmpR p 0 < 0) = False := eq_false (fun e => by have := cmpR_lt.1 e; exact absurd h0 (Rat.not_le.2 this))
  have K1 : (0 < cmpR p 1) = False := eq_false (fun e => by have := cmpR_gt.1 e; exact absurd h1 (Rat.not_le.2 this))
  have hn : l.length ≤ 4096 := h.ds.few
  have hpos : 0 < l.length := h.ds.pos
  clear hR hc hE h ha hs hy h0 h1
  go_enter Tryz.func71, Tryz.ntmps71
  go_wp2_with fail
  refine dcheck_ok ao l c HK.out _ _ HC.out fun w1 hb => ?_
  have B1 := Lib.hid hb
  have HE1 := Lib.hid (HE.out.below B1.out)
  clear hb
  go_wp2_with fail
  refine ratCheck_any a p TA.out OP.out _ _ HE1.out fun w2 hb => ?_
  have B2 := Lib.hid (B1.out.trans (hb.mono B1.out.size))
  have HE2 := Lib.hid (HE.out.below B2.out)
  clear hb
  go_wp2_with fail
  refine rcompare_any a _ p 0 TA.out txR_0 OP.out (sm_0.mono (by decide)).ok (fit_nd SP.out sm_0) (fit_nd sm_0 SP.out) _ _ HE2.out fun w3 hb => ?_
  have B3 := Lib.hid (B2.out.trans (hb.mono B2.out.size))
  have HE3 := Lib.hid (HE.out.below B3.out)
  clear hb
  go_wp2_with fail
  refine rcompare_any a _ p 1 TA.out txR_1 OP.out (sm_1.mono (by decide)).ok (fit_nd SP.out sm_1) (fit_nd sm_1 SP.out) _ _ HE3.out fun w4 hb => ?_
  have B4 := Lib.hid (B3.out.trans (hb.mono B3.out.size))
  clear hb
  obtain ⟨e0, he0⟩ : ∃ z, cmpR p 0 = z := ⟨_, rfl⟩
  obtain ⟨e1, he1⟩ : ∃ z, cmpR p 1 = z := ⟨_, rfl⟩
  rw [he0] at K0
  rw [he0]
  rw [he1] at K1
  rw [he1]
  clear he0 he1
  go_wp2_with fail
  go_loopw [46] (fun i wr => ∃ j : Nat, i = .int .i64 j ∧ j ≤ l.length ∧ Hid (Below w.heap.size w wr) ∧ Hid (∀ i, i < j → decide (p ≤ probW l (-1048576) (wtAt l i).1) = false)) (fun i _ => l.length - (intOf i).toNat)
  case atStart => exact ⟨0, rfl, Nat.zero_le _, B4, fun i hi => absurd hi (Nat.not_lt_zero i)⟩
  case round =>
    obtain ⟨j, rfl, hj, HBr, HF⟩ := hrel
    by_cases hlt : j < l.length
    · have K2 : ((j : Int) < (l.length : Int)) = True := eq_true (by omega)
      obtain ⟨b, o, rfl, hbw, hcell⟩ := Dk.cells HC.out hpos
      obtain ⟨h0, h1⟩ := hcell j hlt
      have g0 := cellB HBr.out h0 hbw
      have g1 := cellB HBr.out h1 hbw
      have V := Lib.hid (HK.out.at hlt).2.1
      have HH : Hid (p ≤ probW l (-1048576) (wtAt l j).1 → (wtAt l j).1 = y.1) := fun e => by
        have := find_hit (c := fun x => decide (p ≤ probW l (-1048576) x.1)) hlt HF.out (decide_eq_true e)
        rw [HY.out] at this
        exact (congrArg Prod.fst (Option.some.inj this)).symm
      have HN : Hid (¬ p ≤ probW l (-1048576) (wtAt l j).1 → ∀ i, i < j + 1 → decide (p ≤ probW l (-1048576) (wtAt l i).1) = false) := fun e i hi => by
        by_cases e2 : i = j
        · subst e2; exact decide_eq_false e
        · exact HF.out i (by omega)
      have SQ := Lib.hid (HK.out.probR (-1048576) (wtAt l j).1)
      obtain ⟨x, hx⟩ : ∃ x, (wtAt l j).1 = x := ⟨_, rfl⟩
      rw [hx] at g0 V HH HN SQ
      obtain ⟨w5, E5, HB5, s5, b0, b1⟩ := box2 wr (.int .i64 x) (.string (tB (Lib.itoa (wtAt l j).2))) 67
      have B5 := Lib.hid (HBr.out.trans (HB5.out.mono HBr.out.size))
      have HC5 := Lib.hid (HC.out.below B5.out)
      have HE5 := Lib.hid (HE.out.below B5.out)
      clear hcell h0 h1 hx
      go_wp2_with (rw [E5.out])
      clear E5
      clear g0 g1
      refine dprob_any _ l c (-1048576) x HK.out (by have := V.out; omega) _ _ HE5.out HC5.out fun r w6 hb hr => ?_
      have B6 := Lib.hid (B5.out.trans (hb.mono B5.out.size))
      have HE6 := Lib.hid (HE.out.below B6.out)
      have T6 := Lib.hid hr
      have c0 := cellB hb b0 (lt_of_cell' b0)
      clear hb hr b0 b1
      go_wp2_with fail
      refine rcompare_any r a _ p T6.out TA.out (SQ.out.mono (by decide)).ok OP.out (fit_nd SQ.out SP.out) (fit_nd SP.out SQ.out) _ _ HE6.out fun w7 hb => ?_
      have B7 := Lib.hid (B6.out.trans (hb.mono B6.out.size))
      have d0 := cellB hb c0 (lt_of_cell' c0)
      clear hb c0
      have hge := cmpR_ge (p := probW l (-1048576) x) (q := p)
      obtain ⟨z, hz⟩ : ∃ z, cmpR (probW l (-1048576) x) p = z := ⟨_, rfl⟩
      rw [hz] at hge ⊢
      clear hz
      by_cases hc : 0 ≤ z
      · have K3 : (0 ≤ z) = True := eq_true hc
        have e := Lib.hid (HH.out (hge.1 hc))
        clear hc hge
        go_wp2_with fail
        rw [e.out]
        exact HR.out _ B7.out
      · have K3 : (0 ≤ z) = False := eq_false hc
        have e := Lib.hid (HN.out (fun h => hc (hge.2 h)))
        clear hc hge
        go_wp2_with fail
        exact ⟨⟨j + 1, by go_num, by omega, B7, e.out⟩, by simp [intOf]; omega⟩
    · obtain rfl : j = l.length := by omega
      have := find_miss (c := fun x => decide (p ≤ probW l (-1048576) x.1)) HF.out
      rw [HY.out] at this
      cases this
end Go.Proofs.YtcmhompbdanpdaaGreatDoor
