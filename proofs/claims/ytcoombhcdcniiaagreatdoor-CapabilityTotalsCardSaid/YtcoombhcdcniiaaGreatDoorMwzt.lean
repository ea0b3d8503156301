/- Parted, Shared of reference 01. (Printed by gen_xparted.py.) Shared of reference 01. (Printed by gen_shared.py.) slash, Split, Lowest, Over, Whole, Signum of reference 02. crossed, Minus, Plus, Times, By, Order of reference 02. (Printed by gen_ratops.py.) -/
import Derived.Test.YtcoombhcdcniiaaGreatDoorMwzo
namespace Go.Proofs.YtcoombhcdcniiaaGreatDoor
open Go.RowKit

theorem part_brief {m n r q : Int} (hq : m.fdiv n = q) (hr : m.fmod n = r) (hn : n ≠ 0) : (m - r).tdiv n = q := by
  have h : m - r = q * n := by
    rw [← hq, ← hr, Int.mul_comm]
    have := Int.mul_fdiv_add_fmod m n
    omega
  rw [h, Int.mul_tdiv_cancel _ hn]
theorem fmod_abs (m n : Int) (hn : n ≠ 0) : (m.fmod n).natAbs < n.natAbs := by
  obtain ⟨r, hr⟩ : ∃ r, m.tmod n = r := ⟨_, rfl⟩
  obtain ⟨hb, _, _⟩ := tmod_bounds hr hn
  obtain ⟨h1, h2, h3⟩ := part_small (m := m) (n := n) rfl hr hn
  by_cases h0 : r = 0
  · rw [(h1 h0).2]; exact hb
  · by_cases hs : (r < 0 ↔ n < 0)
    · rw [(h2 h0 hs).2]; exact hb
    · rw [(h3 h0 hs).2]; omega
theorem fdiv_abs (m n : Int) (hn : n ≠ 0) : (m.fdiv n).natAbs ≤ m.natAbs + 1 := by
  have h := Int.mul_fdiv_add_fmod m n
  have h2 := fmod_abs m n hn
  obtain ⟨q, hq⟩ : ∃ q, m.fdiv n = q := ⟨_, rfl⟩
  obtain ⟨r, hr⟩ : ∃ q, m.fmod n = q := ⟨_, rfl⟩
  rw [hq, hr] at h
  rw [hr] at h2
  rw [hq]
  apply Classical.byContradiction
  intro hc
  have h3 : m.natAbs + 2 ≤ q.natAbs := by omega
  have h4 : (n * q).natAbs = n.natAbs * q.natAbs := Int.natAbs_mul _ _
  have h5 : n.natAbs * (m.natAbs + 2) ≤ n.natAbs * q.natAbs := Nat.mul_le_mul_left _ h3
  have h6 : n.natAbs * (m.natAbs + 2) = n.natAbs * (m.natAbs + 1) + n.natAbs := by rw [show m.natAbs + 2 = m.natAbs + 1 + 1 from rfl, Nat.mul_succ]
  have h7 : m.natAbs + 1 ≤ n.natAbs * (m.natAbs + 1) := Nat.le_mul_of_pos_left _ (by omega)
  omega
theorem part_out {m n : Int} (_hn : n ≠ 0) : m - m.fdiv n * n = m.fmod n := by
  have := Int.mul_fdiv_add_fmod m n
  rw [Int.mul_comm]; omega
set_option exponentiation.threshold 4000 in
set_option maxRecDepth 100000 in
set_option maxHeartbeats 8000000 in
theorem xparted_any (a b : ByteArray) (m n : Int) (ha : Txt a m) (hb : Txt b n) (hm : lenI m ≤ 1400) (hn : lenI n ≤ 1400) (h0 : n ≠ 0) (w : World) (R : Ending → World → Prop)
   (hR : ∀ q r w', Below w.heap.size w w' → Txt q (m.fdiv n) → Txt r (m.fmod n) → R (.returned (.tuple #[.string q, .string r])) w') :
    Calls Tryz.prog 103 #[.string a, .string b] w R := by
  have HR := Lib.hid hR
  have HA := Lib.hid ha
  have HB := Lib.hid hb
  have HM := Lib.hid hm
  have HN := Lib.hid hn
  have H0 := Lib.hid h0
  have LM : Hid (lenI (m.natAbs : Nat) ≤ 3000) := Nat.le_trans (lenA hm) (by decide)
  have LN : Hid (lenI (n.natAbs : Nat) ≤ 2000) := Nat.le_trans (lenA hn) (by decide)
  have hnv : Hid (n.natAbs ≠ 0) := by unfold Hid; omega
  have LQ : Hid (lenI ((m.natAbs / n.natAbs : Nat) : Int) ≤ 3000) := len_le (Nat.div_le_self _ _) (by decide) LM.out
  have LF : Hid (lenI (m.fdiv n) ≤ 1500) := by
    have h1 := (lenI_le (by decide)).1 hm
    have h2 := fdiv_abs m n h0
    unfold Hid
    rw [lenI_le (by decide)]
    have e : (10 : Nat) ^ 1500 = 10 ^ 100 * 10 ^ 1400 := by rw [← Nat.pow_add]
    have e2 : 2 ≤ (10 : Nat) ^ 100 := by decide
    have h3 : 2 * 10 ^ 1400 ≤ (10 : Nat) ^ 100 * 10 ^ 1400 := Nat.mul_le_mul_right _ e2
    rw [e]; omega
  have LFN : Hid (lenI (m.fdiv n * n) ≤ 1500) := by
    have h1 := (lenI_le (by decide)).1 hm
    have h4 := (lenI_le (by decide)).1 hn
    have h2 := fmod_abs m n h0
    have h3 := part_out (m := m) h0
    unfold Hid
    rw [lenI_le (by decide)]
    have e : (10 : Nat) ^ 1500 = 10 ^ 100 * 10 ^ 1400 := by rw [← Nat.pow_add]
    have e2 : 2 ≤ (10 : Nat) ^ 100 := by decide
    have h5 : 2 * 10 ^ 1400 ≤ (10 : Nat) ^ 100 * 10 ^ 1400 := Nat.mul_le_mul_right _ e2
    rw [e]; omega
  have PB := part_big (decide (m < 0)) (decide (n < 0)) m.natAbs n.natAbs hnv.out
  rw [sV_abs, sV_abs] at PB
  have HPB := Lib.hid PB
  clear hR ha hb hm hn h0 PB
  go_enter Tryz.func103, Tryz.ntmps103
  go_wp2_with fail
  with_reducible refine xbrief_any a b m n HA.out HB.out _ _ ?_
  by_cases hs : lenI m ≤ 18 ∧ lenI n ≤ 18
  · refine ⟨fun _ => ?_, fun h => absurd hs h⟩
    have b1 := abs18 hs.1
    have b2 := abs18 hs.2
    obtain ⟨q0, hq⟩ : ∃ q, m.tdiv n = q := ⟨_, rfl⟩
    obtain ⟨r, hr⟩ : ∃ r, m.tmod n = r := ⟨_, rfl⟩
    obtain ⟨br, _, _⟩ := tmod_bounds hr H0.out
    have HP := Lib.hid (part_small hq hr H0.out)
    have hfa := fdiv_abs m n H0.out
    have HFA := Lib.hid hfa
    have hnz := H0.out
    have KR0 : IntKind.i64.wrap r = r := by rw [IntKind.wrap_i64]; omega
    clear hs hq hfa
    by_cases hr0 : r = 0
    · replace HP := Lib.hid (HP.out.1 hr0)
      subst hr0
      obtain ⟨qf, hqf⟩ : ∃ z, m.fdiv n = z := ⟨_, rfl⟩
      have hpb := part_brief hqf HP.out.2 H0.out
      rw [Int.sub_zero] at hpb
      have bqf : qf.natAbs ≤ m.natAbs + 1 := by rw [← hqf]; exact HFA.out
      have KQ : IntKind.i64.wrap qf = qf := by rw [IntKind.wrap_i64]; omega
      have z1 : -4611686018427387904 ≤ qf := by omega
      have z2 : qf ≤ 4611686018427387904 := by omega
      have HQF := Lib.hid hqf
      clear hqf
      go_wp2_with fail
      with_reducible refine xof_any _ z1 z2 _ _ fun tq w4 hb4 htq => ?_
      have B4 := Lib.hid hb4
      have TQ : Hid (Txt tq (m.fdiv n)) := by unfold Hid; rw [HQF.out]; exact htq
      clear hb4 htq
      go_wp2_with fail
      with_reducible refine xof_any _ (by omega) (by omega) _ _ fun tr w5 hb5 htr => ?_
      have B5 : Hid (Below w.heap.size w w5) := B4.out.trans (hb5.mono B4.out.size)
      have TR : Hid (Txt tr (m.fmod n)) := by unfold Hid; rw [HP.out.2]; exact htr
      clear hb5 htr
      go_wp2_with fail
      exact HR.out _ _ _ B5.out TQ.out TR.out
    · have KR : (r == 0) = false := by simpa using hr0
      by_cases hsn : (r < 0 ↔ n < 0)
      · replace HP := Lib.hid (HP.out.2.1 hr0 hsn)
        by_cases hn0 : n < 0
        · have K1 : (n < 0) = True := eq_true hn0
          have K2 : (r < 0) = True := eq_true (hsn.2 hn0)
          clear hsn
          obtain ⟨qf, hqf⟩ : ∃ z, m.fdiv n = z := ⟨_, rfl⟩
          have hpb := part_brief hqf HP.out.2 H0.out
          have bqf : qf.natAbs ≤ m.natAbs + 1 := by rw [← hqf]; exact HFA.out
          have KQ : IntKind.i64.wrap qf = qf := by rw [IntKind.wrap_i64]; omega
          have z1 : -4611686018427387904 ≤ qf := by omega
          have z2 : qf ≤ 4611686018427387904 := by omega
          have HQF := Lib.hid hqf
          clear hqf
          go_wp2_with fail
          with_reducible refine xof_any _ z1 z2 _ _ fun tq w4 hb4 htq => ?_
          have B4 := Lib.hid hb4
          have TQ : Hid (Txt tq (m.fdiv n)) := by unfold Hid; rw [HQF.out]; exact htq
          clear hb4 htq
          go_wp2_with fail
          with_reducible refine xof_any _ (by omega) (by omega) _ _ fun tr w5 hb5 htr => ?_
          have B5 : Hid (Below w.heap.size w w5) := B4.out.trans (hb5.mono B4.out.size)
          have TR : Hid (Txt tr (m.fmod n)) := by unfold Hid; rw [HP.out.2]; exact htr
          clear hb5 htr
          go_wp2_with fail
          exact HR.out _ _ _ B5.out TQ.out TR.out
        · have K1 : (n < 0) = False := eq_false hn0
          have K2 : (r < 0) = False := eq_false (fun h => hn0 (hsn.1 h))
          clear hsn
          obtain ⟨qf, hqf⟩ : ∃ z, m.fdiv n = z := ⟨_, rfl⟩
          have hpb := part_brief hqf HP.out.2 H0.out
          have bqf : qf.natAbs ≤ m.natAbs + 1 := by rw [← hqf]; exact HFA.out
          have KQ : IntKind.i64.wrap qf = qf := by rw [IntKind.wrap_i64]; omega
          have z1 : -4611686018427387904 ≤ qf := by omega
          have z2 : qf ≤ 4611686018427387904 := by omega
          have HQF := Lib.hid hqf
          clear hqf
          go_wp2_with fail
          with_reducible refine xof_any _ z1 z2 _ _ fun tq w4 hb4 htq => ?_
          have B4 := Lib.hid hb4
          have TQ : Hid (Txt tq (m.fdiv n)) := by unfold Hid; rw [HQF.out]; exact htq
          clear hb4 htq
          go_wp2_with fail
          with_reducible refine xof_any _ (by omega) (by omega) _ _ fun tr w5 hb5 htr => ?_
          have B5 : Hid (Below w.heap.size w w5) := B4.out.trans (hb5.mono B4.out.size)
          have TR : Hid (Txt tr (m.fmod n)) := by unfold Hid; rw [HP.out.2]; exact htr
          clear hb5 htr
          go_wp2_with fail
          exact HR.out _ _ _ B5.out TQ.out TR.out
      · replace HP := Lib.hid (HP.out.2.2 hr0 hsn)
        by_cases hn0 : n < 0
        · have K1 : (n < 0) = True := eq_true hn0
          have K2 : (r < 0) = False := eq_false (fun h => hsn ⟨fun _ => hn0, fun _ => h⟩)
          clear hsn
          obtain ⟨qf, hqf⟩ : ∃ z, m.fdiv n = z := ⟨_, rfl⟩
          have hpb := part_brief hqf HP.out.2 H0.out
          have bqf : qf.natAbs ≤ m.natAbs + 1 := by rw [← hqf]; exact HFA.out
          have KQ : IntKind.i64.wrap qf = qf := by rw [IntKind.wrap_i64]; omega
          have z1 : -4611686018427387904 ≤ qf := by omega
          have z2 : qf ≤ 4611686018427387904 := by omega
          have HQF := Lib.hid hqf
          clear hqf
          go_wp2_with fail
          with_reducible refine xof_any _ z1 z2 _ _ fun tq w4 hb4 htq => ?_
          have B4 := Lib.hid hb4
          have TQ : Hid (Txt tq (m.fdiv n)) := by unfold Hid; rw [HQF.out]; exact htq
          clear hb4 htq
          go_wp2_with fail
          with_reducible refine xof_any _ (by omega) (by omega) _ _ fun tr w5 hb5 htr => ?_
          have B5 : Hid (Below w.heap.size w w5) := B4.out.trans (hb5.mono B4.out.size)
          have TR : Hid (Txt tr (m.fmod n)) := by unfold Hid; rw [HP.out.2]; exact htr
          clear hb5 htr
          go_wp2_with fail
          exact HR.out _ _ _ B5.out TQ.out TR.out
        · have K1 : (n < 0) = False := eq_false hn0
          have K2 : (r < 0) = True := eq_true (by omega)
          clear hsn
          obtain ⟨qf, hqf⟩ : ∃ z, m.fdiv n = z := ⟨_, rfl⟩
          have hpb := part_brief hqf HP.out.2 H0.out
          have bqf : qf.natAbs ≤ m.natAbs + 1 := by rw [← hqf]; exact HFA.out
          have KQ : IntKind.i64.wrap qf = qf := by rw [IntKind.wrap_i64]; omega
          have z1 : -4611686018427387904 ≤ qf := by omega
          have z2 : qf ≤ 4611686018427387904 := by omega
          have HQF := Lib.hid hqf
          clear hqf
          go_wp2_with fail
          with_reducible refine xof_any _ z1 z2 _ _ fun tq w4 hb4 htq => ?_
          have B4 := Lib.hid hb4
          have TQ : Hid (Txt tq (m.fdiv n)) := by unfold Hid; rw [HQF.out]; exact htq
          clear hb4 htq
          go_wp2_with fail
          with_reducible refine xof_any _ (by omega) (by omega) _ _ fun tr w5 hb5 htr => ?_
          have B5 : Hid (Below w.heap.size w w5) := B4.out.trans (hb5.mono B4.out.size)
          have TR : Hid (Txt tr (m.fmod n)) := by unfold Hid; rw [HP.out.2]; exact htr
          clear hb5 htr
          go_wp2_with fail
          exact HR.out _ _ _ B5.out TQ.out TR.out
  · refine ⟨fun h => absurd h hs, fun _ => ?_⟩
    clear hs
    go_wp2_with fail
    with_reducible refine xsize_any a m HA.out _ _ fun x hx => ?_
    have TX := Lib.hid hx
    clear hx
    go_wp2_with fail
    with_reducible refine xsize_any b n HB.out _ _ fun y hy => ?_
    have TY := Lib.hid hy
    clear hy
    go_wp2_with fail
    with_reducible refine xdivided_any x y m.natAbs n.natAbs TX.out TY.out LM.out LN.out hnv.out _ _ fun q r w3 hb3 hq hr => ?_
    have B3 := Lib.hid hb3
    have TQ := Lib.hid hq
    have TR := Lib.hid hr
    have KZ := hr.beqL 0 itoa_0
    clear hb3 hq hr
    go_wp2_with fail
    with_reducible refine xbelow_any a m HA.out _ _ fun sa hsa => ?_
    go_wp2_with fail
    with_reducible refine xbelow_any b n HB.out _ _ fun sb hsb => ?_
    rw [← hsa.out, ← hsb.out] at HPB
    go_wp2_with fail
    with_reducible refine xsigned_any q (m.natAbs / n.natAbs) (!(sa == sb)) TQ.out LQ.out _ _ fun q2 hq2 => ?_
    have TQ2 := Lib.hid hq2
    clear hq2
    by_cases hz : ((m.natAbs % n.natAbs : Nat) : Int) = 0
    · rw [decide_eq_true hz] at KZ
      have TF : Hid (Txt q2 (m.fdiv n)) := by
        have h := TQ2.out
        have hz2 : m.natAbs % n.natAbs = 0 := by omega
        unfold Hid
        cases e : (sa == sb) with
        | true => rw [e] at h; rw [(HPB.out.1 e).1]; exact h
        | false => rw [e] at h; rw [(HPB.out.2.1 e hz2).1]; exact h
      clear hz
      go_wp2_with fail
      with_reducible refine xtimes_any q2 b (m.fdiv n) n TF.out HB.out LF.out (by have := HN.out; omega) _ _ fun p w6 hb6 hp => ?_
      have B6 : Hid (Below w.heap.size w w6) := B3.out.trans (hb6.mono B3.out.size)
      have TP := Lib.hid hp
      clear hb6 hp
      go_wp2_with fail
      with_reducible refine xminus_any a p m (m.fdiv n * n) HA.out TP.out (by have := HM.out; omega) LFN.out _ _ fun r7 w7 hb7 hr7 => ?_
      rw [part_out H0.out] at hr7
      have B7 : Hid (Below w.heap.size w w7) := B6.out.trans (hb7.mono B6.out.size)
      have T7 := Lib.hid hr7
      clear hb7 hr7
      go_wp2_with fail
      exact HR.out _ _ _ B7.out TF.out T7.out
    · rw [decide_eq_false hz] at KZ
      have HZ2 : Hid (m.natAbs % n.natAbs ≠ 0) := by unfold Hid; omega
      clear hz
      go_wp2_with fail
      with_reducible refine xbelow_any a m HA.out _ _ fun s3 hs3 => ?_
      obtain rfl : s3 = sa := hs3.out.trans hsa.out.symm
      go_wp2_with fail
      with_reducible refine xbelow_any b n HB.out _ _ fun s4 hs4 => ?_
      obtain rfl : s4 = sb := hs4.out.trans hsb.out.symm
      cases e : (s3 == s4) with
      | true =>
        have TF : Hid (Txt q2 (m.fdiv n)) := by
          have h := TQ2.out
          unfold Hid
          rw [e] at h; rw [(HPB.out.1 e).1]; exact h
        go_wp2_with fail
        with_reducible refine xtimes_any q2 b (m.fdiv n) n TF.out HB.out LF.out (by have := HN.out; omega) _ _ fun p w6 hb6 hp => ?_
        have B6 : Hid (Below w.heap.size w w6) := B3.out.trans (hb6.mono B3.out.size)
        have TP := Lib.hid hp
        clear hb6 hp
        go_wp2_with fail
        with_reducible refine xminus_any a p m (m.fdiv n * n) HA.out TP.out (by have := HM.out; omega) LFN.out _ _ fun r7 w7 hb7 hr7 => ?_
        rw [part_out H0.out] at hr7
        have B7 : Hid (Below w.heap.size w w7) := B6.out.trans (hb7.mono B6.out.size)
        have T7 := Lib.hid hr7
        clear hb7 hr7
        go_wp2_with fail
        exact HR.out _ _ _ B7.out TF.out T7.out
      | false =>
        have TQ3 : Hid (Txt q2 (-((m.natAbs / n.natAbs : Nat) : Int))) := by
          have h := TQ2.out
          unfold Hid
          rw [e] at h; exact h
        have L1 : Hid (lenI (-((m.natAbs / n.natAbs : Nat) : Int)) ≤ 1500) := by
          unfold Hid; rw [lenI_neg]
          exact len_le (Nat.div_le_self _ _) (by decide) (Nat.le_trans (lenA HM.out) (by decide))
        have T1 : Hid (Txt ⟨#[49]⟩ 1) := Txt.one
        have l1 : Hid (lenI 1 ≤ 1500) := by unfold Hid; decide +kernel
        have hfd := (HPB.out.2.2 e HZ2.out).1
        have HFD := Lib.hid hfd
        clear hfd
        go_wp2_with fail
        with_reducible refine xminus_any q2 ⟨#[49]⟩ _ 1 TQ3.out T1.out L1.out l1.out _ _ fun q5 w5 hb5 hq5 => ?_
        have TF : Hid (Txt q5 (m.fdiv n)) := by unfold Hid; rw [HFD.out]; exact hq5
        have B5 : Hid (Below w.heap.size w w5) := B3.out.trans (hb5.mono B3.out.size)
        clear hb5 hq5
        go_wp2_with fail
        with_reducible refine xtimes_any q5 b (m.fdiv n) n TF.out HB.out LF.out (by have := HN.out; omega) _ _ fun p w6 hb6 hp => ?_
        have B6 : Hid (Below w.heap.size w w6) := B5.out.trans (hb6.mono B5.out.size)
        have TP := Lib.hid hp
        clear hb6 hp
        go_wp2_with fail
        with_reducible refine xminus_any a p m (m.fdiv n * n) HA.out TP.out (by have := HM.out; omega) LFN.out _ _ fun r7 w7 hb7 hr7 => ?_
        rw [part_out H0.out] at hr7
        have B7 : Hid (Below w.heap.size w w7) := B6.out.trans (hb7.mono B6.out.size)
        have T7 := Lib.hid hr7
        clear hb7 hr7
        go_wp2_with fail
        exact HR.out _ _ _ B7.out TF.out T7.out
end Go.Proofs.YtcoombhcdcniiaaGreatDoor
namespace Go.Proofs.YtcoombhcdcniiaaGreatDoor
open Go.RowKit

def dvS : Value → Nat
  | .string s => dv s.data.toList
  | _ => 0
theorem dvS_eq {a : ByteArray} {v : Nat} (h : Txt a (v : Nat)) : dvS (.string a) = v := by
  have := Txt.dec h
  show dv a.data.toList = v
  rw [show a.data.toList = Lib.decDigits v from this, dv_dec]
set_option maxRecDepth 100000 in
set_option maxHeartbeats 8000000 in
theorem xshared_any (a b : ByteArray) (m n : Int) (ha : Txt a m) (hb : Txt b n) (hm : lenI m ≤ 1400) (hn : lenI n ≤ 1400) (w : World) (R : Ending → World → Prop)
   (hR : ∀ r w', Below w.heap.size w w' → Txt r (Nat.gcd m.natAbs n.natAbs : Nat) → R (.returned (.string r)) w') :
    Calls Tryz.prog 101 #[.string a, .string b] w R := by
  have HR := Lib.hid hR
  have HA := Lib.hid ha
  have HB := Lib.hid hb
  have LM : Hid (lenI (m.natAbs : Nat) ≤ 1400) := lenA hm
  have LN : Hid (lenI (n.natAbs : Nat) ≤ 1400) := lenA hn
  have LM3 : Hid (lenI (m.natAbs : Nat) ≤ 3000) := Nat.le_trans LM.out (by decide)
  have LN3 : Hid (lenI (n.natAbs : Nat) ≤ 3000) := Nat.le_trans LN.out (by decide)
  clear hR ha hb hm hn
  go_enter Tryz.func101, Tryz.ntmps101
  go_wp2_with fail
  with_reducible refine xsize_any a m HA.out _ _ fun x hx => ?_
  have TX := Lib.hid hx
  clear hx
  go_wp2_with fail
  with_reducible refine xsigned_any x m.natAbs false TX.out LM3.out _ _ fun x1 hx1 => ?_
  have TX1 : Hid (Txt x1 (m.natAbs : Nat)) := hx1
  clear hx1
  go_wp2_with fail
  with_reducible refine xsize_any b n HB.out _ _ fun y hy => ?_
  have TY := Lib.hid hy
  clear hy
  go_wp2_with fail
  with_reducible refine xsigned_any y n.natAbs false TY.out LN3.out _ _ fun y1 hy1 => ?_
  have TY1 : Hid (Txt y1 (n.natAbs : Nat)) := hy1
  clear hy1
  obtain ⟨G, hG⟩ : ∃ G, Nat.gcd m.natAbs n.natAbs = G := ⟨_, rfl⟩
  rw [hG] at HR
  have HG := Lib.hid hG
  clear hG
  go_wp2_with fail
  go_loopw [0, 1] (fun p q wr => ∃ (x y : Nat) (xs ys : ByteArray), p = .string xs ∧ q = .string ys ∧ Hid (Txt xs (x : Nat)) ∧ Hid (Txt ys (y : Nat)) ∧ Hid (Nat.gcd x y = G) ∧ Hid (lenI (x : Nat) ≤ 1400) ∧ Hid (lenI (y : Nat) ≤ 1400) ∧ Hid (Below w.heap.size w wr)) (fun _ q _ => dvS q)
  case atStart => exact ⟨m.natAbs, n.natAbs, x1, y1, rfl, rfl, TX1, TY1, HG, LM, LN, Below.refl _ _⟩
  case round =>
    obtain ⟨x, y, xs, ys, rfl, rfl, HX, HY, HGr, LX, LY, HBr⟩ := hrel
    have KZ := HY.out.beqL 0 itoa_0
    by_cases hz : (y : Int) = 0
    · rw [decide_eq_true hz] at KZ
      have TG : Hid (Txt xs (G : Nat)) := by
        have h := HGr.out
        rw [show y = 0 from by omega, Nat.gcd_zero_right] at h
        unfold Hid; rw [← h]; exact HX.out
      clear hz
      go_wp2_with fail
      exact ret_str (HR.out xs _ HBr.out TG.out) rfl
    · rw [decide_eq_false hz] at KZ
      have HZ : Hid ((y : Int) ≠ 0) := hz
      clear hz
      go_wp2_with fail
      with_reducible refine xbrief_any xs ys (x : Nat) (y : Nat) HX.out HY.out _ _ ?_
      by_cases hs : lenI (x : Nat) ≤ 18 ∧ lenI (y : Nat) ≤ 18
      · refine ⟨fun _ => ?_, fun h => absurd hs h⟩
        have b1 : Hid (x < 1000000000000000000) := by have := abs18 hs.1; rw [Int.natAbs_natCast] at this; exact this
        have b2 : Hid (y < 1000000000000000000) := by have := abs18 hs.2; rw [Int.natAbs_natCast] at this; exact this
        clear hs
        go_wp2_with fail
        go_loopw [5, 6] (fun p q wq => ∃ u v : Nat, p = .int .i64 u ∧ q = .int .i64 v ∧ Hid (Nat.gcd u v = G) ∧ u < 1000000000000000000 ∧ v < 1000000000000000000 ∧ Hid (Below w.heap.size w wq)) (fun _ q _ => (intOf q).toNat)
        case atStart => exact ⟨x, y, rfl, rfl, HGr, b1.out, b2.out, HBr⟩
        case round =>
          obtain ⟨u, v, rfl, rfl, hg, hu, hv, HBq⟩ := hrel
          by_cases hv0 : 0 < v
          · have K1 : ((0 : Int) < (v : Int)) = True := eq_true (by omega)
            have KY2 : ((v : Int) = 0) = False := eq_false (by omega)
            obtain ⟨z, hzz⟩ : ∃ z, u % v = z := ⟨_, rfl⟩
            have hzy : z < v := by rw [← hzz]; exact Nat.mod_lt _ hv0
            have KM : ((u : Int) % (v : Int)) = (z : Int) := by rw [← hzz]; rfl
            have KM2 : (u : Int).tmod (v : Int) = (z : Int) := by rw [Int.tmod_eq_emod_of_nonneg (by omega)]; exact KM
            have KY3 : (v = 0) = False := eq_false (by omega)
            have KWz : IntKind.i64.wrap (z : Int) = z := by rw [IntKind.wrap_i64]; omega
            have hg2 : Hid (Nat.gcd v z = G) := by unfold Hid; rw [← hzz, ← hg.out, Nat.gcd_comm u v, Nat.gcd_rec v u, Nat.gcd_comm]
            have Bqd : Hid (Below w.heap.size w wr.drew) := HBq.out.drew
            clear hzz
            go_wp2_with fail
            refine regionL [0, 1, 2, 3, 4, 5] (fun _ => True) (by kernel_rfl) (trivial) (fun Qn hPQ hQn hS0 => ?_)
            iterate 6 (refine takeL (v := ?_) rfl rfl (by kernel_rfl) (by kernel_rfl) (by kernel_rfl) hPQ hS0 (by kernel_rfl) ?_ ?_; rotate_left; (focus (intro w hSw; (try dsimp only at hSw); go_simp; (try with_reducible rfl))); (try simp only [Act.put, List.setIfInBounds_toArray, List.set_cons_zero, List.set_cons_succ]))
            refine ofL (wpAnyH_done (by kernel_rfl) (hQn.out _ _ ?_) _)
            clear hS0 hPQ hQn Qn
            go_wp2_with fail
            exact ⟨⟨v, z, rfl, rfl, hg2, hv, by omega, Bqd⟩, by simp [intOf]; omega⟩
          · have K1 : ((0 : Int) < (v : Int)) = False := eq_false (by omega)
            have hgx : Hid (u = G) := by have := hg.out; rw [show v = 0 from by omega, Nat.gcd_zero_right] at this; exact this
            go_wp2_with fail
            with_reducible refine xof_any (u : Int) (by omega) (by omega) _ _ fun r w7 hb7 hr7 => ?_
            rw [hgx.out] at hr7
            have B7 : Hid (Below w.heap.size w w7) := HBq.out.trans (hb7.mono HBq.out.size)
            have T7 := Lib.hid hr7
            clear hb7 hr7
            go_wp2_with fail
            exact ret_str (HR.out r _ B7.out T7.out) rfl
      · refine ⟨fun h => absurd h hs, fun _ => ?_⟩
        clear hs
        go_wp2_with fail
        with_reducible refine xparted_any xs ys (x : Nat) (y : Nat) HX.out HY.out LX.out LY.out HZ.out _ _ fun q r w4 hb4 hq hr => ?_
        have hfm : Int.fmod (x : Int) (y : Int) = ((x % y : Nat) : Int) := by rw [Int.fmod_eq_emod_of_nonneg _ (by omega)]; rfl
        rw [hfm] at hr
        have B4 : Hid (Below w.heap.size w w4) := HBr.out.trans (hb4.mono HBr.out.size)
        have TR := Lib.hid hr
        have hlt : Hid (x % y < y) := Nat.mod_lt _ (by have := HZ.out; omega)
        have LR : Hid (lenI ((x % y : Nat) : Int) ≤ 1400) := len_le (Nat.le_of_lt hlt.out) (by decide) LY.out
        have hg2 : Hid (Nat.gcd y (x % y) = G) := by unfold Hid; rw [← HGr.out, Nat.gcd_comm x y, Nat.gcd_rec y x, Nat.gcd_comm]
        have hm1 := dvS_eq HY.out
        have hm2 := dvS_eq TR.out
        have HM1 := Lib.hid hm1
        have HM2 := Lib.hid hm2
        clear hb4 hq hr hfm hm1 hm2
        go_wp2_with fail
        refine ⟨⟨y, x % y, ys, r, rfl, rfl, HY, TR, hg2, LY, LR, B4⟩, ?_⟩
        rw [HM1.out, HM2.out]; exact hlt.out
end Go.Proofs.YtcoombhcdcniiaaGreatDoor
namespace Go.Proofs.YtcoombhcdcniiaaGreatDoor
open Go.RowKit

/-- The first slash. -/
def slI (l : List UInt8) : Int := Lib.index l [47]
theorem noslash_take {l : List UInt8} {k : Nat} (h : (47 : UInt8) ∉ l.take k) (hk : k < l.length) (h2 : l.getD k 0 = 47) : Lib.index l [47] = k := by
  have e : l = l.take k ++ 47 :: l.drop (k + 1) := by
    have h3 : l[k] = 47 := by simpa [List.getD, hk] using h2
    have := List.take_append_drop k l
    rw [List.drop_eq_getElem_cons hk, h3] at this
    exact this.symm
  have hl : (l.take k).length = k := by rw [List.length_take]; omega
  have := index_at47 (l.drop (k + 1)) h
  rw [← e, hl] at this
  exact this
theorem noslash_step {l : List UInt8} {k : Nat} (h : (47 : UInt8) ∉ l.take k) (hk : k < l.length) (h2 : l.getD k 0 ≠ 47) : (47 : UInt8) ∉ l.take (k + 1) := by
  rw [List.take_add_one, List.getElem?_eq_getElem hk]
  intro hm
  rcases List.mem_append.1 hm with h3 | h3
  · exact h h3
  · have : (47 : UInt8) = l[k] := by simpa using h3
    exact h2 (by simp [List.getD, hk, ← this])
set_option maxHeartbeats 2000000 in
theorem yslash_any (a : ByteArray) (l : List UInt8) (ha : Tx a l) (hl : l.length ≤ 100000) (w : World) (R : Ending → World → Prop) (hR : R (.returned (.int .i64 (slI l))) w) :
    Calls Tryz.prog 122 #[.string a] w R := by
  have HR := Lib.hid hR
  have HA := Lib.hid ha
  have HL := Lib.hid hl
  clear hR ha hl
  go_enter Tryz.func122, Tryz.ntmps122
  go_wp2_with fail
  go_loopw [3] (fun i wr => ∃ k : Nat, i = .int .i64 k ∧ k ≤ a.size ∧ Hid ((47 : UInt8) ∉ l.take k) ∧ Hid (wr = w)) (fun i _ => a.size - (intOf i).toNat)
  case atStart => exact ⟨0, rfl, Nat.zero_le _, by unfold Hid; simp, rfl⟩
  case round =>
    obtain ⟨k, rfl, hk, HN, HW⟩ := hrel
    have hs := HA.out.size
    have hsz : a.size ≤ 100000 := by rw [hs]; exact HL.out
    by_cases hlt : k < a.size
    · have K1 : ((k : Int) < (a.size : Int)) = True := eq_true (by omega)
      have hkl : k < l.length := by omega
      have hg : a[k] = l.getD k 0 := HA.out.get hlt
      by_cases h47 : l.getD k 0 = 47
      · have K2 : ((a[k].toNat : Int) == 47) = true := by rw [hg, h47]; rfl
        have hr : Hid (slI l = (k : Int)) := noslash_take HN.out hkl h47
        clear hs hg h47
        go_wp2_with fail
        have e := HW.out
        subst e
        exact ret_i HR.out rfl hr.out
      · have K2 : ((a[k].toNat : Int) == 47) = false := by
          rw [hg]
          have h3 : ¬ (l.getD k 0).toNat = 47 := fun e => h47 (UInt8.toNat.inj e)
          have h4 : ((l.getD k 0).toNat : Int) ≠ 47 := by omega
          exact beq_eq_false_iff_ne.2 h4
        have HN2 := Lib.hid (noslash_step HN.out hkl h47)
        clear hs hg h47
        go_wp2_with fail
        refine ⟨⟨k + 1, by go_num, by omega, HN2, HW⟩, ?_⟩
        simp [intOf]; omega
    · have K1 : ((k : Int) < (a.size : Int)) = False := eq_false (by omega)
      have hr : Hid (slI l = -1) := index_none47 (by have h := HN.out; rw [List.take_of_length_le (by omega)] at h; exact h)
      clear hs
      go_wp2_with fail
      have e := HW.out
      subst e
      exact ret_i HR.out rfl hr.out
set_option maxHeartbeats 2000000 in
theorem ysplit_any (a : ByteArray) (q : Rat) (ha : TxR a q) (hs : SmR 500 q) (w : World) (R : Ending → World → Prop)
   (hR : ∀ n d w', Below w.heap.size w w' → Txt n q.num → Txt d (q.den : Int) → R (.returned (.tuple #[.string n, .string d])) w') :
    Calls Tryz.prog 93 #[.string a] w R := by
  have HR := Lib.hid hR
  have HA : Hid (Tx a (rtL q)) := ha
  have hl : Hid ((rtL q).length ≤ 100000) := by have := rtL_size hs (by decide); unfold Hid; omega
  have Bd : Hid (Below w.heap.size w w.drew) := (Below.refl _ _).drew
  by_cases hd : q.den = 1
  · have e : Hid (slI (rtL q) = -1) := by unfold Hid slI rtL; rw [if_pos hd, List.append_nil]; exact index_none47 (itoa_no47 _)
    have TN : Hid (Txt a q.num) := by have := HA.out; unfold rtL at this; rw [if_pos hd, List.append_nil] at this; exact this
    have TD : Hid (Txt ⟨#[49]⟩ (q.den : Int)) := by unfold Hid; rw [hd]; exact Txt.one
    clear hR ha hs hd
    go_enter Tryz.func93, Tryz.ntmps93
    go_wp2_with fail
    with_reducible refine yslash_any a _ HA.out hl.out _ _ ?_
    rw [e.out]
    go_wp2_with fail
    exact HR.out _ _ _ (Below.refl _ _) TN.out TD.out
  · have hr : rtL q = Lib.itoa q.num ++ 47 :: Lib.decDigits q.den := by unfold rtL; rw [if_neg hd]
    obtain ⟨k, hk⟩ : ∃ k, (Lib.itoa q.num).length = k := ⟨_, rfl⟩
    have e : Hid (slI (rtL q) = (k : Int)) := by unfold Hid slI; rw [hr, ← hk]; exact index_at47 _ (itoa_no47 _)
    have hsz := HA.out.size
    have hka : k + 1 ≤ a.size := by rw [hsz, hr, List.length_append]; simp; omega
    have hsz2 : a.size ≤ 100000 := by rw [hsz]; exact hl.out
    have T1 := HA.out.take k
    have T2 := HA.out.drop (k + 1)
    rw [hr, ← hk, List.take_left' rfl] at T1
    rw [hr, ← hk] at T2
    have e2 : (Lib.itoa q.num ++ 47 :: Lib.decDigits q.den).drop ((Lib.itoa q.num).length + 1) = Lib.decDigits q.den := by
      rw [List.drop_append]; simp
    rw [e2, hk] at T2
    rw [hk] at T1
    obtain ⟨r1, hr1⟩ : ∃ z, a.extract 0 k = z := ⟨_, rfl⟩
    obtain ⟨r2, hr2⟩ : ∃ z, a.extract (k + 1) a.size = z := ⟨_, rfl⟩
    rw [hr1] at T1
    rw [hr2] at T2
    have TN : Hid (Txt r1 q.num) := T1
    have TD : Hid (Txt r2 (q.den : Int)) := Txt.nat T2
    have g1 : (0 : Int) ≤ (k : Int) := by omega
    have g2 : (k : Int) ≤ (a.size : Int) := by omega
    have g3 : (0 : Int) ≤ (k : Int) + 1 := by omega
    have g4 : (k : Int) + 1 ≤ (a.size : Int) := by omega
    have g5 : ((k : Int) + 1).toNat = k + 1 := by omega
    have KW : IntKind.i64.wrap ((k : Int) + 1) = (k : Int) + 1 := by rw [IntKind.wrap_i64]; omega
    clear hR ha hs hd hr hk hsz T1 T2 e2
    go_enter Tryz.func93, Tryz.ntmps93
    go_wp2_with fail
    with_reducible refine yslash_any a _ HA.out hl.out _ _ ?_
    rw [e.out]
    go_wp2_with fail
    refine regionL [0, 1, 2, 3, 4, 5, 6, 7, 8] (fun _ => True) (by kernel_rfl) (trivial) (fun Qn hPQ hQn hS0 => ?_)
    iterate 9 (refine takeL (v := ?_) rfl rfl (by kernel_rfl) (by kernel_rfl) (by kernel_rfl) hPQ hS0 (by kernel_rfl) ?_ ?_; rotate_left; (focus (intro w hSw; (try dsimp only at hSw); go_simp; (try with_reducible rfl))); (try simp only [Act.put, List.setIfInBounds_toArray, List.set_cons_zero, List.set_cons_succ]))
    refine ofL (wpAnyH_done (by kernel_rfl) (hQn.out _ _ ?_) _)
    clear hS0 hPQ hQn Qn
    go_wp2_with fail
    exact HR.out _ _ _ Bd.out TN.out TD.out
set_option maxHeartbeats 4000000 in
theorem ylowest_any (a b : ByteArray) (m n : Int) (ha : Txt a m) (hb : Txt b n) (hm : lenI m ≤ 1400) (hn : lenI n ≤ 1400) (h0 : n ≠ 0) (w : World) (R : Ending → World → Prop) (hR : ∀ r w', Below w.heap.size w w' → TxR r (Rat.divInt m n) → R (.returned (.string r)) w') :
    Calls Tryz.prog 70 #[.string a, .string b] w R := by
  have HR := Lib.hid hR
  have HA := Lib.hid ha
  have HB := Lib.hid hb
  have HM := Lib.hid hm
  have HN := Lib.hid hn
  have hlow := Lib.hid (low_num m n h0)
  have hG := Lib.hid (lowG_ne m h0)
  have hgl : Hid (lenI (Nat.gcd m.natAbs n.natAbs : Nat) ≤ 1400) := by
    unfold Hid
    rw [lenI_le (by decide)] at hn ⊢
    rw [Int.natAbs_natCast]
    exact Nat.lt_of_le_of_lt (Nat.gcd_le_right _ (by omega)) hn
  have hgl3 : Hid (lenI (Nat.gcd m.natAbs n.natAbs : Nat) ≤ 3000) := Nat.le_trans hgl.out (by decide)
  have hle := divInt_le m n h0
  have ln : Hid ((Lib.itoa (Rat.divInt m n).num).length ≤ 2000) := by
    unfold Hid
    rw [itoa_len]
    have : lenI (Rat.divInt m n).num ≤ 1400 := by rw [lenI_le (by decide)] at hm ⊢; exact Nat.lt_of_le_of_lt hle.1 hm
    split <;> omega
  have ld : Hid ((Lib.decDigits (Rat.divInt m n).den).length ≤ 2000) := by
    rw [lenI_le (by decide)] at hn
    exact Nat.le_trans (dec_len_lt (Nat.lt_of_le_of_lt hle.2 hn) (by decide)) (by decide)
  obtain ⟨G, hGG⟩ : ∃ z, lowG m n = z := ⟨_, rfl⟩
  rw [hGG] at hlow hG
  have HGG := Lib.hid hGG
  have hGl : Hid (lenI G ≤ 1400) := by
    unfold Hid; rw [← hGG]; unfold lowG
    split
    · rw [lenI_neg]; exact hgl.out
    · exact hgl.out
  clear hR ha hb hm hn h0 hle hGG
  go_enter Tryz.func70, Tryz.ntmps70
  go_wp2_with fail
  with_reducible refine xshared_any a b m n HA.out HB.out HM.out HN.out _ _ fun g w1 hb1 hg1 => ?_
  have B1 := Lib.hid hb1
  have T1 := Lib.hid hg1
  clear hb1 hg1
  go_wp2_with fail
  with_reducible refine xbelow_any b n HB.out _ _ fun s hs => ?_
  by_cases hneg : n < 0
  · obtain rfl : s = true := by rw [hs.out]; exact decide_eq_true hneg
    have hgv : Hid (-((Nat.gcd m.natAbs n.natAbs : Nat) : Int) = G) := by unfold Hid; rw [← HGG.out]; unfold lowG; rw [if_pos hneg]
    clear hs hneg
    go_wp2_with fail
    with_reducible refine xturned_any g (Nat.gcd m.natAbs n.natAbs : Nat) T1.out hgl3.out _ _ fun g2 hg2 => ?_
    rw [hgv.out] at hg2
    have T2 := Lib.hid hg2
    clear hg2
    have hss : Tx ⟨#[47]⟩ [47] := rfl
    go_wp2_with fail
    with_reducible refine xparted_any a g2 m G HA.out T2.out HM.out hGl.out hG.out _ _ fun q3 r3 w3 hb3 hq3 _ => ?_
    have B3 : Hid (Below w.heap.size w w3) := B1.out.trans (hb3.mono B1.out.size)
    have T3 : Hid (Txt q3 (Rat.divInt m n).num) := by unfold Hid; rw [← hlow.out.1]; exact hq3
    clear hb3 hq3
    go_wp2_with fail
    with_reducible refine xparted_any b g2 n G HB.out T2.out HN.out hGl.out hG.out _ _ fun q4 r4 w4 hb4 hq4 _ => ?_
    have B4 : Hid (Below w.heap.size w w4) := B3.out.trans (hb4.mono B3.out.size)
    have T4 : Hid (Txt q4 ((Rat.divInt m n).den : Int)) := by unfold Hid; rw [← hlow.out.2]; exact hq4
    clear hb4 hq4
    have K1 := T4.out.beqL 1 itoa_1
    have X3 : Tx q3 (Lib.itoa (Rat.divInt m n).num) := T3.out
    have X4 : Tx q4 (Lib.decDigits (Rat.divInt m n).den) := Txt.dec T4.out
    by_cases h1 : (Rat.divInt m n).den = 1
    · rw [decide_eq_true (show ((Rat.divInt m n).den : Int) = 1 by omega)] at K1
      have TT : Hid (TxR q3 (Rat.divInt m n)) := by unfold Hid TxR rtL; rw [if_pos h1, List.append_nil]; exact X3
      clear h1 X3 X4
      go_wp2_with fail
      exact ret_str (HR.out q3 _ B4.out TT.out) rfl
    · rw [decide_eq_false (show ¬ ((Rat.divInt m n).den : Int) = 1 by omega)] at K1
      have a1 := X3.add_run (P := Tryz.prog) hss (by have := ln.out; simp; omega)
      obtain ⟨s1, hs1⟩ : ∃ z, tB (Lib.itoa (Rat.divInt m n).num ++ [47]) = z := ⟨_, rfl⟩
      have Y1 : Tx s1 (Lib.itoa (Rat.divInt m n).num ++ [47]) := by rw [← hs1]; exact Tx.of _
      rw [hs1] at a1
      have a2 := Y1.add_run (P := Tryz.prog) X4 (by have := ln.out; have := ld.out; simp; omega)
      obtain ⟨s2, hs2⟩ : ∃ z, tB (Lib.itoa (Rat.divInt m n).num ++ [47] ++ Lib.decDigits (Rat.divInt m n).den) = z := ⟨_, rfl⟩
      have TT : Hid (TxR s2 (Rat.divInt m n)) := by
        unfold Hid TxR rtL
        rw [if_neg h1, ← hs2, show Lib.itoa (Rat.divInt m n).num ++ 47 :: Lib.decDigits (Rat.divInt m n).den = Lib.itoa (Rat.divInt m n).num ++ [47] ++ Lib.decDigits (Rat.divInt m n).den from by simp]; exact Tx.of _
      rw [hs2] at a2
      clear h1 X3 X4 Y1 hs1 hs2 hss
      go_wp2_with fail
      exact ret_str (HR.out s2 _ B4.out TT.out) rfl
  · obtain rfl : s = false := by rw [hs.out]; exact decide_eq_false hneg
    have hgv : Hid (((Nat.gcd m.natAbs n.natAbs : Nat) : Int) = G) := by unfold Hid; rw [← HGG.out]; unfold lowG; rw [if_neg hneg]
    have T2 : Hid (Txt g G) := by unfold Hid; rw [← hgv.out]; exact T1.out
    clear hs hneg
    have hss : Tx ⟨#[47]⟩ [47] := rfl
    go_wp2_with fail
    with_reducible refine xparted_any a g m G HA.out T2.out HM.out hGl.out hG.out _ _ fun q3 r3 w3 hb3 hq3 _ => ?_
    have B3 : Hid (Below w.heap.size w w3) := B1.out.trans (hb3.mono B1.out.size)
    have T3 : Hid (Txt q3 (Rat.divInt m n).num) := by unfold Hid; rw [← hlow.out.1]; exact hq3
    clear hb3 hq3
    go_wp2_with fail
    with_reducible refine xparted_any b g n G HB.out T2.out HN.out hGl.out hG.out _ _ fun q4 r4 w4 hb4 hq4 _ => ?_
    have B4 : Hid (Below w.heap.size w w4) := B3.out.trans (hb4.mono B3.out.size)
    have T4 : Hid (Txt q4 ((Rat.divInt m n).den : Int)) := by unfold Hid; rw [← hlow.out.2]; exact hq4
    clear hb4 hq4
    have K1 := T4.out.beqL 1 itoa_1
    have X3 : Tx q3 (Lib.itoa (Rat.divInt m n).num) := T3.out
    have X4 : Tx q4 (Lib.decDigits (Rat.divInt m n).den) := Txt.dec T4.out
    by_cases h1 : (Rat.divInt m n).den = 1
    · rw [decide_eq_true (show ((Rat.divInt m n).den : Int) = 1 by omega)] at K1
      have TT : Hid (TxR q3 (Rat.divInt m n)) := by unfold Hid TxR rtL; rw [if_pos h1, List.append_nil]; exact X3
      clear h1 X3 X4
      go_wp2_with fail
      exact ret_str (HR.out q3 _ B4.out TT.out) rfl
    · rw [decide_eq_false (show ¬ ((Rat.divInt m n).den : Int) = 1 by omega)] at K1
      have a1 := X3.add_run (P := Tryz.prog) hss (by have := ln.out; simp; omega)
      obtain ⟨s1, hs1⟩ : ∃ z, tB (Lib.itoa (Rat.divInt m n).num ++ [47]) = z := ⟨_, rfl⟩
      have Y1 : Tx s1 (Lib.itoa (Rat.divInt m n).num ++ [47]) := by rw [← hs1]; exact Tx.of _
      rw [hs1] at a1
      have a2 := Y1.add_run (P := Tryz.prog) X4 (by have := ln.out; have := ld.out; simp; omega)
      obtain ⟨s2, hs2⟩ : ∃ z, tB (Lib.itoa (Rat.divInt m n).num ++ [47] ++ Lib.decDigits (Rat.divInt m n).den) = z := ⟨_, rfl⟩
      have TT : Hid (TxR s2 (Rat.divInt m n)) := by
        unfold Hid TxR rtL
        rw [if_neg h1, ← hs2, show Lib.itoa (Rat.divInt m n).num ++ 47 :: Lib.decDigits (Rat.divInt m n).den = Lib.itoa (Rat.divInt m n).num ++ [47] ++ Lib.decDigits (Rat.divInt m n).den from by simp]; exact Tx.of _
      rw [hs2] at a2
      clear h1 X3 X4 Y1 hs1 hs2 hss
      go_wp2_with fail
      exact ret_str (HR.out s2 _ B4.out TT.out) rfl
set_option maxHeartbeats 2000000 in
theorem yover_any (m n : Int) (h0 : -4611686018427387904 ≤ m) (h1 : m ≤ 4611686018427387904) (h2 : -4611686018427387904 ≤ n) (h3 : n ≤ 4611686018427387904) (hn : n ≠ 0) (w : World) (R : Ending → World → Prop) (hR : ∀ r w', Below w.heap.size w w' → TxR r (Rat.divInt m n) → R (.returned (.string r)) w') :
    Calls Tryz.prog 39 #[.int .i64 m, .int .i64 n] w R := by
  have HR := Lib.hid hR
  have l1 : Hid (lenI m ≤ 1400) := Nat.le_trans (lenI_64 (by omega) (by omega)) (by decide)
  have l2 : Hid (lenI n ≤ 1400) := Nat.le_trans (lenI_64 (by omega) (by omega)) (by decide)
  have HN := Lib.hid hn
  clear hR hn
  go_enter Tryz.func39, Tryz.ntmps39
  go_wp2_with fail
  with_reducible refine xof_any m h0 h1 _ _ fun a w1 hb1 hr1 => ?_
  have B1 := Lib.hid hb1
  have T1 := Lib.hid hr1
  clear hb1 hr1
  go_wp2_with fail
  with_reducible refine xof_any n h2 h3 _ _ fun b w2 hb2 hr2 => ?_
  have B2 : Hid (Below w.heap.size w w2) := B1.out.trans (hb2.mono B1.out.size)
  have T2 := Lib.hid hr2
  clear hb2 hr2
  go_wp2_with fail
  with_reducible refine ylowest_any a b m n T1.out T2.out l1.out l2.out HN.out _ _ fun r w3 hb3 hr3 => ?_
  have B3 : Hid (Below w.heap.size w w3) := B2.out.trans (hb3.mono B2.out.size)
  have T3 := Lib.hid hr3
  clear hb3 hr3
  go_wp2_with fail
  exact ret_str (HR.out r _ B3.out T3.out) rfl
set_option maxHeartbeats 1000000 in
theorem ywhole_any (m : Int) (h0 : -4611686018427387904 ≤ m) (h1 : m ≤ 4611686018427387904) (w : World) (R : Ending → World → Prop) (hR : ∀ r w', Below w.heap.size w w' → TxR r (m : Rat) → R (.returned (.string r)) w') :
    Calls Tryz.prog 38 #[.int .i64 m] w R := by
  have HR := Lib.hid hR
  clear hR
  go_enter Tryz.func38, Tryz.ntmps38
  go_wp2_with fail
  with_reducible refine xof_any m h0 h1 _ _ fun a w1 hb1 hr1 => ?_
  have B1 := Lib.hid hb1
  have T1 : Hid (TxR a (m : Rat)) := by unfold Hid TxR; rw [rat_int]; exact hr1
  clear hb1 hr1
  go_wp2_with fail
  exact ret_str (HR.out a _ B1.out T1.out) rfl
theorem SmR.len {q : Rat} (h : SmR 500 q) : lenI q.num ≤ 500 ∧ lenI (q.den : Int) ≤ 500 := ⟨(lenI_le (by decide)).2 h.1, (lenI_le (by decide)).2 (by rw [Int.natAbs_natCast]; exact h.2)⟩
set_option maxHeartbeats 1000000 in
theorem ysignum_any (a : ByteArray) (q : Rat) (ha : TxR a q) (hs : SmR 500 q) (w : World) (R : Ending → World → Prop) (hR : ∀ w', Below w.heap.size w w' → R (.returned (.int .i64 (cmpI q.num 0))) w') :
    Calls Tryz.prog 60 #[.string a] w R := by
  have HR := Lib.hid hR
  have l1 : Hid (lenI q.num ≤ 1500) := Nat.le_trans hs.len.1 (by decide)
  have l0 : Hid (lenI 0 ≤ 1500) := by unfold Hid; decide +kernel
  have T0 : Hid (Txt ⟨#[48]⟩ 0) := Txt.zero
  clear hR
  go_enter Tryz.func60, Tryz.ntmps60
  go_wp2_with fail
  with_reducible refine ysplit_any a q ha hs _ _ fun n d w1 hb1 hn hd => ?_
  have B1 := Lib.hid hb1
  have TN := Lib.hid hn
  clear hb1 hn hd ha hs
  go_wp2_with fail
  with_reducible refine xorder_any n ⟨#[48]⟩ q.num 0 TN.out T0.out l1.out l0.out _ _ fun w2 hb2 => ?_
  have B2 : Hid (Below w.heap.size w w2) := B1.out.trans (hb2.mono B1.out.size)
  clear hb2
  go_wp2_with fail
  exact ret_i (HR.out _ B2.out) rfl rfl
end Go.Proofs.YtcoombhcdcniiaaGreatDoor
namespace Go.Proofs.YtcoombhcdcniiaaGreatDoor
open Go.RowKit

set_option exponentiation.threshold 4000 in
theorem len_mul {m n : Int} (hm : lenI m ≤ 500) (hn : lenI n ≤ 500) : lenI (m * n) ≤ 1000 := by
  rw [lenI_le (by decide)] at *
  rw [Int.natAbs_mul, show (10 : Nat) ^ 1000 = 10 ^ 500 * 10 ^ 500 from by rw [← Nat.pow_add]]
  exact Nat.mul_lt_mul'' hm hn
set_option exponentiation.threshold 4000 in
theorem len_add {m n : Int} (hm : lenI m ≤ 1000) (hn : lenI n ≤ 1000) : lenI (m + n) ≤ 1400 ∧ lenI (m - n) ≤ 1400 := by
  rw [lenI_le (by decide)] at hm hn
  have e : (10 : Nat) ^ 1400 = 10 ^ 400 * 10 ^ 1000 := by rw [← Nat.pow_add]
  have e2 : 2 ≤ (10 : Nat) ^ 400 := by
    have : (10 : Nat) ^ 1 ≤ 10 ^ 400 := Nat.pow_le_pow_right (by decide) (by decide)
    omega
  have h3 : 2 * 10 ^ 1000 ≤ (10 : Nat) ^ 400 * 10 ^ 1000 := Nat.mul_le_mul_right _ e2
  constructor <;> rw [lenI_le (by decide), e] <;> omega
/-- The products crosswise, as they lie in a block. -/
structure Crs (w : World) (b : Nat) (p q : Rat) (r0 r1 r2 r3 r4 : ByteArray) : Prop where
  blk : w.heap[b]? = some (.cells #[.string r0, .string r1, .string r2, .string r3, .string r4] 84 (0, 0))
  t0 : Txt r0 (p.num * (q.den : Int))
  t1 : Txt r1 (q.num * (p.den : Int))
  t2 : Txt r2 ((p.den : Int) * (q.den : Int))
  t3 : Txt r3 (p.num * q.num)
  t4 : Txt r4 ((p.den : Int) * q.num)
set_option maxHeartbeats 4000000 in
theorem ycrossed_any (a b : ByteArray) (p q : Rat) (ha : TxR a p) (hb : TxR b q) (hp : SmR 500 p) (hq : SmR 500 q) (w : World) (R : Ending → World → Prop)
   (hR : ∀ bk r0 r1 r2 r3 r4 w', Below w.heap.size w w' → Crs w' bk p q r0 r1 r2 r3 r4 → R (.returned (.slice (some ⟨bk, 0, none⟩) 5 5)) w') :
    Calls Tryz.prog 87 #[.string a, .string b] w R := by
  have HR := Lib.hid hR
  have pn : Hid (lenI p.num ≤ 1500) := Nat.le_trans hp.len.1 (by decide)
  have pd : Hid (lenI (p.den : Int) ≤ 1500) := Nat.le_trans hp.len.2 (by decide)
  have qn : Hid (lenI q.num ≤ 1500) := Nat.le_trans hq.len.1 (by decide)
  have qd : Hid (lenI (q.den : Int) ≤ 1500) := Nat.le_trans hq.len.2 (by decide)
  have HP := Lib.hid hp
  have HQ := Lib.hid hq
  have HA := Lib.hid ha
  have HB := Lib.hid hb
  clear hR ha hb hp hq
  go_enter Tryz.func87, Tryz.ntmps87
  go_wp2_with fail
  with_reducible refine ysplit_any a p HA.out HP.out _ _ fun n d w1 hb1 hn hd => ?_
  have B1 := Lib.hid hb1
  have TN := Lib.hid hn
  have TD := Lib.hid hd
  clear hb1 hn hd
  go_wp2_with fail
  with_reducible refine ysplit_any b q HB.out HQ.out _ _ fun m e w2 hb2 hn hd => ?_
  have B2 : Hid (Below w.heap.size w w2) := B1.out.trans (hb2.mono B1.out.size)
  have TM := Lib.hid hn
  have TE := Lib.hid hd
  clear hb2 hn hd
  go_wp2_with fail
  with_reducible refine xtimes_any n e p.num (q.den : Int) TN.out TE.out pn.out qd.out _ _ fun r0 w3 hb hr => ?_
  have B3 : Hid (Below w.heap.size w w3) := B2.out.trans (hb.mono B2.out.size)
  have T0 := Lib.hid hr
  clear hb hr
  go_wp2_with fail
  with_reducible refine xtimes_any m d q.num (p.den : Int) TM.out TD.out qn.out pd.out _ _ fun r1 w4 hb hr => ?_
  have B4 : Hid (Below w.heap.size w w4) := B3.out.trans (hb.mono B3.out.size)
  have T1 := Lib.hid hr
  clear hb hr
  go_wp2_with fail
  with_reducible refine xtimes_any d e (p.den : Int) (q.den : Int) TD.out TE.out pd.out qd.out _ _ fun r2 w5 hb hr => ?_
  have B5 : Hid (Below w.heap.size w w5) := B4.out.trans (hb.mono B4.out.size)
  have T2 := Lib.hid hr
  clear hb hr
  go_wp2_with fail
  with_reducible refine xtimes_any n m p.num q.num TN.out TM.out pn.out qn.out _ _ fun r3 w6 hb hr => ?_
  have B6 : Hid (Below w.heap.size w w6) := B5.out.trans (hb.mono B5.out.size)
  have T3 := Lib.hid hr
  clear hb hr
  go_wp2_with fail
  with_reducible refine xtimes_any d m (p.den : Int) q.num TD.out TM.out pd.out qn.out _ _ fun r4 w7 hb hr => ?_
  have B7 : Hid (Below w.heap.size w w7) := B6.out.trans (hb.mono B6.out.size)
  have T4 := Lib.hid hr
  clear hb hr
  obtain ⟨w8, E8, HB8, s8, X8⟩ := box_ex w7 #[.string r0, .string r1, .string r2, .string r3, .string r4] 84
  have B8 : Hid (Below w.heap.size w w8) := B7.out.trans (HB8.out.mono B7.out.size)
  have HC : Hid (Crs w8 w7.heap.size p q r0 r1 r2 r3 r4) := ⟨X8.out, T0.out, T1.out, T2.out, T3.out, T4.out⟩
  go_wp2_with (rw [E8])
  exact HR.out _ _ _ _ _ _ _ B8.out HC.out
set_option maxRecDepth 100000 in
set_option maxHeartbeats 4000000 in
theorem yminus_any (a b : ByteArray) (p q : Rat) (ha : TxR a p) (hb : TxR b q) (hp : SmR 500 p) (hq : SmR 500 q) (w : World) (R : Ending → World → Prop) (hR : ∀ r w', Below w.heap.size w w' → TxR r (p - q) → R (.returned (.string r)) w') :
    Calls Tryz.prog 82 #[.string a, .string b] w R := by
  have HR := Lib.hid hR
  have hval := Lib.hid (rat_sub p q)
  have hpl := hp.len
  have hql := hq.len
  have hdn : Hid ((p.den : Int) * (q.den : Int) ≠ 0) := by
    have h1 := p.den_pos
    have h2 := q.den_pos
    unfold Hid
    exact Int.mul_ne_zero (by omega) (by omega)
  have l1 : Hid (lenI (p.num * (q.den : Int)) ≤ 1500) := Nat.le_trans (len_mul hpl.1 hql.2) (by decide)
  have l2 : Hid (lenI (q.num * (p.den : Int)) ≤ 1500) := Nat.le_trans (len_mul hql.1 hpl.2) (by decide)
  have l3 : Hid (lenI (p.num * (q.den : Int) - q.num * (p.den : Int)) ≤ 1400) := (len_add (len_mul hpl.1 hql.2) (len_mul hql.1 hpl.2)).2
  have l4 : Hid (lenI ((p.den : Int) * (q.den : Int)) ≤ 1400) := Nat.le_trans (len_mul hpl.2 hql.2) (by decide)
  clear hR hpl hql
  go_enter Tryz.func82, Tryz.ntmps82
  go_wp2_with fail
  with_reducible refine ycrossed_any a b p q ha hb hp hq _ _ fun bk r0 r1 r2 r3 r4 w1 hb1 hc => ?_
  have B1 : Hid (Below w.heap.size w w1.drew) := hb1.drew
  have HC := Lib.hid hc
  have c0 : w1.drew.cell? ⟨bk, 0, none⟩ = some (.string r0) := cell_at hc.blk (j := 0) (v := .string r0) rfl
  have c1 : w1.drew.cell? ⟨bk, 1, none⟩ = some (.string r1) := cell_at hc.blk (j := 1) (v := .string r1) rfl
  have c2 : w1.drew.cell? ⟨bk, 2, none⟩ = some (.string r2) := cell_at hc.blk (j := 2) (v := .string r2) rfl
  clear hb1 hc ha hb hp hq
  go_wp2_with fail
  refine regionL [0, 1, 2, 3, 4, 5, 7, 8, 9] (fun w' => w'.cell? ⟨bk, 0, none⟩ = some (.string r0) ∧ w'.cell? ⟨bk, 1, none⟩ = some (.string r1) ∧ w'.cell? ⟨bk, 2, none⟩ = some (.string r2)) (by kernel_rfl) (⟨c0, c1, c2⟩) (fun Qn hPQ hQn hS0 => ?_)
  iterate 9 (refine takeL (v := ?_) rfl rfl (by kernel_rfl) (by kernel_rfl) (by kernel_rfl) hPQ hS0 (by kernel_rfl) ?_ ?_; rotate_left; (focus (intro w hSw; (try dsimp only at hSw); obtain ⟨k0, k1, k2⟩ := hSw; go_simp; (try with_reducible rfl))); (try simp only [Act.put, List.setIfInBounds_toArray, List.set_cons_zero, List.set_cons_succ]))
  refine ofL (wpAnyH_ready (rs := [6]) (by kernel_rfl) (by simp) ?_)
  refine AllReadyH.cons (o := _) rfl (fun K hK => ?_) AllReadyH.nil
  go_simp
  with_reducible refine xminus_any r0 r1 _ _ HC.out.t0 HC.out.t1 l1.out l2.out _ _ fun s w2 hb2 hs => ?_
  have B2 : Hid (Below w.heap.size w w2) := B1.out.trans (hb2.mono B1.out.size)
  have d0 : w2.cell? ⟨bk, 0, none⟩ = some (.string r0) := cellB hb2 c0 (lt_of_cell' c0)
  have d1 : w2.cell? ⟨bk, 1, none⟩ = some (.string r1) := cellB hb2 c1 (lt_of_cell' c1)
  have d2 : w2.cell? ⟨bk, 2, none⟩ = some (.string r2) := cellB hb2 c2 (lt_of_cell' c2)
  have TS := Lib.hid hs
  clear hb2 hs
  refine hK.out _ _ (⟨d0, d1, d2⟩) (fun hS1 => toL [] ?_)
  clear hK K hS0
  (try simp only [Act.put, List.setIfInBounds_toArray, List.set_cons_zero, List.set_cons_succ])
  refine ofL (wpAnyH_ready (rs := [10]) (by kernel_rfl) (by simp) ?_)
  refine AllReadyH.cons (o := _) rfl (fun K hK => ?_) AllReadyH.nil
  go_simp
  with_reducible refine ylowest_any s r2 _ _ TS.out HC.out.t2 l3.out l4.out hdn.out _ _ fun r w3 hb3 hr => ?_
  have B3 : Hid (Below w.heap.size w w3) := B2.out.trans (hb3.mono B2.out.size)
  have e0 : w3.cell? ⟨bk, 0, none⟩ = some (.string r0) := cellB hb3 d0 (lt_of_cell' d0)
  have e1 : w3.cell? ⟨bk, 1, none⟩ = some (.string r1) := cellB hb3 d1 (lt_of_cell' d1)
  have e2 : w3.cell? ⟨bk, 2, none⟩ = some (.string r2) := cellB hb3 d2 (lt_of_cell' d2)
  rw [hval.out] at hr
  have TR := Lib.hid hr
  clear hb3 hr
  refine hK.out _ _ (⟨e0, e1, e2⟩) (fun hS2 => toL [11] ?_)
  clear hK K hS1
  (try simp only [Act.put, List.setIfInBounds_toArray, List.set_cons_zero, List.set_cons_succ])
  iterate 1 (refine takeL (v := ?_) rfl rfl (by kernel_rfl) (by kernel_rfl) (by kernel_rfl) hPQ hS2 (by kernel_rfl) ?_ ?_; rotate_left; (focus (intro w hSw; (try dsimp only at hSw); obtain ⟨k0, k1, k2⟩ := hSw; go_simp; (try with_reducible rfl))); (try simp only [Act.put, List.setIfInBounds_toArray, List.set_cons_zero, List.set_cons_succ]))
  refine ofL (wpAnyH_done (by kernel_rfl) (hQn.out _ _ ?_) _)
  clear hS2 hPQ hQn Qn
  go_wp2_with fail
  exact ret_str (HR.out r _ B3.out TR.out) rfl
set_option maxRecDepth 100000 in
set_option maxHeartbeats 4000000 in
theorem yplus_any (a b : ByteArray) (p q : Rat) (ha : TxR a p) (hb : TxR b q) (hp : SmR 500 p) (hq : SmR 500 q) (w : World) (R : Ending → World → Prop) (hR : ∀ r w', Below w.heap.size w w' → TxR r (p + q) → R (.returned (.string r)) w') :
    Calls Tryz.prog 83 #[.string a, .string b] w R := by
  have HR := Lib.hid hR
  have hval := Lib.hid (rat_add p q)
  have hpl := hp.len
  have hql := hq.len
  have hdn : Hid ((p.den : Int) * (q.den : Int) ≠ 0) := by
    have h1 := p.den_pos
    have h2 := q.den_pos
    unfold Hid
    exact Int.mul_ne_zero (by omega) (by omega)
  have l1 : Hid (lenI (p.num * (q.den : Int)) ≤ 1500) := Nat.le_trans (len_mul hpl.1 hql.2) (by decide)
  have l2 : Hid (lenI (q.num * (p.den : Int)) ≤ 1500) := Nat.le_trans (len_mul hql.1 hpl.2) (by decide)
  have l3 : Hid (lenI (p.num * (q.den : Int) + q.num * (p.den : Int)) ≤ 1400) := (len_add (len_mul hpl.1 hql.2) (len_mul hql.1 hpl.2)).1
  have l4 : Hid (lenI ((p.den : Int) * (q.den : Int)) ≤ 1400) := Nat.le_trans (len_mul hpl.2 hql.2) (by decide)
  clear hR hpl hql
  go_enter Tryz.func83, Tryz.ntmps83
  go_wp2_with fail
  with_reducible refine ycrossed_any a b p q ha hb hp hq _ _ fun bk r0 r1 r2 r3 r4 w1 hb1 hc => ?_
  have B1 : Hid (Below w.heap.size w w1.drew) := hb1.drew
  have HC := Lib.hid hc
  have c0 : w1.drew.cell? ⟨bk, 0, none⟩ = some (.string r0) := cell_at hc.blk (j := 0) (v := .string r0) rfl
  have c1 : w1.drew.cell? ⟨bk, 1, none⟩ = some (.string r1) := cell_at hc.blk (j := 1) (v := .string r1) rfl
  have c2 : w1.drew.cell? ⟨bk, 2, none⟩ = some (.string r2) := cell_at hc.blk (j := 2) (v := .string r2) rfl
  clear hb1 hc ha hb hp hq
  go_wp2_with fail
  refine regionL [0, 1, 2, 3, 4, 5, 7, 8, 9] (fun w' => w'.cell? ⟨bk, 0, none⟩ = some (.string r0) ∧ w'.cell? ⟨bk, 1, none⟩ = some (.string r1) ∧ w'.cell? ⟨bk, 2, none⟩ = some (.string r2)) (by kernel_rfl) (⟨c0, c1, c2⟩) (fun Qn hPQ hQn hS0 => ?_)
  iterate 9 (refine takeL (v := ?_) rfl rfl (by kernel_rfl) (by kernel_rfl) (by kernel_rfl) hPQ hS0 (by kernel_rfl) ?_ ?_; rotate_left; (focus (intro w hSw; (try dsimp only at hSw); obtain ⟨k0, k1, k2⟩ := hSw; go_simp; (try with_reducible rfl))); (try simp only [Act.put, List.setIfInBounds_toArray, List.set_cons_zero, List.set_cons_succ]))
  refine ofL (wpAnyH_ready (rs := [6]) (by kernel_rfl) (by simp) ?_)
  refine AllReadyH.cons (o := _) rfl (fun K hK => ?_) AllReadyH.nil
  go_simp
  with_reducible refine xplus_any r0 r1 _ _ HC.out.t0 HC.out.t1 l1.out l2.out _ _ fun s w2 hb2 hs => ?_
  have B2 : Hid (Below w.heap.size w w2) := B1.out.trans (hb2.mono B1.out.size)
  have d0 : w2.cell? ⟨bk, 0, none⟩ = some (.string r0) := cellB hb2 c0 (lt_of_cell' c0)
  have d1 : w2.cell? ⟨bk, 1, none⟩ = some (.string r1) := cellB hb2 c1 (lt_of_cell' c1)
  have d2 : w2.cell? ⟨bk, 2, none⟩ = some (.string r2) := cellB hb2 c2 (lt_of_cell' c2)
  have TS := Lib.hid hs
  clear hb2 hs
  refine hK.out _ _ (⟨d0, d1, d2⟩) (fun hS1 => toL [] ?_)
  clear hK K hS0
  (try simp only [Act.put, List.setIfInBounds_toArray, List.set_cons_zero, List.set_cons_succ])
  refine ofL (wpAnyH_ready (rs := [10]) (by kernel_rfl) (by simp) ?_)
  refine AllReadyH.cons (o := _) rfl (fun K hK => ?_) AllReadyH.nil
  go_simp
  with_reducible refine ylowest_any s r2 _ _ TS.out HC.out.t2 l3.out l4.out hdn.out _ _ fun r w3 hb3 hr => ?_
  have B3 : Hid (Below w.heap.size w w3) := B2.out.trans (hb3.mono B2.out.size)
  have e0 : w3.cell? ⟨bk, 0, none⟩ = some (.string r0) := cellB hb3 d0 (lt_of_cell' d0)
  have e1 : w3.cell? ⟨bk, 1, none⟩ = some (.string r1) := cellB hb3 d1 (lt_of_cell' d1)
  have e2 : w3.cell? ⟨bk, 2, none⟩ = some (.string r2) := cellB hb3 d2 (lt_of_cell' d2)
  rw [hval.out] at hr
  have TR := Lib.hid hr
  clear hb3 hr
  refine hK.out _ _ (⟨e0, e1, e2⟩) (fun hS2 => toL [11] ?_)
  clear hK K hS1
  (try simp only [Act.put, List.setIfInBounds_toArray, List.set_cons_zero, List.set_cons_succ])
  iterate 1 (refine takeL (v := ?_) rfl rfl (by kernel_rfl) (by kernel_rfl) (by kernel_rfl) hPQ hS2 (by kernel_rfl) ?_ ?_; rotate_left; (focus (intro w hSw; (try dsimp only at hSw); obtain ⟨k0, k1, k2⟩ := hSw; go_simp; (try with_reducible rfl))); (try simp only [Act.put, List.setIfInBounds_toArray, List.set_cons_zero, List.set_cons_succ]))
  refine ofL (wpAnyH_done (by kernel_rfl) (hQn.out _ _ ?_) _)
  clear hS2 hPQ hQn Qn
  go_wp2_with fail
  exact ret_str (HR.out r _ B3.out TR.out) rfl
set_option maxRecDepth 100000 in
set_option maxHeartbeats 4000000 in
theorem ytimes_any (a b : ByteArray) (p q : Rat) (ha : TxR a p) (hb : TxR b q) (hp : SmR 500 p) (hq : SmR 500 q) (w : World) (R : Ending → World → Prop) (hR : ∀ r w', Below w.heap.size w w' → TxR r (p * q) → R (.returned (.string r)) w') :
    Calls Tryz.prog 56 #[.string a, .string b] w R := by
  have HR := Lib.hid hR
  have hval := Lib.hid (rat_mul p q)
  have hpl := hp.len
  have hql := hq.len
  have hdn : Hid ((p.den : Int) * (q.den : Int) ≠ 0) := by
    have h1 := p.den_pos
    have h2 := q.den_pos
    unfold Hid
    exact Int.mul_ne_zero (by omega) (by omega)
  have l3 : Hid (lenI (p.num * q.num) ≤ 1400) := Nat.le_trans (len_mul hpl.1 hql.1) (by decide)
  have l4 : Hid (lenI ((p.den : Int) * (q.den : Int)) ≤ 1400) := Nat.le_trans (len_mul hpl.2 hql.2) (by decide)
  clear hR hpl hql
  go_enter Tryz.func56, Tryz.ntmps56
  go_wp2_with fail
  with_reducible refine ycrossed_any a b p q ha hb hp hq _ _ fun bk r0 r1 r2 r3 r4 w1 hb1 hc => ?_
  have B1 : Hid (Below w.heap.size w w1.drew) := hb1.drew
  have HC := Lib.hid hc
  have c2 : w1.drew.cell? ⟨bk, 2, none⟩ = some (.string r2) := cell_at hc.blk (j := 2) (v := .string r2) rfl
  have c3 : w1.drew.cell? ⟨bk, 3, none⟩ = some (.string r3) := cell_at hc.blk (j := 3) (v := .string r3) rfl
  clear hb1 hc ha hb hp hq
  go_wp2_with fail
  refine regionL [0, 1, 2, 3, 4, 5] (fun w' => w'.cell? ⟨bk, 2, none⟩ = some (.string r2) ∧ w'.cell? ⟨bk, 3, none⟩ = some (.string r3)) (by kernel_rfl) (⟨c2, c3⟩) (fun Qn hPQ hQn hS0 => ?_)
  iterate 6 (refine takeL (v := ?_) rfl rfl (by kernel_rfl) (by kernel_rfl) (by kernel_rfl) hPQ hS0 (by kernel_rfl) ?_ ?_; rotate_left; (focus (intro w hSw; (try dsimp only at hSw); obtain ⟨k2, k3⟩ := hSw; go_simp; (try with_reducible rfl))); (try simp only [Act.put, List.setIfInBounds_toArray, List.set_cons_zero, List.set_cons_succ]))
  refine ofL (wpAnyH_ready (rs := [6]) (by kernel_rfl) (by simp) ?_)
  refine AllReadyH.cons (o := _) rfl (fun K hK => ?_) AllReadyH.nil
  go_simp
  with_reducible refine ylowest_any r3 r2 _ _ HC.out.t3 HC.out.t2 l3.out l4.out hdn.out _ _ fun r w3 hb3 hr => ?_
  have B3 : Hid (Below w.heap.size w w3) := B1.out.trans (hb3.mono B1.out.size)
  have e2 : w3.cell? ⟨bk, 2, none⟩ = some (.string r2) := cellB hb3 c2 (lt_of_cell' c2)
  have e3 : w3.cell? ⟨bk, 3, none⟩ = some (.string r3) := cellB hb3 c3 (lt_of_cell' c3)
  rw [hval.out] at hr
  have TR := Lib.hid hr
  clear hb3 hr
  refine hK.out _ _ (⟨e2, e3⟩) (fun hS1 => toL [7] ?_)
  clear hK K hS0
  (try simp only [Act.put, List.setIfInBounds_toArray, List.set_cons_zero, List.set_cons_succ])
  iterate 1 (refine takeL (v := ?_) rfl rfl (by kernel_rfl) (by kernel_rfl) (by kernel_rfl) hPQ hS1 (by kernel_rfl) ?_ ?_; rotate_left; (focus (intro w hSw; (try dsimp only at hSw); obtain ⟨k2, k3⟩ := hSw; go_simp; (try with_reducible rfl))); (try simp only [Act.put, List.setIfInBounds_toArray, List.set_cons_zero, List.set_cons_succ]))
  refine ofL (wpAnyH_done (by kernel_rfl) (hQn.out _ _ ?_) _)
  clear hS1 hPQ hQn Qn
  go_wp2_with fail
  exact ret_str (HR.out r _ B3.out TR.out) rfl
set_option maxRecDepth 100000 in
set_option maxHeartbeats 4000000 in
theorem yby_any (a b : ByteArray) (p q : Rat) (ha : TxR a p) (hb : TxR b q) (hp : SmR 500 p) (hq : SmR 500 q) (h0 : q ≠ 0) (w : World) (R : Ending → World → Prop) (hR : ∀ r w', Below w.heap.size w w' → TxR r (p / q) → R (.returned (.string r)) w') :
    Calls Tryz.prog 55 #[.string a, .string b] w R := by
  have HR := Lib.hid hR
  have hval := Lib.hid (rat_div p q)
  have hpl := hp.len
  have hql := hq.len
  have hdn : Hid ((p.den : Int) * q.num ≠ 0) := by
    have h1 := p.den_pos
    have h2 := q.den_pos
    unfold Hid
    exact Int.mul_ne_zero (by omega) (fun e => h0 (Rat.num_eq_zero.1 e))
  have l3 : Hid (lenI (p.num * (q.den : Int)) ≤ 1400) := Nat.le_trans (len_mul hpl.1 hql.2) (by decide)
  have l4 : Hid (lenI ((p.den : Int) * q.num) ≤ 1400) := Nat.le_trans (len_mul hpl.2 hql.1) (by decide)
  clear hR hpl hql h0
  go_enter Tryz.func55, Tryz.ntmps55
  go_wp2_with fail
  with_reducible refine ycrossed_any a b p q ha hb hp hq _ _ fun bk r0 r1 r2 r3 r4 w1 hb1 hc => ?_
  have B1 : Hid (Below w.heap.size w w1.drew) := hb1.drew
  have HC := Lib.hid hc
  have c0 : w1.drew.cell? ⟨bk, 0, none⟩ = some (.string r0) := cell_at hc.blk (j := 0) (v := .string r0) rfl
  have c4 : w1.drew.cell? ⟨bk, 4, none⟩ = some (.string r4) := cell_at hc.blk (j := 4) (v := .string r4) rfl
  clear hb1 hc ha hb hp hq
  go_wp2_with fail
  refine regionL [0, 1, 2, 3, 4, 5] (fun w' => w'.cell? ⟨bk, 0, none⟩ = some (.string r0) ∧ w'.cell? ⟨bk, 4, none⟩ = some (.string r4)) (by kernel_rfl) (⟨c0, c4⟩) (fun Qn hPQ hQn hS0 => ?_)
  iterate 6 (refine takeL (v := ?_) rfl rfl (by kernel_rfl) (by kernel_rfl) (by kernel_rfl) hPQ hS0 (by kernel_rfl) ?_ ?_; rotate_left; (focus (intro w hSw; (try dsimp only at hSw); obtain ⟨k0, k4⟩ := hSw; go_simp; (try with_reducible rfl))); (try simp only [Act.put, List.setIfInBounds_toArray, List.set_cons_zero, List.set_cons_succ]))
  refine ofL (wpAnyH_ready (rs := [6]) (by kernel_rfl) (by simp) ?_)
  refine AllReadyH.cons (o := _) rfl (fun K hK => ?_) AllReadyH.nil
  go_simp
  with_reducible refine ylowest_any r0 r4 _ _ HC.out.t0 HC.out.t4 l3.out l4.out hdn.out _ _ fun r w3 hb3 hr => ?_
  have B3 : Hid (Below w.heap.size w w3) := B1.out.trans (hb3.mono B1.out.size)
  have e0 : w3.cell? ⟨bk, 0, none⟩ = some (.string r0) := cellB hb3 c0 (lt_of_cell' c0)
  have e4 : w3.cell? ⟨bk, 4, none⟩ = some (.string r4) := cellB hb3 c4 (lt_of_cell' c4)
  rw [hval.out] at hr
  have TR := Lib.hid hr
  clear hb3 hr
  refine hK.out _ _ (⟨e0, e4⟩) (fun hS1 => toL [7] ?_)
  clear hK K hS0
  (try simp only [Act.put, List.setIfInBounds_toArray, List.set_cons_zero, List.set_cons_succ])
  iterate 1 (refine takeL (v := ?_) rfl rfl (by kernel_rfl) (by kernel_rfl) (by kernel_rfl) hPQ hS1 (by kernel_rfl) ?_ ?_; rotate_left; (focus (intro w hSw; (try dsimp only at hSw); obtain ⟨k0, k4⟩ := hSw; go_simp; (try with_reducible rfl))); (try simp only [Act.put, List.setIfInBounds_toArray, List.set_cons_zero, List.set_cons_succ]))
  refine ofL (wpAnyH_done (by kernel_rfl) (hQn.out _ _ ?_) _)
  clear hS1 hPQ hQn Qn
  go_wp2_with fail
  exact ret_str (HR.out r _ B3.out TR.out) rfl
set_option maxRecDepth 100000 in
set_option maxHeartbeats 4000000 in
theorem yorder_any (a b : ByteArray) (p q : Rat) (ha : TxR a p) (hb : TxR b q) (hp : SmR 500 p) (hq : SmR 500 q) (w : World) (R : Ending → World → Prop) (hR : ∀ w', Below w.heap.size w w' → R (.returned (.int .i64 (cmpR p q))) w') :
    Calls Tryz.prog 92 #[.string a, .string b] w R := by
  have HR := Lib.hid hR
  have hcm := Lib.hid (cmpR_eq p q)
  have hpl := hp.len
  have hql := hq.len
  have l1 : Hid (lenI (p.num * (q.den : Int)) ≤ 1500) := Nat.le_trans (len_mul hpl.1 hql.2) (by decide)
  have l2 : Hid (lenI (q.num * (p.den : Int)) ≤ 1500) := Nat.le_trans (len_mul hql.1 hpl.2) (by decide)
  clear hR hpl hql
  go_enter Tryz.func92, Tryz.ntmps92
  go_wp2_with fail
  with_reducible refine ycrossed_any a b p q ha hb hp hq _ _ fun bk r0 r1 r2 r3 r4 w1 hb1 hc => ?_
  have B1 : Hid (Below w.heap.size w w1.drew) := hb1.drew
  have HC := Lib.hid hc
  have c0 : w1.drew.cell? ⟨bk, 0, none⟩ = some (.string r0) := cell_at hc.blk (j := 0) (v := .string r0) rfl
  have c1 : w1.drew.cell? ⟨bk, 1, none⟩ = some (.string r1) := cell_at hc.blk (j := 1) (v := .string r1) rfl
  clear hb1 hc ha hb hp hq
  go_wp2_with fail
  refine regionL [0, 1, 2, 3, 4, 5] (fun w' => w'.cell? ⟨bk, 0, none⟩ = some (.string r0) ∧ w'.cell? ⟨bk, 1, none⟩ = some (.string r1)) (by kernel_rfl) (⟨c0, c1⟩) (fun Qn hPQ hQn hS0 => ?_)
  iterate 6 (refine takeL (v := ?_) rfl rfl (by kernel_rfl) (by kernel_rfl) (by kernel_rfl) hPQ hS0 (by kernel_rfl) ?_ ?_; rotate_left; (focus (intro w hSw; (try dsimp only at hSw); obtain ⟨k0, k1⟩ := hSw; go_simp; (try with_reducible rfl))); (try simp only [Act.put, List.setIfInBounds_toArray, List.set_cons_zero, List.set_cons_succ]))
  refine ofL (wpAnyH_ready (rs := [6]) (by kernel_rfl) (by simp) ?_)
  refine AllReadyH.cons (o := _) rfl (fun K hK => ?_) AllReadyH.nil
  go_simp
  with_reducible refine xorder_any r0 r1 _ _ HC.out.t0 HC.out.t1 l1.out l2.out _ _ fun w2 hb2 => ?_
  have B2 : Hid (Below w.heap.size w w2) := B1.out.trans (hb2.mono B1.out.size)
  have d0 : w2.cell? ⟨bk, 0, none⟩ = some (.string r0) := cellB hb2 c0 (lt_of_cell' c0)
  have d1 : w2.cell? ⟨bk, 1, none⟩ = some (.string r1) := cellB hb2 c1 (lt_of_cell' c1)
  rw [hcm.out]
  clear hb2
  refine hK.out _ _ (⟨d0, d1⟩) (fun hS1 => toL [7] ?_)
  clear hK K hS0
  (try simp only [Act.put, List.setIfInBounds_toArray, List.set_cons_zero, List.set_cons_succ])
  iterate 1 (refine takeL (v := ?_) rfl rfl (by kernel_rfl) (by kernel_rfl) (by kernel_rfl) hPQ hS1 (by kernel_rfl) ?_ ?_; rotate_left; (focus (intro w hSw; (try dsimp only at hSw); obtain ⟨k0, k1⟩ := hSw; go_simp; (try with_reducible rfl))); (try simp only [Act.put, List.setIfInBounds_toArray, List.set_cons_zero, List.set_cons_succ]))
  refine ofL (wpAnyH_done (by kernel_rfl) (hQn.out _ _ ?_) _)
  clear hS1 hPQ hQn Qn
  go_wp2_with fail
  exact ret_i (HR.out _ B2.out) rfl rfl
end Go.Proofs.YtcoombhcdcniiaaGreatDoor
