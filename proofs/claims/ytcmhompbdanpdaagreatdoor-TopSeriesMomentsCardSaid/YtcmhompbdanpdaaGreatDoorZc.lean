/- limited, sum, Add, Mul of package whole, whatever the length of the result. (Printed by gen_long.py.) -/
import Derived.Test.YtcmhompbdanpdaaGreatDoorMwzc
namespace Go.Proofs.YtcmhompbdanpdaaGreatDoor
open Go.RowKit

/-- The error of a result: too long. -/
def lgE (z : Int) : Int := if lenI z ≤ 1024 then 0 else 11
theorem lgE_zero {z : Int} : lgE z = 0 ↔ lenI z ≤ 1024 := by
  unfold lgE
  by_cases h : lenI z ≤ 1024
  · rw [if_pos h]; exact ⟨fun _ => h, fun _ => rfl⟩
  · rw [if_neg h]; exact ⟨fun h2 => absurd h2 (by decide), fun h2 => absurd h2 h⟩
theorem lgE_small {z : Int} (h : z.natAbs ≤ 999999998000000001) : lgE z = 0 := lgE_zero.2 (Nat.le_trans ((lenI_le (k := 18) (by decide)).2 (Nat.lt_of_le_of_lt h (by decide))) (by decide))
theorem wcheckE_any (a : ByteArray) (n : Int) (ha : Txt a n) (hl : lenI n ≤ 100000) (w : World) (R : Ending → World → Prop) (hR : ∀ w', Below w.heap.size w w' → R (.returned (.int .i64 (lgE n))) w') :
    Calls Tryz.prog 154 #[.string a] w R := by
  refine wcheck_any a _ ha (by rw [ha.size]; split <;> omega) w R fun w' hb => ?_
  rw [ckT_itoa]
  exact hR w' hb
set_option exponentiation.threshold 4000 in
set_option maxHeartbeats 1000000 in
theorem limitedE_any (b v : Nat) (s : Bool) (w : World) (R : Ending → World → Prop) (hx : Wide w b s v) (hn : nw v ≤ 232) (hE : Env w) (hR : ∀ r w', Below w.heap.size w w' → (lgE (sV s v) = 0 → Txt r (sV s v)) → (lgE (sV s v) ≠ 0 → r = ⟨#[]⟩) → R (.returned (.tuple #[.string r, .int .i64 (lgE (sV s v))])) w') :
    Calls Tryz.prog 110 #[.pointer (some ⟨b, 0, none⟩)] w R := by
  have HR := Lib.hid hR
  have hlen : Hid (lenI (sV s v) ≤ 100000) := by
    have h1 := (nw_le 232 v).1 hn
    rw [← pow9, ← Nat.pow_mul] at h1
    have h2 : (sV s v).natAbs < 10 ^ 2088 := by
      have : (sV s v).natAbs = v := by unfold sV; split <;> simp
      rw [this]; exact h1
    exact Nat.le_trans ((lenI_le (k := 2088) (by decide)).2 h2) (by decide)
  clear hR
  go_enter Tryz.func110, Tryz.ntmps110
  go_wp2_with fail
  with_reducible refine text_any b v s _ _ hx hn hE fun r w1 hb hr => ?_
  have B1 := Lib.hid hb
  have T1 := Lib.hid hr
  clear hb hr hx hE
  go_wp2_with fail
  with_reducible refine wcheckE_any r _ T1.out hlen.out _ _ fun w2 hb => ?_
  have B2 : Hid (Below w.heap.size w w2) := B1.out.trans (hb.mono B1.out.size)
  clear hb
  obtain ⟨e, he⟩ : ∃ e, lgE (sV s v) = e := ⟨_, rfl⟩
  rw [he]
  rw [he] at HR
  by_cases h0 : e = 0
  · subst h0
    clear he
    go_wp2_with fail
    exact HR.out _ _ B2.out (fun _ => T1.out) (fun h => absurd rfl h)
  · have K : (e != 0) = true := by simpa using h0
    have H0 := Lib.hid h0
    clear he h0
    go_wp2_with fail
    exact HR.out _ _ B2.out (fun h => absurd h H0.out) (fun _ => rfl)
set_option maxHeartbeats 2000000 in
theorem wsumE_any (bk : Nat) (a b : ByteArray) (m n : Int) (ha : Txt a m) (hb : Txt b n) (hm : lenI m ≤ 1024) (hn : lenI n ≤ 1024) (w : World) (R : Ending → World → Prop) (h : w.heap[bk]? = some (.cells #[.string a, .string b] 61 (0, 0))) (hE : Env w)
   (hR : ∀ r w', Below w.heap.size w w' → (lgE (m + n) = 0 → Txt r (m + n)) → (lgE (m + n) ≠ 0 → r = ⟨#[]⟩) → R (.returned (.tuple #[.string r, .int .i64 (lgE (m + n))])) w') :
    Calls Tryz.prog 159 #[.slice (some ⟨bk, 0, none⟩) 2 2] w R := by
  have HR := Lib.hid hR
  have HA := Lib.hid ha
  have HB := Lib.hid hb
  have HM := Lib.hid hm
  have HN := Lib.hid hn
  have HE := Lib.hid hE
  have HH := Lib.hid h
  have hlt := lt_of_block h
  obtain ⟨bx, hbx⟩ : ∃ z, w.heap.size = z := ⟨_, rfl⟩
  obtain ⟨w1, E1, HB1, s1, X1⟩ := box_ex w Tryz.zeroCells184 184
  have W1 : Hid (Wide w1 bx false 0) := by have := zero_wide X1.out; rw [hbx] at this; exact this
  rw [hbx] at HB1 HR hlt s1
  have HLT := Lib.hid hlt
  have HBX := Lib.hid hbx
  have HS1 := Lib.hid s1
  have nm : Hid (nw m.natAbs ≤ 114) := nw_len (by omega) (by omega)
  have nn : Hid (nw n.natAbs ≤ 114) := nw_len (by omega) (by omega)
  clear hR ha hb hm hn h hE s1 hlt
  go_enter Tryz.func159, Tryz.ntmps159
  go_wp2_with (rw [E1])
  clear hbx
  go_loopw [11] (fun i wr => ∃ (k : Nat) (s : Bool) (v : Nat), i = .int .i64 k ∧ k ≤ 2 ∧ Hid (Below bx w wr) ∧ Hid (Wide wr bx s v) ∧ Hid (nw v ≤ 114 + k) ∧ Hid (sV s v = if k = 0 then 0 else if k = 1 then m else m + n)) (fun i _ => 2 - (intOf i).toNat)
  case atStart => exact ⟨0, false, 0, rfl, by omega, HB1, W1, by unfold Hid; rw [nw_zero]; omega, rfl⟩
  case round =>
    obtain ⟨k, s, v, rfl, hk, HBr, HW, HNV, HV⟩ := hrel
    have HHr : Hid (wr.heap[bk]? = some (.cells #[.string a, .string b] 61 (0, 0))) := (HBr.out.block bk HLT.out).trans HH.out
    have BXr := Lib.hid (lt_of_block HW.out)
    rcases (show k = 0 ∨ k = 1 ∨ k = 2 by omega) with rfl | rfl | rfl
    · skip
      have c0 := cell_at HHr.out (j := 0) (v := .string a) rfl
      have HV0 : Hid (sV s v = 0) := HV.out
      go_wp2_with fail
      with_reducible refine read_any a m HA.out (by have := HM.out; omega) _ _ fun w2 hb2 hw2 hs2 => ?_
      have HW2 : Hid (Wide w2 bx s v) := HW.out.below hb2
      have HY2 := Lib.hid hw2
      have B2 : Hid (Below bx w w2) := HBr.out.trans (hb2.mono (Nat.le_of_lt BXr.out))
      clear hb2 hw2 hs2
      go_wp2_with fail
      with_reducible refine plus_any bx _ v m.natAbs s _ _ _ HW2.out HY2.out (Nat.ne_of_gt BXr.out) (by have := HNV.out; omega) (by have := nm.out; omega) fun w3 hm3 hw3 => ?_
      have HW3 := Lib.hid hw3
      have B3 : Hid (Below bx w w3) := B2.out.trans hm3.1
      have hv3 : Hid (sV (plS s (decide (m < 0)) v m.natAbs).1 (plS s (decide (m < 0)) v m.natAbs).2 = m) := by
        unfold Hid; rw [plS_val, HV0.out, sV_abs, Int.zero_add]
      have hn3 : Hid (nw (plS s (decide (m < 0)) v m.natAbs).2 ≤ 114 + 1) := by
        have := plS_le s (decide (m < 0)) v m.natAbs
        have hv0 : v = 0 := sV_zero HV0.out
        subst hv0
        unfold Hid
        have h2 := nw_mono this
        rw [Nat.zero_add] at h2
        have := nm.out; omega
      clear hm3 hw3
      go_wp2_with fail
      exact ⟨⟨1, _, _, by go_num, by omega, B3, HW3, hn3, by unfold Hid; rw [hv3.out]; rfl⟩, by simp [intOf]⟩
    · skip
      have c1 := cell_at HHr.out (j := 1) (v := .string b) rfl
      have HV1 : Hid (sV s v = m) := HV.out
      go_wp2_with fail
      with_reducible refine read_any b n HB.out (by have := HN.out; omega) _ _ fun w2 hb2 hw2 hs2 => ?_
      have HW2 : Hid (Wide w2 bx s v) := HW.out.below hb2
      have HY2 := Lib.hid hw2
      have B2 : Hid (Below bx w w2) := HBr.out.trans (hb2.mono (Nat.le_of_lt BXr.out))
      clear hb2 hw2 hs2
      go_wp2_with fail
      with_reducible refine plus_any bx _ v n.natAbs s _ _ _ HW2.out HY2.out (Nat.ne_of_gt BXr.out) (by have := HNV.out; omega) (by have := nn.out; omega) fun w3 hm3 hw3 => ?_
      have HW3 := Lib.hid hw3
      have B3 : Hid (Below bx w w3) := B2.out.trans hm3.1
      have hv3 : Hid (sV (plS s (decide (n < 0)) v n.natAbs).1 (plS s (decide (n < 0)) v n.natAbs).2 = m + n) := by
        unfold Hid; rw [plS_val, HV1.out, sV_abs]
      have hn3 : Hid (nw (plS s (decide (n < 0)) v n.natAbs).2 ≤ 114 + 2) := by
        have := plS_le s (decide (n < 0)) v n.natAbs
        have h2 := Nat.le_trans (nw_mono this) (nw_add _ _)
        have h3 := nn.out
        have h4 := HNV.out
        unfold Hid
        omega
      clear hm3 hw3
      go_wp2_with fail
      exact ⟨⟨2, _, _, by go_num, by omega, B3, HW3, hn3, by unfold Hid; rw [hv3.out]; rfl⟩, by simp [intOf]⟩
    · skip
      have HV2 : Hid (sV s v = m + n) := HV.out
      have HEr : Hid (Env wr) := HE.out.below (by rw [HBX.out]; exact HBr.out)
      go_wp2_with fail
      with_reducible refine limitedE_any bx v s _ _ HW.out (by have := HNV.out; omega) HEr.out fun r w2 hb2 h1 h2 => ?_
      rw [HV2.out] at h1 h2 ⊢
      have T2 := Lib.hid h1
      have T3 := Lib.hid h2
      have B2 : Hid (Below bx w w2) := HBr.out.trans (hb2.mono (Nat.le_of_lt BXr.out))
      obtain ⟨z, hz⟩ : ∃ z, lgE (m + n) = z := ⟨_, rfl⟩
      rw [hz] at T2 T3 HR ⊢
      clear hb2 h1 h2 hz
      go_wp2_with fail
      exact HR.out _ _ B2.out T2.out T3.out
set_option maxHeartbeats 2000000 in
theorem waddE_any (a b : ByteArray) (m n : Int) (ha : Txt a m) (hb : Txt b n) (hm : lenI m ≤ 1024) (hn : lenI n ≤ 1024) (w : World) (R : Ending → World → Prop) (hE : Env w)
   (hR : ∀ r w', Below w.heap.size w w' → (lgE (m + n) = 0 → Txt r (m + n)) → (lgE (m + n) ≠ 0 → r = ⟨#[]⟩) → R (.returned (.tuple #[.string r, .int .i64 (lgE (m + n))])) w') :
    Calls Tryz.prog 95 #[.string a, .string b] w R := by
  have HR := Lib.hid hR
  have HA := Lib.hid ha
  have HB := Lib.hid hb
  have HM := Lib.hid hm
  have HN := Lib.hid hn
  have HE := Lib.hid hE
  obtain ⟨w1, E1, HB1, s1, X1⟩ := box_ex w #[.string a, .string b] 61
  clear hR ha hb hm hn hE s1
  go_enter Tryz.func95, Tryz.ntmps95
  go_wp2_with (rw [E1])
  with_reducible refine wall_any _ a b m n HA.out HB.out HM.out HN.out _ _ X1.out fun w2 hb2 => ?_
  have B2 : Hid (Below w.heap.size w w2) := HB1.out.trans (hb2.mono HB1.out.size)
  clear hb2
  go_wp2_with fail
  with_reducible refine wsmall_any a b m n HA.out HB.out _ _ fun w3 hb3 => ?_
  have B3 : Hid (Below w.heap.size w w3) := B2.out.trans (hb3.mono B2.out.size)
  clear hb3
  by_cases hs : a.size ≤ 9 ∧ b.size ≤ 9
  · refine ⟨fun _ => ?_, fun h => absurd hs h⟩
    have b1 := small_abs HA.out hs.1
    have b2 := small_abs HB.out hs.2
    have HE3 := Lib.hid (HE.out.below B3.out)
    clear hs
    go_wp2_with fail
    with_reducible refine wresult_any (m + n) _ _ (by omega) (by omega) HE3.out fun r w4 hb4 hr => ?_
    have B4 : Hid (Below w.heap.size w w4) := B3.out.trans (hb4.mono B3.out.size)
    have T4 := Lib.hid hr
    clear hb4 hr
    go_wp2_with fail
    rw [lgE_small (by omega)] at HR
    exact HR.out _ _ B4.out (fun _ => T4.out) (fun h => absurd rfl h)
  · refine ⟨fun h => absurd h hs, fun _ => ?_⟩
    obtain ⟨w5, E5, HB5, s5, X5⟩ := box_ex w3 #[.string a, .string b] 61
    have B5 : Hid (Below w.heap.size w w5) := B3.out.trans (HB5.out.mono B3.out.size)
    have HE5 := Lib.hid (HE.out.below B5.out)
    clear hs s5
    go_wp2_with (rw [E5])
    with_reducible refine wsumE_any _ a b m n HA.out HB.out HM.out HN.out _ _ X5.out HE5.out fun r w6 hb6 h1 h2 => ?_
    have B6 : Hid (Below w.heap.size w w6) := B5.out.trans (hb6.mono B5.out.size)
    have T6 := Lib.hid h1
    have T7 := Lib.hid h2
    obtain ⟨z, hz⟩ : ∃ z, lgE (m + n) = z := ⟨_, rfl⟩
    rw [hz] at T6 T7 HR ⊢
    clear hb6 h1 h2 hz
    go_wp2_with fail
    exact HR.out _ _ B6.out T6.out T7.out
set_option maxHeartbeats 2000000 in
theorem wmulE_any (a b : ByteArray) (m n : Int) (ha : Txt a m) (hb : Txt b n) (hm : lenI m ≤ 1024) (hn : lenI n ≤ 1024) (w : World) (R : Ending → World → Prop) (hE : Env w)
   (hR : ∀ r w', Below w.heap.size w w' → (lgE (m * n) = 0 → Txt r (m * n)) → (lgE (m * n) ≠ 0 → r = ⟨#[]⟩) → R (.returned (.tuple #[.string r, .int .i64 (lgE (m * n))])) w') :
    Calls Tryz.prog 37 #[.string a, .string b] w R := by
  have HR := Lib.hid hR
  have HA := Lib.hid ha
  have HB := Lib.hid hb
  have HM := Lib.hid hm
  have HN := Lib.hid hn
  have HE := Lib.hid hE
  have nm : Hid (nw m.natAbs ≤ 114) := nw_len (by omega) (by omega)
  have nn : Hid (nw n.natAbs ≤ 114) := nw_len (by omega) (by omega)
  obtain ⟨w1, E1, HB1, s1, X1⟩ := box_ex w #[.string a, .string b] 61
  clear hR ha hb hm hn hE s1
  go_enter Tryz.func37, Tryz.ntmps37
  go_wp2_with (rw [E1])
  with_reducible refine wall_any _ a b m n HA.out HB.out HM.out HN.out _ _ X1.out fun w2 hb2 => ?_
  have B2 : Hid (Below w.heap.size w w2) := HB1.out.trans (hb2.mono HB1.out.size)
  clear hb2
  go_wp2_with fail
  with_reducible refine wsmall_any a b m n HA.out HB.out _ _ fun w3 hb3 => ?_
  have B3 : Hid (Below w.heap.size w w3) := B2.out.trans (hb3.mono B2.out.size)
  clear hb3
  by_cases hs : a.size ≤ 9 ∧ b.size ≤ 9
  · refine ⟨fun _ => ?_, fun h => absurd hs h⟩
    have b1 := small_abs HA.out hs.1
    have b2 := small_abs HB.out hs.2
    have hbd := mul_small b1 b2
    obtain ⟨p, hp⟩ : ∃ p, m * n = p := ⟨_, rfl⟩
    rw [hp] at hbd HR
    have HE3 := Lib.hid (HE.out.below B3.out)
    clear hs
    go_wp2_with fail
    with_reducible refine wresult_any p _ _ (by omega) (by omega) HE3.out fun r w4 hb4 hr => ?_
    have B4 : Hid (Below w.heap.size w w4) := B3.out.trans (hb4.mono B3.out.size)
    have T4 := Lib.hid hr
    clear hb4 hr
    go_wp2_with fail
    rw [lgE_small hbd] at HR
    exact HR.out _ _ B4.out (fun _ => T4.out) (fun h => absurd rfl h)
  · refine ⟨fun h => absurd h hs, fun _ => ?_⟩
    clear hs
    go_wp2_with fail
    with_reducible refine read_any a m HA.out (by have := HM.out; omega) _ _ fun w5 hb5 hw5 hs5 => ?_
    have B5 : Hid (Below w.heap.size w w5) := B3.out.trans (hb5.mono B3.out.size)
    have HX5 := Lib.hid hw5
    clear hb5 hw5
    have L5 := Lib.hid hs5
    clear hs5
    go_wp2_with fail
    with_reducible refine read_any b n HB.out (by have := HN.out; omega) _ _ fun w6 hb6 hw6 hs6 => ?_
    have B6 : Hid (Below w.heap.size w w6) := B5.out.trans (hb6.mono B5.out.size)
    have HX6 := Lib.hid (HX5.out.below hb6)
    have HY6 := Lib.hid hw6
    clear hb6 hw6 hs6
    go_wp2_with fail
    with_reducible refine times_any _ _ m.natAbs n.natAbs _ _ _ _ HX6.out HY6.out (by have := nm.out; have := nn.out; omega) fun w7 hb7 hw7 => ?_
    have B7 : Hid (Below w.heap.size w w7) := B6.out.trans (hb7.mono B6.out.size)
    have HZ7 := Lib.hid hw7
    have HE7 := Lib.hid (HE.out.below B7.out)
    have HSV : Hid (sV (!(decide (m < 0) == decide (n < 0))) (m.natAbs * n.natAbs) = m * n) := sV_mul m n
    clear hb7 hw7
    go_wp2_with fail
    with_reducible refine limitedE_any _ (m.natAbs * n.natAbs) _ _ _ HZ7.out (Nat.le_trans (nw_mul _ _) (by have := nm.out; have := nn.out; omega)) HE7.out fun r w8 hb8 h1 h2 => ?_
    rw [HSV.out] at h1 h2 ⊢
    have B8 : Hid (Below w.heap.size w w8) := B7.out.trans (hb8.mono B7.out.size)
    have T8 := Lib.hid h1
    have T9 := Lib.hid h2
    obtain ⟨z, hz⟩ : ∃ z, lgE (m * n) = z := ⟨_, rfl⟩
    rw [hz] at T8 T9 HR ⊢
    clear hb8 h1 h2 hz
    go_wp2_with fail
    exact HR.out _ _ B8.out T8.out T9.out
end Go.Proofs.YtcmhompbdanpdaaGreatDoor
