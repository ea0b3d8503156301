/- The walks of where, free, held of package stock; of Available, Held of its reference. -/
import Derived.Test.YteoniejpfmeibaaDoorSd
import Derived.Test.YteoniejpfmeibaaDoorD
namespace Go.Proofs.YteoniejpfmeibaaDoor
open Go.RowKit Go.Shelf

set_option maxHeartbeats 1000000 in
theorem free1_any (b : B5) (Bx C : Nat) (most : Int) (w : World) (R : Ending → World → Prop) (hB : w.cell? ⟨Bx, 0, none⟩ = some (.pointer (some ⟨C, 0, none⟩))) (hC : w.cell? ⟨C, 0, none⟩ = some (.int .i64 most))
   (hR : ∀ w', Below w.heap.size w w' → R (.returned (.bool (freeP most b))) w') :
    Calls Tryd.prog 65 #[.agg #[.int .i64 b.l, .int .i64 b.w, .int .i64 b.u, .string b.h], .pointer (some ⟨Bx, 0, none⟩)] w R := by
  have HR := Lib.hid hR
  clear hR
  obtain ⟨w2, E2, HB2, s2, x0, x1, x2, x3⟩ := box4 w (.int .i64 b.l) (.int .i64 b.w) (.int .i64 b.u) (.string b.h) 66
  have k0 := cellB HB2.out hB (lt_of_cell hB)
  have k1 := cellB HB2.out hC (lt_of_cell hC)
  clear hB hC
  by_cases hz : b.h.size = 0
  · have hz' := empty_of hz
    by_cases hw : b.w ≤ most
    · have HP := Lib.hid (freeP_yes (m := most) hz hw)
      have hd : decide (b.w ≤ most) = true := by rw [decide_eq_true_eq]; exact hw
      clear hz
      go_enter Tryd.func65, Tryd.ntmps65
      go_wp2_with fail
      rw [E2.out]
      go_quiet (fail)
      go_wp2_with fail
      exact ret_b (HR.out _ (HB2.out.trans (Drew.below ⟨_, rfl⟩ _))) rfl HP.out
    · have HP := Lib.hid (freeP_no2 (b := b) hw)
      have hd : decide (b.w ≤ most) = false := by rw [decide_eq_false_iff_not]; exact hw
      clear hz
      go_enter Tryd.func65, Tryd.ntmps65
      go_wp2_with fail
      rw [E2.out]
      go_quiet (fail)
      go_wp2_with fail
      exact ret_b (HR.out _ (HB2.out.trans (Drew.below ⟨_, rfl⟩ _))) rfl HP.out
  · have hz' := nempty_of hz
    have HP := Lib.hid (freeP_no (m := most) hz)
    clear hz
    go_enter Tryd.func65, Tryd.ntmps65
    go_wp2_with fail
    rw [E2.out]
    go_quiet (fail)
    go_wp2_with fail
    exact ret_b (HR.out _ (HB2.out.trans (Drew.below ⟨_, rfl⟩ _))) rfl HP.out

set_option maxHeartbeats 1000000 in
theorem held1_any (b : B5) (Bx : Nat) (who : ByteArray) (w : World) (R : Ending → World → Prop) (hB : w.cell? ⟨Bx, 0, none⟩ = some (.string who))
   (hR : ∀ w', Below w.heap.size w w' → R (.returned (.bool (heldP who b))) w') :
    Calls Tryd.prog 66 #[.agg #[.int .i64 b.l, .int .i64 b.w, .int .i64 b.u, .string b.h], .pointer (some ⟨Bx, 0, none⟩)] w R := by
  have HR := Lib.hid hR
  clear hR
  obtain ⟨w2, E2, HB2, s2, x0, x1, x2, x3⟩ := box4 w (.int .i64 b.l) (.int .i64 b.w) (.int .i64 b.u) (.string b.h) 66
  have k0 : (w.alloc (.cells #[.int .i64 b.l, .int .i64 b.w, .int .i64 b.u, .string b.h] 66)).cell? ⟨Bx, 0, none⟩ = some (.string who) := by rw [E2.out]; exact cellB HB2.out hB (lt_of_cell hB)
  have k1 : Hid (Below w.heap.size w (w.alloc (.cells #[.int .i64 b.l, .int .i64 b.w, .int .i64 b.u, .string b.h] 66))) := by rw [E2.out]; exact HB2
  clear hB
  go_enter Tryd.func66, Tryd.ntmps66
  go_wp2_with fail
  exact ret_b (HR.out _ k1.out) rfl rfl

set_option maxHeartbeats 1000000 in
theorem rest1_any (b : B5) (Bx : Nat) (l : Int) (w : World) (R : Ending → World → Prop) (hB : w.cell? ⟨Bx, 0, none⟩ = some (.int .i64 l))
   (hR : ∀ w', Below w.heap.size w w' → R (.returned (.bool (lenP l b))) w') :
    Calls Tryd.prog 71 #[.agg #[.int .i64 b.l, .int .i64 b.w, .int .i64 b.u, .string b.h], .pointer (some ⟨Bx, 0, none⟩)] w R := by
  have HR := Lib.hid hR
  clear hR
  obtain ⟨w2, E2, HB2, s2, x0, x1, x2, x3⟩ := box4 w (.int .i64 b.l) (.int .i64 b.w) (.int .i64 b.u) (.string b.h) 66
  have k0 : (w.alloc (.cells #[.int .i64 b.l, .int .i64 b.w, .int .i64 b.u, .string b.h] 66)).cell? ⟨Bx, 0, none⟩ = some (.int .i64 l) := by rw [E2.out]; exact cellB HB2.out hB (lt_of_cell hB)
  have k1 : Hid (Below w.heap.size w (w.alloc (.cells #[.int .i64 b.l, .int .i64 b.w, .int .i64 b.u, .string b.h] 66))) := by rw [E2.out]; exact HB2
  clear hB
  go_enter Tryd.func71, Tryd.ntmps71
  go_wp2_with fail
  exact ret_b (HR.out _ k1.out) rfl rfl

set_option maxHeartbeats 1000000 in
theorem where_free (C Bx : Nat) (most : Int) (ao : Option Addr) (bs : List B5) (cap : Nat) (w : World) (R : Ending → World → Prop) (hl : bs.length ≤ 256)
   (hC0 : w.cell? ⟨C, 0, none⟩ = some (.int .i64 most)) (hC1 : w.cell? ⟨C, 1, none⟩ = some (.slice ao bs.length cap)) (hB : w.cell? ⟨Bx, 0, none⟩ = some (.pointer (some ⟨C, 0, none⟩))) (hc : CellsAt w ao (bC bs))
   (hR : ∀ v w', Below w.heap.size w w' → OwnL w' w.heap.size 3 1 v (pickL (freeP most) bs).length (I64s (pickL (freeP most) bs)) → R (.returned v) w') :
    Calls Tryd.prog 64 #[.pointer (some ⟨C, 0, none⟩), .func (.func 65) #[] #[.pointer (some ⟨Bx, 0, none⟩)]] w R := by
  have HR := Lib.hid hR
  have HC := Lib.hid hc
  have HBx := Lib.hid hB
  have HC0 := Lib.hid hC0
  clear hR hc hB hC0
  go_enter Tryd.func64, Tryd.ntmps64
  go_wp2_with fail
  go_loopw [14, 5] (fun i v wr => ∃ k : Nat, k ≤ bs.length ∧ i = .int .i64 k ∧ Hid (Below w.heap.size w wr) ∧ Hid (OwnL wr w.heap.size 3 1 v (pickTo (freeP most) bs k).length (I64s (pickTo (freeP most) bs k)))) (fun i _ _ => bs.length - (intOf i).toNat)
  case atStart => exact ⟨0, Nat.zero_le _, rfl, Below.refl _ _, OwnL.nil _ _ _ _⟩
  case round =>
    obtain ⟨k, hk, rfl, HB, HO⟩ := hrel
    have sw : w.heap.size ≤ wr.heap.size := HB.out.size
    by_cases hlt : k < bs.length
    · obtain ⟨b, o, rfl, _, hcell⟩ := (HC.out.below HB.out).blks (by omega)
      obtain ⟨c1, c2, c3, c4⟩ := hcell k hlt
      clear hcell
      obtain ⟨w2, E2, HB2, s2, x0, x1, x2, x3⟩ := box4 wr (.int .i64 (bAt bs k).l) (.int .i64 (bAt bs k).w) (.int .i64 (bAt bs k).u) (.string (bAt bs k).h) 66
      have HV2 : Hid (Below w.heap.size w w2) := HB.out.trans (HB2.out.mono sw)
      go_wp2_with fail
      rw [E2.out]
      go_wp2_with fail
      refine free1_any (bAt bs k) Bx C most _ _ (cellB HV2.out HBx.out (lt_of_cell HBx.out)) (cellB HV2.out HC0.out (lt_of_cell HC0.out)) ?_
      intro w3 hb3
      have HV3 : Hid (Below w.heap.size w w3) := HV2.out.trans (hb3.mono (by omega))
      have HO2 : Hid (OwnL w3 w.heap.size 3 1 u5 (pickTo (freeP most) bs k).length (I64s (pickTo (freeP most) bs k))) := (HO.out.below HB2.out).below hb3
      clear hb3 c1 c2 c3 c4 x0 x1 x2 x3
      cases hp : freeP most (bAt bs k) with
      | false =>
        have HT : Hid (pickTo (freeP most) bs (k + 1) = pickTo (freeP most) bs k) := by unfold Hid; rw [pickTo, hp]; simp
        go_wp2_with fail
        exact ⟨⟨k + 1, by omega, by go_num, HV3, by unfold Hid; rw [HT.out]; exact HO2.out⟩, by simp [intOf]; omega⟩
      | true =>
        have HT : Hid (pickTo (freeP most) bs (k + 1) = pickTo (freeP most) bs k ++ [(k : Int)]) := by unfold Hid; rw [pickTo, hp]; simp
        go_wp2_with (at_builtin; refine wp_append1 rfl (.tmp 22) (.tmp 24) 31 rfl w.heap.size 3 Tryd.underlying31 Tryd.infoInt rfl (by decide) (by decide) u5 (pickTo (freeP most) bs k).length (I64s (pickTo (freeP most) bs k)) rfl (HO2.out.alloc _) w3.heap.size [.int .i64 k] rfl rfl (new1 _ _ _) (one1 _ rfl) (by have := pickTo_length (freeP most) bs k; omega) (by have := HV3.out.size; simp; omega) ?_; intro v4 w4 hown4 hb4; have H4 := Lib.hid hown4; have Hb4 : Hid (Below w.heap.size w w4) := ((HV3.out.alloc HV3.out.size _).trans hb4); clear hown4 hb4)
        exact ⟨⟨k + 1, by omega, by go_num, Hb4, by unfold Hid; rw [HT.out]; simpa [I64s] using H4.out⟩, by simp [intOf]; omega⟩
    · obtain rfl : k = bs.length := by omega
      go_wp2_with fail
      exact HR.out _ _ HB.out HO.out

set_option maxHeartbeats 1000000 in
theorem where_held (C Bx : Nat) (most : Int) (who : ByteArray) (ao : Option Addr) (bs : List B5) (cap : Nat) (w : World) (R : Ending → World → Prop) (hl : bs.length ≤ 256)
   (hC0 : w.cell? ⟨C, 0, none⟩ = some (.int .i64 most)) (hC1 : w.cell? ⟨C, 1, none⟩ = some (.slice ao bs.length cap)) (hB : w.cell? ⟨Bx, 0, none⟩ = some (.string who)) (hc : CellsAt w ao (bC bs))
   (hR : ∀ v w', Below w.heap.size w w' → OwnL w' w.heap.size 3 1 v (pickL (heldP who) bs).length (I64s (pickL (heldP who) bs)) → R (.returned v) w') :
    Calls Tryd.prog 64 #[.pointer (some ⟨C, 0, none⟩), .func (.func 66) #[] #[.pointer (some ⟨Bx, 0, none⟩)]] w R := by
  have HR := Lib.hid hR
  have HC := Lib.hid hc
  have HBx := Lib.hid hB
  have HC0 := Lib.hid hC0
  clear hR hc hB hC0
  go_enter Tryd.func64, Tryd.ntmps64
  go_wp2_with fail
  go_loopw [14, 5] (fun i v wr => ∃ k : Nat, k ≤ bs.length ∧ i = .int .i64 k ∧ Hid (Below w.heap.size w wr) ∧ Hid (OwnL wr w.heap.size 3 1 v (pickTo (heldP who) bs k).length (I64s (pickTo (heldP who) bs k)))) (fun i _ _ => bs.length - (intOf i).toNat)
  case atStart => exact ⟨0, Nat.zero_le _, rfl, Below.refl _ _, OwnL.nil _ _ _ _⟩
  case round =>
    obtain ⟨k, hk, rfl, HB, HO⟩ := hrel
    have sw : w.heap.size ≤ wr.heap.size := HB.out.size
    by_cases hlt : k < bs.length
    · obtain ⟨b, o, rfl, _, hcell⟩ := (HC.out.below HB.out).blks (by omega)
      obtain ⟨c1, c2, c3, c4⟩ := hcell k hlt
      clear hcell
      obtain ⟨w2, E2, HB2, s2, x0, x1, x2, x3⟩ := box4 wr (.int .i64 (bAt bs k).l) (.int .i64 (bAt bs k).w) (.int .i64 (bAt bs k).u) (.string (bAt bs k).h) 66
      have HV2 : Hid (Below w.heap.size w w2) := HB.out.trans (HB2.out.mono sw)
      go_wp2_with fail
      rw [E2.out]
      go_wp2_with fail
      refine held1_any (bAt bs k) Bx who _ _ (cellB HV2.out HBx.out (lt_of_cell HBx.out)) ?_
      intro w3 hb3
      have HV3 : Hid (Below w.heap.size w w3) := HV2.out.trans (hb3.mono (by omega))
      have HO2 : Hid (OwnL w3 w.heap.size 3 1 u5 (pickTo (heldP who) bs k).length (I64s (pickTo (heldP who) bs k))) := (HO.out.below HB2.out).below hb3
      clear hb3 c1 c2 c3 c4 x0 x1 x2 x3
      cases hp : heldP who (bAt bs k) with
      | false =>
        have HT : Hid (pickTo (heldP who) bs (k + 1) = pickTo (heldP who) bs k) := by unfold Hid; rw [pickTo, hp]; simp
        go_wp2_with fail
        exact ⟨⟨k + 1, by omega, by go_num, HV3, by unfold Hid; rw [HT.out]; exact HO2.out⟩, by simp [intOf]; omega⟩
      | true =>
        have HT : Hid (pickTo (heldP who) bs (k + 1) = pickTo (heldP who) bs k ++ [(k : Int)]) := by unfold Hid; rw [pickTo, hp]; simp
        go_wp2_with (at_builtin; refine wp_append1 rfl (.tmp 22) (.tmp 24) 31 rfl w.heap.size 3 Tryd.underlying31 Tryd.infoInt rfl (by decide) (by decide) u5 (pickTo (heldP who) bs k).length (I64s (pickTo (heldP who) bs k)) rfl (HO2.out.alloc _) w3.heap.size [.int .i64 k] rfl rfl (new1 _ _ _) (one1 _ rfl) (by have := pickTo_length (heldP who) bs k; omega) (by have := HV3.out.size; simp; omega) ?_; intro v4 w4 hown4 hb4; have H4 := Lib.hid hown4; have Hb4 : Hid (Below w.heap.size w w4) := ((HV3.out.alloc HV3.out.size _).trans hb4); clear hown4 hb4)
        exact ⟨⟨k + 1, by omega, by go_num, Hb4, by unfold Hid; rw [HT.out]; simpa [I64s] using H4.out⟩, by simp [intOf]; omega⟩
    · obtain rfl : k = bs.length := by omega
      go_wp2_with fail
      exact HR.out _ _ HB.out HO.out

set_option maxHeartbeats 1000000 in
theorem where_rest (C Bx : Nat) (most : Int) (l : Int) (ao : Option Addr) (bs : List B5) (cap : Nat) (w : World) (R : Ending → World → Prop) (hl : bs.length ≤ 256)
   (hC0 : w.cell? ⟨C, 0, none⟩ = some (.int .i64 most)) (hC1 : w.cell? ⟨C, 1, none⟩ = some (.slice ao bs.length cap)) (hB : w.cell? ⟨Bx, 0, none⟩ = some (.int .i64 l)) (hc : CellsAt w ao (bC bs))
   (hR : ∀ v w', Below w.heap.size w w' → OwnL w' w.heap.size 3 1 v (pickL (lenP l) bs).length (I64s (pickL (lenP l) bs)) → R (.returned v) w') :
    Calls Tryd.prog 64 #[.pointer (some ⟨C, 0, none⟩), .func (.func 71) #[] #[.pointer (some ⟨Bx, 0, none⟩)]] w R := by
  have HR := Lib.hid hR
  have HC := Lib.hid hc
  have HBx := Lib.hid hB
  have HC0 := Lib.hid hC0
  clear hR hc hB hC0
  go_enter Tryd.func64, Tryd.ntmps64
  go_wp2_with fail
  go_loopw [14, 5] (fun i v wr => ∃ k : Nat, k ≤ bs.length ∧ i = .int .i64 k ∧ Hid (Below w.heap.size w wr) ∧ Hid (OwnL wr w.heap.size 3 1 v (pickTo (lenP l) bs k).length (I64s (pickTo (lenP l) bs k)))) (fun i _ _ => bs.length - (intOf i).toNat)
  case atStart => exact ⟨0, Nat.zero_le _, rfl, Below.refl _ _, OwnL.nil _ _ _ _⟩
  case round =>
    obtain ⟨k, hk, rfl, HB, HO⟩ := hrel
    have sw : w.heap.size ≤ wr.heap.size := HB.out.size
    by_cases hlt : k < bs.length
    · obtain ⟨b, o, rfl, _, hcell⟩ := (HC.out.below HB.out).blks (by omega)
      obtain ⟨c1, c2, c3, c4⟩ := hcell k hlt
      clear hcell
      obtain ⟨w2, E2, HB2, s2, x0, x1, x2, x3⟩ := box4 wr (.int .i64 (bAt bs k).l) (.int .i64 (bAt bs k).w) (.int .i64 (bAt bs k).u) (.string (bAt bs k).h) 66
      have HV2 : Hid (Below w.heap.size w w2) := HB.out.trans (HB2.out.mono sw)
      go_wp2_with fail
      rw [E2.out]
      go_wp2_with fail
      refine rest1_any (bAt bs k) Bx l _ _ (cellB HV2.out HBx.out (lt_of_cell HBx.out)) ?_
      intro w3 hb3
      have HV3 : Hid (Below w.heap.size w w3) := HV2.out.trans (hb3.mono (by omega))
      have HO2 : Hid (OwnL w3 w.heap.size 3 1 u5 (pickTo (lenP l) bs k).length (I64s (pickTo (lenP l) bs k))) := (HO.out.below HB2.out).below hb3
      clear hb3 c1 c2 c3 c4 x0 x1 x2 x3
      cases hp : lenP l (bAt bs k) with
      | false =>
        have HT : Hid (pickTo (lenP l) bs (k + 1) = pickTo (lenP l) bs k) := by unfold Hid; rw [pickTo, hp]; simp
        go_wp2_with fail
        exact ⟨⟨k + 1, by omega, by go_num, HV3, by unfold Hid; rw [HT.out]; exact HO2.out⟩, by simp [intOf]; omega⟩
      | true =>
        have HT : Hid (pickTo (lenP l) bs (k + 1) = pickTo (lenP l) bs k ++ [(k : Int)]) := by unfold Hid; rw [pickTo, hp]; simp
        go_wp2_with (at_builtin; refine wp_append1 rfl (.tmp 22) (.tmp 24) 31 rfl w.heap.size 3 Tryd.underlying31 Tryd.infoInt rfl (by decide) (by decide) u5 (pickTo (lenP l) bs k).length (I64s (pickTo (lenP l) bs k)) rfl (HO2.out.alloc _) w3.heap.size [.int .i64 k] rfl rfl (new1 _ _ _) (one1 _ rfl) (by have := pickTo_length (lenP l) bs k; omega) (by have := HV3.out.size; simp; omega) ?_; intro v4 w4 hown4 hb4; have H4 := Lib.hid hown4; have Hb4 : Hid (Below w.heap.size w w4) := ((HV3.out.alloc HV3.out.size _).trans hb4); clear hown4 hb4)
        exact ⟨⟨k + 1, by omega, by go_num, Hb4, by unfold Hid; rw [HT.out]; simpa [I64s] using H4.out⟩, by simp [intOf]; omega⟩
    · obtain rfl : k = bs.length := by omega
      go_wp2_with fail
      exact HR.out _ _ HB.out HO.out

end Go.Proofs.YteoniejpfmeibaaDoor
