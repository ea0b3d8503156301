/- The walk of Check of the reference of package stock. -/
import Derived.Test.YteoniejpfmeibaaDoorSc
namespace Go.Proofs.YteoniejpfmeibaaDoor
open Go.RowKit Go.Shelf

set_option maxHeartbeats 4000000 in
theorem rcheck51_any (most : Int) (ao : Option Addr) (bs : List B5) (c : Nat) (w : World) (R : Ending → World → Prop) (hl : bs.length ≤ 9223372036854775807) (hc : CellsAt w ao (bC bs)) (hs : StrOk bs)
   (hR : ∀ w', Below w.heap.size w w' → R (.returned (.int .i64 (chkS most bs))) w') :
    Calls Tryd.prog 20 #[.agg #[.int .i64 most, .slice ao bs.length c]] w R := by
  have HR := Lib.hid hR
  have HC := Lib.hid hc
  have HS := Lib.hid hs
  clear hR hc hs
  obtain ⟨w1, E1, HB1, s1, b0, b1⟩ := box2 w (.int .i64 most) (.slice ao bs.length c) 28
  cases hp0 : inB most 0 100000 with
  | false =>
    have HE : Hid (chkS most bs = 2) := by unfold Hid; rw [chkS, if_neg (by rw [hp0]; simp)]
    go_enter Tryd.func20, Tryd.ntmps20
    go_wp2_with fail
    rw [E1.out]
    refine length_any _ _ _ _ ?_
    go_wp2_with fail
    exact ret_i (HR.out _ HB1.out) rfl HE.out
  | true =>
    by_cases h256 : 256 < bs.length
    · have HE : Hid (chkS most bs = 5) := by unfold Hid; rw [chkS, if_pos hp0, if_pos h256]
      go_enter Tryd.func20, Tryd.ntmps20
      go_wp2_with fail
      rw [E1.out]
      refine length_any _ _ _ _ ?_
      go_wp2_with fail
      exact ret_i (HR.out _ HB1.out) rfl HE.out
    · have HE : Hid (chkS most bs = chkR (loopE (ckS most bs) bs.length 0 ())) := by unfold Hid; rw [chkS, if_pos hp0, if_neg h256]
      go_enter Tryd.func20, Tryd.ntmps20
      go_wp2_with fail
      rw [E1.out]
      refine length_any _ _ _ _ ?_
      go_wp2_with fail
      go_loopw [3] (fun i wr => ∃ k : Nat, k ≤ bs.length ∧ i = .int .i64 k ∧ Hid (Below w1.heap.size w1 wr) ∧ Hid (loopE (ckS most bs) (bs.length - k) k () = loopE (ckS most bs) bs.length 0 ())) (fun i _ => bs.length - (intOf i).toNat)
      case atStart => exact ⟨0, Nat.zero_le _, rfl, Below.refl _ _, rfl⟩
      case round =>
        obtain ⟨k, hk, rfl, HB, hL⟩ := hrel
        have HW : Hid (Below w.heap.size w wr) := HB1.out.trans (HB.out.mono (by omega))
        have sw : w1.heap.size ≤ wr.heap.size := HB.out.size
        have g0 := cellB HB.out b0 s1
        have g1 := cellB HB.out b1 s1
        clear b0 b1
        by_cases hlt : k < bs.length
        · obtain ⟨b, o, rfl, _, hcell⟩ := (HC.out.below HW.out).blks (by omega)
          obtain ⟨c1, c2, c3, c4⟩ := hcell k hlt
          have d1 := (hcell (k - 1) (by omega)).1
          have hst := HS.out k hlt
          clear hcell
          obtain ⟨w2, E2, HB2, s2, x0, x1, x2, x3⟩ := box4 wr (.int .i64 (bAt bs k).l) (.int .i64 (bAt bs k).w) (.int .i64 (bAt bs k).u) (.string (bAt bs k).h) 78
          have HW2 : Hid (Below w1.heap.size w1 w2) := HB.out.trans (HB2.out.mono sw)
          have HV2 : Hid (Below w.heap.size w w2) := HW.out.trans (HB2.out.mono HW.out.size)
          have k0 := cellB HB2.out g0 (by omega)
          have k1 := cellB HB2.out g1 (by omega)
          have e1 := cellB HB2.out d1 (by exact lt_of_cell d1)
          clear d1
          by_cases hG : inB (bAt bs k).l 1 100000 = false ∨ inB (bAt bs k).w 0 100000 = false ∨ inB (bAt bs k).u 0 1048576 = false
          · have HF := Lib.hid (ckS_2 (m := most) hG)
            have HE2 : Hid (chkS most bs = 2) := by unfold Hid; rw [HE.out, loopE_hit hL hlt HF.out]; rfl
            clear HE HF
            cases q1 : inB (bAt bs k).l 1 100000 with
            | false =>
              go_wp2_with fail
              rw [E2.out]
              refine length_any _ _ _ _ ?_
              go_wp2_with fail
              exact ret_i (HR.out _ HV2.out) rfl HE2.out
            | true =>
              cases q2 : inB (bAt bs k).w 0 100000 with
              | false =>
                go_wp2_with fail
                rw [E2.out]
                refine length_any _ _ _ _ ?_
                go_wp2_with fail
                refine length_any _ _ _ _ ?_
                go_wp2_with fail
                exact ret_i (HR.out _ HV2.out) rfl HE2.out
              | true =>
                have q3 : inB (bAt bs k).u 0 1048576 = false := or3 hG q1 q2
                have q4 : ¬ (0 ≤ (bAt bs k).u ∧ (bAt bs k).u ≤ 1048576) := fun h => by rw [inB_iff.2 h] at q3; cases q3
                by_cases q5 : (bAt bs k).u < 0
                all_goals
                  go_wp2_with fail
                  rw [E2.out]
                  refine length_any _ _ _ _ ?_
                  go_wp2_with fail
                  refine length_any _ _ _ _ ?_
                  go_wp2_with fail
                  exact ret_i (HR.out _ HV2.out) rfl HE2.out
          · have hG1 : inB (bAt bs k).l 1 100000 = true := by cases h : inB (bAt bs k).l 1 100000 with | true => rfl | false => exact absurd (.inl h) hG
            have hG2 : inB (bAt bs k).w 0 100000 = true := by cases h : inB (bAt bs k).w 0 100000 with | true => rfl | false => exact absurd (.inr (.inl h)) hG
            have hG3 : inB (bAt bs k).u 0 1048576 = true := by cases h : inB (bAt bs k).u 0 1048576 with | true => rfl | false => exact absurd (.inr (.inr h)) hG
            have hG4 := inB_iff.1 hG3
            have HG := Lib.hid hG
            clear hG
            by_cases hO : 0 < k ∧ (bAt bs k).l ≤ (bAt bs (k - 1)).l
            · have HE2 : Hid (chkS most bs = 9) := by unfold Hid; rw [HE.out, loopE_hit hL hlt (ckS_9 HG.out hO)]; rfl
              obtain ⟨o1, o2⟩ := hO
              go_wp2_with fail
              rw [E2.out]
              refine length_any _ _ _ _ ?_
              go_wp2_with fail
              refine length_any _ _ _ _ ?_
              go_wp2_with fail
              go_quiet (fail)
              go_wp2_with fail
              exact ret_i (HR.out _ (HV2.out.trans (Drew.below ⟨_, rfl⟩ _))) rfl HE2.out
            · have HO := Lib.hid hO
              have hgd : (¬ 0 < k ∧ decide ((0 : Int) < (k : Int)) = false) ∨ (0 < k ∧ decide ((bAt bs k).l ≤ (bAt bs (k - 1)).l) = false) := by
                by_cases h0 : 0 < k
                · exact .inr ⟨h0, by rw [decide_eq_false_iff_not]; omega⟩
                · exact .inl ⟨h0, by rw [decide_eq_false_iff_not]; omega⟩
              clear hO
              by_cases hz : (bAt bs k).h.size = 0
              · have hz' := empty_of hz
                have hE : ltrE (bAt bs k).h = 0 := ltrE_empty hz
                have HF := Lib.hid (ckS_ok (m := most) HG.out HO.out hE (fun h => h.2 hz))
                clear hz hE
                rcases hgd with ⟨hgd, hgo⟩ | ⟨hgd, hgo⟩
                all_goals
                  go_wp2_with fail
                  rw [E2.out]
                  refine length_any _ _ _ _ ?_
                  go_wp2_with fail
                  refine length_any _ _ _ _ ?_
                  go_wp2_with fail
                  go_quiet (fail)
                  go_wp2_with fail
                  exact ⟨⟨k + 1, by omega, by go_num, HW2.out.trans (Drew.below ⟨_, rfl⟩ _), loopE_step hL hlt HF.out⟩, by simp [intOf]; omega⟩
              · have hz' := nempty_of hz
                have hN : Hid (namE (bAt bs k).h = ltrE (bAt bs k).h) := by unfold Hid; rw [namE, if_neg hz]
                by_cases hE : ltrE (bAt bs k).h = 0
                · by_cases hw : most < (bAt bs k).w
                  · have HE2 : Hid (chkS most bs = 14) := by unfold Hid; rw [HE.out, loopE_hit hL hlt (ckS_14 HG.out HO.out hE ⟨hw, hz⟩)]; rfl
                    have hw' : decide ((bAt bs k).w > most) = true := by rw [decide_eq_true_eq]; exact hw
                    clear hz
                    rcases hgd with ⟨hgd, hgo⟩ | ⟨hgd, hgo⟩
                    all_goals
                      go_wp2_with fail
                      rw [E2.out]
                      refine length_any _ _ _ _ ?_
                      go_wp2_with fail
                      refine length_any _ _ _ _ ?_
                      go_wp2_with fail
                      go_quiet (fail)
                      go_wp2_with fail
                      refine name_any _ _ _ hst ?_
                      rw [hN.out]
                      go_wp2_with fail
                      exact ret_i (HR.out _ (HV2.out.trans (Drew.below ⟨_, rfl⟩ _))) rfl HE2.out
                  · have HF := Lib.hid (ckS_ok (m := most) HG.out HO.out hE (fun h => hw h.1))
                    clear hz
                    rcases hgd with ⟨hgd, hgo⟩ | ⟨hgd, hgo⟩
                    all_goals
                      go_wp2_with fail
                      rw [E2.out]
                      refine length_any _ _ _ _ ?_
                      go_wp2_with fail
                      refine length_any _ _ _ _ ?_
                      go_wp2_with fail
                      go_quiet (fail)
                      go_wp2_with fail
                      refine name_any _ _ _ hst ?_
                      rw [hN.out]
                      go_wp2_with fail
                      exact ⟨⟨k + 1, by omega, by go_num, HW2.out.trans (Drew.below ⟨_, rfl⟩ _), loopE_step hL hlt HF.out⟩, by simp [intOf]; omega⟩
                · have HE2 : Hid (chkS most bs = ltrE (bAt bs k).h) := by unfold Hid; rw [HE.out, loopE_hit hL hlt (ckS_l HG.out HO.out hE)]; rfl
                  clear hz
                  rcases hgd with ⟨hgd, hgo⟩ | ⟨hgd, hgo⟩
                  all_goals
                    go_wp2_with fail
                    rw [E2.out]
                    refine length_any _ _ _ _ ?_
                    go_wp2_with fail
                    refine length_any _ _ _ _ ?_
                    go_wp2_with fail
                    go_quiet (fail)
                    go_wp2_with fail
                    refine name_any _ _ _ hst ?_
                    rw [hN.out]
                    go_wp2_with fail
                    exact ret_i (HR.out _ (HV2.out.trans (Drew.below ⟨_, rfl⟩ _))) rfl HE2.out
        · go_wp2_with fail
          exact ret_i (HR.out _ HW.out) rfl (by rw [HE.out, loopE_done hL hlt]; rfl)

end Go.Proofs.YteoniejpfmeibaaDoor
