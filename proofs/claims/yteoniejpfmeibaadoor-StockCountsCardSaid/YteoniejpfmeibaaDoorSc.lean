/- The walks of Check of package stock and of its reference. -/
import Derived.Test.YteoniejpfmeibaaDoorSb
namespace Go.Proofs.YteoniejpfmeibaaDoor
open Go.RowKit Go.Shelf

theorem or3 {a b c : Bool} (h : a = false ∨ b = false ∨ c = false) (ha : a = true) (hb : b = true) : c = false := by
  rcases h with h | h | h
  · rw [ha] at h; cases h
  · rw [hb] at h; cases h
  · exact h
theorem ckS_2 {m : Int} {bs : List B5} {k : Nat} (h : inB (bAt bs k).l 1 100000 = false ∨ inB (bAt bs k).w 0 100000 = false ∨ inB (bAt bs k).u 0 1048576 = false) : ckS m bs k () = .inr 2 := by rw [ckS, if_pos h]
theorem ckS_9 {m : Int} {bs : List B5} {k : Nat} (h : ¬ (inB (bAt bs k).l 1 100000 = false ∨ inB (bAt bs k).w 0 100000 = false ∨ inB (bAt bs k).u 0 1048576 = false))
    (h2 : 0 < k ∧ (bAt bs k).l ≤ (bAt bs (k - 1)).l) : ckS m bs k () = .inr 9 := by rw [ckS, if_neg h, if_pos h2]
theorem ckS_l {m : Int} {bs : List B5} {k : Nat} (h : ¬ (inB (bAt bs k).l 1 100000 = false ∨ inB (bAt bs k).w 0 100000 = false ∨ inB (bAt bs k).u 0 1048576 = false))
    (h2 : ¬ (0 < k ∧ (bAt bs k).l ≤ (bAt bs (k - 1)).l)) (h3 : ltrE (bAt bs k).h ≠ 0) : ckS m bs k () = .inr (ltrE (bAt bs k).h) := by rw [ckS, if_neg h, if_neg h2, if_pos h3]
theorem ckS_14 {m : Int} {bs : List B5} {k : Nat} (h : ¬ (inB (bAt bs k).l 1 100000 = false ∨ inB (bAt bs k).w 0 100000 = false ∨ inB (bAt bs k).u 0 1048576 = false))
    (h2 : ¬ (0 < k ∧ (bAt bs k).l ≤ (bAt bs (k - 1)).l)) (h3 : ltrE (bAt bs k).h = 0) (h4 : m < (bAt bs k).w ∧ (bAt bs k).h.size ≠ 0) : ckS m bs k () = .inr 14 := by rw [ckS, if_neg h, if_neg h2, if_neg (by omega), if_pos h4]
theorem ckS_ok {m : Int} {bs : List B5} {k : Nat} (h : ¬ (inB (bAt bs k).l 1 100000 = false ∨ inB (bAt bs k).w 0 100000 = false ∨ inB (bAt bs k).u 0 1048576 = false))
    (h2 : ¬ (0 < k ∧ (bAt bs k).l ≤ (bAt bs (k - 1)).l)) (h3 : ltrE (bAt bs k).h = 0) (h4 : ¬ (m < (bAt bs k).w ∧ (bAt bs k).h.size ≠ 0)) : ckS m bs k () = .inl () := by rw [ckS, if_neg h, if_neg h2, if_neg (by omega), if_neg h4]

set_option maxHeartbeats 4000000 in
theorem check51_any (most : Int) (ao : Option Addr) (bs : List B5) (c : Nat) (w : World) (R : Ending → World → Prop) (hl : bs.length ≤ 9223372036854775807) (hc : CellsAt w ao (bC bs)) (hs : StrOk bs)
   (hR : ∀ w', Below w.heap.size w w' → R (.returned (.int .i64 (chkS most bs))) w') :
    Calls Tryd.prog 19 #[.agg #[.int .i64 most, .slice ao bs.length c]] w R := by
  have HR := Lib.hid hR
  have HC := Lib.hid hc
  have HS := Lib.hid hs
  clear hR hc hs
  obtain ⟨w1, E1, HB1, s1, b0, b1⟩ := box2 w (.int .i64 most) (.slice ao bs.length c) 24
  cases hp0 : inB most 0 100000 with
  | false =>
    have HE : Hid (chkS most bs = 2) := by unfold Hid; rw [chkS, if_neg (by rw [hp0]; simp)]
    go_enter Tryd.func19, Tryd.ntmps19
    go_wp2_with fail
    rw [E1.out]
    refine in_any _ _ _ _ _ ?_
    go_wp2_with fail
    exact ret_i (HR.out _ HB1.out) rfl HE.out
  | true =>
    by_cases h256 : 256 < bs.length
    · have HE : Hid (chkS most bs = 5) := by unfold Hid; rw [chkS, if_pos hp0, if_pos h256]
      go_enter Tryd.func19, Tryd.ntmps19
      go_wp2_with fail
      rw [E1.out]
      refine in_any _ _ _ _ _ ?_
      go_wp2_with fail
      exact ret_i (HR.out _ HB1.out) rfl HE.out
    · have HE : Hid (chkS most bs = chkR (loopE (ckS most bs) bs.length 0 ())) := by unfold Hid; rw [chkS, if_pos hp0, if_neg h256]
      go_enter Tryd.func19, Tryd.ntmps19
      go_wp2_with fail
      rw [E1.out]
      refine in_any _ _ _ _ _ ?_
      go_wp2_with fail
      go_loopw [17] (fun i wr => ∃ k : Nat, k ≤ bs.length ∧ i = .int .i64 k ∧ Hid (Below w1.heap.size w1 wr) ∧ Hid (loopE (ckS most bs) (bs.length - k) k () = loopE (ckS most bs) bs.length 0 ())) (fun i _ => bs.length - (intOf i).toNat)
      case atStart => exact ⟨0, Nat.zero_le _, rfl, Below.refl _ _, rfl⟩
      case round =>
        obtain ⟨k, hk, rfl, HB, hL⟩ := hrel
        have HW : Hid (Below w.heap.size w wr) := HB1.out.trans (HB.out.mono (by omega))
        have sw : w1.heap.size ≤ wr.heap.size := HB.out.size
        have g0 := cellB HB.out b0 s1
        have g1 := cellB HB.out b1 s1
        clear b0 b1
        by_cases hlt : k < bs.length
        · obtain ⟨b, o, rfl, _, hcell⟩ := (HC.out.below HW.out).blks (by omega)
          obtain ⟨c1, c2, c3, c4⟩ := hcell k hlt
          have d1 := (hcell (k - 1) (by omega)).1
          have hst := HS.out k hlt
          clear hcell
          obtain ⟨w2, E2, HB2, s2, x0, x1, x2, x3⟩ := box4 wr (.int .i64 (bAt bs k).l) (.int .i64 (bAt bs k).w) (.int .i64 (bAt bs k).u) (.string (bAt bs k).h) 66
          have HW2 : Hid (Below w1.heap.size w1 w2) := HB.out.trans (HB2.out.mono sw)
          have HV2 : Hid (Below w.heap.size w w2) := HW.out.trans (HB2.out.mono HW.out.size)
          have k0 := cellB HB2.out g0 (by omega)
          have k1 := cellB HB2.out g1 (by omega)
          have e1 := cellB HB2.out d1 (by exact lt_of_cell d1)
          clear d1
          by_cases hG : inB (bAt bs k).l 1 100000 = false ∨ inB (bAt bs k).w 0 100000 = false ∨ inB (bAt bs k).u 0 1048576 = false
          · have HF := Lib.hid (ckS_2 (m := most) hG)
            have HE2 : Hid (chkS most bs = 2) := by unfold Hid; rw [HE.out, loopE_hit hL hlt HF.out]; rfl
            clear HE HF
            cases q1 : inB (bAt bs k).l 1 100000 with
            | false =>
              go_wp2_with fail
              rw [E2.out]
              refine in_any _ _ _ _ _ ?_
              go_wp2_with fail
              exact ret_i (HR.out _ HV2.out) rfl HE2.out
            | true =>
              cases q2 : inB (bAt bs k).w 0 100000 with
              | false =>
                go_wp2_with fail
                rw [E2.out]
                refine in_any _ _ _ _ _ ?_
                go_wp2_with fail
                refine in_any _ _ _ _ _ ?_
                go_wp2_with fail
                exact ret_i (HR.out _ HV2.out) rfl HE2.out
              | true =>
                have q3 : inB (bAt bs k).u 0 1048576 = false := or3 hG q1 q2
                go_wp2_with fail
                rw [E2.out]
                refine in_any _ _ _ _ _ ?_
                go_wp2_with fail
                refine in_any _ _ _ _ _ ?_
                go_wp2_with fail
                refine in_any _ _ _ _ _ ?_
                go_wp2_with fail
                exact ret_i (HR.out _ HV2.out) rfl HE2.out
          · have hG1 : inB (bAt bs k).l 1 100000 = true := by cases h : inB (bAt bs k).l 1 100000 with | true => rfl | false => exact absurd (.inl h) hG
            have hG2 : inB (bAt bs k).w 0 100000 = true := by cases h : inB (bAt bs k).w 0 100000 with | true => rfl | false => exact absurd (.inr (.inl h)) hG
            have hG3 : inB (bAt bs k).u 0 1048576 = true := by cases h : inB (bAt bs k).u 0 1048576 with | true => rfl | false => exact absurd (.inr (.inr h)) hG
            have HG := Lib.hid hG
            clear hG
            by_cases hO : 0 < k ∧ (bAt bs k).l ≤ (bAt bs (k - 1)).l
            · have HE2 : Hid (chkS most bs = 9) := by unfold Hid; rw [HE.out, loopE_hit hL hlt (ckS_9 HG.out hO)]; rfl
              obtain ⟨o1, o2⟩ := hO
              go_wp2_with fail
              rw [E2.out]
              refine in_any _ _ _ _ _ ?_
              go_wp2_with fail
              refine in_any _ _ _ _ _ ?_
              go_wp2_with fail
              refine in_any _ _ _ _ _ ?_
              go_wp2_with fail
              go_quiet (fail)
              go_wp2_with fail
              exact ret_i (HR.out _ (HV2.out.trans (Drew.below ⟨_, rfl⟩ _))) rfl HE2.out
            · have HO := Lib.hid hO
              have hgd : (¬ 0 < k ∧ decide ((0 : Int) < (k : Int)) = false) ∨ (0 < k ∧ decide ((bAt bs k).l ≤ (bAt bs (k - 1)).l) = false) := by
                by_cases h0 : 0 < k
                · exact .inr ⟨h0, by rw [decide_eq_false_iff_not]; omega⟩
                · exact .inl ⟨h0, by rw [decide_eq_false_iff_not]; omega⟩
              clear hO
              rcases hgd with ⟨hgd, hgo⟩ | ⟨hgd, hgo⟩
              all_goals
                go_wp2_with fail
                rw [E2.out]
                refine in_any _ _ _ _ _ ?_
                go_wp2_with fail
                refine in_any _ _ _ _ _ ?_
                go_wp2_with fail
                refine in_any _ _ _ _ _ ?_
                go_wp2_with fail
                go_quiet (fail)
                go_wp2_with fail
                refine letters_any _ _ _ hst ?_
                intro w4 hb4
                have s4 := hb4.size
                have y1 := cellB hb4 (show World.cell? _ ⟨wr.heap.size, 1, none⟩ = _ from x1) (by exact s2)
                have y3 := cellB hb4 (show World.cell? _ ⟨wr.heap.size, 3, none⟩ = _ from x3) (by exact s2)
                have z0 := cellB hb4 (show World.cell? _ ⟨w.heap.size, 0, none⟩ = _ from k0) (by show w.heap.size < w2.heap.size; omega)
                have HB4 : Hid (Below w1.heap.size w1 w4) := HW2.out.trans ((Drew.below ⟨_, rfl⟩ _).trans (hb4.mono (by show w1.heap.size ≤ w2.heap.size; omega)))
                have HV4 : Hid (Below w.heap.size w w4) := HB1.out.trans (HB4.out.mono (by omega))
                clear hb4 c1 c2 c3 c4 g0 g1 k0 k1 x0 x1 x2 x3 e1
                by_cases hE : ltrE (bAt bs k).h = 0
                · by_cases hw : most < (bAt bs k).w
                  · by_cases hz : (bAt bs k).h.size = 0
                    · have hz' := empty_of hz
                      have HF := Lib.hid (ckS_ok (m := most) HG.out HO.out hE (fun h => h.2 hz))
                      clear hz
                      go_wp2_with fail
                      exact ⟨⟨k + 1, by omega, by go_num, HB4, loopE_step hL hlt HF.out⟩, by simp [intOf]; omega⟩
                    · have hz' := nempty_of hz
                      have HE2 : Hid (chkS most bs = 14) := by unfold Hid; rw [HE.out, loopE_hit hL hlt (ckS_14 HG.out HO.out hE ⟨hw, hz⟩)]; rfl
                      clear hz
                      go_wp2_with fail
                      exact ret_i (HR.out _ HV4.out) rfl HE2.out
                  · have HF := Lib.hid (ckS_ok (m := most) HG.out HO.out hE (fun h => hw h.1))
                    go_wp2_with fail
                    exact ⟨⟨k + 1, by omega, by go_num, HB4, loopE_step hL hlt HF.out⟩, by simp [intOf]; omega⟩
                · have HE2 : Hid (chkS most bs = ltrE (bAt bs k).h) := by unfold Hid; rw [HE.out, loopE_hit hL hlt (ckS_l HG.out HO.out hE)]; rfl
                  go_wp2_with fail
                  exact ret_i (HR.out _ HV4.out) rfl HE2.out
        · go_wp2_with fail
          exact ret_i (HR.out _ HW.out) rfl (by rw [HE.out, loopE_done hL hlt]; rfl)

end Go.Proofs.YteoniejpfmeibaaDoor
