/- The walk of the law BlocksGrow: it returns true, and memory that was there is as it was. -/
import Derived.Test.YtdmolmdenfepkaaGa
namespace Go.Proofs.Ytdmolmdenfepkaa
open Go.RowKit

theorem rgtB_iff {zs : List Int} {l : Int} : rgtB zs l = true ↔ zs.length ≤ 9 ∧ chk zs = 0 ∧ 1 ≤ l ∧ l ≤ 100000 := by simp [rgtB]

set_option maxHeartbeats 1000000 in
theorem lawGrow (ao : Option Addr) (zs : List Int) (c : Nat) (l x : Int) (w : World) (R : Ending → World → Prop)
   (hl : zs.length ≤ 9223372036854775807) (hc : CellsAt w ao (I64s zs)) (hR : ∀ w', Below w.heap.size w w' → R (.returned (.bool true)) w') :
    Calls Try.prog 8 #[.slice ao zs.length c, .int .i64 l, .int .i64 x] w R := by
  have HR := Lib.hid hR
  clear hR
  have HC := Lib.hid hc
  by_cases hr : rgtB zs l = true
  · by_cases h8 : zs.length ≤ 8
    · have h8' : decide ((8 : Int) < zs.length) = false := by rw [decide_eq_false_iff_not]; omega
      by_cases hx1 : 1 ≤ x
      · by_cases hx2 : x ≤ 100000
        · by_cases hm : x ∈ zs
          · have hm' : Hid (decide (x ∈ zs) = true) := by unfold Hid; rw [decide_eq_true_eq]; exact hm
            clear hm
            go_enter Try.func8, Try.ntmps8
            go_wp2_with fail
            refine right_any ao zs c l _ _ hl hc ?_
            rintro w1 ⟨q1, rfl⟩
            go_wp2_with fail
            refine contains_any ao zs c x _ _ hl (HC.out.below (Drew.below ⟨_, rfl⟩ _)) ?_
            rw [hm'.out]
            rintro w2 ⟨q2, rfl⟩
            go_wp2_with fail
            refine awake_any _ _ ?_
            intro w4 hb4
            have HB4 : Hid (Below w.heap.size w w4) := (Drew.below (by repeat first | exact Drew.refl _ | apply Drew.drewN) _ : Below w.heap.size w _).trans (hb4.mono (Nat.le_refl _))
            clear hb4
            go_wp2_with fail
            exact HR.out _ HB4.out
          · have hm' : Hid (decide (x ∈ zs) = false) := by unfold Hid; rw [decide_eq_false_iff_not]; exact hm
            obtain ⟨g1, g2, g3, g4⟩ := rgtB_iff.1 hr
            have hz := (chk_zero zs).1 g2
            obtain ⟨k0, k1⟩ := grow_law hz h8 ⟨hx1, hx2⟩ hm ⟨g3, g4⟩
            obtain ⟨hy, hy9⟩ := added_right hz h8 ⟨hx1, hx2⟩
            obtain ⟨m1, m2, m3⟩ := cnt_few hz (by omega) ⟨g3, g4⟩
            obtain ⟨n1, n2, n3⟩ := cnt_few hy hy9 ⟨g3, g4⟩
            have m0 : 0 ≤ cntN zs l := by rw [m2]; omega
            have n0 : 0 ≤ cntN (added zs x) l := by rw [n2]; omega
            have f1 := fewL_length zs l
            have f2 := fewL_length (added zs x) l
            obtain ⟨ys, hys⟩ : ∃ ys, added zs x = ys := ⟨_, rfl⟩
            have HY := Lib.hid hys
            obtain ⟨A, hA⟩ : ∃ A, fewL zs l = A := ⟨_, rfl⟩
            obtain ⟨E, hE⟩ : ∃ E, fewE zs l = E := ⟨_, rfl⟩
            obtain ⟨M, hM⟩ : ∃ M, cntN zs l = M := ⟨_, rfl⟩
            rw [hys] at k0 k1 hy9 n1 n3 f2 n0
            obtain ⟨B, hB⟩ : ∃ B, fewL ys l = B := ⟨_, rfl⟩
            obtain ⟨F, hF⟩ : ∃ F, fewE ys l = F := ⟨_, rfl⟩
            obtain ⟨N, hN⟩ : ∃ N, cntN ys l = N := ⟨_, rfl⟩
            rw [hA, hE, hB, hF] at k1
            rw [hM, hN] at k0
            rw [hM] at m0 m3
            rw [hN] at n0 n3
            rw [hE] at m3
            rw [hF] at n3
            rw [hA] at f1
            rw [hB] at f2
            have HA := Lib.hid hA
            have HE := Lib.hid hE
            have HM := Lib.hid hM
            have HBB := Lib.hid hB
            have HF := Lib.hid hF
            have HN := Lib.hid hN
            have M1 := Lib.hid m1
            have N1 := Lib.hid n1
            have t1 : decide (N < M) = false := by rw [decide_eq_false_iff_not]; omega
            have t2 : decide (0 < M) = (E == 0) := by rw [Bool.eq_iff_iff, decide_eq_true_eq, beq_iff_eq]; exact m3
            have t3 : decide (0 < N) = (F == 0) := by rw [Bool.eq_iff_iff, decide_eq_true_eq, beq_iff_eq]; exact n3
            have K1 := Lib.hid k1
            clear hm hys hA hE hM hB hF hN m1 n1 m2 n2 m3 n3 m0 n0 k0 k1 hz hy g1 g2 g3 g4
            go_enter Try.func8, Try.ntmps8
            go_wp2_with fail
            refine right_any ao zs c l _ _ hl hc ?_
            rintro w1 ⟨q1, rfl⟩
            go_wp2_with fail
            refine contains_any ao zs c x _ _ hl (HC.out.below (Drew.below ⟨_, rfl⟩ _)) ?_
            rw [hm'.out]
            rintro w2 ⟨q2, rfl⟩
            go_wp2_with fail
            refine added_any ao zs c x _ _ (by omega) (HC.out.below (Drew.below (by repeat first | exact Drew.refl _ | apply Drew.drewN) _)) ?_
            rw [HY.out]
            intro v w3 hb3 hown
            obtain ⟨ay, cy, rfl, hcy, _, _⟩ := hown.read
            have HB3 : Hid (Below w.heap.size w w3) := (Drew.below (by repeat first | exact Drew.refl _ | apply Drew.drewN) _ : Below w.heap.size w _).trans (hb3.mono (Nat.le_refl _))
            have s3 : w.heap.size ≤ w3.heap.size := HB3.out.size
            have HCY := Lib.hid hcy
            clear hb3 hown hcy
            go_wp2_with fail
            refine fewestX_any ao zs c l _ _ hl (HC.out.below HB3.out) ?_
            rw [HA.out, HE.out]
            intro a4 c4 w4 hb4 hc4
            have HB4 := Lib.hid (HB3.out.trans (hb4.mono s3))
            have s4 : w.heap.size ≤ w4.heap.size := HB4.out.size
            have HCY4 := Lib.hid (HCY.out.below hb4)
            clear hb4 hc4
            go_wp2_with fail
            refine fewestX_any ay ys cy l _ _ (by omega) HCY4.out ?_
            rw [HBB.out, HF.out]
            intro a5 c5 w5 hb5 hc5
            have HB5 := Lib.hid (HB4.out.trans (hb5.mono s4))
            have s5 : w.heap.size ≤ w5.heap.size := HB5.out.size
            have HCY5 := Lib.hid (HCY4.out.below hb5)
            clear hb5 hc5
            go_wp2_with fail
            refine count_any ao zs c l _ _ hl (HC.out.below HB5.out) ?_
            rw [HM.out, M1.out]
            intro w6 hb6
            have HB6 := Lib.hid (HB5.out.trans (hb6.mono s5))
            have s6 : w.heap.size ≤ w6.heap.size := HB6.out.size
            have HCY6 := Lib.hid (HCY5.out.below hb6)
            clear hb6
            go_wp2_with fail
            refine count_any ay ys cy l _ _ (by omega) HCY6.out ?_
            rw [HN.out, N1.out]
            intro w7 hb7
            have HB7 := Lib.hid (HB6.out.trans (hb7.mono s6))
            have s7 : w.heap.size ≤ w7.heap.size := HB7.out.size
            clear hb7
            by_cases hE0 : E = 0
            · obtain ⟨hF0, hlen⟩ := K1.out hE0
              subst hE0
              subst hF0
              have t4 : decide ((B.length : Int) ≤ A.length) = true := by rw [decide_eq_true_eq]; omega
              go_wp2_with fail
              refine awake_any _ _ ?_
              intro w8 hb8
              have HB8 : Hid (Below w.heap.size w w8) := HB7.out.trans (hb8.mono s7)
              clear hb8
              go_wp2_with fail
              exact HR.out _ HB8.out
            · have hE' : (E == 0) = false := by simpa using hE0
              have hE'' : (E != 0) = true := by simpa using hE0
              by_cases hF0 : F = 0
              · subst hF0
                go_wp2_with fail
                refine awake_any _ _ ?_
                intro w8 hb8
                have HB8 : Hid (Below w.heap.size w w8) := HB7.out.trans (hb8.mono s7)
                clear hb8
                go_wp2_with fail
                exact HR.out _ HB8.out
              · have hF' : (F == 0) = false := by simpa using hF0
                go_wp2_with fail
                refine awake_any _ _ ?_
                intro w8 hb8
                have HB8 : Hid (Below w.heap.size w w8) := HB7.out.trans (hb8.mono s7)
                clear hb8
                go_wp2_with fail
                exact HR.out _ HB8.out
        · go_enter Try.func8, Try.ntmps8
          go_wp2_with fail
          refine right_any ao zs c l _ _ hl hc ?_
          rintro w1 ⟨q1, rfl⟩
          go_wp2_with fail
          refine awake_any _ _ ?_
          intro w4 hb4
          have HB4 : Hid (Below w.heap.size w w4) := (Drew.below (by repeat first | exact Drew.refl _ | apply Drew.drewN) _ : Below w.heap.size w _).trans (hb4.mono (Nat.le_refl _))
          clear hb4
          go_wp2_with fail
          exact HR.out _ HB4.out
      · go_enter Try.func8, Try.ntmps8
        go_wp2_with fail
        refine right_any ao zs c l _ _ hl hc ?_
        rintro w1 ⟨q1, rfl⟩
        go_wp2_with fail
        refine awake_any _ _ ?_
        intro w4 hb4
        have HB4 : Hid (Below w.heap.size w w4) := (Drew.below (by repeat first | exact Drew.refl _ | apply Drew.drewN) _ : Below w.heap.size w _).trans (hb4.mono (Nat.le_refl _))
        clear hb4
        go_wp2_with fail
        exact HR.out _ HB4.out
    · have h8' : decide ((8 : Int) < zs.length) = true := by rw [decide_eq_true_eq]; omega
      go_enter Try.func8, Try.ntmps8
      go_wp2_with fail
      refine right_any ao zs c l _ _ hl hc ?_
      rintro w1 ⟨q1, rfl⟩
      go_wp2_with fail
      refine awake_any _ _ ?_
      intro w4 hb4
      have HB4 : Hid (Below w.heap.size w w4) := (Drew.below (by repeat first | exact Drew.refl _ | apply Drew.drewN) _ : Below w.heap.size w _).trans (hb4.mono (Nat.le_refl _))
      clear hb4
      go_wp2_with fail
      exact HR.out _ HB4.out
  · have hr' : rgtB zs l = false := by simpa using hr
    go_enter Try.func8, Try.ntmps8
    go_wp2_with fail
    refine right_any ao zs c l _ _ hl hc ?_
    rintro w1 ⟨q1, rfl⟩
    go_wp2_with fail
    refine awake_any _ _ ?_
    intro w4 hb4
    have HB4 : Hid (Below w.heap.size w w4) := (Drew.below (by repeat first | exact Drew.refl _ | apply Drew.drewN) _ : Below w.heap.size w _).trans (hb4.mono (Nat.le_refl _))
    clear hb4
    go_wp2_with fail
    exact HR.out _ HB4.out
end Go.Proofs.Ytdmolmdenfepkaa
