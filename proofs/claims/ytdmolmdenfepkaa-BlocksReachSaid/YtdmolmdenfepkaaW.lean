/- The walks of the laws BlocksVerify, BlocksChecks, BlocksCounts: they return true, and memory that was there is as it was. -/
import Derived.Test.YtdmolmdenfepkaaV
import Derived.Test.YtdmolmdenfepkaaK
import Derived.Test.YtdmolmdenfepkaaX
namespace Go.Proofs.Ytdmolmdenfepkaa
open Go.RowKit

set_option maxHeartbeats 1000000 in
theorem lawVerify (ao : Option Addr) (zs : List Int) (c : Nat) (l : Int) (ao2 : Option Addr) (st : List Int) (c2 : Nat) (w : World) (R : Ending → World → Prop)
   (hl : zs.length ≤ 9223372036854775807) (hl2 : st.length ≤ 9223372036854775807) (hc : CellsAt w ao (I64s zs)) (hc2 : CellsAt w ao2 (I64s st)) (hR : ∀ w', Below w.heap.size w w' → R (.returned (.bool true)) w') :
    Calls Try.prog 4 #[.slice ao zs.length c, .int .i64 l, .slice ao2 st.length c2] w R := by
  have HR := Lib.hid hR
  clear hR
  by_cases hf : fewB zs = true
  · by_cases hs : st.length ≤ 100
    · have hs' : decide ((100 : Int) < st.length) = false := by rw [decide_eq_false_iff_not]; omega
      have h9 := Lib.hid (fewB_nine hf)
      have HC := Lib.hid hc
      have HC2 := Lib.hid hc2
      go_enter Try.func4, Try.ntmps4
      go_wp2_with fail
      refine few_any ao zs c _ _ hl hc ?_
      rintro w1 ⟨q1, rfl⟩
      go_wp2_with fail
      refine verify_any ao ao2 zs st c c2 l _ _ hl hl2 (HC.out.below (Drew.below ⟨_, rfl⟩ _)) (HC2.out.below (Drew.below ⟨_, rfl⟩ _)) ?_
      rw [ver_eq]
      intro w1 hb1
      have HB1 : Hid (Below w.heap.size w w1) := (Drew.below ⟨_, rfl⟩ _ : Below w.heap.size w (w.drewN _)).trans (hb1.mono (Nat.le_refl _))
      have s1 : w.heap.size ≤ w1.heap.size := HB1.out.size
      clear hb1
      go_wp2_with fail
      refine rverify_any ao ao2 zs st c c2 l _ _ hl h9.out hl2 (HC.out.below HB1.out) (HC2.out.below HB1.out) ?_
      intro w2 hb2
      have HB2 := Lib.hid (HB1.out.trans (hb2.mono s1))
      have s2 : w.heap.size ≤ w2.heap.size := HB2.out.size
      clear hb2
      go_wp2_with fail
      refine awake_any _ _ ?_
      intro w4 hb4
      have HB4 : Hid (Below w.heap.size w w4) := HB2.out.trans (hb4.mono s2)
      clear hb4
      go_wp2_with fail
      exact HR.out _ HB4.out
    · have hs' : decide ((100 : Int) < st.length) = true := by rw [decide_eq_true_eq]; omega
      go_enter Try.func4, Try.ntmps4
      go_wp2_with fail
      refine few_any ao zs c _ _ hl hc ?_
      rintro w1 ⟨q1, rfl⟩
      go_wp2_with fail
      refine awake_any _ _ ?_
      intro w4 hb4
      have HB4 : Hid (Below w.heap.size w w4) := (Drew.below ⟨_, rfl⟩ _ : Below w.heap.size w (w.drewN _)).trans hb4
      clear hb4
      go_wp2_with fail
      exact HR.out _ HB4.out
  · have hf' : fewB zs = false := by simpa using hf
    go_enter Try.func4, Try.ntmps4
    go_wp2_with fail
    refine few_any ao zs c _ _ hl hc ?_
    rintro w1 ⟨q1, rfl⟩
    go_wp2_with fail
    refine awake_any _ _ ?_
    intro w4 hb4
    have HB4 : Hid (Below w.heap.size w w4) := (Drew.below ⟨_, rfl⟩ _ : Below w.heap.size w (w.drewN _)).trans hb4
    clear hb4
    go_wp2_with fail
    exact HR.out _ HB4.out

set_option maxHeartbeats 1000000 in
theorem lawChecks (ao : Option Addr) (zs : List Int) (c : Nat) (ao2 : Option Addr) (st : List Int) (c2 : Nat) (w : World) (R : Ending → World → Prop)
   (hl : zs.length ≤ 9223372036854775807) (hl2 : st.length ≤ 9223372036854775807) (hc : CellsAt w ao (I64s zs)) (hc2 : CellsAt w ao2 (I64s st)) (hR : ∀ w', Below w.heap.size w w' → R (.returned (.bool true)) w') :
    Calls Try.prog 7 #[.slice ao zs.length c, .slice ao2 st.length c2] w R := by
  have HR := Lib.hid hR
  clear hR
  by_cases hz : zs.length ≤ 512
  · have hz' : decide ((512 : Int) < zs.length) = false := by rw [decide_eq_false_iff_not]; omega
    by_cases hs : st.length ≤ 512
    · have hs' : decide ((512 : Int) < st.length) = false := by rw [decide_eq_false_iff_not]; omega
      have HC := Lib.hid hc
      have HC2 := Lib.hid hc2
      go_enter Try.func7, Try.ntmps7
      go_wp2_with fail
      refine length_any ao ao2 zs st c c2 _ _ hl hl2 hc hc2 ?_
      rw [len_eq]
      go_wp2_with fail
      refine rlength_any ao ao2 zs st c c2 _ _ hl hl2 HC.out HC2.out ?_
      obtain ⟨A, hA⟩ : ∃ A, (rlen zs st).1 = A := ⟨_, rfl⟩
      obtain ⟨E, hE⟩ : ∃ E, (rlen zs st).2 = E := ⟨_, rfl⟩
      obtain ⟨K, hK⟩ : ∃ K, chk zs = K := ⟨_, rfl⟩
      have HK := Lib.hid hK
      rw [hA, hE]
      clear hA hE hK
      rintro w1 ⟨q1, rfl⟩
      go_wp2_with fail
      refine check_any ao zs c _ _ hl (HC.out.below (Drew.below ⟨_, rfl⟩ _)) ?_
      rw [HK.out]
      go_wp2_with fail
      refine rcheck_any ao zs c _ _ hl (HC.out.below (Drew.below ⟨_, rfl⟩ _)) ?_
      rw [HK.out]
      rintro w2 ⟨q2, rfl⟩
      go_wp2_with fail
      refine awake_any _ _ ?_
      intro w4 hb4
      have HB4 : Hid (Below w.heap.size w w4) := ((Drew.below (by repeat first | exact Drew.refl _ | apply Drew.drewN) _ : Below w.heap.size w _)).trans (hb4.mono (Nat.le_refl _))
      clear hb4
      go_wp2_with fail
      exact HR.out _ HB4.out
    · have hs' : decide ((512 : Int) < st.length) = true := by rw [decide_eq_true_eq]; omega
      go_enter Try.func7, Try.ntmps7
      go_wp2_with fail
      refine awake_any _ _ ?_
      intro w4 hb4
      have HB4 := Lib.hid hb4
      clear hb4
      go_wp2_with fail
      exact HR.out _ HB4.out
  · have hz' : decide ((512 : Int) < zs.length) = true := by rw [decide_eq_true_eq]; omega
    go_enter Try.func7, Try.ntmps7
    go_wp2_with fail
    refine awake_any _ _ ?_
    intro w4 hb4
    have HB4 := Lib.hid hb4
    clear hb4
    go_wp2_with fail
    exact HR.out _ HB4.out

set_option maxHeartbeats 1000000 in
theorem lawCounts (ao : Option Addr) (zs : List Int) (c : Nat) (l most : Int) (w : World) (R : Ending → World → Prop)
   (hl : zs.length ≤ 9223372036854775807) (hc : CellsAt w ao (I64s zs)) (hR : ∀ w', Below w.heap.size w w' → R (.returned (.bool true)) w') :
    Calls Try.prog 5 #[.slice ao zs.length c, .int .i64 l, .int .i64 most] w R := by
  have HR := Lib.hid hR
  clear hR
  by_cases hf : fewB zs = true
  · have h9 := Lib.hid (fewB_nine hf)
    have HC := Lib.hid hc
    go_enter Try.func5, Try.ntmps5
    go_wp2_with fail
    refine few_any ao zs c _ _ hl hc ?_
    rintro w1 ⟨q1, rfl⟩
    go_wp2_with fail
    refine count_any ao zs c l _ _ hl (HC.out.below (Drew.below ⟨_, rfl⟩ _)) ?_
    rw [(cnt_eq zs l h9.out).1, (cnt_eq zs l h9.out).2]
    obtain ⟨V, hV⟩ : ∃ V, rcntN zs l = V := ⟨_, rfl⟩
    obtain ⟨E, hE⟩ : ∃ E, rcntE zs l = E := ⟨_, rfl⟩
    have HV := Lib.hid hV
    have HE := Lib.hid hE
    rw [hV, hE]
    clear hV hE
    intro w1 hb1
    have HB1 : Hid (Below w.heap.size w w1) := (Drew.below ⟨_, rfl⟩ _ : Below w.heap.size w (w.drewN _)).trans (hb1.mono (Nat.le_refl _))
    have s1 : w.heap.size ≤ w1.heap.size := HB1.out.size
    clear hb1
    go_wp2_with fail
    refine rcount_any ao zs c l _ _ hl h9.out (HC.out.below HB1.out) ?_
    rw [HV.out, HE.out]
    intro w2 hb2
    have HB2 := Lib.hid (HB1.out.trans (hb2.mono s1))
    have s2 : w.heap.size ≤ w2.heap.size := HB2.out.size
    clear hb2
    go_wp2_with fail
    refine reach_any ao zs c most _ _ hl (HC.out.below HB2.out) ?_
    have hm : (rreaL zs most).length ≤ 9223372036854775807 := rreaL_length zs most
    rw [(rea_eq zs most h9.out).1, (rea_eq zs most h9.out).2]
    obtain ⟨L, hL⟩ : ∃ L, rreaL zs most = L := ⟨_, rfl⟩
    obtain ⟨F, hF⟩ : ∃ F, rreaE zs most = F := ⟨_, rfl⟩
    have HL := Lib.hid hL
    have HF := Lib.hid hF
    rw [hL] at hm
    rw [hL, hF]
    clear hL hF
    intro a3 c3 w3 hb3 hc3
    have HB3 := Lib.hid (HB2.out.trans (hb3.mono s2))
    have s3 : w.heap.size ≤ w3.heap.size := HB3.out.size
    have HC3 := Lib.hid hc3
    clear hb3 hc3
    go_wp2_with fail
    refine rreach_any ao zs c most _ _ hl h9.out (HC.out.below HB3.out) ?_
    rw [HL.out, HF.out]
    intro a4 c4 w4 hb4 hc4
    have HB4 := Lib.hid (HB3.out.trans (hb4.mono s3))
    have s4 : w.heap.size ≤ w4.heap.size := HB4.out.size
    have HC3' := Lib.hid (HC3.out.below hb4)
    have HC4 := Lib.hid hc4
    clear hb4 hc4
    go_wp2_with fail
    refine equalAt _ _ L L.length c3 c4 _ _ rfl hm HC3'.out HC4.out ?_
    rintro w5 ⟨q5, rfl⟩
    go_wp2_with fail
    refine awake_any _ _ ?_
    intro w6 hb6
    have HB6 : Hid (Below w.heap.size w w6) := (HB4.out.trans (Drew.below ⟨_, rfl⟩ _)).trans (hb6.mono (show w.heap.size ≤ w4.heap.size from s4))
    clear hb6
    go_wp2_with fail
    exact HR.out _ HB6.out
  · have hf' : fewB zs = false := by simpa using hf
    go_enter Try.func5, Try.ntmps5
    go_wp2_with fail
    refine few_any ao zs c _ _ hl hc ?_
    rintro w1 ⟨q1, rfl⟩
    go_wp2_with fail
    refine awake_any _ _ ?_
    intro w4 hb4
    have HB4 : Hid (Below w.heap.size w w4) := (Drew.below ⟨_, rfl⟩ _ : Below w.heap.size w (w.drewN _)).trans hb4
    clear hb4
    go_wp2_with fail
    exact HR.out _ HB4.out
end Go.Proofs.Ytdmolmdenfepkaa
