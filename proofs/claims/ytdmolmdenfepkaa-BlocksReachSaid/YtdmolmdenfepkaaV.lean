/- The walks of the laws BlocksFewest, BlocksVerify, BlocksChecks: they return true, and memory that was there is as it was. -/
import Derived.Test.YtdmolmdenfepkaaI
import Derived.Test.YtdmolmdenfepkaaU
namespace Go.Proofs.Ytdmolmdenfepkaa
open Go.RowKit

theorem fewB_nine {zs : List Int} (h : fewB zs = true) : chk zs = 0 → zs.length ≤ 9 := by
  intro h0
  unfold fewB at h
  rw [Bool.or_eq_true, Bool.and_eq_true, decide_eq_true_eq, decide_eq_true_eq] at h
  rcases h with h | ⟨_, h⟩
  · exact h
  · rw [h0] at h; cases h
theorem fewL_length (zs : List Int) (l : Int) : (fewL zs l).length ≤ zs.length := by
  unfold fewL
  split
  · exact bestL_length _ _ _
  · simp
theorem chkE (zs : List Int) : 0 ≤ chk zs ∧ chk zs ≤ 15 := by
  unfold chk
  split
  · omega
  · cases hl : loopE (chkF zs) zs.length 0 () with
    | inl s => simp [chkR]
    | inr r =>
      obtain ⟨j, _, _, hj⟩ := loopE_unit_inr _ _ hl
      rcases chkF_inr hj with e | e <;> simp [chkR] <;> omega
theorem gvnE (zs : List Int) (l : Int) : 0 ≤ gvn zs l ∧ gvn zs l ≤ 15 := by
  unfold gvn
  have := chkE zs
  split
  · split <;> omega
  · omega
theorem fewE_bd (zs : List Int) (l : Int) : 0 ≤ fewE zs l ∧ fewE zs l ≤ 15 := by
  unfold fewE
  have := gvnE zs l
  split
  · split <;> omega
  · omega

set_option maxHeartbeats 1000000 in
theorem lawFewest (ao : Option Addr) (zs : List Int) (c : Nat) (l : Int) (w : World) (R : Ending → World → Prop)
   (hl : zs.length ≤ 9223372036854775807) (hc : CellsAt w ao (I64s zs)) (hR : ∀ w', Below w.heap.size w w' → R (.returned (.bool true)) w') :
    Calls Try.prog 3 #[.slice ao zs.length c, .int .i64 l] w R := by
  have HR := Lib.hid hR
  clear hR
  by_cases hf : fewB zs = true
  · have h9 := Lib.hid (fewB_nine hf)
    have HC := Lib.hid hc
    go_enter Try.func3, Try.ntmps3
    go_wp2_with fail
    refine few_any ao zs c _ _ hl hc ?_
    rintro w1 ⟨q1, rfl⟩
    go_wp2_with fail
    refine fewestX_any ao zs c l _ _ hl (HC.out.below (Drew.below ⟨_, rfl⟩ _)) ?_
    intro a1 c1 w1 hb1 hc1
    have hm := fewL_length zs l
    have he := fewE_bd zs l
    rw [(few_eq zs l).1] at hm hc1
    rw [(few_eq zs l).2] at he
    rw [(few_eq zs l).1, (few_eq zs l).2]
    have HB1 : Hid (Below w.heap.size w w1) := (Drew.below ⟨_, rfl⟩ _ : Below w.heap.size w (w.drewN _)).trans (hb1.mono (Nat.le_refl _))
    have s1 : w.heap.size ≤ w1.heap.size := HB1.out.size
    have HC1 := Lib.hid hc1
    clear hb1 hc1
    go_wp2_with fail
    refine rfewest_any ao zs c l _ _ hl h9.out (HC.out.below HB1.out) ?_
    intro a2 c2 w2 hb2 hc2
    have HB2 := Lib.hid (HB1.out.trans (hb2.mono s1))
    have HC1' := Lib.hid (HC1.out.below hb2)
    have s2 : w.heap.size ≤ w2.heap.size := HB2.out.size
    have HC2 := Lib.hid hc2
    clear hb2 hc2
    obtain ⟨L, hL⟩ : ∃ L, rfewL zs l = L := ⟨_, rfl⟩
    obtain ⟨E, hE⟩ : ∃ E, rfewE zs l = E := ⟨_, rfl⟩
    rw [hL] at hm HC1' HC2
    rw [hE] at he
    rw [hL, hE]
    clear hL hE
    go_wp2_with fail
    refine equalAt _ _ L L.length c1 c2 _ _ rfl (by omega) HC1'.out HC2.out ?_
    rintro w3 ⟨q3, rfl⟩
    go_wp2_with fail
    refine awake_any _ _ ?_
    intro w4 hb4
    have HB4 : Hid (Below w.heap.size w w4) := (HB2.out.trans (Drew.below ⟨_, rfl⟩ _)).trans (hb4.mono (show w.heap.size ≤ w2.heap.size from s2))
    clear hb4
    go_wp2_with fail
    exact HR.out _ HB4.out
  · have hf' : fewB zs = false := by simpa using hf
    go_enter Try.func3, Try.ntmps3
    go_wp2_with fail
    refine few_any ao zs c _ _ hl hc ?_
    rintro w1 ⟨q1, rfl⟩
    go_wp2_with fail
    refine awake_any _ _ ?_
    intro w4 hb4
    have HB4 : Hid (Below w.heap.size w w4) := (Drew.below ⟨_, rfl⟩ _ : Below w.heap.size w (w.drewN _)).trans hb4
    clear hb4
    go_wp2_with fail
    exact HR.out _ HB4.out
end Go.Proofs.Ytdmolmdenfepkaa
