/- The walk of the law BlocksStandard: it returns true, and memory that was there is as it was. -/
import Derived.Test.YtdmolmdenfepkaaV
import Derived.Test.YtdmolmdenfepkaaY
namespace Go.Proofs.Ytdmolmdenfepkaa
open Go.RowKit

set_option maxHeartbeats 1000000 in
theorem lawStandard (size : Int) (n : Int) (w : World) (R : Ending → World → Prop) (hn : 0 ≤ n) (hn2 : n ≤ 65535)
   (hR : ∀ w', Below w.heap.size w w' → R (.returned (.bool true)) w') :
    Calls Try.prog 6 #[.int .i64 size, .int .u16 n] w R := by
  have HR := Lib.hid hR
  clear hR
  obtain ⟨m, rfl⟩ : ∃ m : Nat, n = m := ⟨n.toNat, by omega⟩
  by_cases hs : size = 32 ∨ size = 47 ∨ size = 87
  · have hE : rstdE size = 0 := by rcases hs with rfl | rfl | rfl <;> rfl
    obtain ⟨k, hk, hkm⟩ : ∃ k : Nat, k < 3400 ∧ Int.tmod (m : Int) 3400 = k := ⟨m % 3400, Nat.mod_lt _ (by omega), by rw [Int.tmod_eq_emod_of_nonneg (by omega)]; omega⟩
    have Hf := Lib.hid (std_few hs hk)
    have hm : (rstdL size).length ≤ 87 := rstdL_length size
    obtain ⟨L, hL⟩ : ∃ L, rstdL size = L := ⟨_, rfl⟩
    have HL := Lib.hid hL
    have HE := Lib.hid hE
    rw [hL] at hm Hf
    clear hE hL hs
    go_enter Try.func6, Try.ntmps6
    go_wp2_with fail
    refine standard_any size _ _ ?_
    rw [HL.out, HE.out]
    intro a1 c1 w1 hb1 hc1
    have HB1 := Lib.hid hb1
    have HC1 := Lib.hid hc1
    have s1 : w.heap.size ≤ w1.heap.size := HB1.out.size
    clear hb1 hc1
    go_wp2_with fail
    refine rstandard_any size _ _ ?_
    rw [HL.out, HE.out]
    intro a2 c2 w2 hb2 hc2
    have HB2 := Lib.hid (HB1.out.trans (hb2.mono s1))
    have s2 : w.heap.size ≤ w2.heap.size := HB2.out.size
    have HC1' := Lib.hid (HC1.out.below hb2)
    have HC2 := Lib.hid hc2
    clear hb2 hc2
    go_wp2_with fail
    refine equalAt _ _ L L.length c1 c2 _ _ rfl (by omega) HC1'.out HC2.out ?_
    rintro w3 ⟨q3, rfl⟩
    go_wp2_with fail
    rw [show (3000 : Int) + (k : Int) * 5 = ((3000 + k * 5 : Nat) : Int) from by omega]
    refine fewestX_any a1 L c1 _ _ _ (by omega) (HC1'.out.below (Drew.below ⟨_, rfl⟩ _)) ?_
    intro a4 c4 w4 hb4 hc4
    have HB4 : Hid (Below w.heap.size w w4) := (HB2.out.trans (Drew.below ⟨_, rfl⟩ _)).trans (hb4.mono (show w.heap.size ≤ w2.heap.size from s2))
    have s4 : w.heap.size ≤ w4.heap.size := HB4.out.size
    have HC1'' := Lib.hid ((HC1'.out.below (Drew.below ⟨_, rfl⟩ _)).below hb4)
    have HC4 := Lib.hid hc4
    obtain ⟨f1, f2, f3, f4⟩ := Hf.out
    obtain ⟨P, hP⟩ : ∃ P, fewL L ((3000 + k * 5 : Nat) : Int) = P := ⟨_, rfl⟩
    rw [hP] at f2 f3 f4 HC4
    rw [hP, f1]
    have f2' : decide ((P.length : Int) ≤ 5) = true := by rw [decide_eq_true_eq]; omega
    have F3 := Lib.hid f3
    have F4 := Lib.hid f4
    clear hb4 hc4 f1 f3 f4 hP Hf
    go_wp2_with fail
    refine rtotal_any a1 a4 L P c1 c4 _ _ (by omega) (by omega) HC1''.out HC4.out F4.out ?_
    rw [F3.out]
    go_wp2_with fail
    refine awake_any _ _ ?_
    intro w6 hb6
    have HB6 : Hid (Below w.heap.size w w6) := HB4.out.trans (hb6.mono s4)
    clear hb6
    go_wp2_with fail
    exact HR.out _ HB6.out
  · have h32 : ¬ size = 32 := fun h => hs (.inl h)
    have h47 : ¬ size = 47 := fun h => hs (.inr (.inl h))
    have h87 : ¬ size = 87 := fun h => hs (.inr (.inr h))
    have HL : Hid (rstdL size = []) := by unfold Hid; rw [rstdL, if_neg h32, if_neg h47, if_neg h87]
    have HE : Hid (rstdE size = 1) := by unfold Hid; rw [rstdE, if_neg h32, if_neg h47, if_neg h87]
    clear h32 h47 h87 hs
    go_enter Try.func6, Try.ntmps6
    go_wp2_with fail
    refine standard_any size _ _ ?_
    rw [HL.out, HE.out]
    intro a1 c1 w1 hb1 hc1
    have HB1 := Lib.hid hb1
    have HC1 := Lib.hid hc1
    have s1 : w.heap.size ≤ w1.heap.size := HB1.out.size
    clear hb1 hc1
    go_wp2_with fail
    refine rstandard_any size _ _ ?_
    rw [HL.out, HE.out]
    intro a2 c2 w2 hb2 hc2
    have HB2 := Lib.hid (HB1.out.trans (hb2.mono s1))
    have s2 : w.heap.size ≤ w2.heap.size := HB2.out.size
    have HC1' := Lib.hid (HC1.out.below hb2)
    have HC2 := Lib.hid hc2
    clear hb2 hc2
    go_wp2_with fail
    refine equalAt _ _ [] 0 c1 c2 _ _ rfl (by omega) HC1'.out HC2.out ?_
    rintro w3 ⟨q3, rfl⟩
    go_wp2_with fail
    refine awake_any _ _ ?_
    intro w6 hb6
    have HB6 : Hid (Below w.heap.size w w6) := (HB2.out.trans (Drew.below ⟨_, rfl⟩ _)).trans (hb6.mono (show w.heap.size ≤ w2.heap.size from s2))
    clear hb6
    go_wp2_with fail
    exact HR.out _ HB6.out
end Go.Proofs.Ytdmolmdenfepkaa
