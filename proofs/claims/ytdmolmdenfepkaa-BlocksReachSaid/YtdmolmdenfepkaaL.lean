/- The walk of the reference's Standard. -/
import Derived.Test.YtdmolmdenfepkaaK
namespace Go.Proofs.Ytdmolmdenfepkaa
open Go.RowKit

set_option maxHeartbeats 1000000 in
theorem rstandard_any (size : Int) (w : World) (R : Ending → World → Prop)
   (hR : ∀ ao' c' w', Below w.heap.size w w' → CellsAt w' ao' (I64s (rstdL size)) → R (.returned (.tuple #[.slice ao' (rstdL size).length c', .int .i64 (rstdE size)])) w') :
    Calls Try.prog 23 #[.int .i64 size] w R := by
  have HR := Lib.hid hR
  clear hR
  by_cases h32 : size = 32
  · subst h32
    have HL : Hid (rstdL 32 = rstd32) := by unfold Hid; rw [rstdL, if_pos rfl]
    have HE : Hid (rstdE 32 = 0) := rfl
    rw [HL.out, HE.out] at HR
    go_enter Try.func23, Try.ntmps23
    go_wp2_with fail
    refine rsteps_any (some ⟨w.heap.size, 0, none⟩) [1005] 1 1010 1090 10 9 _ _ (by simp) (CellsAt.new1 w (.int .i64 1005) 3) (by omega) (by omega) (by omega) (by intro k hk; omega) (by omega) ?_
    intro a1 c1 w1 hb1 hc1
    obtain ⟨l1, hl1⟩ : ∃ l, stepsL [1005] 1010 10 9 = l := ⟨_, rfl⟩
    rw [hl1] at hc1 ⊢
    have LL1 := Lib.hid hl1
    have HC1 := Lib.hid hc1
    have HB1 := Lib.hid (Below.trans ((Below.refl _ _).alloc (Nat.le_refl _) _) (hb1.mono (by simp)))
    have LN1 : Hid (l1.length ≤ 1 + 9) := by
      unfold Hid; rw [← LL1.out]; have := stepsL_len [1005] 1010 10 9; simp at this ⊢; omega
    clear hb1 hc1 hl1
    go_wp2_with fail
    refine rsteps_any a1 l1 c1 1100 1900 100 9 _ _ (by have := LN1.out; omega) HC1.out (by omega) (by omega) (by omega) (by intro k hk; omega) (by omega) ?_
    intro a2 c2 w2 hb2 hc2
    obtain ⟨l2, hl2⟩ : ∃ l, stepsL l1 1100 100 9 = l := ⟨_, rfl⟩
    rw [hl2] at hc2 ⊢
    have LL2 := Lib.hid hl2
    have HC2 := Lib.hid hc2
    have HB2 := Lib.hid (HB1.out.trans (hb2.mono HB1.out.size))
    have LN2 : Hid (l2.length ≤ 0 + 18 + 1) := by
      unfold Hid; rw [← LL2.out]; have := stepsL_len l1 1100 100 9; have := LN1.out; simp at this ⊢; omega
    clear hb2 hc2 hl2
    go_wp2_with fail
    refine rsteps_any a2 l2 c2 1000 9000 1000 9 _ _ (by have := LN2.out; omega) HC2.out (by omega) (by omega) (by omega) (by intro k hk; omega) (by omega) ?_
    intro a3 c3 w3 hb3 hc3
    obtain ⟨l3, hl3⟩ : ∃ l, stepsL l2 1000 1000 9 = l := ⟨_, rfl⟩
    rw [hl3] at hc3 ⊢
    have LL3 := Lib.hid hl3
    have HC3 := Lib.hid hc3
    have HB3 := Lib.hid (HB2.out.trans (hb3.mono HB2.out.size))
    have LN3 : Hid (l3.length ≤ 0 + 27 + 1) := by
      unfold Hid; rw [← LL3.out]; have := stepsL_len l2 1000 1000 9; have := LN2.out; simp at this ⊢; omega
    clear hb3 hc3 hl3
    go_wp2_with fail
    refine rsteps_any a3 l3 c3 10000 30000 10000 3 _ _ (by have := LN3.out; omega) HC3.out (by omega) (by omega) (by omega) (by intro k hk; omega) (by omega) ?_
    intro a4 c4 w4 hb4 hc4
    obtain ⟨l4, hl4⟩ : ∃ l, stepsL l3 10000 10000 3 = l := ⟨_, rfl⟩
    rw [hl4] at hc4 ⊢
    have LL4 := Lib.hid hl4
    have HC4 := Lib.hid hc4
    have HB4 := Lib.hid (HB3.out.trans (hb4.mono HB3.out.size))
    have LN4 : Hid (l4.length ≤ 0 + 30 + 1) := by
      unfold Hid; rw [← LL4.out]; have := stepsL_len l3 10000 10000 3; have := LN3.out; simp at this ⊢; omega
    clear hb4 hc4 hl4
    go_wp2_with fail
    refine rsteps_any a4 l4 c4 50000 50000 1 1 _ _ (by have := LN4.out; omega) HC4.out (by omega) (by omega) (by omega) (by intro k hk; omega) (by omega) ?_
    intro a5 c5 w5 hb5 hc5
    obtain ⟨l5, hl5⟩ : ∃ l, stepsL l4 50000 1 1 = l := ⟨_, rfl⟩
    rw [hl5] at hc5 ⊢
    have LL5 := Lib.hid hl5
    have HC5 := Lib.hid hc5
    have HB5 := Lib.hid (HB4.out.trans (hb5.mono HB4.out.size))
    have LN5 : Hid (l5.length ≤ 0 + 31 + 1) := by
      unfold Hid; rw [← LL5.out]; have := stepsL_len l4 50000 1 1; have := LN4.out; simp at this ⊢; omega
    clear hb5 hc5 hl5
    go_wp2_with fail
    have e : l5 = rstd32 := by rw [← LL5.out, ← LL4.out, ← LL3.out, ← LL2.out, ← LL1.out, rstd32]
    have HR' := HR.out a5 c5 w5 HB5.out (e ▸ HC5.out)
    rw [← e] at HR'
    exact HR'
  by_cases h47 : size = 47
  · subst h47
    have HL : Hid (rstdL 47 = rstd47) := by unfold Hid; rw [rstdL, if_neg (by omega), if_pos rfl]
    have HE : Hid (rstdE 47 = 0) := rfl
    rw [HL.out, HE.out] at HR
    go_enter Try.func23, Try.ntmps23
    go_wp2_with fail
    refine rsteps_any (some ⟨w.heap.size, 0, none⟩) [1005] 1 1010 1190 10 19 _ _ (by simp) (CellsAt.new1 w (.int .i64 1005) 3) (by omega) (by omega) (by omega) (by intro k hk; omega) (by omega) ?_
    intro a1 c1 w1 hb1 hc1
    obtain ⟨l1, hl1⟩ : ∃ l, stepsL [1005] 1010 10 19 = l := ⟨_, rfl⟩
    rw [hl1] at hc1 ⊢
    have LL1 := Lib.hid hl1
    have HC1 := Lib.hid hc1
    have HB1 := Lib.hid (Below.trans ((Below.refl _ _).alloc (Nat.le_refl _) _) (hb1.mono (by simp)))
    have LN1 : Hid (l1.length ≤ 1 + 19) := by
      unfold Hid; rw [← LL1.out]; have := stepsL_len [1005] 1010 10 19; simp at this ⊢; omega
    clear hb1 hc1 hl1
    go_wp2_with fail
    refine rsteps_any a1 l1 c1 1200 1900 100 8 _ _ (by have := LN1.out; omega) HC1.out (by omega) (by omega) (by omega) (by intro k hk; omega) (by omega) ?_
    intro a2 c2 w2 hb2 hc2
    obtain ⟨l2, hl2⟩ : ∃ l, stepsL l1 1200 100 8 = l := ⟨_, rfl⟩
    rw [hl2] at hc2 ⊢
    have LL2 := Lib.hid hl2
    have HC2 := Lib.hid hc2
    have HB2 := Lib.hid (HB1.out.trans (hb2.mono HB1.out.size))
    have LN2 : Hid (l2.length ≤ 0 + 27 + 1) := by
      unfold Hid; rw [← LL2.out]; have := stepsL_len l1 1200 100 8; have := LN1.out; simp at this ⊢; omega
    clear hb2 hc2 hl2
    go_wp2_with fail
    refine rsteps_any a2 l2 c2 1000 9000 1000 9 _ _ (by have := LN2.out; omega) HC2.out (by omega) (by omega) (by omega) (by intro k hk; omega) (by omega) ?_
    intro a3 c3 w3 hb3 hc3
    obtain ⟨l3, hl3⟩ : ∃ l, stepsL l2 1000 1000 9 = l := ⟨_, rfl⟩
    rw [hl3] at hc3 ⊢
    have LL3 := Lib.hid hl3
    have HC3 := Lib.hid hc3
    have HB3 := Lib.hid (HB2.out.trans (hb3.mono HB2.out.size))
    have LN3 : Hid (l3.length ≤ 0 + 36 + 1) := by
      unfold Hid; rw [← LL3.out]; have := stepsL_len l2 1000 1000 9; have := LN2.out; simp at this ⊢; omega
    clear hb3 hc3 hl3
    go_wp2_with fail
    refine rsteps_any a3 l3 c3 10000 100000 10000 10 _ _ (by have := LN3.out; omega) HC3.out (by omega) (by omega) (by omega) (by intro k hk; omega) (by omega) ?_
    intro a4 c4 w4 hb4 hc4
    obtain ⟨l4, hl4⟩ : ∃ l, stepsL l3 10000 10000 10 = l := ⟨_, rfl⟩
    rw [hl4] at hc4 ⊢
    have LL4 := Lib.hid hl4
    have HC4 := Lib.hid hc4
    have HB4 := Lib.hid (HB3.out.trans (hb4.mono HB3.out.size))
    have LN4 : Hid (l4.length ≤ 0 + 46 + 1) := by
      unfold Hid; rw [← LL4.out]; have := stepsL_len l3 10000 10000 10; have := LN3.out; simp at this ⊢; omega
    clear hb4 hc4 hl4
    go_wp2_with fail
    have e : l4 = rstd47 := by rw [← LL4.out, ← LL3.out, ← LL2.out, ← LL1.out, rstd47]
    have HR' := HR.out a4 c4 w4 HB4.out (e ▸ HC4.out)
    rw [← e] at HR'
    exact HR'
  by_cases h87 : size = 87
  · subst h87
    have HL : Hid (rstdL 87 = rstd87) := by unfold Hid; rw [rstdL, if_neg (by omega), if_neg (by omega), if_pos rfl]
    have HE : Hid (rstdE 87 = 0) := rfl
    rw [HL.out, HE.out] at HR
    go_enter Try.func23, Try.ntmps23
    go_wp2_with fail
    refine rsteps_any none [] 0 1001 1009 1 9 _ _ (by simp) (CellsAt.nil _ _) (by omega) (by omega) (by omega) (by intro k hk; omega) (by omega) ?_
    intro a1 c1 w1 hb1 hc1
    obtain ⟨l1, hl1⟩ : ∃ l, stepsL [] 1001 1 9 = l := ⟨_, rfl⟩
    rw [hl1] at hc1 ⊢
    have LL1 := Lib.hid hl1
    have HC1 := Lib.hid hc1
    have HB1 := Lib.hid (Below.trans (Below.refl w.heap.size w) (hb1.mono (by simp)))
    have LN1 : Hid (l1.length ≤ 0 + 9) := by
      unfold Hid; rw [← LL1.out]; have := stepsL_len [] 1001 1 9; simp at this ⊢; omega
    clear hb1 hc1 hl1
    go_wp2_with fail
    refine rsteps_any a1 l1 c1 1010 1490 10 49 _ _ (by have := LN1.out; omega) HC1.out (by omega) (by omega) (by omega) (by intro k hk; omega) (by omega) ?_
    intro a2 c2 w2 hb2 hc2
    obtain ⟨l2, hl2⟩ : ∃ l, stepsL l1 1010 10 49 = l := ⟨_, rfl⟩
    rw [hl2] at hc2 ⊢
    have LL2 := Lib.hid hl2
    have HC2 := Lib.hid hc2
    have HB2 := Lib.hid (HB1.out.trans (hb2.mono HB1.out.size))
    have LN2 : Hid (l2.length ≤ 0 + 58) := by
      unfold Hid; rw [← LL2.out]; have := stepsL_len l1 1010 10 49; have := LN1.out; simp at this ⊢; omega
    clear hb2 hc2 hl2
    go_wp2_with fail
    refine rsteps_any a2 l2 c2 500 9500 500 19 _ _ (by have := LN2.out; omega) HC2.out (by omega) (by omega) (by omega) (by intro k hk; omega) (by omega) ?_
    intro a3 c3 w3 hb3 hc3
    obtain ⟨l3, hl3⟩ : ∃ l, stepsL l2 500 500 19 = l := ⟨_, rfl⟩
    rw [hl3] at hc3 ⊢
    have LL3 := Lib.hid hl3
    have HC3 := Lib.hid hc3
    have HB3 := Lib.hid (HB2.out.trans (hb3.mono HB2.out.size))
    have LN3 : Hid (l3.length ≤ 0 + 77) := by
      unfold Hid; rw [← LL3.out]; have := stepsL_len l2 500 500 19; have := LN2.out; simp at this ⊢; omega
    clear hb3 hc3 hl3
    go_wp2_with fail
    refine rsteps_any a3 l3 c3 10000 100000 10000 10 _ _ (by have := LN3.out; omega) HC3.out (by omega) (by omega) (by omega) (by intro k hk; omega) (by omega) ?_
    intro a4 c4 w4 hb4 hc4
    obtain ⟨l4, hl4⟩ : ∃ l, stepsL l3 10000 10000 10 = l := ⟨_, rfl⟩
    rw [hl4] at hc4 ⊢
    have LL4 := Lib.hid hl4
    have HC4 := Lib.hid hc4
    have HB4 := Lib.hid (HB3.out.trans (hb4.mono HB3.out.size))
    have LN4 : Hid (l4.length ≤ 0 + 87) := by
      unfold Hid; rw [← LL4.out]; have := stepsL_len l3 10000 10000 10; have := LN3.out; simp at this ⊢; omega
    clear hb4 hc4 hl4
    go_wp2_with fail
    have e : l4 = rstd87 := by rw [← LL4.out, ← LL3.out, ← LL2.out, ← LL1.out, rstd87]
    have HR' := HR.out a4 c4 w4 HB4.out (e ▸ HC4.out)
    rw [← e] at HR'
    exact HR'
  have e1 : rstdL size = [] := by rw [rstdL, if_neg h32, if_neg h47, if_neg h87]
  have e2 : rstdE size = 1 := by rw [rstdE, if_neg h32, if_neg h47, if_neg h87]
  rw [e1, e2] at HR
  have g1 : (size == 32) = false := by simpa using h32
  have g2 : (size == 47) = false := by simpa using h47
  have g3 : (size == 87) = false := by simpa using h87
  clear e1 e2 h32 h47 h87
  go_enter Try.func23, Try.ntmps23
  go_wp2_with fail
  exact HR.out none 0 w (Below.refl _ _) (CellsAt.nil _ _)
end Go.Proofs.Ytdmolmdenfepkaa
