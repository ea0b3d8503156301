/- slices.IsSorted of an ascending list; slices.Compact of a sorted list of the call's own. -/
import Derived.Test.YtdmolmdenfepkaaGg
namespace Go.Proofs.Ytdmolmdenfepkaa
open Go.RowKit

theorem less_q (x y : Int) (w : World) : Calls Try.prog 55 #[.int .i64 x, .int .i64 y] w fun e w' => e = .returned (.bool (decide (x < y))) ∧ ∃ m, w' = w.drewN m := by
  refine (Try.cmp_Less_int2 x y w).mono ?_
  rintro e w' ⟨h1, h2⟩
  exact ⟨h1, 0, by rw [h2]; rfl⟩

set_option maxHeartbeats 400000 in
theorem isSorted_any (ao : Option Addr) (zs : List Int) (c : Nat) (w : World) (R : Ending → World → Prop)
   (hl : zs.length ≤ 1000000) (hc : CellsAt w ao (I64s zs)) (hasc : ∀ j, j < zs.length → 0 < j → at0 zs (j - 1) < at0 zs j)
   (hR : ∀ w', Drew w w' → R (.returned (.bool true)) w') :
    Calls Try.prog 34 #[.slice ao zs.length c] w R := by
  have HR := Lib.hid hR
  have HA := Lib.hid hasc
  clear hR hasc
  go_enter Try.func34, Try.ntmps34
  go_wp2_with fail
  go_loopw [3] (fun i wr => ∃ k : Int, k < zs.length ∧ -1 ≤ k ∧ i = .int .i64 k ∧ Drew w wr) (fun i _ => (intOf i + 1).toNat)
  case atStart => exact ⟨(zs.length : Int) - 1, by omega, by omega, rfl, Drew.refl _⟩
  case round =>
    obtain ⟨k, hk, hk0, rfl, ⟨q, rfl⟩⟩ := hrel
    by_cases hpos : 0 < k
    · obtain ⟨n, rfl⟩ : ∃ n : Nat, k = n := ⟨k.toNat, by omega⟩
      obtain ⟨b, o, rfl, _, hcell⟩ := hc.ints (by omega)
      have h1 := hcell n (by omega)
      have h2 := hcell (n - 1) (by omega)
      have h3 := HA.out n (by omega) (by omega)
      have h4 : decide (at0 zs n < at0 zs (n - 1)) = false := by rw [decide_eq_false_iff_not]; omega
      have h5 : IntKind.i64.wrap ((n : Int) - 1) = ((n - 1 : Nat) : Int) := by rw [IntWalk.i64_in _ (by omega)]; omega
      have h6 : n < zs.length := by omega
      have h7 : n - 1 < zs.length := by omega
      clear hcell
      go_wp2_with fail
      go_quiet (first | (go_at_call 55; exact (Try.cmp_Less_int2 _ _ _).mono fun e w' h => ⟨h.1, _, h.2⟩))
      go_wp2_with fail
      exact ⟨⟨((n - 1 : Nat) : Int), by omega, by omega, rfl, (by repeat first | exact Drew.refl _ | apply Drew.drewN)⟩, by simp [intOf]; omega⟩
    · have hpos' : decide ((0 : Int) < k) = false := by rw [decide_eq_false_iff_not]; exact hpos
      go_wp2_with fail
      exact ret_eq (HR.out _ (by repeat first | exact Drew.refl _ | apply Drew.drewN)) rfl
end Go.Proofs.Ytdmolmdenfepkaa
