/- The contract of blocks.Standard: it is the reference's set, or the error. -/
import Derived.Test.YtdmolmdenfepkaaOb
import Derived.Test.YtdmolmdenfepkaaOc
import Derived.Test.YtdmolmdenfepkaaL
namespace Go.Proofs.Ytdmolmdenfepkaa
open Go.RowKit

theorem sortL_eq {l r : List Int} (hp : l.isPerm r = true) (hs : List.Pairwise (fun x y : Int => x ≤ y) r) : sortL l = r := by
  refine List.Perm.eq_of_pairwise (le := fun a b : Int => a ≤ b) (fun a b _ _ h1 h2 => Int.le_antisymm h1 h2) ?_ hs ((List.mergeSort_perm l _).trans (List.isPerm_iff.1 hp))
  have := List.pairwise_mergeSort (le := fun x y : Int => decide (x ≤ y)) (fun a b c h1 h2 => by simp at h1 h2 ⊢; omega) (fun a b => by simp; omega) l
  simpa [sortL] using this

set_option maxRecDepth 100000 in
theorem std32_eq : sortL std32o6 = rstd32 := sortL_eq (by decide +kernel) (by decide +kernel)
set_option maxRecDepth 100000 in
theorem std47_eq : sortL std47o5 = rstd47 := sortL_eq (by decide +kernel) (by decide +kernel)
set_option maxRecDepth 100000 in
theorem std87_eq : sortL std87o4 = rstd87 := sortL_eq (by decide +kernel) (by decide +kernel)

theorem standard_any (size : Int) (w : World) (R : Ending → World → Prop)
   (hR : ∀ ao' c' w', Below w.heap.size w w' → CellsAt w' ao' (I64s (rstdL size)) → R (.returned (.tuple #[.slice ao' (rstdL size).length c', .int .i64 (rstdE size)])) w') :
    Calls Try.prog 22 #[.int .i64 size] w R := by
  have HR := Lib.hid hR
  clear hR
  by_cases h32 : size = 32
  · subst h32
    have HL : Hid (rstdL 32 = sortL std32o6) := by unfold Hid; rw [rstdL, if_pos rfl, std32_eq]
    have HE : Hid (rstdE 32 = 0) := rfl
    rw [HL.out, HE.out] at HR
    exact standard32_any w R fun g c w' => HR.out _ c w'
  by_cases h47 : size = 47
  · subst h47
    have HL : Hid (rstdL 47 = sortL std47o5) := by unfold Hid; rw [rstdL, if_neg (by omega), if_pos rfl, std47_eq]
    have HE : Hid (rstdE 47 = 0) := rfl
    rw [HL.out, HE.out] at HR
    exact standard47_any w R fun g c w' => HR.out _ c w'
  by_cases h87 : size = 87
  · subst h87
    have HL : Hid (rstdL 87 = sortL std87o4) := by unfold Hid; rw [rstdL, if_neg (by omega), if_neg (by omega), if_pos rfl, std87_eq]
    have HE : Hid (rstdE 87 = 0) := rfl
    rw [HL.out, HE.out] at HR
    exact standard87_any w R fun g c w' => HR.out _ c w'
  have HL : Hid (rstdL size = []) := by unfold Hid; rw [rstdL, if_neg h32, if_neg h47, if_neg h87]
  have HE : Hid (rstdE size = 1) := by unfold Hid; rw [rstdE, if_neg h32, if_neg h47, if_neg h87]
  rw [HL.out, HE.out] at HR
  go_enter Try.func22, Try.ntmps22
  go_wp2_with fail
  all_goals try contradiction
  exact ret_eq (HR.out none 0 _ (Below.refl _ _) (CellsAt.nil _ _)) rfl

end Go.Proofs.Ytdmolmdenfepkaa
