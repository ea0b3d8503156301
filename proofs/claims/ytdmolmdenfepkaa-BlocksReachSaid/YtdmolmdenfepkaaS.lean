/- The walk of awake: the examples of the chapter hold. -/
import Derived.Test.YtdmolmdenfepkaaF
import Derived.Test.YtdmolmdenfepkaaP
import Derived.Test.YtdmolmdenfepkaaR
namespace Go.Proofs.Ytdmolmdenfepkaa
open Go.RowKit

theorem fewestAt (ao : Option Addr) (zs : List Int) (n c : Nat) (l : Int) (w : World) (R : Ending → World → Prop) (L : List Int) (m : Nat) (E : Int)
   (hn : zs.length = n) (hn' : n ≤ 9223372036854775807) (hL : fewL zs l = L) (hm : L.length = m) (hE : fewE zs l = E) (hc : CellsAt w ao (I64s zs))
   (hR : ∀ ao' c' w', Below w.heap.size w w' → CellsAt w' ao' (I64s L) → R (.returned (.tuple #[.slice ao' m c', .int .i64 E])) w') :
    Calls Try.prog 13 #[.slice ao n c, .int .i64 l] w R := by
  subst hn hL hm hE
  exact fewestX_any ao zs c l w R hn' hc hR
theorem countAt (ao : Option Addr) (zs : List Int) (n c : Nat) (l : Int) (w : World) (R : Ending → World → Prop) (V E : Int)
   (hn : zs.length = n) (hn' : n ≤ 9223372036854775807) (hV : cntN zs l = V) (hE : cntE zs l = E) (hc : CellsAt w ao (I64s zs))
   (hR : ∀ w', Below w.heap.size w w' → R (.returned (.tuple #[.int .i64 V, .int .i64 E])) w') :
    Calls Try.prog 18 #[.slice ao n c, .int .i64 l] w R := by
  subst hn hV hE
  exact count_any ao zs c l w R hn' hc hR
theorem equalAt (ao ao2 : Option Addr) (xs : List Int) (n c c2 : Nat) (w : World) (R : Ending → World → Prop) (hn : xs.length = n) (hn' : n ≤ 9223372036854775807)
   (hc : CellsAt w ao (I64s xs)) (hc2 : CellsAt w ao2 (I64s xs)) (hR : ∀ w', Drew w w' → R (.returned (.bool true)) w') :
    Calls Try.prog 15 #[.slice ao n c, .slice ao2 n c2] w R := by
  subst hn
  refine equal_any ao ao2 xs xs c c2 w R hn' hn' hc hc2 ?_
  rw [(eqL_iff xs xs).2 rfl]
  exact hR
theorem verifyAt (ao ao2 : Option Addr) (zs st : List Int) (n m c c2 : Nat) (l : Int) (w : World) (R : Ending → World → Prop) (E : Int)
   (hn : zs.length = n) (hn' : n ≤ 9223372036854775807) (hm : st.length = m) (hm' : m ≤ 9223372036854775807) (hE : verE zs l st = E) (hc : CellsAt w ao (I64s zs)) (hc2 : CellsAt w ao2 (I64s st))
   (hR : ∀ w', Below w.heap.size w w' → R (.returned (.int .i64 E)) w') :
    Calls Try.prog 16 #[.slice ao n c, .int .i64 l, .slice ao2 m c2] w R := by
  subst hn hm hE
  exact verify_any ao ao2 zs st c c2 l w R hn' hm' hc hc2 hR
theorem reachAt (ao : Option Addr) (zs : List Int) (n c : Nat) (l : Int) (w : World) (R : Ending → World → Prop) (L : List Int) (m : Nat) (E : Int)
   (hn : zs.length = n) (hn' : n ≤ 9223372036854775807) (hL : reaL zs l = L) (hm : L.length = m) (hE : reaE zs l = E) (hc : CellsAt w ao (I64s zs))
   (hR : ∀ ao' c' w', Below w.heap.size w w' → CellsAt w' ao' (I64s L) → R (.returned (.tuple #[.slice ao' m c', .int .i64 E])) w') :
    Calls Try.prog 20 #[.slice ao n c, .int .i64 l] w R := by
  subst hn hL hm hE
  exact reach_any ao zs c l w R hn' hc hR
theorem standardAt (s : Int) (w : World) (R : Ending → World → Prop) (L : List Int) (m : Nat) (E : Int) (hL : rstdL s = L) (hm : L.length = m) (hE : rstdE s = E)
   (hR : ∀ ao' c' w', Below w.heap.size w w' → CellsAt w' ao' (I64s L) → R (.returned (.tuple #[.slice ao' m c', .int .i64 E])) w') :
    Calls Try.prog 22 #[.int .i64 s] w R := by
  subst hL hm hE
  exact standard_any s w R hR

def aw : List Int := [1, 2, 3, 6]
theorem aw_f6 : fewL aw 6 = [3] ∧ fewE aw 6 = 0 ∧ cntN aw 6 = 2 ∧ cntE aw 6 = 0 ∧ verE aw 6 [3] = 0 := by decide +kernel
theorem aw_f9 : fewL aw 9 = [2, 3] ∧ fewE aw 9 = 0 ∧ cntN aw 9 = 2 ∧ cntE aw 9 = 0 ∧ verE aw 9 [2, 3] = 0 := by decide +kernel
theorem aw_f12 : fewL aw 12 = [0, 1, 2, 3] ∧ fewE aw 12 = 0 ∧ cntN aw 12 = 1 ∧ cntE aw 12 = 0 ∧ verE aw 12 [0, 1, 2, 3] = 0 := by decide +kernel
theorem aw_f13 : fewL aw 13 = [] ∧ fewE aw 13 = 6 := by decide +kernel
theorem aw_r : reaL aw 2 = [1, 2, 3, 4, 5, 6, 7, 8, 9] ∧ reaE aw 2 = 0 := by decide +kernel

/-- A stack of at most k of the blocks. -/
def srch : List Int → Nat → Nat → Bool
  | _, 0, _ => true
  | _, _ + 1, 0 => false
  | [], _ + 1, _ + 1 => false
  | x :: xs, n + 1, k + 1 => (Nat.ble x.toNat (n + 1) && srch xs (n + 1 - x.toNat) k) || srch xs (n + 1) (k + 1)
theorem srch_of {zs : List Int} (hz : ∀ j, j < zs.length → 1 ≤ at0 zs j) : ∀ (m i : Nat), zs.length - i ≤ m → ∀ {s : List Int} {n k : Nat}, St zs.length i s → wsum zs s = n → s.length ≤ k → srch (zs.drop i) n k = true := by
  intro m
  induction m with
  | zero =>
    intro i hm s n k hs hn hk
    have := St_end (by omega) hs
    subst this
    obtain rfl : n = 0 := by rw [wsum_nil] at hn; omega
    simp [srch]
  | succ m ih =>
    intro i hm s n k hs hn hk
    by_cases hi : i < zs.length
    · have e : zs.drop i = at0 zs i :: zs.drop (i+1) := by rw [List.drop_eq_getElem_cons hi]; simp [at0, List.getD, hi]
      rw [e]
      cases n with
      | zero => simp [srch]
      | succ n =>
        cases k with
        | zero =>
          have := List.length_eq_zero_iff.1 (by omega : s.length = 0)
          subst this
          rw [wsum_nil] at hn; omega
        | succ k =>
          rw [srch, Bool.or_eq_true, Bool.and_eq_true]
          rcases St_cases hs with h | ⟨t, rfl, _, h⟩
          · exact .inr (ih (i + 1) (by omega) h hn hk)
          · rw [wsum_cons] at hn
            have h0 := wsum_nonneg hz h
            have h1 := hz i hi
            simp only [List.length_cons] at hk
            exact .inl ⟨Nat.ble_eq_true_of_le (by omega), ih (i + 1) (by omega) (n := n + 1 - (at0 zs i).toNat) h (by omega) (by omega)⟩
    · have := St_end (by omega) hs
      subst this
      obtain rfl : n = 0 := by rw [wsum_nil] at hn; omega
      cases (zs.drop i) <;> simp [srch]

/-- The set of 87 blocks, with plain numbers. -/
def l87 : List Int := [500, 1000, 1001, 1002, 1003, 1004, 1005, 1006, 1007, 1008, 1009, 1010, 1020, 1030, 1040, 1050, 1060, 1070, 1080, 1090, 1100, 1110, 1120, 1130, 1140, 1150, 1160, 1170, 1180, 1190, 1200, 1210, 1220, 1230, 1240, 1250, 1260, 1270, 1280, 1290, 1300, 1310, 1320, 1330, 1340, 1350, 1360, 1370, 1380, 1390, 1400, 1410, 1420, 1430, 1440, 1450, 1460, 1470, 1480, 1490, 1500, 2000, 2500, 3000, 3500, 4000, 4500, 5000, 5500, 6000, 6500, 7000, 7500, 8000, 8500, 9000, 9500, 10000, 20000, 30000, 40000, 50000, 60000, 70000, 80000, 90000, 100000]
theorem l87_eq : rstd87 = l87 := by decide +kernel
theorem l87_right : chk l87 = 0 := by decide +kernel
set_option maxRecDepth 100000 in
theorem l87_none : srch l87 57315 3 = false := by decide +kernel
theorem St_of (n : Nat) (l : List Int) (i : Nat) (h : ∀ j, j < l.length → ((i : Int) ≤ at0 l j ∧ at0 l j < n) ∧ (0 < j → at0 l (j - 1) < at0 l j)) : St n i l := St_iff.2 h
theorem l87_some : St l87.length 0 ([6, 41, 67, 81] : List Int) ∧ wsum l87 ([6, 41, 67, 81] : List Int) = 57315 := by
  constructor
  · refine St_of _ _ _ ?_
    decide +kernel
  · decide +kernel
theorem l87_few : (fewL l87 57315).length = 4 ∧ fewE l87 57315 = 0 := by
  have hz : RightSet l87 := (chk_zero _).1 l87_right
  have hp : ∀ j, j < l87.length → 1 ≤ at0 l87 j := fun j hj => (hz.2 j hj).1.1
  have hg : gvn l87 57315 = 0 := by rw [gvn, if_pos l87_right]; rfl
  obtain ⟨h1, h2⟩ := l87_some
  have hr : reachB l87 (57315 : Int).toNat = true := (reachB_iff hz _).2 ⟨([6, 41, 67, 81] : List Int), h1, h2⟩
  obtain ⟨k1, k2, k3, k4⟩ := best_ok hz hr
  have k5 := (k4 ([6, 41, 67, 81] : List Int) h1 h2).1
  rw [fewL, if_pos ⟨hg, hr⟩, fewE, if_pos hg, if_pos hr]
  refine ⟨?_, rfl⟩
  have h5 : ¬ (bestL l87 0 (57315 : Int).toNat).length ≤ 3 := by
    intro hle
    have := srch_of hp l87.length 0 (by omega) k1 k2 hle
    rw [List.drop_zero] at this
    rw [show (57315 : Int).toNat = 57315 from rfl, l87_none] at this
    cases this
  have h6 : (([6, 41, 67, 81] : List Int)).length = 4 := rfl
  omega
end Go.Proofs.Ytdmolmdenfepkaa
