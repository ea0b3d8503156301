/- The walks of Count and Reach. -/
import Derived.Test.YtdmolmdenfepkaaE
namespace Go.Proofs.Ytdmolmdenfepkaa
open Go.RowKit

set_option maxHeartbeats 1000000 in
theorem count_any (ao : Option Addr) (zs : List Int) (c : Nat) (l : Int) (w : World) (R : Ending → World → Prop)
   (hl : zs.length ≤ 9223372036854775807) (hc : CellsAt w ao (I64s zs))
   (hR : ∀ w', Below w.heap.size w w' → R (.returned (.tuple #[.int .i64 (cntN zs l), .int .i64 (cntE zs l)])) w') :
    Calls Try.prog 18 #[.slice ao zs.length c, .int .i64 l] w R := by
  have HR := Lib.hid hR
  clear hR
  by_cases h : gvn zs l = 0
  · obtain ⟨hs, hl1, hl2⟩ := gvn_zero h
    have Hbd := Lib.hid hs.bd
    obtain ⟨n, rfl⟩ : ∃ n : Nat, l = n := ⟨l.toNat, by omega⟩
    have hl3 := hs.1
    clear hs
    have Hsum : Hid (0 ≤ zs.sum ∧ zs.sum ≤ 25600000) := by
      have := sum_take_bd zs 100000 (fun j hj => ⟨by have := (Hbd.out j hj).1; omega, (Hbd.out j hj).2⟩) zs.length (Nat.le_refl _)
      rw [List.take_length] at this
      exact ⟨this.1, by omega⟩
    go_enter Try.func18, Try.ntmps18
    go_wp2_with fail
    refine given_any ao zs c _ _ _ hl hc ?_
    go_wp2_with fail
    refine filledC_any ao zs c n 0 1 _ _ hl3 hc Hbd.out (by omega) ?_
    intro T C W cells w' h1 h2 h3 h4 h5 h6 h7 h8
    have c1 := h5.cell (j := 1) (by simp)
    have c2 := h5.cell (j := 2) (by simp)
    have hWl : (W : Int) ≤ n + 1 := by omega
    obtain ⟨N, hN⟩ : ∃ N : Nat, N = (zs.length + 1) * W := ⟨_, rfl⟩
    rw [← hN] at c2 h7 h5
    have HN := Lib.hid hN
    have H2 := Lib.hid h2
    have H1 := Lib.hid h1
    have H6 := Lib.hid h6
    have H7 := Lib.hid h7
    have H8 := Lib.hid h8
    clear hN h2 h1 h5 h6 h7 h8
    by_cases g1 : W ≤ n
    · have e : cntV zs n = 0 := by rw [cntV, if_neg (by have := H2.out; omega)]
      have HR' := Lib.hid (HR.out w' H1.out)
      rw [cntN, cntE, if_pos h, if_pos h, Int.toNat_natCast, e, if_pos (by omega), if_pos (by omega)] at HR'
      clear e
      go_wp2_with fail
      exact HR'.out
    · have hWe : W = n + 1 := by omega
      have HWe := Lib.hid hWe
      have hT0 := H8.out 0 (Nat.le_refl _) (Nat.zero_le _) n (by omega)
      rw [Nat.zero_mul, Nat.zero_add, List.drop_zero] at hT0
      have c3 := H6.out.cell32 (j := n) (by rw [H7.out, HN.out, Nat.succ_mul]; omega)
      rw [hT0] at c3
      have ev : cntV zs n = tab joinC 0 1 zs n := by rw [cntV, if_pos (by have := H2.out; omega)]
      clear hWe hT0
      have hN1 : N ≤ 1000000000 := by rw [HN.out]; exact Nat.le_trans (Nat.mul_le_mul (show zs.length + 1 ≤ 257 by omega) (show W ≤ 100001 by omega)) (by omega)
      have hWN : (0 + 1) * W ≤ N := by rw [HN.out]; exact Nat.mul_le_mul_right _ (by omega)
      have HWN := Lib.hid hWN
      clear hWN
      have hbd := tabC_bd zs n
      by_cases g3 : tab joinC 0 1 zs n ≤ 1048576
      · have HR' := Lib.hid HR.out
        rw [cntN, cntE, if_pos h, if_pos h, Int.toNat_natCast, ev, if_pos g3, if_pos g3] at HR'
        clear ev
        go_wp2_with fail
        refine row_any T C (.slice none 0 0) W N 0 _ _ c1 c2 (by omega) (by omega) HWN.out ?_
        rintro w3 ⟨q, rfl⟩
        go_wp2_with fail
        refine row_any T C (.slice none 0 0) W N 0 _ _ c1 c2 (by omega) (by omega) HWN.out ?_
        rintro w3 ⟨q2, rfl⟩
        go_wp2_with fail
        exact HR'.out _ (H1.out.trans ((Drew.refl _).drewN.below _))
      · have HR' := Lib.hid HR.out
        rw [cntN, cntE, if_pos h, if_pos h, Int.toNat_natCast, ev, if_neg g3, if_neg g3] at HR'
        clear ev
        go_wp2_with fail
        refine row_any T C (.slice none 0 0) W N 0 _ _ c1 c2 (by omega) (by omega) HWN.out ?_
        rintro w3 ⟨q, rfl⟩
        go_wp2_with fail
        exact HR'.out _ (H1.out.trans ((Drew.refl _).drewN.below _))
  · have h2 : (gvn zs l != 0) = true := by simpa using h
    have HR' := Lib.hid (HR.out w (Below.refl _ _))
    rw [cntN, cntE, if_neg h, if_neg h] at HR'
    clear h
    go_enter Try.func18, Try.ntmps18
    go_wp2_with fail
    refine given_any ao zs c _ _ _ hl hc ?_
    go_wp2_with fail
    exact HR'.out

/-- What the loop of 'Reach' holds. -/
def ReachInv (zs : List Int) (most : Int) (W0 : World) (k : Nat) (v : Value) (wr : World) : Prop :=
  ∃ out : List Int, OwnL wr W0.heap.size 3 1 v out.length (I64s out) ∧ out.length ≤ 16384 ∧ loopE (reaF zs most) (reaW zs - k) k out = reaX zs most ∧ Below W0.heap.size W0 wr

set_option maxHeartbeats 1000000 in
theorem reach_any (ao : Option Addr) (zs : List Int) (c : Nat) (most : Int) (w : World) (R : Ending → World → Prop)
   (hl : zs.length ≤ 9223372036854775807) (hc : CellsAt w ao (I64s zs))
   (hR : ∀ ao' c' w', Below w.heap.size w w' → CellsAt w' ao' (I64s (reaL zs most)) → R (.returned (.tuple #[.slice ao' (reaL zs most).length c', .int .i64 (reaE zs most)])) w') :
    Calls Try.prog 20 #[.slice ao zs.length c, .int .i64 most] w R := by
  have HR := Lib.hid hR
  clear hR
  by_cases h : chk zs = 0
  · by_cases hm : 1 ≤ most ∧ most ≤ 8
    · have hs := (chk_zero zs).1 h
      have Hbd := Lib.hid hs.bd
      have hl3 := hs.1
      clear hs
      have Hsum : Hid (0 ≤ zs.sum ∧ zs.sum ≤ 25600000) := by
        have := sum_take_bd zs 100000 (fun j hj => ⟨by have := (Hbd.out j hj).1; omega, (Hbd.out j hj).2⟩) zs.length (Nat.le_refl _)
        rw [List.take_length] at this
        exact ⟨this.1, by omega⟩
      have HRl : Hid (reaL zs most = reaR1 (reaX zs most)) := by unfold Hid; rw [reaL, if_pos h, if_pos hm]
      have HRe : Hid (reaE zs most = reaR2 (reaX zs most)) := by unfold Hid; rw [reaE, if_pos h, if_pos hm]
      go_enter Try.func20, Try.ntmps20
      go_wp2_with fail
      refine check_any ao zs c _ _ hl hc ?_
      go_wp2_with fail
      refine fewest_any ao zs c 100000 _ _ hl3 hc Hbd.out (by omega) ?_
      intro T C W cells w' h1 h2 h3 h4 h5 h6 h7 h8
      have c1 := h5.cell (j := 1) (by simp)
      have c2 := h5.cell (j := 2) (by simp)
      have hWl : (W : Int) ≤ 100001 := by omega
      obtain ⟨N, hN⟩ : ∃ N : Nat, N = (zs.length + 1) * W := ⟨_, rfl⟩
      rw [← hN] at c2 h7 h5
      have hN1 : N ≤ 1000000000 := by rw [hN]; exact Nat.le_trans (Nat.mul_le_mul (show zs.length + 1 ≤ 257 by omega) (show W ≤ 100001 by omega)) (by omega)
      have HWr : Hid (reaW zs = W) := by have := Hsum.out.1; show (min zs.sum 100000).toNat + 1 = W; omega
      have hWN : (0 + 1) * W ≤ N := by rw [hN]; exact Nat.mul_le_mul_right _ (by omega)
      have hW1 : 1 ≤ W := by have := Hsum.out.1; omega
      have HWN := Lib.hid hWN
      have HN := Lib.hid hN
      have H1 := Lib.hid h1
      have H6 := Lib.hid h6
      have H7 := Lib.hid h7
      have H8 := Lib.hid h8
      clear hN h2 h1 h5 h6 h7 h8 hWN
      go_wp2_with fail
      refine row_any T C (.slice none 0 0) W N 0 _ _ c1 c2 (by omega) (by omega) HWN.out ?_
      rintro w3 ⟨q, rfl⟩
      go_wp2_with fail
      go_loopw [7, 25] (fun v i wr => ∃ k : Nat, k ≤ W ∧ i = .int .i64 k ∧ ReachInv zs most w' k v wr) (fun _ i _ => W - (intOf i).toNat)
      case atStart => exact ⟨0, Nat.zero_le _, rfl, [], OwnL.nil _ _ _ _, by simp, rfl, (Drew.refl _).drewN.below _⟩
      case round =>
        obtain ⟨k, hk, rfl, out, hown, hout, hlp, hbel⟩ := hrel
        obtain ⟨ao2, cap2, rfl, hcells, hbase, hnil⟩ := hown.read
        have HO := Lib.hid hown
        have HL := Lib.hid hlp
        have HBl := Lib.hid hbel
        by_cases hlt : k < W
        · have d1 := (hbel.cell (p := ⟨C, k, none⟩) H6.out.lt).trans (H6.out.cell32 (j := k) (by rw [H7.out, HN.out, Nat.succ_mul]; omega))
          have e := H8.out 0 (Nat.le_refl _) (Nat.zero_le _) k hlt
          rw [Nat.zero_mul, Nat.zero_add, List.drop_zero] at e
          rw [e] at d1
          have hL' : Hid (loopE (reaF zs most) (reaW zs - k) k out = reaX zs most) := hlp
          clear hown hlp hbel hbase hnil hcells e
          have e32 : wrap32 most = most := by unfold wrap32; omega
          by_cases g1 : k < 1
          · go_wp2_with fail
            exact ⟨⟨k + 1, by omega, by go_num, out, HO.out, hout, loopE_step hL' (by rw [HWr.out]; exact hlt) (by rw [reaF, if_pos (.inl g1)]), HBl.out⟩, by simp [intOf]; omega⟩
          · by_cases g2 : most < tab joinF 258 0 zs k
            · go_wp2_with fail
              exact ⟨⟨k + 1, by omega, by go_num, out, HO.out, hout, loopE_step hL' (by rw [HWr.out]; exact hlt) (by rw [reaF, if_pos (.inr g2)]), HBl.out⟩, by simp [intOf]; omega⟩
            · by_cases g3 : out.length = 16384
              · have g4 : ((out.length : Int) == 16384) = true := by rw [beq_iff_eq]; omega
                have G3 := Lib.hid g3
                have HR' := Lib.hid (HR.out none 0 wr (H1.out.trans (HBl.out.mono H1.out.size)))
                have ex : reaX zs most = .inr () := loopE_hit hL' (by rw [HWr.out]; exact hlt) (by rw [reaF, if_neg (by omega), if_pos g3])
                rw [HRl.out, HRe.out, ex] at HR'
                clear g3 ex
                go_wp2_with fail
                exact HR'.out (CellsAt.nil _ _)
              · have g4 : ((out.length : Int) == 16384) = false := by rw [beq_eq_false_iff_ne]; omega
                go_wp2_with (at_builtin; refine wp_append1 rfl (.tmp 41) (.tmp 43) 22 rfl w'.heap.size 3 Try.underlying22 Try.infoInt rfl (by decide) (by decide) _ out.length (I64s out) rfl (HO.out.alloc _) wr.heap.size [.int .i64 k] rfl rfl ?_ ?_ (by omega) ?_ ?_)
                all_goals try first | exact new1 _ _ _ | exact one1 _ rfl | rfl | (have := HBl.out.size; simp; omega)
                intro v' w1 hown' hb'
                have Ho' := Lib.hid hown'
                clear hown'
                go_wp2_with fail
                refine ⟨⟨k + 1, by omega, by go_num, out ++ [(k : Int)], ?_, by simp; omega, loopE_step hL' (by rw [HWr.out]; exact hlt) (by rw [reaF, if_neg (by omega), if_neg g3]), HBl.out.trans (((Below.refl _ _).alloc (by exact HBl.out.size) _).trans hb')⟩, by simp [intOf]; omega⟩
                simpa [I64s] using Ho'.out
        · obtain rfl : k = W := by omega
          go_wp2_with fail
          have ex : reaX zs most = .inl out := loopE_done HL (by rw [HWr.out]; omega)
          have HR' := HR.out ao2 cap2 wr (H1.out.trans (HBl.out.mono H1.out.size))
          rw [HRl.out, HRe.out, ex] at HR'
          exact HR' hcells
    · have e1 : reaL zs most = [] := by rw [reaL, if_pos h, if_neg hm]
      have e2 : reaE zs most = 2 := by rw [reaE, if_pos h, if_neg hm]
      have HR' := Lib.hid (HR.out none 0 w (Below.refl _ _) (by rw [e1]; exact CellsAt.nil _ _))
      rw [e1, e2] at HR'
      clear e1 e2
      by_cases hm1 : most < 1
      · go_enter Try.func20, Try.ntmps20
        go_wp2_with fail
        refine check_any ao zs c _ _ hl hc ?_
        go_wp2_with fail
        exact HR'.out
      · go_enter Try.func20, Try.ntmps20
        go_wp2_with fail
        refine check_any ao zs c _ _ hl hc ?_
        go_wp2_with fail
        exact HR'.out
  · have h2 : (chk zs != 0) = true := by simpa using h
    have e1 : reaL zs most = [] := by rw [reaL, if_neg h]
    have e2 : reaE zs most = chk zs := by rw [reaE, if_neg h]
    have HR' := Lib.hid (HR.out none 0 w (Below.refl _ _) (by rw [e1]; exact CellsAt.nil _ _))
    rw [e1, e2] at HR'
    clear e1 e2
    go_enter Try.func20, Try.ntmps20
    go_wp2_with fail
    refine check_any ao zs c _ _ hl hc ?_
    go_wp2_with fail
    exact HR'.out
end Go.Proofs.Ytdmolmdenfepkaa
