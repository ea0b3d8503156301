/- estimate: how often a magnitude may be taken away. (Printed by gen_est.py.) times: the product of wide numbers. -/
import Derived.Test.YtcmhompbdanpdaaGreatDoorMwn
import Derived.Test.YtcmhompbdanpdaaGreatDoorWq
namespace Go.Proofs.YtcmhompbdanpdaaGreatDoor
open Go.RowKit

theorem est_q1 {E QQ : Nat} (HEE : E = if 0 < QQ then min QQ 999999999 else 1) : (QQ = 0 → E = 1) ∧ (0 < QQ → QQ ≤ 999999999 → E = QQ) ∧ (999999999 < QQ → E = 999999999) := by
  refine ⟨fun h => ?_, fun h h2 => ?_, fun h => ?_⟩
  · rw [HEE, if_neg (by rw [h]; exact Nat.lt_irrefl _)]
  · rw [HEE, if_pos h, Nat.min_eq_left h2]
  · rw [HEE, if_pos (Nat.lt_trans (by decide) h), Nat.min_eq_right (Nat.le_of_lt h)]
theorem est_q2 {EA EB QQ : Nat} (hb : EA < 1000000000000000000) (hQQ : EA / EB = QQ) : QQ < 1000000000000000000 := by
  rw [← hQQ]; exact Nat.lt_of_le_of_lt (Nat.div_le_self _ _) hb
theorem est_q3 {EA EB QQ : Nat} (hbp : 0 < EB) (hQQ : EA / EB = QQ) : (EA : Int) / (EB : Int) = (QQ : Int) ∧ (((EB : Int) = 0) = False) := by
  exact ⟨by rw [← hQQ]; rfl, eq_false (by omega)⟩
theorem est_q4 {m b0 EB : Nat} (hB : EB = b0 + (if 1 < m + 1 then 1 else 0)) : (0 < m → ((1 : Int) < (m : Int) + 1) = True ∧ (b0 : Int) + 1 = (EB : Int)) ∧ (¬ 0 < m → ((1 : Int) < (m : Int) + 1) = False ∧ (b0 : Int) = (EB : Int)) := by
  refine ⟨fun h => ⟨eq_true (by omega), ?_⟩, fun h => ⟨eq_false (by omega), ?_⟩⟩
  · rw [hB, if_pos (by omega)]; rfl
  · rw [hB, if_neg (by omega)]; rfl
theorem est_q5 {QQ : Nat} : (0 < QQ → ((0 : Int) < QQ) = True) ∧ (QQ ≤ 999999999 → ((QQ : Int) ≤ 999999999) = True ∧ ((999999999 : Int) < QQ) = False) ∧ (999999999 < QQ → ((QQ : Int) ≤ 999999999) = False ∧ ((999999999 : Int) < QQ) = True) := by
  refine ⟨fun h => eq_true (by omega), fun h => ⟨eq_true (by omega), eq_false (by omega)⟩, fun h => ⟨eq_false (by omega), eq_true (by omega)⟩⟩
set_option maxRecDepth 100000 in
set_option maxHeartbeats 4000000 in
theorem top_any (b v : Nat) (s : Bool) (i : Nat) (z : Int) (hz : z = i) (w : World) (R : Ending → World → Prop) (hx : Wide w b s v) (hn : nw v ≤ 232) (hR : ∀ w', Drew w w' → R (.returned (.int .i64 (wd v i))) w') :
    Calls Tryz.prog 297 #[.pointer (some ⟨b, 0, none⟩), .int .i64 z] w R := by
  subst hz
  have HR := Lib.hid hR
  have HX := Lib.hid hx
  have c1 := hx.m.c1
  obtain ⟨n, hnn⟩ : ∃ n, nw v = n := ⟨_, rfl⟩
  have HN := Lib.hid hnn
  rw [hnn] at c1 hn
  clear hR hx hnn
  by_cases hi : i < n
  · have K1 : ((n : Int) ≤ (i : Int)) = False := eq_false (by omega)
    have c2 := HX.out.m.cw (i := i) (by omega)
    have K2 : ((i : Int) < 232) = True := eq_true (by omega)
    go_enter Tryz.func297, Tryz.ntmps297
    go_wp2_with fail
    exact ret_i (HR.out _ (by repeat first | exact Drew.refl _ | apply Drew.drewN)) rfl rfl
  · have K1 : ((n : Int) ≤ (i : Int)) = True := eq_true (by omega)
    have hz : Hid (wd v i = 0) := wd_high (by rw [HN.out]; omega)
    go_enter Tryz.func297, Tryz.ntmps297
    go_wp2_with fail
    exact ret_i (HR.out _ (by repeat first | exact Drew.refl _ | apply Drew.drewN)) rfl (by rw [hz.out]; rfl)
set_option maxRecDepth 100000 in
set_option maxHeartbeats 4000000 in
theorem estimate_any (bx by_ vx vy : Nat) (sx sy : Bool) (w : World) (R : Ending → World → Prop) (hx : Wide w bx sx vx) (hy : Wide w by_ sy vy) (nx : nw vx ≤ 232) (ny : nw vy ≤ 232) (h0 : vy ≠ 0)
   (hR : ∀ w', Drew w w' → R (.returned (.int .i64 (estK vx vy))) w') :
    Calls Tryz.prog 274 #[.pointer (some ⟨bx, 0, none⟩), .pointer (some ⟨by_, 0, none⟩)] w R := by
  have HR := Lib.hid hR
  have HX := Lib.hid hx
  have HY := Lib.hid hy
  have NX := Lib.hid nx
  have NY := Lib.hid ny
  have H0 := Lib.hid h0
  have q1 := hy.m.c1
  have hE : estK vx vy = (if 0 < estA vx vy / estB vy then min (estA vx vy / estB vy) 999999999 else 1) := rfl
  have hb := est_bounds vx vy
  have hbp := estB_pos h0
  have hA : estA vx vy = wd vx (nw vy) * bB + wd vx (nw vy - 1) := rfl
  have hB : estB vy = wd vy (nw vy - 1) + (if 1 < nw vy then 1 else 0) := rfl
  have hny : 0 < nw vy := by have := mt (nw_eq_zero (v := vy)).1 h0; omega
  obtain ⟨m, hm⟩ : ∃ m, nw vy - 1 = m := ⟨_, rfl⟩
  have hm1 : nw vy = m + 1 := by omega
  rw [hm1] at hA hB q1
  rw [Nat.add_sub_cancel] at hA hB
  obtain ⟨E, hEE⟩ : ∃ E, estK vx vy = E := ⟨_, rfl⟩
  obtain ⟨EA, hEA⟩ : ∃ E, estA vx vy = E := ⟨_, rfl⟩
  obtain ⟨EB, hEB⟩ : ∃ E, estB vy = E := ⟨_, rfl⟩
  obtain ⟨a1, ha1⟩ : ∃ E, wd vx (m + 1) = E := ⟨_, rfl⟩
  obtain ⟨a0, ha0⟩ : ∃ E, wd vx m = E := ⟨_, rfl⟩
  obtain ⟨b0, hb0⟩ : ∃ E, wd vy m = E := ⟨_, rfl⟩
  have l1 := wd_lt vx (m + 1)
  have l2 := wd_lt vx m
  have l3 := wd_lt vy m
  rw [hEE] at HR
  rw [hEE, hEA, hEB] at hE
  rw [hEA, hEB] at hb
  rw [hEB] at hbp hB
  rw [hEA] at hA
  rw [ha1] at l1 hA
  rw [ha0] at l2 hA
  rw [hb0] at l3 hB
  have A1 := Lib.hid ha1
  have A0 := Lib.hid ha0
  have B0 := Lib.hid hb0
  unfold bB at l1 l2 l3 hA
  have HEE := Lib.hid hE
  have q1' : w.drew.cell? ⟨by_, 1, none⟩ = some (.int .i64 ((m + 1 : Nat) : Int)) := q1
  have KA : ((a1 : Int) * 1000000000 + (a0 : Int)) = (EA : Int) := by omega
  have KW : IntKind.i64.wrap (m : Int) = m := by rw [IntKind.wrap_i64]; omega
  have KS : ((m + 1 : Nat) : Int) - 1 = (m : Int) := by omega
  have BDX : Hid (Wide w.drew bx sx vx ∧ Wide w.drew by_ sy vy ∧ w.drew.cell? ⟨by_, 1, none⟩ = some (.int .i64 ((m + 1 : Nat) : Int)) ∧ Drew w w.drew) := ⟨HX.out, HY.out, q1, Drew.drewN (Drew.refl _)⟩
  obtain ⟨QQ, hQQ⟩ : ∃ E, EA / EB = E := ⟨_, rfl⟩
  rw [hQQ] at HEE
  have KQ := (est_q3 hbp hQQ).1
  have KB0 := (est_q3 hbp hQQ).2
  have hQb := est_q2 hb.1 hQQ
  have hEv := est_q1 HEE.out
  have HEv := Lib.hid hEv
  clear hQQ hEv HEE
  clear hR hx hy nx ny h0 hE hA hm hm1 hEE hEA hEB ha1 ha0 hb0
  go_enter Tryz.func274, Tryz.ntmps274
  go_wp2_with fail
  refine regionL [0, 1, 2, 3, 4, 5, 8, 9, 10, 11, 12, 13, 14, 17, 18, 19, 20, 21, 22, 23] (fun w' => w'.cell? ⟨by_, 1, none⟩ = some (.int .i64 ((m + 1 : Nat) : Int)) ∧ Hid (Wide w' bx sx vx ∧ Wide w' by_ sy vy ∧ Drew w w')) (by kernel_rfl) (⟨q1, HX.out, HY.out, Drew.drewN (Drew.refl _)⟩) (fun Qn hPQ hQn hS0 => ?_)
  iterate 20 (refine takeL (v := ?_) rfl rfl (by kernel_rfl) (by kernel_rfl) (by kernel_rfl) hPQ hS0 (by kernel_rfl) ?_ ?_; rotate_left; (focus (intro w hSw; (try dsimp only at hSw); obtain ⟨k0, _⟩ := hSw; go_simp; (try with_reducible rfl))); (try simp only [Act.put, List.setIfInBounds_toArray, List.set_cons_zero, List.set_cons_succ]))
  refine ofL (wpAnyH_ready (rs := [6]) (by kernel_rfl) (by simp) ?_)
  refine AllReadyH.cons (o := _) rfl (fun K hK => ?_) AllReadyH.nil
  go_simp
  have hW0 := hS0.2
  with_reducible refine top_any bx vx sx (m + 1) _ (by omega) _ _ hW0.out.1 NX.out fun w3 hd0 => ?_
  rw [A1.out]
  have W1 : Hid (Wide w3 bx sx vx ∧ Wide w3 by_ sy vy ∧ Drew w w3) := by
    obtain ⟨qq, rfl⟩ := hd0
    exact ⟨hW0.out.1, hW0.out.2.1, Drew.drewN hW0.out.2.2⟩
  have cc0 : w3.cell? ⟨by_, 1, none⟩ = some (.int .i64 ((m + 1 : Nat) : Int)) := by
    obtain ⟨qq, rfl⟩ := hd0
    exact hS0.1
  clear hd0
  refine hK.out _ _ (⟨cc0, W1⟩) (fun hS1 => toL [7] ?_)
  clear hK K hS0
  (try simp only [Act.put, List.setIfInBounds_toArray, List.set_cons_zero, List.set_cons_succ])
  iterate 1 (refine takeL (v := ?_) rfl rfl (by kernel_rfl) (by kernel_rfl) (by kernel_rfl) hPQ hS1 (by kernel_rfl) ?_ ?_; rotate_left; (focus (intro w hSw; (try dsimp only at hSw); obtain ⟨k0, _⟩ := hSw; go_simp; (try with_reducible rfl))); (try simp only [Act.put, List.setIfInBounds_toArray, List.set_cons_zero, List.set_cons_succ]))
  refine ofL (wpAnyH_ready (rs := [15]) (by kernel_rfl) (by simp) ?_)
  refine AllReadyH.cons (o := _) rfl (fun K hK => ?_) AllReadyH.nil
  go_simp
  have hW1 := hS1.2
  with_reducible refine top_any bx vx sx m _ (by omega) _ _ hW1.out.1 NX.out fun w4 hd1 => ?_
  rw [A0.out]
  have W2 : Hid (Wide w4 bx sx vx ∧ Wide w4 by_ sy vy ∧ Drew w w4) := by
    obtain ⟨qq, rfl⟩ := hd1
    exact ⟨hW1.out.1, hW1.out.2.1, Drew.drewN hW1.out.2.2⟩
  have cc1 : w4.cell? ⟨by_, 1, none⟩ = some (.int .i64 ((m + 1 : Nat) : Int)) := by
    obtain ⟨qq, rfl⟩ := hd1
    exact hS1.1
  clear hd1
  refine hK.out _ _ (⟨cc1, W2⟩) (fun hS2 => toL [16] ?_)
  clear hK K hS1
  (try simp only [Act.put, List.setIfInBounds_toArray, List.set_cons_zero, List.set_cons_succ])
  iterate 1 (refine takeL (v := ?_) rfl rfl (by kernel_rfl) (by kernel_rfl) (by kernel_rfl) hPQ hS2 (by kernel_rfl) ?_ ?_; rotate_left; (focus (intro w hSw; (try dsimp only at hSw); obtain ⟨k0, _⟩ := hSw; go_simp; (try with_reducible rfl))); (try simp only [Act.put, List.setIfInBounds_toArray, List.set_cons_zero, List.set_cons_succ]))
  refine ofL (wpAnyH_ready (rs := [24]) (by kernel_rfl) (by simp) ?_)
  refine AllReadyH.cons (o := _) rfl (fun K hK => ?_) AllReadyH.nil
  go_simp
  have hW2 := hS2.2
  with_reducible refine top_any by_ vy sy m _ (by omega) _ _ hW2.out.2.1 NY.out fun w5 hd2 => ?_
  rw [B0.out]
  have W3 : Hid (Wide w5 bx sx vx ∧ Wide w5 by_ sy vy ∧ Drew w w5) := by
    obtain ⟨qq, rfl⟩ := hd2
    exact ⟨hW2.out.1, hW2.out.2.1, Drew.drewN hW2.out.2.2⟩
  have cc2 : w5.cell? ⟨by_, 1, none⟩ = some (.int .i64 ((m + 1 : Nat) : Int)) := by
    obtain ⟨qq, rfl⟩ := hd2
    exact hS2.1
  clear hd2
  refine hK.out _ _ (⟨cc2, W3⟩) (fun hS3 => toL [25, 26] ?_)
  clear hK K hS2
  (try simp only [Act.put, List.setIfInBounds_toArray, List.set_cons_zero, List.set_cons_succ])
  iterate 2 (refine takeL (v := ?_) rfl rfl (by kernel_rfl) (by kernel_rfl) (by kernel_rfl) hPQ hS3 (by kernel_rfl) ?_ ?_; rotate_left; (focus (intro w hSw; (try dsimp only at hSw); obtain ⟨k0, _⟩ := hSw; go_simp; (try with_reducible rfl))); (try simp only [Act.put, List.setIfInBounds_toArray, List.set_cons_zero, List.set_cons_succ]))
  refine ofL (wpAnyH_done (by kernel_rfl) (hQn.out _ _ ?_) _)
  clear hS3 hPQ hQn Qn
  rcases Nat.eq_zero_or_pos m with hm0 | hm0
  · have KM0 := ((est_q4 hB).2 (by omega)).1
    have KEB := ((est_q4 hB).2 (by omega)).2
    clear hB
    rcases Nat.eq_zero_or_pos QQ with hq | hq
    · have e : Hid (E = 1) := HEv.out.1 hq
      subst hq
      go_wp2_with fail
      exact ret_i (HR.out _ (Drew.trans W3.out.2.2 (by repeat first | exact Drew.refl _ | apply Drew.drewN))) rfl (by rw [e.out]; rfl)
    · have KP := est_q5.1 hq
      rcases Nat.lt_or_ge 999999999 QQ with hq2 | hq2
      · have e : Hid (E = 999999999) := HEv.out.2.2 hq2
        have KM := (est_q5.2.2 hq2).1
        have KM2 := (est_q5.2.2 hq2).2
        clear hq2
        go_wp2_with fail
        exact ret_i (HR.out _ (Drew.trans W3.out.2.2 (by repeat first | exact Drew.refl _ | apply Drew.drewN))) rfl (by rw [e.out]; rfl)
      · have e : Hid (E = QQ) := HEv.out.2.1 hq hq2
        have KM := (est_q5.2.1 hq2).1
        have KM2 := (est_q5.2.1 hq2).2
        go_wp2_with fail
        exact ret_i (HR.out _ (Drew.trans W3.out.2.2 (by repeat first | exact Drew.refl _ | apply Drew.drewN))) rfl (by rw [e.out])
  · have KM0 := ((est_q4 hB).1 hm0).1
    have KEB := ((est_q4 hB).1 hm0).2
    clear hB
    rcases Nat.eq_zero_or_pos QQ with hq | hq
    · have e : Hid (E = 1) := HEv.out.1 hq
      subst hq
      go_wp2_with fail
      exact ret_i (HR.out _ (Drew.trans W3.out.2.2 (by repeat first | exact Drew.refl _ | apply Drew.drewN))) rfl (by rw [e.out]; rfl)
    · have KP := est_q5.1 hq
      rcases Nat.lt_or_ge 999999999 QQ with hq2 | hq2
      · have e : Hid (E = 999999999) := HEv.out.2.2 hq2
        have KM := (est_q5.2.2 hq2).1
        have KM2 := (est_q5.2.2 hq2).2
        clear hq2
        go_wp2_with fail
        exact ret_i (HR.out _ (Drew.trans W3.out.2.2 (by repeat first | exact Drew.refl _ | apply Drew.drewN))) rfl (by rw [e.out]; rfl)
      · have e : Hid (E = QQ) := HEv.out.2.1 hq hq2
        have KM := (est_q5.2.1 hq2).1
        have KM2 := (est_q5.2.1 hq2).2
        go_wp2_with fail
        exact ret_i (HR.out _ (Drew.trans W3.out.2.2 (by repeat first | exact Drew.refl _ | apply Drew.drewN))) rfl (by rw [e.out])
end Go.Proofs.YtcmhompbdanpdaaGreatDoor
namespace Go.Proofs.YtcmhompbdanpdaaGreatDoor
open Go.RowKit

theorem zero_cells : Tryz.zeroCells184 = wdM false 0 (fun _ => 0) := by kernel_rfl
theorem zero_wide {w : World} {b : Nat} (h : w.heap[b]? = some (.cells Tryz.zeroCells184 184 (0, 0))) : Wide w b false 0 := by
  unfold Wide; rw [wdC_zero, ← zero_cells]; exact h
theorem Chg.below {b B : Nat} {w w' : World} (h : Chg b w w') (hb : B ≤ b) : Below B w w' := h.1.mono hb
theorem prod_step (vx vy k : Nat) : ((vx * (vy % bB ^ (k + 1)) : Nat) : Int) = ((vx * (vy % bB ^ k) : Nat) : Int) + ((wd vy k : Nat) : Int) * (bB ^ k : Nat) * (vx : Int) := by
  rw [mod_succ]
  push_cast
  rw [Int.mul_add, Int.mul_comm (vx : Int) (_ * _)]
theorem prod_nw {vx vy k : Nat} (h : nw vx + nw vy ≤ 232) : nw (vx * (vy % bB ^ k)) ≤ 232 :=
  Nat.le_trans (nw_mono (Nat.mul_le_mul_left _ (Nat.mod_le _ _))) (Nat.le_trans (nw_mul _ _) h)
theorem prod_full (vx vy : Nat) : vx * (vy % bB ^ nw vy) = vx * vy := by rw [Nat.mod_eq_of_lt (lt_nw vy)]
theorem zero_sign (s : Bool) : Tryz.zeroCells184.setIfInBounds 0 (.bool s) = wdC s 0 := by rw [zero_cells, wdM_set0, wdC_zero]
set_option maxRecDepth 100000 in
set_option maxHeartbeats 4000000 in
theorem times_any (bx by_ vx vy : Nat) (sx sy : Bool) (w : World) (R : Ending → World → Prop) (hx : Wide w bx sx vx) (hy : Wide w by_ sy vy) (nn : nw vx + nw vy ≤ 232)
   (hR : ∀ w', Below w.heap.size w w' → Wide w' w.heap.size (!(sx == sy)) (vx * vy) → R (.returned (.pointer (some ⟨w.heap.size, 0, none⟩))) w') :
    Calls Tryz.prog 109 #[.pointer (some ⟨bx, 0, none⟩), .pointer (some ⟨by_, 0, none⟩)] w R := by
  have HR := Lib.hid hR
  have HX := Lib.hid hx
  have HY := Lib.hid hy
  have NN := Lib.hid nn
  have x0 : w.drew.cell? ⟨bx, 0, none⟩ = some (.bool sx) := hx.m.c0
  have y0 : w.drew.cell? ⟨by_, 0, none⟩ = some (.bool sy) := hy.m.c0
  obtain ⟨w1, E1, HB1, s1, X1⟩ := box_ex w (Tryz.zeroCells184.setIfInBounds 0 (.bool (!(sx == sy)))) 184
  have BX := lt_of_block hx
  have BY := lt_of_block hy
  obtain ⟨ny, hny⟩ : ∃ n, nw vy = n := ⟨_, rfl⟩
  have HNY := Lib.hid hny
  obtain ⟨sg, hsg⟩ : ∃ s, (!(sx == sy)) = s := ⟨_, rfl⟩
  rw [hsg] at E1 X1 HR
  have BW : Hid (Below w.heap.size w w1.drew) := HB1.out.drew
  have W1 : Hid (Wide w1.drew w.heap.size sg 0) := by
    unfold Hid Wide; rw [← zero_sign]; exact X1.out
  have HY1 : Hid (Wide w1.drew by_ sy vy) := HY.out.below BW.out
  have y1 := HY1.out.m.c1
  have y1' : w1.cell? ⟨by_, 1, none⟩ = some (.int .i64 (nw vy)) := y1
  have SG := Lib.hid hsg
  rw [hny] at y1 y1'
  clear hR hx hy nn hny
  go_enter Tryz.func109, Tryz.ntmps109
  go_wp2_with fail
  refine regionL [0, 1, 2, 3, 4, 5, 6, 7, 8, 9] (fun w' => (w'.cell? ⟨bx, 0, none⟩ = some (.bool sx) ∧ w'.cell? ⟨by_, 0, none⟩ = some (.bool sy)) ∧ Hid (w' = w.drew ∨ w' = w1.drew)) (by kernel_rfl) (⟨⟨x0, y0⟩, .inl rfl⟩) (fun Qn hPQ hQn hS0 => ?_)
  iterate 10 (refine takeL (v := ?_) rfl rfl (by kernel_rfl) (by kernel_rfl) (by kernel_rfl) hPQ hS0 (by kernel_rfl) ?_ ?_; rotate_left; (focus (intro w hSw; (try dsimp only at hSw); obtain ⟨⟨k0, k1⟩, _⟩ := hSw; go_simp; (try with_reducible rfl))); (try simp only [Act.put, List.setIfInBounds_toArray, List.set_cons_zero, List.set_cons_succ]))
  refine ofL (wpAnyH_ready (rs := [10]) (by kernel_rfl) (by simp) ?_)
  refine AllReadyH.cons (o := _) rfl (fun K hK => ?_) AllReadyH.nil
  go_simp
  have hw0 := hS0.2.out
  clear hw0
  (try rw [E1])
  refine hK.out _ _ (⟨⟨(HX.out.below BW.out).m.c0, (HY.out.below BW.out).m.c0⟩, .inr rfl⟩) (fun hS1 => toL [11] ?_)
  clear hK K hS0
  (try simp only [Act.put, List.setIfInBounds_toArray, List.set_cons_zero, List.set_cons_succ])
  iterate 1 (refine takeL (v := ?_) rfl rfl (by kernel_rfl) (by kernel_rfl) (by kernel_rfl) hPQ hS1 (by kernel_rfl) ?_ ?_; rotate_left; (focus (intro w hSw; (try dsimp only at hSw); obtain ⟨⟨k0, k1⟩, _⟩ := hSw; go_simp; (try with_reducible rfl))); (try simp only [Act.put, List.setIfInBounds_toArray, List.set_cons_zero, List.set_cons_succ]))
  refine ofL (wpAnyH_done (by kernel_rfl) (hQn.out _ _ ?_) _)
  clear hS1 hPQ hQn Qn
  go_wp2_with fail
  go_loopw [22] (fun i wr => ∃ k : Nat, i = .int .i64 k ∧ k ≤ ny ∧ Hid (Below w.heap.size w wr) ∧ Hid (Wide wr w.heap.size sg (vx * (vy % bB ^ k)))) (fun i _ => ny - (intOf i).toNat)
  case atStart => exact ⟨0, rfl, Nat.zero_le _, BW, by rw [Nat.pow_zero, Nat.mod_one, Nat.mul_zero]; exact W1⟩
  case round =>
    obtain ⟨k, rfl, hk, HB, HW⟩ := hrel
    by_cases hlt : k < ny
    · have K1 : ((k : Int) < (ny : Int)) = True := eq_true (by omega)
      have HXr := Lib.hid (HX.out.below HB.out)
      have HYr := Lib.hid (HY.out.below HB.out)
      have hk232 : k < 232 := by have := NN.out; have := HNY.out; omega
      have c1 := HYr.out.m.cw hk232
      have K2 : ((k : Int) < 232) = True := eq_true (by omega)
      obtain ⟨b, hb⟩ : ∃ b, wd vy k = b := ⟨_, rfl⟩
      have HBB := Lib.hid hb
      rw [hb] at c1
      clear hb
      go_wp2_with fail
      with_reducible refine carry_any w.heap.size bx _ _ (vx * (vy % bB ^ (k + 1))) k _ _ _ _ _ HW.out HXr.out (by omega) ?_ ?_ ?_ ?_ ?_ fun w2 hc hw => ?_
      · have := wd_lt vy k; rw [HBB.out] at this; unfold bB at this; omega
      · have := NN.out; have := HNY.out; omega
      · exact prod_nw NN.out
      · rw [prod_step, HBB.out]
      · exact prod_nw NN.out
      have HB2 : Hid (Below w.heap.size w w2) := HB.out.trans hc.1
      have HW2 := Lib.hid hw
      clear hc hw
      go_wp2_with fail
      exact ⟨⟨k + 1, by go_num, by omega, HB2, HW2⟩, by simp [intOf]; omega⟩
    · have K1 : ((k : Int) < (ny : Int)) = False := eq_false (by omega)
      obtain rfl : k = ny := by omega
      have HW2 : Hid (Wide wr w.heap.size sg (vx * vy)) := by have := HW.out; rw [← HNY.out, prod_full] at this; exact this
      go_wp2_with fail
      exact HR.out _ HB.out HW2.out
end Go.Proofs.YtcmhompbdanpdaaGreatDoor
