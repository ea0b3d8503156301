/- The law Leave: the walk. -/
import Derived.Test.YtgngllgknimgkaaMtx
namespace Go.Proofs.Ytgngllgknimgkaa
open Go.RowKit Go.Maps

theorem set2 (w : World) (b : Nat) (z u x y : Value) (T : TypeId) (h : w.heap[b]? = some (.cells #[z, u] T (0, 0))) : ∃ w', (w.setCell ⟨b, 0, none⟩ x).setCell ⟨b, 1, none⟩ y = w' ∧ Hid (Below b w w') ∧ Hid (∀ j, j ≠ b → w'.heap[j]? = w.heap[j]?) ∧ Hid (w'.heap[b]? = some (.cells #[x, y] T (0, 0))) :=
  ⟨_, rfl, ((Below.refl b w).setCell (Nat.le_refl _) x).setCell (Nat.le_refl _) y, fun j hj => (Below.heap_setCell _ ⟨b, 1, none⟩ _ j hj).trans (Below.heap_setCell _ ⟨b, 0, none⟩ _ j hj), heap_setCell_same _ b 1 _ _ y (heap_setCell_same w b 0 _ _ x h)⟩
set_option maxRecDepth 100000 in
set_option maxHeartbeats 8000000 in
theorem lawLeave_any (ao : Option Addr) (vs : List Dm) (c : Nat) (ax : Int) (f t : ByteArray) (w : World) (R : Ending → World → Prop) (hl : vs.length ≤ 9223372036854775807) (hc : CellsAt w ao (dC vs)) (hv : DmsOk vs)
   (hf : f.size ≤ 9223372036854775807) (ht : t.size ≤ 9223372036854775807) (hR : ∀ w', Below w.heap.size w w' → R (.returned (.bool true)) w') :
    Calls Try.prog 3 #[.slice ao vs.length c, .agg #[.int .i64 ax, .string f, .string t]] w R := by
  have HR := Lib.hid hR
  have HC := Lib.hid hc
  have HV := Lib.hid hv
  obtain ⟨w1, E1, HB1, s1, X1⟩ := box_ex w #[.int .i64 ax, .string f, .string t] 24
  have x0 := cell_of X1.out (j := 0) (v := .int .i64 ax) rfl
  have x1 := cell_of X1.out (j := 1) (v := .string f) rfl
  have x2 := cell_of X1.out (j := 2) (v := .string t) rfl
  clear hR hc hv
  obtain ⟨b, hb⟩ : ∃ b, clV vs = b := ⟨_, rfl⟩
  have HBb := Lib.hid hb
  clear hb
  go_enter Try.func3, Try.ntmps3
  go_wp2_with (rw [E1])
  refine caseLoops_any ao vs c _ _ hl (HC.out.below HB1.out) HV.out fun w2 hb => ?_
  rw [HBb.out]
  have B2 : Hid (Below w.heap.size w w2) := HB1.out.trans (hb.mono (Nat.le_of_lt s1))
  have y0 := cellB hb x0 s1
  have y1 := cellB hb x1 s1
  have y2 := cellB hb x2 s1
  have s2 := hb.size
  clear hb x0 x1 x2 E1 X1
  cases b with
  | false =>
    go_wp2_with fail
    refine caseStacks_any _ _ fun w3 hb => ?_
    have B3 : Hid (Below w.heap.size w w3) := B2.out.trans (hb.mono B2.out.size)
    clear hb
    go_wp2_with fail
    exact HR.out _ B3.out
  | true =>
    by_cases hf40 : 40 < f.size
    · have K1 : ((40 : Int) < (f.size : Int)) = True := eq_true (by omega)
      have K2 : (40 < f.size) = True := eq_true hf40
      go_wp2_with fail
      refine caseStacks_any _ _ fun w3 hb => ?_
      have B3 : Hid (Below w.heap.size w w3) := B2.out.trans (hb.mono B2.out.size)
      clear hb
      go_wp2_with fail
      exact HR.out _ B3.out
    · have K1 : ((40 : Int) < (f.size : Int)) = False := eq_false (by omega)
      have K2 : (40 < f.size) = False := eq_false hf40
      by_cases ht40 : 40 < t.size
      · have K3 : ((40 : Int) < (t.size : Int)) = True := eq_true (by omega)
        have K4 : (40 < t.size) = True := eq_true ht40
        go_wp2_with fail
        refine caseStacks_any _ _ fun w3 hb => ?_
        have B3 : Hid (Below w.heap.size w w3) := B2.out.trans (hb.mono B2.out.size)
        clear hb
        go_wp2_with fail
        exact HR.out _ B3.out
      · have K3 : ((40 : Int) < (t.size : Int)) = False := eq_false (by omega)
        have K4 : (40 < t.size) = False := eq_false ht40
        have hcl := HBb.out
        unfold clV at hcl
        rw [Bool.and_eq_true, Bool.and_eq_true, decide_eq_true_eq, decide_eq_true_eq] at hcl
        obtain ⟨⟨h6, _⟩, hgo⟩ := hcl
        have HGO := Lib.hid hgo
        obtain ⟨lo, hlo⟩ : ∃ lo, (dsX vs ax f t).1 = lo := ⟨_, rfl⟩
        obtain ⟨hi, hhi⟩ : ∃ hi, (dsX vs ax f t).2.1 = hi := ⟨_, rfl⟩
        obtain ⟨ef, hef⟩ : ∃ ef, (dsX vs ax f t).2.2 = ef := ⟨_, rfl⟩
        have HLO := Lib.hid hlo
        have HHI := Lib.hid hhi
        have HEF := Lib.hid hef
        clear hgo hlo hhi hef
        by_cases ha : asE vs ax f t = 0
        · have HA := Lib.hid ha
          clear ha
          go_wp2_with fail
          refine all_good ao vs c ax f t _ _ h6 (HC.out.below B2.out) HV.out hf ht HA.out fun w3 v hb hch => ?_
          have B3 : Hid (Below w.heap.size w w3) := B2.out.trans (hb.mono B2.out.size)
          have z0 := cellB hb y0 (by omega)
          have z1 := cellB hb y1 (by omega)
          have z2 := cellB hb y2 (by omega)
          obtain ⟨us, hu1, hu2, hu3⟩ := hch
          obtain ⟨co, cc, rfl, hcc, _⟩ := ownsRow_read hu2
          have HUL := Lib.hid hu1
          have HUC := Lib.hid hcc
          have HU3 := Lib.hid hu3
          have hfew : (chN vs ax f t).length ≤ 720 := grN_few h6 _ _ (by simp)
          obtain ⟨C, hC⟩ : ∃ C, chN vs ax f t = C := ⟨_, rfl⟩
          rw [hC] at HUL HU3 hfew ⊢
          have HCC := Lib.hid hC
          clear hb hu1 hu2 hu3 hcc hC
          go_wp2_with fail
          refine distance_any ao vs c ax f t _ _ hl (HC.out.below B3.out) HV.out hf ht fun w4 hb => ?_
          rw [HLO.out, HHI.out, HEF.out]
          have B34 := Lib.hid hb
          have B4 : Hid (Below w.heap.size w w4) := B3.out.trans (hb.mono B3.out.size)
          clear hb
          obtain ⟨w5, E5, U5, s5, X5⟩ := box_ex w4 #[.int .i64 lo, .int .i64 hi] 32
          have B35 : Hid (Below w3.heap.size w3 w5) := B34.out.trans (U5.out.mono B34.out.size)
          have B5 : Hid (Below w.heap.size w w5) := B4.out.trans (U5.out.mono B4.out.size)
          have E5' := Lib.hid E5
          clear E5
          by_cases hef0 : ef = 0
          · obtain ⟨_, hne, hCp, hlg⟩ := leave_law h6 HGO.out (by rw [HEF.out, hef0])
            rw [HCC.out] at hCp hlg
            rw [HLO.out, HHI.out] at hlg
            have HLG := Lib.hid hlg
            have K5 : (ef != 0) = false := by rw [hef0]; rfl
            have K6 : ((C.length : Int) == 0) = false := by rw [beq_eq_false_iff_ne]; omega
            have K7 : (C.length == 0) = false := by rw [beq_eq_false_iff_ne]; omega
            clear hlg hef0
            obtain ⟨w6, E6, U6, s6, X6⟩ := box_ex w5 #[.int .i64 0, .int .i64 0] 32
            have E6' := Lib.hid E6
            have B6 : Hid (Below w5.heap.size w5 w6) := U6.out
            clear E6
            go_wp2_with (first | rw [E5'.out] | rw [E6'.out])
            go_loopw [72] (fun j wr => ∃ k : Nat, k ≤ C.length ∧ j = .int .i64 k ∧ Hid (Below w5.heap.size w5 wr) ∧ Hid (wr.heap[w5.heap.size]? = some (.cells #[.int .i64 (lgF vs C k).1, .int .i64 (lgF vs C k).2] 32 (0, 0)))) (fun j _ => C.length - (intOf j).toNat)
            case atStart => exact ⟨0, Nat.zero_le _, rfl, B6.out, X6.out⟩
            case round =>
              obtain ⟨k, hk, rfl, HB, XB⟩ := hrel
              have hsB := HB.out.size
              have hbl := lt_of_block XB.out
              by_cases hlt : k < C.length
              · have hgood := chains_good (i := k) h6 hne (by rw [HCC.out]; exact hlt)
                rw [HCC.out] at hgood
                obtain ⟨ca, cc2, hu, hucell⟩ := HU3.out k hlt
                have hul : us.length = C.length := HUL.out
                have hcv := HUC.out
                obtain ⟨bc, oc, rfl, hbc, hcells⟩ := hcv (by omega)
                have d0 := hcells k (by omega)
                have hud : us.getD k undef = us.getD k nilS := by rw [List.getD_eq_getElem?_getD, List.getD_eq_getElem?_getD, List.getElem?_eq_getElem (by omega)]; rfl
                rw [hud, hu] at d0
                have h3r : Below w3.heap.size w3 wr := B35.out.trans (HB.out.mono B35.out.size)
                have d1 := cellB h3r d0 hbc
                have HK := Lib.hid (hucell.below h3r)
                have HG := Lib.hid hgood.1
                have hgl := hgood.2
                have hlgs : lgF vs C (k + 1) = (max (if k = 0 then (loS vs (cAt C k), hiS vs (cAt C k)) else lgF vs C k).1 (loS vs (cAt C k)), min (if k = 0 then (loS vs (cAt C k), hiS vs (cAt C k)) else lgF vs C k).2 (hiS vs (cAt C k))) := rfl
                obtain ⟨cs, hcs⟩ : ∃ cs, cAt C k = cs := ⟨_, rfl⟩
                have hcs2 : C.getD k [] = cs := hcs
                rw [hcs2] at d1 HK
                rw [hcs] at HG hgl hlgs
                have HLS := Lib.hid hlgs
                clear hgood hu hucell hcv hcells d0 hud hcs hcs2 hlgs hul
                go_wp2_with fail
                refine limits_good ao vs c ax f ca cs cc2 _ _ (by omega) hgl (HC.out.below (B5.out.trans (HB.out.mono B5.out.size))) HV.out HGO.out HK.out HG.out fun w7 hb => ?_
                obtain ⟨L1, hL1⟩ : ∃ L1, loS vs cs = L1 := ⟨_, rfl⟩
                obtain ⟨H1, hH1⟩ : ∃ H1, hiS vs cs = H1 := ⟨_, rfl⟩
                rw [hL1, hH1] at HLS ⊢
                obtain ⟨w8, E8, U8, s8, X8⟩ := box_ex w7 #[.int .i64 L1, .int .i64 H1] 32
                have E8' := Lib.hid E8
                have B8 : Hid (Below wr.heap.size wr w8) := hb.trans (U8.out.mono hb.size)
                have XB8 := (B8.out.block _ hbl).trans XB.out
                have q0 := cell_of X8.out (j := 0) (v := .int .i64 L1) rfl
                have q1 := cell_of X8.out (j := 1) (v := .int .i64 H1) rfl
                have s7r := hb.size
                have hne8 : w7.heap.size ≠ w5.heap.size := by omega
                clear hb E8 hL1 hH1
                by_cases hk0 : k = 0
                · subst hk0
                  rw [if_pos rfl] at HLS
                  have r0 := cell_of XB8 (j := 0) (v := .int .i64 0) rfl
                  have r1 := cell_of XB8 (j := 1) (v := .int .i64 0) rfl
                  have g0 := frozen_of XB8 0
                  have g1 := frozen_of XB8 1
                  obtain ⟨w9, E9, B9, k9, X9⟩ := set2 w8 w5.heap.size _ _ (.int .i64 L1) (.int .i64 H1) _ XB8
                  have E9' := Lib.hid E9
                  have p0 := cell_of X9.out (j := 0) (v := .int .i64 L1) rfl
                  have p1 := cell_of X9.out (j := 1) (v := .int .i64 H1) rfl
                  have o0 := frozen_of X9.out 0
                  have o1 := frozen_of X9.out 1
                  have n0 := (World.cell?_of_block (a := ⟨w7.heap.size, 0, none⟩) (k9.out _ hne8)).trans q0
                  have n1 := (World.cell?_of_block (a := ⟨w7.heap.size, 1, none⟩) (k9.out _ hne8)).trans q1
                  clear E9
                  go_wp2_with (first | rw [E8'.out] | rw [E9'.out])
                  obtain ⟨w10, E10, B10, k10, X10⟩ := set2 w9 w5.heap.size _ _ (.int .i64 L1) (.int .i64 H1) _ X9.out
                  rw [E10]
                  refine ⟨⟨1, by omega, rfl, ((HB.out.trans (B8.out.mono hsB)).trans B9.out).trans B10.out, ?_⟩, by simp [intOf]; omega⟩
                  have hz := HLS.out
                  rw [Nat.zero_add, Int.max_self, Int.min_self] at hz
                  rw [hz]
                  exact X10.out
                · have K8 : ((k : Int) == 0) = false := by rw [beq_eq_false_iff_ne]; omega
                  rw [if_neg hk0] at HLS
                  obtain ⟨A, hA⟩ : ∃ A, (lgF vs C k).1 = A := ⟨_, rfl⟩
                  obtain ⟨B, hB⟩ : ∃ B, (lgF vs C k).2 = B := ⟨_, rfl⟩
                  rw [hA, hB] at XB8 HLS
                  have r0 := cell_of XB8 (j := 0) (v := .int .i64 A) rfl
                  have r1 := cell_of XB8 (j := 1) (v := .int .i64 B) rfl
                  have g0 := frozen_of XB8 0
                  have g1 := frozen_of XB8 1
                  clear hA hB
                  go_wp2_with (first | rw [E8'.out])
                  obtain ⟨w10, E10, B10, k10, X10⟩ := set2 w8 w5.heap.size _ _ (.int .i64 (max A L1)) (.int .i64 (min B H1)) _ XB8
                  rw [E10]
                  refine ⟨⟨k + 1, by omega, by go_num, (HB.out.trans (B8.out.mono hsB)).trans B10.out, ?_⟩, by simp [intOf]; omega⟩
                  rw [HLS.out]
                  exact X10.out
              · obtain rfl : k = C.length := by omega
                rw [HLG.out] at XB
                have v0 := cell_of XB.out (j := 0) (v := .int .i64 lo) rfl
                have v1 := cell_of XB.out (j := 1) (v := .int .i64 hi) rfl
                have X5r := (HB.out.block _ s5).trans X5.out
                have v2 := cell_of X5r (j := 0) (v := .int .i64 lo) rfl
                have v3 := cell_of X5r (j := 1) (v := .int .i64 hi) rfl
                clear X5r
                go_wp2_with fail
                refine caseStacks_any _ _ fun w7 hb => ?_
                have B7 : Hid (Below w.heap.size w w7) := (B5.out.trans (HB.out.mono B5.out.size)).trans (hb.mono (by have := B5.out.size; omega))
                clear hb
                go_wp2_with fail
                exact HR.out _ B7.out
          · have K5 : (ef != 0) = true := by simpa using hef0
            have hap := apart_law h6 HGO.out (by rw [HEF.out]; exact hef0) HA.out
            rw [HEF.out, HCC.out] at hap
            by_cases h16 : ef = 16
            · have K6 : (ef == 16) = true := by rw [h16]; rfl
              clear hap hef0 h16
              go_wp2_with (rw [E5'.out])
              refine caseStacks_any _ _ fun w6 hb => ?_
              have B6 : Hid (Below w.heap.size w w6) := B5.out.trans (hb.mono B5.out.size)
              clear hb
              go_wp2_with fail
              exact HR.out _ B6.out
            · have K6 : (ef == 16) = false := by simpa using h16
              have K7 : C.length = 0 := hap.resolve_left h16
              have K8 : ((C.length : Int) == 0) = true := by rw [K7]; rfl
              clear hap hef0 h16
              go_wp2_with (rw [E5'.out])
              refine caseStacks_any _ _ fun w6 hb => ?_
              have B6 : Hid (Below w.heap.size w w6) := B5.out.trans (hb.mono B5.out.size)
              clear hb
              go_wp2_with fail
              exact HR.out _ B6.out
        · have hef0 : ef ≠ 0 := fun e => ha (leave_law h6 HGO.out (by rw [HEF.out, e])).1
          have HA := Lib.hid ha
          have K5 : (ef != 0) = true := by simpa using hef0
          obtain ⟨E, hE⟩ : ∃ E, asE vs ax f t = E := ⟨_, rfl⟩
          have K6 : (E != 0) = true := by simpa using (hE ▸ ha)
          have HE := Lib.hid hE
          clear ha hE hef0
          go_wp2_with fail
          refine all_bad ao vs c ax f t _ _ (by omega) (HC.out.below B2.out) HV.out hf ht HA.out fun w3 hb => ?_
          rw [HE.out]
          have B3 : Hid (Below w.heap.size w w3) := B2.out.trans (hb.mono B2.out.size)
          have z0 := cellB hb y0 (by omega)
          have z1 := cellB hb y1 (by omega)
          have z2 := cellB hb y2 (by omega)
          clear hb
          go_wp2_with fail
          refine distance_any ao vs c ax f t _ _ hl (HC.out.below B3.out) HV.out hf ht fun w4 hb => ?_
          rw [HLO.out, HHI.out, HEF.out]
          have B4 : Hid (Below w.heap.size w w4) := B3.out.trans (hb.mono B3.out.size)
          clear hb
          obtain ⟨w5, E5, U5, s5, X5⟩ := box_ex w4 #[.int .i64 lo, .int .i64 hi] 32
          have B5 : Hid (Below w.heap.size w w5) := B4.out.trans (U5.out.mono B4.out.size)
          have E5' := Lib.hid E5
          clear E5
          go_wp2_with (rw [E5'.out])
          refine caseStacks_any _ _ fun w6 hb => ?_
          have B6 : Hid (Below w.heap.size w w6) := B5.out.trans (hb.mono B5.out.size)
          clear hb
          go_wp2_with fail
          exact HR.out _ B6.out
end Go.Proofs.Ytgngllgknimgkaa
