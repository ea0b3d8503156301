/- The walk of names of package recall. (Printed by gen_names.py.) -/
import Derived.LoopN
import Derived.Test.YtfamennpajjajaaRc
namespace Go.Proofs.Ytfamennpajjajaa
open Go.RowKit

set_option maxRecDepth 100000 in
set_option maxHeartbeats 8000000 in
theorem names_any (v : Ev) (w : World) (R : Ending → World → Prop) (hv : EvOk v) (hR : ∀ w', Below w.heap.size w w' → R (.returned (.int .i64 (evE v))) w') :
    Calls Try.prog 43 #[.agg #[.int .i64 v.k, .string v.g, .string v.p, .string v.t]] w R := by
  have HR := Lib.hid hR
  clear hR
  obtain ⟨hg, hp, ht⟩ := hv
  obtain ⟨k, g, p, t⟩ := v
  simp only at hg hp ht ⊢
  obtain ⟨w1, E1', HB1, s1, X1⟩ := box_ex w #[.int .i64 k, .string g, .string p, .string t] 51
  have E1 := Lib.hid E1'
  have hz1 : w1.heap.size = w.heap.size + 1 := by rw [← E1', World.size_alloc]
  have a0 := cell_at X1.out (j := 0) (v := .int .i64 k) rfl
  have a1 := cell_at X1.out (j := 1) (v := .string g) rfl
  have a2 := cell_at X1.out (j := 2) (v := .string p) rfl
  have a3 := cell_at X1.out (j := 3) (v := .string t) rfl
  rw [← E1'] at a0 a1 a2 a3
  clear E1'
  by_cases hk : k < 0 ∨ 3 < k
  · have hE : Hid (evE ⟨k, g, p, t⟩ = 1) := by unfold Hid evE; rw [if_pos hk]
    by_cases h0 : k < 0
    · go_enter Try.func43, Try.ntmps43
      go_wp2_with fail
      rw [E1.out]
      exact ret_i (HR.out _ HB1.out) rfl hE.out
    · have h3 : 3 < k := by omega
      clear hk
      go_enter Try.func43, Try.ntmps43
      go_wp2_with fail
      rw [E1.out]
      exact ret_i (HR.out _ HB1.out) rfl hE.out
  · have hk4 : k = 0 ∨ k = 3 ∨ k = 1 ∨ k = 2 := by omega
    clear hk
    rcases hk4 with rfl | rfl | rfl | rfl
    · by_cases eg : nmE g = 0
      · have Hg := Lib.hid eg
        by_cases ep : nmE p = 0
        · have Hp := Lib.hid ep
          by_cases et : nmE t = 0
          · have Ht := Lib.hid et
            have hE : Hid (evE ⟨0, g, p, t⟩ = 0) := by unfold Hid evE; simp [eg, ep, et]
            clear eg ep et
            obtain ⟨w2, E2', HB2, s2, X2⟩ := box_ex w1 #[.string g, .bool true, .string p, .bool true, .string t, .bool true] 101
            have E2 := Lib.hid E2'
            rw [hz1] at X2
            have HZ1 := Lib.hid hz1
            have B2 : Hid (Below w.heap.size w w2) := HB1.out.trans (HB2.out.mono (by omega))
            clear E2' hz1
            go_enter Try.func43, Try.ntmps43
            go_wp2_with fail
            rw [E1.out, E2.out]
            clear a0 a1 a2 a3
            refine wp_loop_rounds 4 ?_
            rw [rounds_succ]
            have hsz0 : w.heap.size + 1 < w2.heap.size := lt_of_block X2.out
            have c00 := cell_at X2.out (j := 0) (v := .string g) rfl
            have c01 := cell_at X2.out (j := 1) (v := .bool true) rfl
            obtain ⟨w3, F0', HB3, s3, Y0⟩ := box_ex w2 #[.string g, .bool true] 101
            have F0 := Lib.hid F0'
            have X3 := Lib.hid (heap_below X2.out HB3.out (by omega))
            have B3 : Hid (Below w.heap.size w w3) := B2.out.trans (HB3.out.mono B2.out.size)
            have y00 := cell_at Y0.out (j := 0) (v := .string g) rfl
            have y01 := cell_at Y0.out (j := 1) (v := .bool true) rfl
            rw [← F0'] at y00 y01
            clear F0'
            go_wp2_with fail
            rw [F0.out]
            clear c00 c01 y00 y01
            refine name_any g _ _ hg ?_
            rw [Hg.out]
            intro w4 hb4
            have X4 := Lib.hid (heap_below X3.out hb4 (lt_of_block X3.out))
            have B4 : Hid (Below w.heap.size w w4) := B3.out.trans (hb4.mono B3.out.size)
            clear hb4
            go_wp2_with fail
            rw [rounds_succ]
            have hsz1 : w.heap.size + 1 < w4.heap.size := lt_of_block X4.out
            have c10 := cell_at X4.out (j := 2) (v := .string p) rfl
            have c11 := cell_at X4.out (j := 3) (v := .bool true) rfl
            obtain ⟨w5, F1', HB5, s5, Y1⟩ := box_ex w4 #[.string p, .bool true] 101
            have F1 := Lib.hid F1'
            have X5 := Lib.hid (heap_below X4.out HB5.out (by omega))
            have B5 : Hid (Below w.heap.size w w5) := B4.out.trans (HB5.out.mono B4.out.size)
            have y10 := cell_at Y1.out (j := 0) (v := .string p) rfl
            have y11 := cell_at Y1.out (j := 1) (v := .bool true) rfl
            rw [← F1'] at y10 y11
            clear F1'
            go_wp2_with fail
            rw [F1.out]
            clear c10 c11 y10 y11
            refine name_any p _ _ hp ?_
            rw [Hp.out]
            intro w6 hb6
            have X6 := Lib.hid (heap_below X5.out hb6 (lt_of_block X5.out))
            have B6 : Hid (Below w.heap.size w w6) := B5.out.trans (hb6.mono B5.out.size)
            clear hb6
            go_wp2_with fail
            rw [rounds_succ]
            have hsz2 : w.heap.size + 1 < w6.heap.size := lt_of_block X6.out
            have c20 := cell_at X6.out (j := 4) (v := .string t) rfl
            have c21 := cell_at X6.out (j := 5) (v := .bool true) rfl
            obtain ⟨w7, F2', HB7, s7, Y2⟩ := box_ex w6 #[.string t, .bool true] 101
            have F2 := Lib.hid F2'
            have X7 := Lib.hid (heap_below X6.out HB7.out (by omega))
            have B7 : Hid (Below w.heap.size w w7) := B6.out.trans (HB7.out.mono B6.out.size)
            have y20 := cell_at Y2.out (j := 0) (v := .string t) rfl
            have y21 := cell_at Y2.out (j := 1) (v := .bool true) rfl
            rw [← F2'] at y20 y21
            clear F2'
            go_wp2_with fail
            rw [F2.out]
            clear c20 c21 y20 y21
            refine name_any t _ _ ht ?_
            rw [Ht.out]
            intro w8 hb8
            have X8 := Lib.hid (heap_below X7.out hb8 (lt_of_block X7.out))
            have B8 : Hid (Below w.heap.size w w8) := B7.out.trans (hb8.mono B7.out.size)
            clear hb8
            go_wp2_with fail
            rw [rounds_succ]
            go_wp2_with fail
            exact ret_i (HR.out _ B8.out) rfl hE.out
          · have nt : (nmE t == 0) = false := by simpa using et
            have mt : (nmE t != 0) = true := by simpa using et
            have hE : Hid (evE ⟨0, g, p, t⟩ = nmE t) := by unfold Hid evE; simp [eg, ep]
            clear eg ep et
            obtain ⟨w2, E2', HB2, s2, X2⟩ := box_ex w1 #[.string g, .bool true, .string p, .bool true, .string t, .bool true] 101
            have E2 := Lib.hid E2'
            rw [hz1] at X2
            have HZ1 := Lib.hid hz1
            have B2 : Hid (Below w.heap.size w w2) := HB1.out.trans (HB2.out.mono (by omega))
            clear E2' hz1
            go_enter Try.func43, Try.ntmps43
            go_wp2_with fail
            rw [E1.out, E2.out]
            clear a0 a1 a2 a3
            refine wp_loop_rounds 4 ?_
            rw [rounds_succ]
            have hsz0 : w.heap.size + 1 < w2.heap.size := lt_of_block X2.out
            have c00 := cell_at X2.out (j := 0) (v := .string g) rfl
            have c01 := cell_at X2.out (j := 1) (v := .bool true) rfl
            obtain ⟨w3, F0', HB3, s3, Y0⟩ := box_ex w2 #[.string g, .bool true] 101
            have F0 := Lib.hid F0'
            have X3 := Lib.hid (heap_below X2.out HB3.out (by omega))
            have B3 : Hid (Below w.heap.size w w3) := B2.out.trans (HB3.out.mono B2.out.size)
            have y00 := cell_at Y0.out (j := 0) (v := .string g) rfl
            have y01 := cell_at Y0.out (j := 1) (v := .bool true) rfl
            rw [← F0'] at y00 y01
            clear F0'
            go_wp2_with fail
            rw [F0.out]
            clear c00 c01 y00 y01
            refine name_any g _ _ hg ?_
            rw [Hg.out]
            intro w4 hb4
            have X4 := Lib.hid (heap_below X3.out hb4 (lt_of_block X3.out))
            have B4 : Hid (Below w.heap.size w w4) := B3.out.trans (hb4.mono B3.out.size)
            clear hb4
            go_wp2_with fail
            rw [rounds_succ]
            have hsz1 : w.heap.size + 1 < w4.heap.size := lt_of_block X4.out
            have c10 := cell_at X4.out (j := 2) (v := .string p) rfl
            have c11 := cell_at X4.out (j := 3) (v := .bool true) rfl
            obtain ⟨w5, F1', HB5, s5, Y1⟩ := box_ex w4 #[.string p, .bool true] 101
            have F1 := Lib.hid F1'
            have X5 := Lib.hid (heap_below X4.out HB5.out (by omega))
            have B5 : Hid (Below w.heap.size w w5) := B4.out.trans (HB5.out.mono B4.out.size)
            have y10 := cell_at Y1.out (j := 0) (v := .string p) rfl
            have y11 := cell_at Y1.out (j := 1) (v := .bool true) rfl
            rw [← F1'] at y10 y11
            clear F1'
            go_wp2_with fail
            rw [F1.out]
            clear c10 c11 y10 y11
            refine name_any p _ _ hp ?_
            rw [Hp.out]
            intro w6 hb6
            have X6 := Lib.hid (heap_below X5.out hb6 (lt_of_block X5.out))
            have B6 : Hid (Below w.heap.size w w6) := B5.out.trans (hb6.mono B5.out.size)
            clear hb6
            go_wp2_with fail
            rw [rounds_succ]
            have hsz2 : w.heap.size + 1 < w6.heap.size := lt_of_block X6.out
            have c20 := cell_at X6.out (j := 4) (v := .string t) rfl
            have c21 := cell_at X6.out (j := 5) (v := .bool true) rfl
            obtain ⟨w7, F2', HB7, s7, Y2⟩ := box_ex w6 #[.string t, .bool true] 101
            have F2 := Lib.hid F2'
            have X7 := Lib.hid (heap_below X6.out HB7.out (by omega))
            have B7 : Hid (Below w.heap.size w w7) := B6.out.trans (HB7.out.mono B6.out.size)
            have y20 := cell_at Y2.out (j := 0) (v := .string t) rfl
            have y21 := cell_at Y2.out (j := 1) (v := .bool true) rfl
            rw [← F2'] at y20 y21
            clear F2'
            go_wp2_with fail
            rw [F2.out]
            clear c20 c21 y20 y21
            refine name_any t _ _ ht ?_
            skip
            intro w8 hb8
            have X8 := Lib.hid (heap_below X7.out hb8 (lt_of_block X7.out))
            have B8 : Hid (Below w.heap.size w w8) := B7.out.trans (hb8.mono B7.out.size)
            clear hb8
            go_wp2_with fail
            exact ret_i (HR.out _ B8.out) rfl hE.out
        · have np : (nmE p == 0) = false := by simpa using ep
          have mp : (nmE p != 0) = true := by simpa using ep
          have hE : Hid (evE ⟨0, g, p, t⟩ = nmE p) := by unfold Hid evE; simp [eg, ep]
          clear eg ep
          obtain ⟨w2, E2', HB2, s2, X2⟩ := box_ex w1 #[.string g, .bool true, .string p, .bool true, .string t, .bool true] 101
          have E2 := Lib.hid E2'
          rw [hz1] at X2
          have HZ1 := Lib.hid hz1
          have B2 : Hid (Below w.heap.size w w2) := HB1.out.trans (HB2.out.mono (by omega))
          clear E2' hz1
          go_enter Try.func43, Try.ntmps43
          go_wp2_with fail
          rw [E1.out, E2.out]
          clear a0 a1 a2 a3
          refine wp_loop_rounds 4 ?_
          rw [rounds_succ]
          have hsz0 : w.heap.size + 1 < w2.heap.size := lt_of_block X2.out
          have c00 := cell_at X2.out (j := 0) (v := .string g) rfl
          have c01 := cell_at X2.out (j := 1) (v := .bool true) rfl
          obtain ⟨w3, F0', HB3, s3, Y0⟩ := box_ex w2 #[.string g, .bool true] 101
          have F0 := Lib.hid F0'
          have X3 := Lib.hid (heap_below X2.out HB3.out (by omega))
          have B3 : Hid (Below w.heap.size w w3) := B2.out.trans (HB3.out.mono B2.out.size)
          have y00 := cell_at Y0.out (j := 0) (v := .string g) rfl
          have y01 := cell_at Y0.out (j := 1) (v := .bool true) rfl
          rw [← F0'] at y00 y01
          clear F0'
          go_wp2_with fail
          rw [F0.out]
          clear c00 c01 y00 y01
          refine name_any g _ _ hg ?_
          rw [Hg.out]
          intro w4 hb4
          have X4 := Lib.hid (heap_below X3.out hb4 (lt_of_block X3.out))
          have B4 : Hid (Below w.heap.size w w4) := B3.out.trans (hb4.mono B3.out.size)
          clear hb4
          go_wp2_with fail
          rw [rounds_succ]
          have hsz1 : w.heap.size + 1 < w4.heap.size := lt_of_block X4.out
          have c10 := cell_at X4.out (j := 2) (v := .string p) rfl
          have c11 := cell_at X4.out (j := 3) (v := .bool true) rfl
          obtain ⟨w5, F1', HB5, s5, Y1⟩ := box_ex w4 #[.string p, .bool true] 101
          have F1 := Lib.hid F1'
          have X5 := Lib.hid (heap_below X4.out HB5.out (by omega))
          have B5 : Hid (Below w.heap.size w w5) := B4.out.trans (HB5.out.mono B4.out.size)
          have y10 := cell_at Y1.out (j := 0) (v := .string p) rfl
          have y11 := cell_at Y1.out (j := 1) (v := .bool true) rfl
          rw [← F1'] at y10 y11
          clear F1'
          go_wp2_with fail
          rw [F1.out]
          clear c10 c11 y10 y11
          refine name_any p _ _ hp ?_
          skip
          intro w6 hb6
          have X6 := Lib.hid (heap_below X5.out hb6 (lt_of_block X5.out))
          have B6 : Hid (Below w.heap.size w w6) := B5.out.trans (hb6.mono B5.out.size)
          clear hb6
          go_wp2_with fail
          exact ret_i (HR.out _ B6.out) rfl hE.out
      · have ng : (nmE g == 0) = false := by simpa using eg
        have mg : (nmE g != 0) = true := by simpa using eg
        have hE : Hid (evE ⟨0, g, p, t⟩ = nmE g) := by unfold Hid evE; simp [eg]
        clear eg
        obtain ⟨w2, E2', HB2, s2, X2⟩ := box_ex w1 #[.string g, .bool true, .string p, .bool true, .string t, .bool true] 101
        have E2 := Lib.hid E2'
        rw [hz1] at X2
        have HZ1 := Lib.hid hz1
        have B2 : Hid (Below w.heap.size w w2) := HB1.out.trans (HB2.out.mono (by omega))
        clear E2' hz1
        go_enter Try.func43, Try.ntmps43
        go_wp2_with fail
        rw [E1.out, E2.out]
        clear a0 a1 a2 a3
        refine wp_loop_rounds 4 ?_
        rw [rounds_succ]
        have hsz0 : w.heap.size + 1 < w2.heap.size := lt_of_block X2.out
        have c00 := cell_at X2.out (j := 0) (v := .string g) rfl
        have c01 := cell_at X2.out (j := 1) (v := .bool true) rfl
        obtain ⟨w3, F0', HB3, s3, Y0⟩ := box_ex w2 #[.string g, .bool true] 101
        have F0 := Lib.hid F0'
        have X3 := Lib.hid (heap_below X2.out HB3.out (by omega))
        have B3 : Hid (Below w.heap.size w w3) := B2.out.trans (HB3.out.mono B2.out.size)
        have y00 := cell_at Y0.out (j := 0) (v := .string g) rfl
        have y01 := cell_at Y0.out (j := 1) (v := .bool true) rfl
        rw [← F0'] at y00 y01
        clear F0'
        go_wp2_with fail
        rw [F0.out]
        clear c00 c01 y00 y01
        refine name_any g _ _ hg ?_
        skip
        intro w4 hb4
        have X4 := Lib.hid (heap_below X3.out hb4 (lt_of_block X3.out))
        have B4 : Hid (Below w.heap.size w w4) := B3.out.trans (hb4.mono B3.out.size)
        clear hb4
        go_wp2_with fail
        exact ret_i (HR.out _ B4.out) rfl hE.out
    · by_cases zg : g.size = 0
      · have qg := empty_of zg
        by_cases ep : nmE p = 0
        · have Hp := Lib.hid ep
          by_cases zt : t.size = 0
          · have qt := empty_of zt
            have hE : Hid (evE ⟨3, g, p, t⟩ = 0) := by unfold Hid evE; simp [zg, ep, zt]
            clear zg ep zt
            obtain ⟨w2, E2', HB2, s2, X2⟩ := box_ex w1 #[.string g, .bool false, .string p, .bool true, .string t, .bool false] 101
            have E2 := Lib.hid E2'
            rw [hz1] at X2
            have HZ1 := Lib.hid hz1
            have B2 : Hid (Below w.heap.size w w2) := HB1.out.trans (HB2.out.mono (by omega))
            clear E2' hz1
            go_enter Try.func43, Try.ntmps43
            go_wp2_with fail
            rw [E1.out, E2.out]
            clear a0 a1 a2 a3
            refine wp_loop_rounds 4 ?_
            rw [rounds_succ]
            have hsz0 : w.heap.size + 1 < w2.heap.size := lt_of_block X2.out
            have c00 := cell_at X2.out (j := 0) (v := .string g) rfl
            have c01 := cell_at X2.out (j := 1) (v := .bool false) rfl
            obtain ⟨w3, F0', HB3, s3, Y0⟩ := box_ex w2 #[.string g, .bool false] 101
            have F0 := Lib.hid F0'
            have X3 := Lib.hid (heap_below X2.out HB3.out (by omega))
            have B3 : Hid (Below w.heap.size w w3) := B2.out.trans (HB3.out.mono B2.out.size)
            have y00 := cell_at Y0.out (j := 0) (v := .string g) rfl
            have y01 := cell_at Y0.out (j := 1) (v := .bool false) rfl
            rw [← F0'] at y00 y01
            clear F0'
            go_wp2_with fail
            rw [F0.out]
            clear c00 c01 y00 y01
            rw [rounds_succ]
            have hsz1 : w.heap.size + 1 < w3.heap.size := lt_of_block X3.out
            have c10 := cell_at X3.out (j := 2) (v := .string p) rfl
            have c11 := cell_at X3.out (j := 3) (v := .bool true) rfl
            obtain ⟨w4, F1', HB4, s4, Y1⟩ := box_ex w3 #[.string p, .bool true] 101
            have F1 := Lib.hid F1'
            have X4 := Lib.hid (heap_below X3.out HB4.out (by omega))
            have B4 : Hid (Below w.heap.size w w4) := B3.out.trans (HB4.out.mono B3.out.size)
            have y10 := cell_at Y1.out (j := 0) (v := .string p) rfl
            have y11 := cell_at Y1.out (j := 1) (v := .bool true) rfl
            rw [← F1'] at y10 y11
            clear F1'
            go_wp2_with fail
            rw [F1.out]
            clear c10 c11 y10 y11
            refine name_any p _ _ hp ?_
            rw [Hp.out]
            intro w5 hb5
            have X5 := Lib.hid (heap_below X4.out hb5 (lt_of_block X4.out))
            have B5 : Hid (Below w.heap.size w w5) := B4.out.trans (hb5.mono B4.out.size)
            clear hb5
            go_wp2_with fail
            rw [rounds_succ]
            have hsz2 : w.heap.size + 1 < w5.heap.size := lt_of_block X5.out
            have c20 := cell_at X5.out (j := 4) (v := .string t) rfl
            have c21 := cell_at X5.out (j := 5) (v := .bool false) rfl
            obtain ⟨w6, F2', HB6, s6, Y2⟩ := box_ex w5 #[.string t, .bool false] 101
            have F2 := Lib.hid F2'
            have X6 := Lib.hid (heap_below X5.out HB6.out (by omega))
            have B6 : Hid (Below w.heap.size w w6) := B5.out.trans (HB6.out.mono B5.out.size)
            have y20 := cell_at Y2.out (j := 0) (v := .string t) rfl
            have y21 := cell_at Y2.out (j := 1) (v := .bool false) rfl
            rw [← F2'] at y20 y21
            clear F2'
            go_wp2_with fail
            rw [F2.out]
            clear c20 c21 y20 y21
            rw [rounds_succ]
            go_wp2_with fail
            exact ret_i (HR.out _ B6.out) rfl hE.out
          · have qt := nempty_of zt
            have hE : Hid (evE ⟨3, g, p, t⟩ = 3) := by unfold Hid evE; simp [zg, ep, zt]
            clear zg ep zt
            obtain ⟨w2, E2', HB2, s2, X2⟩ := box_ex w1 #[.string g, .bool false, .string p, .bool true, .string t, .bool false] 101
            have E2 := Lib.hid E2'
            rw [hz1] at X2
            have HZ1 := Lib.hid hz1
            have B2 : Hid (Below w.heap.size w w2) := HB1.out.trans (HB2.out.mono (by omega))
            clear E2' hz1
            go_enter Try.func43, Try.ntmps43
            go_wp2_with fail
            rw [E1.out, E2.out]
            clear a0 a1 a2 a3
            refine wp_loop_rounds 4 ?_
            rw [rounds_succ]
            have hsz0 : w.heap.size + 1 < w2.heap.size := lt_of_block X2.out
            have c00 := cell_at X2.out (j := 0) (v := .string g) rfl
            have c01 := cell_at X2.out (j := 1) (v := .bool false) rfl
            obtain ⟨w3, F0', HB3, s3, Y0⟩ := box_ex w2 #[.string g, .bool false] 101
            have F0 := Lib.hid F0'
            have X3 := Lib.hid (heap_below X2.out HB3.out (by omega))
            have B3 : Hid (Below w.heap.size w w3) := B2.out.trans (HB3.out.mono B2.out.size)
            have y00 := cell_at Y0.out (j := 0) (v := .string g) rfl
            have y01 := cell_at Y0.out (j := 1) (v := .bool false) rfl
            rw [← F0'] at y00 y01
            clear F0'
            go_wp2_with fail
            rw [F0.out]
            clear c00 c01 y00 y01
            rw [rounds_succ]
            have hsz1 : w.heap.size + 1 < w3.heap.size := lt_of_block X3.out
            have c10 := cell_at X3.out (j := 2) (v := .string p) rfl
            have c11 := cell_at X3.out (j := 3) (v := .bool true) rfl
            obtain ⟨w4, F1', HB4, s4, Y1⟩ := box_ex w3 #[.string p, .bool true] 101
            have F1 := Lib.hid F1'
            have X4 := Lib.hid (heap_below X3.out HB4.out (by omega))
            have B4 : Hid (Below w.heap.size w w4) := B3.out.trans (HB4.out.mono B3.out.size)
            have y10 := cell_at Y1.out (j := 0) (v := .string p) rfl
            have y11 := cell_at Y1.out (j := 1) (v := .bool true) rfl
            rw [← F1'] at y10 y11
            clear F1'
            go_wp2_with fail
            rw [F1.out]
            clear c10 c11 y10 y11
            refine name_any p _ _ hp ?_
            rw [Hp.out]
            intro w5 hb5
            have X5 := Lib.hid (heap_below X4.out hb5 (lt_of_block X4.out))
            have B5 : Hid (Below w.heap.size w w5) := B4.out.trans (hb5.mono B4.out.size)
            clear hb5
            go_wp2_with fail
            rw [rounds_succ]
            have hsz2 : w.heap.size + 1 < w5.heap.size := lt_of_block X5.out
            have c20 := cell_at X5.out (j := 4) (v := .string t) rfl
            have c21 := cell_at X5.out (j := 5) (v := .bool false) rfl
            obtain ⟨w6, F2', HB6, s6, Y2⟩ := box_ex w5 #[.string t, .bool false] 101
            have F2 := Lib.hid F2'
            have X6 := Lib.hid (heap_below X5.out HB6.out (by omega))
            have B6 : Hid (Below w.heap.size w w6) := B5.out.trans (HB6.out.mono B5.out.size)
            have y20 := cell_at Y2.out (j := 0) (v := .string t) rfl
            have y21 := cell_at Y2.out (j := 1) (v := .bool false) rfl
            rw [← F2'] at y20 y21
            clear F2'
            go_wp2_with fail
            rw [F2.out]
            clear c20 c21 y20 y21
            rw [rounds_succ]
            go_wp2_with fail
            exact ret_i (HR.out _ B6.out) rfl hE.out
        · have np : (nmE p == 0) = false := by simpa using ep
          have mp : (nmE p != 0) = true := by simpa using ep
          have hE : Hid (evE ⟨3, g, p, t⟩ = nmE p) := by unfold Hid evE; simp [ep]
          clear zg ep
          obtain ⟨w2, E2', HB2, s2, X2⟩ := box_ex w1 #[.string g, .bool false, .string p, .bool true, .string t, .bool false] 101
          have E2 := Lib.hid E2'
          rw [hz1] at X2
          have HZ1 := Lib.hid hz1
          have B2 : Hid (Below w.heap.size w w2) := HB1.out.trans (HB2.out.mono (by omega))
          clear E2' hz1
          go_enter Try.func43, Try.ntmps43
          go_wp2_with fail
          rw [E1.out, E2.out]
          clear a0 a1 a2 a3
          refine wp_loop_rounds 4 ?_
          rw [rounds_succ]
          have hsz0 : w.heap.size + 1 < w2.heap.size := lt_of_block X2.out
          have c00 := cell_at X2.out (j := 0) (v := .string g) rfl
          have c01 := cell_at X2.out (j := 1) (v := .bool false) rfl
          obtain ⟨w3, F0', HB3, s3, Y0⟩ := box_ex w2 #[.string g, .bool false] 101
          have F0 := Lib.hid F0'
          have X3 := Lib.hid (heap_below X2.out HB3.out (by omega))
          have B3 : Hid (Below w.heap.size w w3) := B2.out.trans (HB3.out.mono B2.out.size)
          have y00 := cell_at Y0.out (j := 0) (v := .string g) rfl
          have y01 := cell_at Y0.out (j := 1) (v := .bool false) rfl
          rw [← F0'] at y00 y01
          clear F0'
          go_wp2_with fail
          rw [F0.out]
          clear c00 c01 y00 y01
          rw [rounds_succ]
          have hsz1 : w.heap.size + 1 < w3.heap.size := lt_of_block X3.out
          have c10 := cell_at X3.out (j := 2) (v := .string p) rfl
          have c11 := cell_at X3.out (j := 3) (v := .bool true) rfl
          obtain ⟨w4, F1', HB4, s4, Y1⟩ := box_ex w3 #[.string p, .bool true] 101
          have F1 := Lib.hid F1'
          have X4 := Lib.hid (heap_below X3.out HB4.out (by omega))
          have B4 : Hid (Below w.heap.size w w4) := B3.out.trans (HB4.out.mono B3.out.size)
          have y10 := cell_at Y1.out (j := 0) (v := .string p) rfl
          have y11 := cell_at Y1.out (j := 1) (v := .bool true) rfl
          rw [← F1'] at y10 y11
          clear F1'
          go_wp2_with fail
          rw [F1.out]
          clear c10 c11 y10 y11
          refine name_any p _ _ hp ?_
          skip
          intro w5 hb5
          have X5 := Lib.hid (heap_below X4.out hb5 (lt_of_block X4.out))
          have B5 : Hid (Below w.heap.size w w5) := B4.out.trans (hb5.mono B4.out.size)
          clear hb5
          go_wp2_with fail
          exact ret_i (HR.out _ B5.out) rfl hE.out
      · have qg := nempty_of zg
        by_cases ep : nmE p = 0
        · have Hp := Lib.hid ep
          by_cases zt : t.size = 0
          · have qt := empty_of zt
            have hE : Hid (evE ⟨3, g, p, t⟩ = 3) := by unfold Hid evE; simp [zg, ep, zt]
            clear zg ep zt
            obtain ⟨w2, E2', HB2, s2, X2⟩ := box_ex w1 #[.string g, .bool false, .string p, .bool true, .string t, .bool false] 101
            have E2 := Lib.hid E2'
            rw [hz1] at X2
            have HZ1 := Lib.hid hz1
            have B2 : Hid (Below w.heap.size w w2) := HB1.out.trans (HB2.out.mono (by omega))
            clear E2' hz1
            go_enter Try.func43, Try.ntmps43
            go_wp2_with fail
            rw [E1.out, E2.out]
            clear a0 a1 a2 a3
            refine wp_loop_rounds 4 ?_
            rw [rounds_succ]
            have hsz0 : w.heap.size + 1 < w2.heap.size := lt_of_block X2.out
            have c00 := cell_at X2.out (j := 0) (v := .string g) rfl
            have c01 := cell_at X2.out (j := 1) (v := .bool false) rfl
            obtain ⟨w3, F0', HB3, s3, Y0⟩ := box_ex w2 #[.string g, .bool false] 101
            have F0 := Lib.hid F0'
            have X3 := Lib.hid (heap_below X2.out HB3.out (by omega))
            have B3 : Hid (Below w.heap.size w w3) := B2.out.trans (HB3.out.mono B2.out.size)
            have y00 := cell_at Y0.out (j := 0) (v := .string g) rfl
            have y01 := cell_at Y0.out (j := 1) (v := .bool false) rfl
            rw [← F0'] at y00 y01
            clear F0'
            go_wp2_with fail
            rw [F0.out]
            clear c00 c01 y00 y01
            rw [rounds_succ]
            have hsz1 : w.heap.size + 1 < w3.heap.size := lt_of_block X3.out
            have c10 := cell_at X3.out (j := 2) (v := .string p) rfl
            have c11 := cell_at X3.out (j := 3) (v := .bool true) rfl
            obtain ⟨w4, F1', HB4, s4, Y1⟩ := box_ex w3 #[.string p, .bool true] 101
            have F1 := Lib.hid F1'
            have X4 := Lib.hid (heap_below X3.out HB4.out (by omega))
            have B4 : Hid (Below w.heap.size w w4) := B3.out.trans (HB4.out.mono B3.out.size)
            have y10 := cell_at Y1.out (j := 0) (v := .string p) rfl
            have y11 := cell_at Y1.out (j := 1) (v := .bool true) rfl
            rw [← F1'] at y10 y11
            clear F1'
            go_wp2_with fail
            rw [F1.out]
            clear c10 c11 y10 y11
            refine name_any p _ _ hp ?_
            rw [Hp.out]
            intro w5 hb5
            have X5 := Lib.hid (heap_below X4.out hb5 (lt_of_block X4.out))
            have B5 : Hid (Below w.heap.size w w5) := B4.out.trans (hb5.mono B4.out.size)
            clear hb5
            go_wp2_with fail
            rw [rounds_succ]
            have hsz2 : w.heap.size + 1 < w5.heap.size := lt_of_block X5.out
            have c20 := cell_at X5.out (j := 4) (v := .string t) rfl
            have c21 := cell_at X5.out (j := 5) (v := .bool false) rfl
            obtain ⟨w6, F2', HB6, s6, Y2⟩ := box_ex w5 #[.string t, .bool false] 101
            have F2 := Lib.hid F2'
            have X6 := Lib.hid (heap_below X5.out HB6.out (by omega))
            have B6 : Hid (Below w.heap.size w w6) := B5.out.trans (HB6.out.mono B5.out.size)
            have y20 := cell_at Y2.out (j := 0) (v := .string t) rfl
            have y21 := cell_at Y2.out (j := 1) (v := .bool false) rfl
            rw [← F2'] at y20 y21
            clear F2'
            go_wp2_with fail
            rw [F2.out]
            clear c20 c21 y20 y21
            rw [rounds_succ]
            go_wp2_with fail
            exact ret_i (HR.out _ B6.out) rfl hE.out
          · have qt := nempty_of zt
            have hE : Hid (evE ⟨3, g, p, t⟩ = 3) := by unfold Hid evE; simp [zg, ep, zt]
            clear zg ep zt
            obtain ⟨w2, E2', HB2, s2, X2⟩ := box_ex w1 #[.string g, .bool false, .string p, .bool true, .string t, .bool false] 101
            have E2 := Lib.hid E2'
            rw [hz1] at X2
            have HZ1 := Lib.hid hz1
            have B2 : Hid (Below w.heap.size w w2) := HB1.out.trans (HB2.out.mono (by omega))
            clear E2' hz1
            go_enter Try.func43, Try.ntmps43
            go_wp2_with fail
            rw [E1.out, E2.out]
            clear a0 a1 a2 a3
            refine wp_loop_rounds 4 ?_
            rw [rounds_succ]
            have hsz0 : w.heap.size + 1 < w2.heap.size := lt_of_block X2.out
            have c00 := cell_at X2.out (j := 0) (v := .string g) rfl
            have c01 := cell_at X2.out (j := 1) (v := .bool false) rfl
            obtain ⟨w3, F0', HB3, s3, Y0⟩ := box_ex w2 #[.string g, .bool false] 101
            have F0 := Lib.hid F0'
            have X3 := Lib.hid (heap_below X2.out HB3.out (by omega))
            have B3 : Hid (Below w.heap.size w w3) := B2.out.trans (HB3.out.mono B2.out.size)
            have y00 := cell_at Y0.out (j := 0) (v := .string g) rfl
            have y01 := cell_at Y0.out (j := 1) (v := .bool false) rfl
            rw [← F0'] at y00 y01
            clear F0'
            go_wp2_with fail
            rw [F0.out]
            clear c00 c01 y00 y01
            rw [rounds_succ]
            have hsz1 : w.heap.size + 1 < w3.heap.size := lt_of_block X3.out
            have c10 := cell_at X3.out (j := 2) (v := .string p) rfl
            have c11 := cell_at X3.out (j := 3) (v := .bool true) rfl
            obtain ⟨w4, F1', HB4, s4, Y1⟩ := box_ex w3 #[.string p, .bool true] 101
            have F1 := Lib.hid F1'
            have X4 := Lib.hid (heap_below X3.out HB4.out (by omega))
            have B4 : Hid (Below w.heap.size w w4) := B3.out.trans (HB4.out.mono B3.out.size)
            have y10 := cell_at Y1.out (j := 0) (v := .string p) rfl
            have y11 := cell_at Y1.out (j := 1) (v := .bool true) rfl
            rw [← F1'] at y10 y11
            clear F1'
            go_wp2_with fail
            rw [F1.out]
            clear c10 c11 y10 y11
            refine name_any p _ _ hp ?_
            rw [Hp.out]
            intro w5 hb5
            have X5 := Lib.hid (heap_below X4.out hb5 (lt_of_block X4.out))
            have B5 : Hid (Below w.heap.size w w5) := B4.out.trans (hb5.mono B4.out.size)
            clear hb5
            go_wp2_with fail
            rw [rounds_succ]
            have hsz2 : w.heap.size + 1 < w5.heap.size := lt_of_block X5.out
            have c20 := cell_at X5.out (j := 4) (v := .string t) rfl
            have c21 := cell_at X5.out (j := 5) (v := .bool false) rfl
            obtain ⟨w6, F2', HB6, s6, Y2⟩ := box_ex w5 #[.string t, .bool false] 101
            have F2 := Lib.hid F2'
            have X6 := Lib.hid (heap_below X5.out HB6.out (by omega))
            have B6 : Hid (Below w.heap.size w w6) := B5.out.trans (HB6.out.mono B5.out.size)
            have y20 := cell_at Y2.out (j := 0) (v := .string t) rfl
            have y21 := cell_at Y2.out (j := 1) (v := .bool false) rfl
            rw [← F2'] at y20 y21
            clear F2'
            go_wp2_with fail
            rw [F2.out]
            clear c20 c21 y20 y21
            rw [rounds_succ]
            go_wp2_with fail
            exact ret_i (HR.out _ B6.out) rfl hE.out
        · have np : (nmE p == 0) = false := by simpa using ep
          have mp : (nmE p != 0) = true := by simpa using ep
          have hE : Hid (evE ⟨3, g, p, t⟩ = nmE p) := by unfold Hid evE; simp [ep]
          clear zg ep
          obtain ⟨w2, E2', HB2, s2, X2⟩ := box_ex w1 #[.string g, .bool false, .string p, .bool true, .string t, .bool false] 101
          have E2 := Lib.hid E2'
          rw [hz1] at X2
          have HZ1 := Lib.hid hz1
          have B2 : Hid (Below w.heap.size w w2) := HB1.out.trans (HB2.out.mono (by omega))
          clear E2' hz1
          go_enter Try.func43, Try.ntmps43
          go_wp2_with fail
          rw [E1.out, E2.out]
          clear a0 a1 a2 a3
          refine wp_loop_rounds 4 ?_
          rw [rounds_succ]
          have hsz0 : w.heap.size + 1 < w2.heap.size := lt_of_block X2.out
          have c00 := cell_at X2.out (j := 0) (v := .string g) rfl
          have c01 := cell_at X2.out (j := 1) (v := .bool false) rfl
          obtain ⟨w3, F0', HB3, s3, Y0⟩ := box_ex w2 #[.string g, .bool false] 101
          have F0 := Lib.hid F0'
          have X3 := Lib.hid (heap_below X2.out HB3.out (by omega))
          have B3 : Hid (Below w.heap.size w w3) := B2.out.trans (HB3.out.mono B2.out.size)
          have y00 := cell_at Y0.out (j := 0) (v := .string g) rfl
          have y01 := cell_at Y0.out (j := 1) (v := .bool false) rfl
          rw [← F0'] at y00 y01
          clear F0'
          go_wp2_with fail
          rw [F0.out]
          clear c00 c01 y00 y01
          rw [rounds_succ]
          have hsz1 : w.heap.size + 1 < w3.heap.size := lt_of_block X3.out
          have c10 := cell_at X3.out (j := 2) (v := .string p) rfl
          have c11 := cell_at X3.out (j := 3) (v := .bool true) rfl
          obtain ⟨w4, F1', HB4, s4, Y1⟩ := box_ex w3 #[.string p, .bool true] 101
          have F1 := Lib.hid F1'
          have X4 := Lib.hid (heap_below X3.out HB4.out (by omega))
          have B4 : Hid (Below w.heap.size w w4) := B3.out.trans (HB4.out.mono B3.out.size)
          have y10 := cell_at Y1.out (j := 0) (v := .string p) rfl
          have y11 := cell_at Y1.out (j := 1) (v := .bool true) rfl
          rw [← F1'] at y10 y11
          clear F1'
          go_wp2_with fail
          rw [F1.out]
          clear c10 c11 y10 y11
          refine name_any p _ _ hp ?_
          skip
          intro w5 hb5
          have X5 := Lib.hid (heap_below X4.out hb5 (lt_of_block X4.out))
          have B5 : Hid (Below w.heap.size w w5) := B4.out.trans (hb5.mono B4.out.size)
          clear hb5
          go_wp2_with fail
          exact ret_i (HR.out _ B5.out) rfl hE.out
    · by_cases eg : nmE g = 0
      · have Hg := Lib.hid eg
        by_cases zp : p.size = 0
        · have qp := empty_of zp
          by_cases zt : t.size = 0
          · have qt := empty_of zt
            have hE : Hid (evE ⟨1, g, p, t⟩ = 0) := by unfold Hid evE; simp [eg, zp, zt]
            clear eg zp zt
            obtain ⟨w2, E2', HB2, s2, X2⟩ := box_ex w1 #[.string g, .bool true, .string p, .bool false, .string t, .bool false] 101
            have E2 := Lib.hid E2'
            rw [hz1] at X2
            have HZ1 := Lib.hid hz1
            have B2 : Hid (Below w.heap.size w w2) := HB1.out.trans (HB2.out.mono (by omega))
            clear E2' hz1
            go_enter Try.func43, Try.ntmps43
            go_wp2_with fail
            rw [E1.out, E2.out]
            clear a0 a1 a2 a3
            refine wp_loop_rounds 4 ?_
            rw [rounds_succ]
            have hsz0 : w.heap.size + 1 < w2.heap.size := lt_of_block X2.out
            have c00 := cell_at X2.out (j := 0) (v := .string g) rfl
            have c01 := cell_at X2.out (j := 1) (v := .bool true) rfl
            obtain ⟨w3, F0', HB3, s3, Y0⟩ := box_ex w2 #[.string g, .bool true] 101
            have F0 := Lib.hid F0'
            have X3 := Lib.hid (heap_below X2.out HB3.out (by omega))
            have B3 : Hid (Below w.heap.size w w3) := B2.out.trans (HB3.out.mono B2.out.size)
            have y00 := cell_at Y0.out (j := 0) (v := .string g) rfl
            have y01 := cell_at Y0.out (j := 1) (v := .bool true) rfl
            rw [← F0'] at y00 y01
            clear F0'
            go_wp2_with fail
            rw [F0.out]
            clear c00 c01 y00 y01
            refine name_any g _ _ hg ?_
            rw [Hg.out]
            intro w4 hb4
            have X4 := Lib.hid (heap_below X3.out hb4 (lt_of_block X3.out))
            have B4 : Hid (Below w.heap.size w w4) := B3.out.trans (hb4.mono B3.out.size)
            clear hb4
            go_wp2_with fail
            rw [rounds_succ]
            have hsz1 : w.heap.size + 1 < w4.heap.size := lt_of_block X4.out
            have c10 := cell_at X4.out (j := 2) (v := .string p) rfl
            have c11 := cell_at X4.out (j := 3) (v := .bool false) rfl
            obtain ⟨w5, F1', HB5, s5, Y1⟩ := box_ex w4 #[.string p, .bool false] 101
            have F1 := Lib.hid F1'
            have X5 := Lib.hid (heap_below X4.out HB5.out (by omega))
            have B5 : Hid (Below w.heap.size w w5) := B4.out.trans (HB5.out.mono B4.out.size)
            have y10 := cell_at Y1.out (j := 0) (v := .string p) rfl
            have y11 := cell_at Y1.out (j := 1) (v := .bool false) rfl
            rw [← F1'] at y10 y11
            clear F1'
            go_wp2_with fail
            rw [F1.out]
            clear c10 c11 y10 y11
            rw [rounds_succ]
            have hsz2 : w.heap.size + 1 < w5.heap.size := lt_of_block X5.out
            have c20 := cell_at X5.out (j := 4) (v := .string t) rfl
            have c21 := cell_at X5.out (j := 5) (v := .bool false) rfl
            obtain ⟨w6, F2', HB6, s6, Y2⟩ := box_ex w5 #[.string t, .bool false] 101
            have F2 := Lib.hid F2'
            have X6 := Lib.hid (heap_below X5.out HB6.out (by omega))
            have B6 : Hid (Below w.heap.size w w6) := B5.out.trans (HB6.out.mono B5.out.size)
            have y20 := cell_at Y2.out (j := 0) (v := .string t) rfl
            have y21 := cell_at Y2.out (j := 1) (v := .bool false) rfl
            rw [← F2'] at y20 y21
            clear F2'
            go_wp2_with fail
            rw [F2.out]
            clear c20 c21 y20 y21
            rw [rounds_succ]
            go_wp2_with fail
            exact ret_i (HR.out _ B6.out) rfl hE.out
          · have qt := nempty_of zt
            have hE : Hid (evE ⟨1, g, p, t⟩ = 3) := by unfold Hid evE; simp [eg, zp, zt]
            clear eg zp zt
            obtain ⟨w2, E2', HB2, s2, X2⟩ := box_ex w1 #[.string g, .bool true, .string p, .bool false, .string t, .bool false] 101
            have E2 := Lib.hid E2'
            rw [hz1] at X2
            have HZ1 := Lib.hid hz1
            have B2 : Hid (Below w.heap.size w w2) := HB1.out.trans (HB2.out.mono (by omega))
            clear E2' hz1
            go_enter Try.func43, Try.ntmps43
            go_wp2_with fail
            rw [E1.out, E2.out]
            clear a0 a1 a2 a3
            refine wp_loop_rounds 4 ?_
            rw [rounds_succ]
            have hsz0 : w.heap.size + 1 < w2.heap.size := lt_of_block X2.out
            have c00 := cell_at X2.out (j := 0) (v := .string g) rfl
            have c01 := cell_at X2.out (j := 1) (v := .bool true) rfl
            obtain ⟨w3, F0', HB3, s3, Y0⟩ := box_ex w2 #[.string g, .bool true] 101
            have F0 := Lib.hid F0'
            have X3 := Lib.hid (heap_below X2.out HB3.out (by omega))
            have B3 : Hid (Below w.heap.size w w3) := B2.out.trans (HB3.out.mono B2.out.size)
            have y00 := cell_at Y0.out (j := 0) (v := .string g) rfl
            have y01 := cell_at Y0.out (j := 1) (v := .bool true) rfl
            rw [← F0'] at y00 y01
            clear F0'
            go_wp2_with fail
            rw [F0.out]
            clear c00 c01 y00 y01
            refine name_any g _ _ hg ?_
            rw [Hg.out]
            intro w4 hb4
            have X4 := Lib.hid (heap_below X3.out hb4 (lt_of_block X3.out))
            have B4 : Hid (Below w.heap.size w w4) := B3.out.trans (hb4.mono B3.out.size)
            clear hb4
            go_wp2_with fail
            rw [rounds_succ]
            have hsz1 : w.heap.size + 1 < w4.heap.size := lt_of_block X4.out
            have c10 := cell_at X4.out (j := 2) (v := .string p) rfl
            have c11 := cell_at X4.out (j := 3) (v := .bool false) rfl
            obtain ⟨w5, F1', HB5, s5, Y1⟩ := box_ex w4 #[.string p, .bool false] 101
            have F1 := Lib.hid F1'
            have X5 := Lib.hid (heap_below X4.out HB5.out (by omega))
            have B5 : Hid (Below w.heap.size w w5) := B4.out.trans (HB5.out.mono B4.out.size)
            have y10 := cell_at Y1.out (j := 0) (v := .string p) rfl
            have y11 := cell_at Y1.out (j := 1) (v := .bool false) rfl
            rw [← F1'] at y10 y11
            clear F1'
            go_wp2_with fail
            rw [F1.out]
            clear c10 c11 y10 y11
            rw [rounds_succ]
            have hsz2 : w.heap.size + 1 < w5.heap.size := lt_of_block X5.out
            have c20 := cell_at X5.out (j := 4) (v := .string t) rfl
            have c21 := cell_at X5.out (j := 5) (v := .bool false) rfl
            obtain ⟨w6, F2', HB6, s6, Y2⟩ := box_ex w5 #[.string t, .bool false] 101
            have F2 := Lib.hid F2'
            have X6 := Lib.hid (heap_below X5.out HB6.out (by omega))
            have B6 : Hid (Below w.heap.size w w6) := B5.out.trans (HB6.out.mono B5.out.size)
            have y20 := cell_at Y2.out (j := 0) (v := .string t) rfl
            have y21 := cell_at Y2.out (j := 1) (v := .bool false) rfl
            rw [← F2'] at y20 y21
            clear F2'
            go_wp2_with fail
            rw [F2.out]
            clear c20 c21 y20 y21
            rw [rounds_succ]
            go_wp2_with fail
            exact ret_i (HR.out _ B6.out) rfl hE.out
        · have qp := nempty_of zp
          by_cases zt : t.size = 0
          · have qt := empty_of zt
            have hE : Hid (evE ⟨1, g, p, t⟩ = 3) := by unfold Hid evE; simp [eg, zp, zt]
            clear eg zp zt
            obtain ⟨w2, E2', HB2, s2, X2⟩ := box_ex w1 #[.string g, .bool true, .string p, .bool false, .string t, .bool false] 101
            have E2 := Lib.hid E2'
            rw [hz1] at X2
            have HZ1 := Lib.hid hz1
            have B2 : Hid (Below w.heap.size w w2) := HB1.out.trans (HB2.out.mono (by omega))
            clear E2' hz1
            go_enter Try.func43, Try.ntmps43
            go_wp2_with fail
            rw [E1.out, E2.out]
            clear a0 a1 a2 a3
            refine wp_loop_rounds 4 ?_
            rw [rounds_succ]
            have hsz0 : w.heap.size + 1 < w2.heap.size := lt_of_block X2.out
            have c00 := cell_at X2.out (j := 0) (v := .string g) rfl
            have c01 := cell_at X2.out (j := 1) (v := .bool true) rfl
            obtain ⟨w3, F0', HB3, s3, Y0⟩ := box_ex w2 #[.string g, .bool true] 101
            have F0 := Lib.hid F0'
            have X3 := Lib.hid (heap_below X2.out HB3.out (by omega))
            have B3 : Hid (Below w.heap.size w w3) := B2.out.trans (HB3.out.mono B2.out.size)
            have y00 := cell_at Y0.out (j := 0) (v := .string g) rfl
            have y01 := cell_at Y0.out (j := 1) (v := .bool true) rfl
            rw [← F0'] at y00 y01
            clear F0'
            go_wp2_with fail
            rw [F0.out]
            clear c00 c01 y00 y01
            refine name_any g _ _ hg ?_
            rw [Hg.out]
            intro w4 hb4
            have X4 := Lib.hid (heap_below X3.out hb4 (lt_of_block X3.out))
            have B4 : Hid (Below w.heap.size w w4) := B3.out.trans (hb4.mono B3.out.size)
            clear hb4
            go_wp2_with fail
            rw [rounds_succ]
            have hsz1 : w.heap.size + 1 < w4.heap.size := lt_of_block X4.out
            have c10 := cell_at X4.out (j := 2) (v := .string p) rfl
            have c11 := cell_at X4.out (j := 3) (v := .bool false) rfl
            obtain ⟨w5, F1', HB5, s5, Y1⟩ := box_ex w4 #[.string p, .bool false] 101
            have F1 := Lib.hid F1'
            have X5 := Lib.hid (heap_below X4.out HB5.out (by omega))
            have B5 : Hid (Below w.heap.size w w5) := B4.out.trans (HB5.out.mono B4.out.size)
            have y10 := cell_at Y1.out (j := 0) (v := .string p) rfl
            have y11 := cell_at Y1.out (j := 1) (v := .bool false) rfl
            rw [← F1'] at y10 y11
            clear F1'
            go_wp2_with fail
            rw [F1.out]
            clear c10 c11 y10 y11
            rw [rounds_succ]
            have hsz2 : w.heap.size + 1 < w5.heap.size := lt_of_block X5.out
            have c20 := cell_at X5.out (j := 4) (v := .string t) rfl
            have c21 := cell_at X5.out (j := 5) (v := .bool false) rfl
            obtain ⟨w6, F2', HB6, s6, Y2⟩ := box_ex w5 #[.string t, .bool false] 101
            have F2 := Lib.hid F2'
            have X6 := Lib.hid (heap_below X5.out HB6.out (by omega))
            have B6 : Hid (Below w.heap.size w w6) := B5.out.trans (HB6.out.mono B5.out.size)
            have y20 := cell_at Y2.out (j := 0) (v := .string t) rfl
            have y21 := cell_at Y2.out (j := 1) (v := .bool false) rfl
            rw [← F2'] at y20 y21
            clear F2'
            go_wp2_with fail
            rw [F2.out]
            clear c20 c21 y20 y21
            rw [rounds_succ]
            go_wp2_with fail
            exact ret_i (HR.out _ B6.out) rfl hE.out
          · have qt := nempty_of zt
            have hE : Hid (evE ⟨1, g, p, t⟩ = 3) := by unfold Hid evE; simp [eg, zp, zt]
            clear eg zp zt
            obtain ⟨w2, E2', HB2, s2, X2⟩ := box_ex w1 #[.string g, .bool true, .string p, .bool false, .string t, .bool false] 101
            have E2 := Lib.hid E2'
            rw [hz1] at X2
            have HZ1 := Lib.hid hz1
            have B2 : Hid (Below w.heap.size w w2) := HB1.out.trans (HB2.out.mono (by omega))
            clear E2' hz1
            go_enter Try.func43, Try.ntmps43
            go_wp2_with fail
            rw [E1.out, E2.out]
            clear a0 a1 a2 a3
            refine wp_loop_rounds 4 ?_
            rw [rounds_succ]
            have hsz0 : w.heap.size + 1 < w2.heap.size := lt_of_block X2.out
            have c00 := cell_at X2.out (j := 0) (v := .string g) rfl
            have c01 := cell_at X2.out (j := 1) (v := .bool true) rfl
            obtain ⟨w3, F0', HB3, s3, Y0⟩ := box_ex w2 #[.string g, .bool true] 101
            have F0 := Lib.hid F0'
            have X3 := Lib.hid (heap_below X2.out HB3.out (by omega))
            have B3 : Hid (Below w.heap.size w w3) := B2.out.trans (HB3.out.mono B2.out.size)
            have y00 := cell_at Y0.out (j := 0) (v := .string g) rfl
            have y01 := cell_at Y0.out (j := 1) (v := .bool true) rfl
            rw [← F0'] at y00 y01
            clear F0'
            go_wp2_with fail
            rw [F0.out]
            clear c00 c01 y00 y01
            refine name_any g _ _ hg ?_
            rw [Hg.out]
            intro w4 hb4
            have X4 := Lib.hid (heap_below X3.out hb4 (lt_of_block X3.out))
            have B4 : Hid (Below w.heap.size w w4) := B3.out.trans (hb4.mono B3.out.size)
            clear hb4
            go_wp2_with fail
            rw [rounds_succ]
            have hsz1 : w.heap.size + 1 < w4.heap.size := lt_of_block X4.out
            have c10 := cell_at X4.out (j := 2) (v := .string p) rfl
            have c11 := cell_at X4.out (j := 3) (v := .bool false) rfl
            obtain ⟨w5, F1', HB5, s5, Y1⟩ := box_ex w4 #[.string p, .bool false] 101
            have F1 := Lib.hid F1'
            have X5 := Lib.hid (heap_below X4.out HB5.out (by omega))
            have B5 : Hid (Below w.heap.size w w5) := B4.out.trans (HB5.out.mono B4.out.size)
            have y10 := cell_at Y1.out (j := 0) (v := .string p) rfl
            have y11 := cell_at Y1.out (j := 1) (v := .bool false) rfl
            rw [← F1'] at y10 y11
            clear F1'
            go_wp2_with fail
            rw [F1.out]
            clear c10 c11 y10 y11
            rw [rounds_succ]
            have hsz2 : w.heap.size + 1 < w5.heap.size := lt_of_block X5.out
            have c20 := cell_at X5.out (j := 4) (v := .string t) rfl
            have c21 := cell_at X5.out (j := 5) (v := .bool false) rfl
            obtain ⟨w6, F2', HB6, s6, Y2⟩ := box_ex w5 #[.string t, .bool false] 101
            have F2 := Lib.hid F2'
            have X6 := Lib.hid (heap_below X5.out HB6.out (by omega))
            have B6 : Hid (Below w.heap.size w w6) := B5.out.trans (HB6.out.mono B5.out.size)
            have y20 := cell_at Y2.out (j := 0) (v := .string t) rfl
            have y21 := cell_at Y2.out (j := 1) (v := .bool false) rfl
            rw [← F2'] at y20 y21
            clear F2'
            go_wp2_with fail
            rw [F2.out]
            clear c20 c21 y20 y21
            rw [rounds_succ]
            go_wp2_with fail
            exact ret_i (HR.out _ B6.out) rfl hE.out
      · have ng : (nmE g == 0) = false := by simpa using eg
        have mg : (nmE g != 0) = true := by simpa using eg
        have hE : Hid (evE ⟨1, g, p, t⟩ = nmE g) := by unfold Hid evE; simp [eg]
        clear eg
        obtain ⟨w2, E2', HB2, s2, X2⟩ := box_ex w1 #[.string g, .bool true, .string p, .bool false, .string t, .bool false] 101
        have E2 := Lib.hid E2'
        rw [hz1] at X2
        have HZ1 := Lib.hid hz1
        have B2 : Hid (Below w.heap.size w w2) := HB1.out.trans (HB2.out.mono (by omega))
        clear E2' hz1
        go_enter Try.func43, Try.ntmps43
        go_wp2_with fail
        rw [E1.out, E2.out]
        clear a0 a1 a2 a3
        refine wp_loop_rounds 4 ?_
        rw [rounds_succ]
        have hsz0 : w.heap.size + 1 < w2.heap.size := lt_of_block X2.out
        have c00 := cell_at X2.out (j := 0) (v := .string g) rfl
        have c01 := cell_at X2.out (j := 1) (v := .bool true) rfl
        obtain ⟨w3, F0', HB3, s3, Y0⟩ := box_ex w2 #[.string g, .bool true] 101
        have F0 := Lib.hid F0'
        have X3 := Lib.hid (heap_below X2.out HB3.out (by omega))
        have B3 : Hid (Below w.heap.size w w3) := B2.out.trans (HB3.out.mono B2.out.size)
        have y00 := cell_at Y0.out (j := 0) (v := .string g) rfl
        have y01 := cell_at Y0.out (j := 1) (v := .bool true) rfl
        rw [← F0'] at y00 y01
        clear F0'
        go_wp2_with fail
        rw [F0.out]
        clear c00 c01 y00 y01
        refine name_any g _ _ hg ?_
        skip
        intro w4 hb4
        have X4 := Lib.hid (heap_below X3.out hb4 (lt_of_block X3.out))
        have B4 : Hid (Below w.heap.size w w4) := B3.out.trans (hb4.mono B3.out.size)
        clear hb4
        go_wp2_with fail
        exact ret_i (HR.out _ B4.out) rfl hE.out
    · by_cases eg : nmE g = 0
      · have Hg := Lib.hid eg
        by_cases zp : p.size = 0
        · have qp := empty_of zp
          by_cases zt : t.size = 0
          · have qt := empty_of zt
            have hE : Hid (evE ⟨2, g, p, t⟩ = 0) := by unfold Hid evE; simp [eg, zp, zt]
            clear eg zp zt
            obtain ⟨w2, E2', HB2, s2, X2⟩ := box_ex w1 #[.string g, .bool true, .string p, .bool false, .string t, .bool false] 101
            have E2 := Lib.hid E2'
            rw [hz1] at X2
            have HZ1 := Lib.hid hz1
            have B2 : Hid (Below w.heap.size w w2) := HB1.out.trans (HB2.out.mono (by omega))
            clear E2' hz1
            go_enter Try.func43, Try.ntmps43
            go_wp2_with fail
            rw [E1.out, E2.out]
            clear a0 a1 a2 a3
            refine wp_loop_rounds 4 ?_
            rw [rounds_succ]
            have hsz0 : w.heap.size + 1 < w2.heap.size := lt_of_block X2.out
            have c00 := cell_at X2.out (j := 0) (v := .string g) rfl
            have c01 := cell_at X2.out (j := 1) (v := .bool true) rfl
            obtain ⟨w3, F0', HB3, s3, Y0⟩ := box_ex w2 #[.string g, .bool true] 101
            have F0 := Lib.hid F0'
            have X3 := Lib.hid (heap_below X2.out HB3.out (by omega))
            have B3 : Hid (Below w.heap.size w w3) := B2.out.trans (HB3.out.mono B2.out.size)
            have y00 := cell_at Y0.out (j := 0) (v := .string g) rfl
            have y01 := cell_at Y0.out (j := 1) (v := .bool true) rfl
            rw [← F0'] at y00 y01
            clear F0'
            go_wp2_with fail
            rw [F0.out]
            clear c00 c01 y00 y01
            refine name_any g _ _ hg ?_
            rw [Hg.out]
            intro w4 hb4
            have X4 := Lib.hid (heap_below X3.out hb4 (lt_of_block X3.out))
            have B4 : Hid (Below w.heap.size w w4) := B3.out.trans (hb4.mono B3.out.size)
            clear hb4
            go_wp2_with fail
            rw [rounds_succ]
            have hsz1 : w.heap.size + 1 < w4.heap.size := lt_of_block X4.out
            have c10 := cell_at X4.out (j := 2) (v := .string p) rfl
            have c11 := cell_at X4.out (j := 3) (v := .bool false) rfl
            obtain ⟨w5, F1', HB5, s5, Y1⟩ := box_ex w4 #[.string p, .bool false] 101
            have F1 := Lib.hid F1'
            have X5 := Lib.hid (heap_below X4.out HB5.out (by omega))
            have B5 : Hid (Below w.heap.size w w5) := B4.out.trans (HB5.out.mono B4.out.size)
            have y10 := cell_at Y1.out (j := 0) (v := .string p) rfl
            have y11 := cell_at Y1.out (j := 1) (v := .bool false) rfl
            rw [← F1'] at y10 y11
            clear F1'
            go_wp2_with fail
            rw [F1.out]
            clear c10 c11 y10 y11
            rw [rounds_succ]
            have hsz2 : w.heap.size + 1 < w5.heap.size := lt_of_block X5.out
            have c20 := cell_at X5.out (j := 4) (v := .string t) rfl
            have c21 := cell_at X5.out (j := 5) (v := .bool false) rfl
            obtain ⟨w6, F2', HB6, s6, Y2⟩ := box_ex w5 #[.string t, .bool false] 101
            have F2 := Lib.hid F2'
            have X6 := Lib.hid (heap_below X5.out HB6.out (by omega))
            have B6 : Hid (Below w.heap.size w w6) := B5.out.trans (HB6.out.mono B5.out.size)
            have y20 := cell_at Y2.out (j := 0) (v := .string t) rfl
            have y21 := cell_at Y2.out (j := 1) (v := .bool false) rfl
            rw [← F2'] at y20 y21
            clear F2'
            go_wp2_with fail
            rw [F2.out]
            clear c20 c21 y20 y21
            rw [rounds_succ]
            go_wp2_with fail
            exact ret_i (HR.out _ B6.out) rfl hE.out
          · have qt := nempty_of zt
            have hE : Hid (evE ⟨2, g, p, t⟩ = 3) := by unfold Hid evE; simp [eg, zp, zt]
            clear eg zp zt
            obtain ⟨w2, E2', HB2, s2, X2⟩ := box_ex w1 #[.string g, .bool true, .string p, .bool false, .string t, .bool false] 101
            have E2 := Lib.hid E2'
            rw [hz1] at X2
            have HZ1 := Lib.hid hz1
            have B2 : Hid (Below w.heap.size w w2) := HB1.out.trans (HB2.out.mono (by omega))
            clear E2' hz1
            go_enter Try.func43, Try.ntmps43
            go_wp2_with fail
            rw [E1.out, E2.out]
            clear a0 a1 a2 a3
            refine wp_loop_rounds 4 ?_
            rw [rounds_succ]
            have hsz0 : w.heap.size + 1 < w2.heap.size := lt_of_block X2.out
            have c00 := cell_at X2.out (j := 0) (v := .string g) rfl
            have c01 := cell_at X2.out (j := 1) (v := .bool true) rfl
            obtain ⟨w3, F0', HB3, s3, Y0⟩ := box_ex w2 #[.string g, .bool true] 101
            have F0 := Lib.hid F0'
            have X3 := Lib.hid (heap_below X2.out HB3.out (by omega))
            have B3 : Hid (Below w.heap.size w w3) := B2.out.trans (HB3.out.mono B2.out.size)
            have y00 := cell_at Y0.out (j := 0) (v := .string g) rfl
            have y01 := cell_at Y0.out (j := 1) (v := .bool true) rfl
            rw [← F0'] at y00 y01
            clear F0'
            go_wp2_with fail
            rw [F0.out]
            clear c00 c01 y00 y01
            refine name_any g _ _ hg ?_
            rw [Hg.out]
            intro w4 hb4
            have X4 := Lib.hid (heap_below X3.out hb4 (lt_of_block X3.out))
            have B4 : Hid (Below w.heap.size w w4) := B3.out.trans (hb4.mono B3.out.size)
            clear hb4
            go_wp2_with fail
            rw [rounds_succ]
            have hsz1 : w.heap.size + 1 < w4.heap.size := lt_of_block X4.out
            have c10 := cell_at X4.out (j := 2) (v := .string p) rfl
            have c11 := cell_at X4.out (j := 3) (v := .bool false) rfl
            obtain ⟨w5, F1', HB5, s5, Y1⟩ := box_ex w4 #[.string p, .bool false] 101
            have F1 := Lib.hid F1'
            have X5 := Lib.hid (heap_below X4.out HB5.out (by omega))
            have B5 : Hid (Below w.heap.size w w5) := B4.out.trans (HB5.out.mono B4.out.size)
            have y10 := cell_at Y1.out (j := 0) (v := .string p) rfl
            have y11 := cell_at Y1.out (j := 1) (v := .bool false) rfl
            rw [← F1'] at y10 y11
            clear F1'
            go_wp2_with fail
            rw [F1.out]
            clear c10 c11 y10 y11
            rw [rounds_succ]
            have hsz2 : w.heap.size + 1 < w5.heap.size := lt_of_block X5.out
            have c20 := cell_at X5.out (j := 4) (v := .string t) rfl
            have c21 := cell_at X5.out (j := 5) (v := .bool false) rfl
            obtain ⟨w6, F2', HB6, s6, Y2⟩ := box_ex w5 #[.string t, .bool false] 101
            have F2 := Lib.hid F2'
            have X6 := Lib.hid (heap_below X5.out HB6.out (by omega))
            have B6 : Hid (Below w.heap.size w w6) := B5.out.trans (HB6.out.mono B5.out.size)
            have y20 := cell_at Y2.out (j := 0) (v := .string t) rfl
            have y21 := cell_at Y2.out (j := 1) (v := .bool false) rfl
            rw [← F2'] at y20 y21
            clear F2'
            go_wp2_with fail
            rw [F2.out]
            clear c20 c21 y20 y21
            rw [rounds_succ]
            go_wp2_with fail
            exact ret_i (HR.out _ B6.out) rfl hE.out
        · have qp := nempty_of zp
          by_cases zt : t.size = 0
          · have qt := empty_of zt
            have hE : Hid (evE ⟨2, g, p, t⟩ = 3) := by unfold Hid evE; simp [eg, zp, zt]
            clear eg zp zt
            obtain ⟨w2, E2', HB2, s2, X2⟩ := box_ex w1 #[.string g, .bool true, .string p, .bool false, .string t, .bool false] 101
            have E2 := Lib.hid E2'
            rw [hz1] at X2
            have HZ1 := Lib.hid hz1
            have B2 : Hid (Below w.heap.size w w2) := HB1.out.trans (HB2.out.mono (by omega))
            clear E2' hz1
            go_enter Try.func43, Try.ntmps43
            go_wp2_with fail
            rw [E1.out, E2.out]
            clear a0 a1 a2 a3
            refine wp_loop_rounds 4 ?_
            rw [rounds_succ]
            have hsz0 : w.heap.size + 1 < w2.heap.size := lt_of_block X2.out
            have c00 := cell_at X2.out (j := 0) (v := .string g) rfl
            have c01 := cell_at X2.out (j := 1) (v := .bool true) rfl
            obtain ⟨w3, F0', HB3, s3, Y0⟩ := box_ex w2 #[.string g, .bool true] 101
            have F0 := Lib.hid F0'
            have X3 := Lib.hid (heap_below X2.out HB3.out (by omega))
            have B3 : Hid (Below w.heap.size w w3) := B2.out.trans (HB3.out.mono B2.out.size)
            have y00 := cell_at Y0.out (j := 0) (v := .string g) rfl
            have y01 := cell_at Y0.out (j := 1) (v := .bool true) rfl
            rw [← F0'] at y00 y01
            clear F0'
            go_wp2_with fail
            rw [F0.out]
            clear c00 c01 y00 y01
            refine name_any g _ _ hg ?_
            rw [Hg.out]
            intro w4 hb4
            have X4 := Lib.hid (heap_below X3.out hb4 (lt_of_block X3.out))
            have B4 : Hid (Below w.heap.size w w4) := B3.out.trans (hb4.mono B3.out.size)
            clear hb4
            go_wp2_with fail
            rw [rounds_succ]
            have hsz1 : w.heap.size + 1 < w4.heap.size := lt_of_block X4.out
            have c10 := cell_at X4.out (j := 2) (v := .string p) rfl
            have c11 := cell_at X4.out (j := 3) (v := .bool false) rfl
            obtain ⟨w5, F1', HB5, s5, Y1⟩ := box_ex w4 #[.string p, .bool false] 101
            have F1 := Lib.hid F1'
            have X5 := Lib.hid (heap_below X4.out HB5.out (by omega))
            have B5 : Hid (Below w.heap.size w w5) := B4.out.trans (HB5.out.mono B4.out.size)
            have y10 := cell_at Y1.out (j := 0) (v := .string p) rfl
            have y11 := cell_at Y1.out (j := 1) (v := .bool false) rfl
            rw [← F1'] at y10 y11
            clear F1'
            go_wp2_with fail
            rw [F1.out]
            clear c10 c11 y10 y11
            rw [rounds_succ]
            have hsz2 : w.heap.size + 1 < w5.heap.size := lt_of_block X5.out
            have c20 := cell_at X5.out (j := 4) (v := .string t) rfl
            have c21 := cell_at X5.out (j := 5) (v := .bool false) rfl
            obtain ⟨w6, F2', HB6, s6, Y2⟩ := box_ex w5 #[.string t, .bool false] 101
            have F2 := Lib.hid F2'
            have X6 := Lib.hid (heap_below X5.out HB6.out (by omega))
            have B6 : Hid (Below w.heap.size w w6) := B5.out.trans (HB6.out.mono B5.out.size)
            have y20 := cell_at Y2.out (j := 0) (v := .string t) rfl
            have y21 := cell_at Y2.out (j := 1) (v := .bool false) rfl
            rw [← F2'] at y20 y21
            clear F2'
            go_wp2_with fail
            rw [F2.out]
            clear c20 c21 y20 y21
            rw [rounds_succ]
            go_wp2_with fail
            exact ret_i (HR.out _ B6.out) rfl hE.out
          · have qt := nempty_of zt
            have hE : Hid (evE ⟨2, g, p, t⟩ = 3) := by unfold Hid evE; simp [eg, zp, zt]
            clear eg zp zt
            obtain ⟨w2, E2', HB2, s2, X2⟩ := box_ex w1 #[.string g, .bool true, .string p, .bool false, .string t, .bool false] 101
            have E2 := Lib.hid E2'
            rw [hz1] at X2
            have HZ1 := Lib.hid hz1
            have B2 : Hid (Below w.heap.size w w2) := HB1.out.trans (HB2.out.mono (by omega))
            clear E2' hz1
            go_enter Try.func43, Try.ntmps43
            go_wp2_with fail
            rw [E1.out, E2.out]
            clear a0 a1 a2 a3
            refine wp_loop_rounds 4 ?_
            rw [rounds_succ]
            have hsz0 : w.heap.size + 1 < w2.heap.size := lt_of_block X2.out
            have c00 := cell_at X2.out (j := 0) (v := .string g) rfl
            have c01 := cell_at X2.out (j := 1) (v := .bool true) rfl
            obtain ⟨w3, F0', HB3, s3, Y0⟩ := box_ex w2 #[.string g, .bool true] 101
            have F0 := Lib.hid F0'
            have X3 := Lib.hid (heap_below X2.out HB3.out (by omega))
            have B3 : Hid (Below w.heap.size w w3) := B2.out.trans (HB3.out.mono B2.out.size)
            have y00 := cell_at Y0.out (j := 0) (v := .string g) rfl
            have y01 := cell_at Y0.out (j := 1) (v := .bool true) rfl
            rw [← F0'] at y00 y01
            clear F0'
            go_wp2_with fail
            rw [F0.out]
            clear c00 c01 y00 y01
            refine name_any g _ _ hg ?_
            rw [Hg.out]
            intro w4 hb4
            have X4 := Lib.hid (heap_below X3.out hb4 (lt_of_block X3.out))
            have B4 : Hid (Below w.heap.size w w4) := B3.out.trans (hb4.mono B3.out.size)
            clear hb4
            go_wp2_with fail
            rw [rounds_succ]
            have hsz1 : w.heap.size + 1 < w4.heap.size := lt_of_block X4.out
            have c10 := cell_at X4.out (j := 2) (v := .string p) rfl
            have c11 := cell_at X4.out (j := 3) (v := .bool false) rfl
            obtain ⟨w5, F1', HB5, s5, Y1⟩ := box_ex w4 #[.string p, .bool false] 101
            have F1 := Lib.hid F1'
            have X5 := Lib.hid (heap_below X4.out HB5.out (by omega))
            have B5 : Hid (Below w.heap.size w w5) := B4.out.trans (HB5.out.mono B4.out.size)
            have y10 := cell_at Y1.out (j := 0) (v := .string p) rfl
            have y11 := cell_at Y1.out (j := 1) (v := .bool false) rfl
            rw [← F1'] at y10 y11
            clear F1'
            go_wp2_with fail
            rw [F1.out]
            clear c10 c11 y10 y11
            rw [rounds_succ]
            have hsz2 : w.heap.size + 1 < w5.heap.size := lt_of_block X5.out
            have c20 := cell_at X5.out (j := 4) (v := .string t) rfl
            have c21 := cell_at X5.out (j := 5) (v := .bool false) rfl
            obtain ⟨w6, F2', HB6, s6, Y2⟩ := box_ex w5 #[.string t, .bool false] 101
            have F2 := Lib.hid F2'
            have X6 := Lib.hid (heap_below X5.out HB6.out (by omega))
            have B6 : Hid (Below w.heap.size w w6) := B5.out.trans (HB6.out.mono B5.out.size)
            have y20 := cell_at Y2.out (j := 0) (v := .string t) rfl
            have y21 := cell_at Y2.out (j := 1) (v := .bool false) rfl
            rw [← F2'] at y20 y21
            clear F2'
            go_wp2_with fail
            rw [F2.out]
            clear c20 c21 y20 y21
            rw [rounds_succ]
            go_wp2_with fail
            exact ret_i (HR.out _ B6.out) rfl hE.out
      · have ng : (nmE g == 0) = false := by simpa using eg
        have mg : (nmE g != 0) = true := by simpa using eg
        have hE : Hid (evE ⟨2, g, p, t⟩ = nmE g) := by unfold Hid evE; simp [eg]
        clear eg
        obtain ⟨w2, E2', HB2, s2, X2⟩ := box_ex w1 #[.string g, .bool true, .string p, .bool false, .string t, .bool false] 101
        have E2 := Lib.hid E2'
        rw [hz1] at X2
        have HZ1 := Lib.hid hz1
        have B2 : Hid (Below w.heap.size w w2) := HB1.out.trans (HB2.out.mono (by omega))
        clear E2' hz1
        go_enter Try.func43, Try.ntmps43
        go_wp2_with fail
        rw [E1.out, E2.out]
        clear a0 a1 a2 a3
        refine wp_loop_rounds 4 ?_
        rw [rounds_succ]
        have hsz0 : w.heap.size + 1 < w2.heap.size := lt_of_block X2.out
        have c00 := cell_at X2.out (j := 0) (v := .string g) rfl
        have c01 := cell_at X2.out (j := 1) (v := .bool true) rfl
        obtain ⟨w3, F0', HB3, s3, Y0⟩ := box_ex w2 #[.string g, .bool true] 101
        have F0 := Lib.hid F0'
        have X3 := Lib.hid (heap_below X2.out HB3.out (by omega))
        have B3 : Hid (Below w.heap.size w w3) := B2.out.trans (HB3.out.mono B2.out.size)
        have y00 := cell_at Y0.out (j := 0) (v := .string g) rfl
        have y01 := cell_at Y0.out (j := 1) (v := .bool true) rfl
        rw [← F0'] at y00 y01
        clear F0'
        go_wp2_with fail
        rw [F0.out]
        clear c00 c01 y00 y01
        refine name_any g _ _ hg ?_
        skip
        intro w4 hb4
        have X4 := Lib.hid (heap_below X3.out hb4 (lt_of_block X3.out))
        have B4 : Hid (Below w.heap.size w w4) := B3.out.trans (hb4.mono B3.out.size)
        clear hb4
        go_wp2_with fail
        exact ret_i (HR.out _ B4.out) rfl hE.out
end Go.Proofs.Ytfamennpajjajaa
