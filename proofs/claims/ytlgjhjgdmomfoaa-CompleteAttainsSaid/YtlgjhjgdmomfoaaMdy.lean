/- The walks of Span, Possible and Distance of the reference. (Printed by gen_rdist.py.) The walks of Without, Implied and Placed of the reference. (Printed by gen_rimp.py.) -/
import Derived.Deep.RegionHeld3
import Derived.Test.YtlgjhjgdmomfoaaMdu
import Derived.Test.YtlgjhjgdmomfoaaMda
namespace Go.Proofs.Ytlgjhjgdmomfoaa
open Go.RowKit Go.Maps

set_option maxRecDepth 100000 in
set_option maxHeartbeats 4000000 in
theorem rspan_any (ao : Option Addr) (vs : List Dm) (n c : Nat) (ax : Int) (s t : ByteArray) (w : World) (R : Ending → World → Prop) (hn : vs.length = n) (hl : vs.length ≤ 256) (hc : CellsAt w ao (dC vs)) (hva : ∀ j, j < vs.length → vaE (dAt vs j) = 0)
   (hR : ∀ w', Below w.heap.size w w' → R (.returned (.agg #[.int .i64 (-waV vs ax t s), .int .i64 (waV vs ax s t)])) w') :
    Calls Try.prog 56 #[.slice ao n c, .int .i64 ax, .string s, .string t] w R := by
  have HR := Lib.hid hR
  have HVA := Lib.hid hva
  obtain ⟨w1, E1, HB1, s1, X1⟩ := box_ex w #[.int .i64 0, .int .i64 0] 37
  have HC := Lib.hid (hc.below HB1.out)
  have b1 := waV_bd (ax := ax) (s := t) (t := s) hl hva
  have b2 := waV_bd (ax := ax) (s := s) (t := t) hl hva
  obtain ⟨x, hx⟩ : ∃ x, waV vs ax t s = x := ⟨_, rfl⟩
  obtain ⟨y, hy⟩ : ∃ y, waV vs ax s t = y := ⟨_, rfl⟩
  rw [hx] at b1
  rw [hy] at b2
  have Hx := Lib.hid hx
  have Hy := Lib.hid hy
  have hw : IntKind.i64.wrap (-x) = -x := by rw [IntKind.wrap_i64]; omega
  clear hR hc hva hx hy b1 b2
  go_enter Try.func56, Try.ntmps56
  go_wp2_with (rw [E1])
  refine way_any ao vs n c ax t s _ _ hn hl HC.out HVA.out ?_
  rw [Hx.out]
  intro w2 hb
  have V2 := Lib.hid hb
  have U2 := Lib.hid (HB1.out.trans (hb.mono (Nat.le_of_lt s1)))
  have X2 := Lib.hid (blk_box X1.out hb s1)
  have s2 := lt_of_block X2.out
  clear hb E1
  go_wp2_with fail
  refine way_any ao vs n c ax s t _ _ hn hl (HC.out.below V2.out) HVA.out ?_
  rw [Hy.out]
  intro w3 hb
  have U3 := Lib.hid (U2.out.trans (hb.mono (Nat.le_of_lt s2)))
  have X3 := Lib.hid (blk_box X2.out hb s2)
  have z0 := cell_of X3.out (j := 0) rfl
  have z1 := cell_of X3.out (j := 1) rfl
  have f0 := frozen_of X3.out 0
  have f1 := frozen_of X3.out 1
  clear hb
  go_wp2_with fail
  have hbx := heap_setCell_same _ w.heap.size 1 _ _ (.int .i64 y) (heap_setCell_same _ w.heap.size 0 _ _ (.int .i64 (-x)) X3.out)
  have t0 := cell_of hbx (j := 0) (v := .int .i64 (-x)) rfl
  have t1 := cell_of hbx (j := 1) (v := .int .i64 y) rfl
  have hB := (U3.out.setCell (p := ⟨w.heap.size, 0, none⟩) (Nat.le_refl _) (.int .i64 (-x))).setCell (p := ⟨w.heap.size, 1, none⟩) (Nat.le_refl _) (.int .i64 y)
  refine bodyPost_ret (v := .agg #[.int .i64 (-x), .int .i64 y]) (by simp [results, Try.results56, go_sem, t0, t1]) rfl ?_
  have h := HR.out _ hB
  rw [Hx.out, Hy.out] at h; exact h
set_option maxRecDepth 100000 in
set_option maxHeartbeats 8000000 in
theorem rpossible_any (ao : Option Addr) (vs : List Dm) (c : Nat) (ax : Int) (w : World) (R : Ending → World → Prop) (hl : vs.length ≤ 256) (hc : CellsAt w ao (dC vs)) (hva : ∀ j, j < vs.length → vaE (dAt vs j) = 0)
   (hR : ∀ w', Below w.heap.size w w' → R (.returned (.bool (cfE vs ax))) w') :
    Calls Try.prog 21 #[.slice ao vs.length c, .int .i64 ax] w R := by
  have HR := Lib.hid hR
  have HC := Lib.hid hc
  have HVA := Lib.hid hva
  clear hR hc hva
  go_enter Try.func21, Try.ntmps21
  go_wp2_with fail
  go_loopw [5] (fun j wr => ∃ (k : Nat), k ≤ vs.length ∧ j = .int .i64 k ∧ Hid (Below w.heap.size w wr) ∧ Hid (∀ j, j < k → poQ vs ax j = true)) (fun j _ => vs.length - (intOf j).toNat)
  case atStart => exact ⟨0, Nat.zero_le _, rfl, Below.refl _ _, fun j h => absurd h (Nat.not_lt_zero _)⟩
  case round =>
    obtain ⟨k, hk, rfl, HB, HQ⟩ := hrel
    have sB := HB.out.size
    by_cases hlt : k < vs.length
    · obtain ⟨b, o, rfl, hbb, hcell⟩ := HC.out.dms (by omega)
      obtain ⟨c0, c1, c2, c3, c4⟩ := hcell k hlt
      have d0 := cellB HB.out c0 hbb
      have d1 := cellB HB.out c1 hbb
      have d2 := cellB HB.out c2 hbb
      have d3 := cellB HB.out c3 hbb
      have d4 := cellB HB.out c4 hbb
      have hbd := vaE_bounds (HVA.out k hlt)
      have hq : Hid (poQ vs ax k = (!((dAt vs k).x == ax) || (decide (0 ≤ (dAt vs k).h + waV vs ax (dAt vs k).t (dAt vs k).f) && decide (0 ≤ -(dAt vs k).l + waV vs ax (dAt vs k).f (dAt vs k).t)))) := rfl
      have hnext : Hid (poQ vs ax k = true → ∀ j, j < k + 1 → poQ vs ax j = true) := fun h j hj => by
        by_cases e : j = k
        · rw [e]; exact h
        · exact HQ.out j (by omega)
      have hnot : Hid (poQ vs ax k = false → cfE vs ax = false) := fun h => cfE_not HVA.out hlt h
      obtain ⟨u, hu⟩ : ∃ u, dAt vs k = u := ⟨_, rfl⟩
      rw [hu] at d0 d1 d2 d3 d4 hq hbd
      have HA : Hid (Below w.heap.size w (wr.alloc (.cells #[.string u.f, .string u.t, .int .i64 u.x, .int .i64 u.l, .int .i64 u.h] 73))) := HB.out.alloc sB _
      have X0 := Lib.hid (World.alloc_heap_new wr (.cells #[.string u.f, .string u.t, .int .i64 u.x, .int .i64 u.l, .int .i64 u.h] 73))
      clear hcell hu c0 c1 c2 c3 c4 HQ
      cases hx : (u.x == ax) with
      | false =>
        have K : (u.x != ax) = true := by rw [bne, hx]; rfl
        have hq2 : Hid (poQ vs ax k = true) := by unfold Hid; rw [hq.out, hx]; rfl
        clear hq hx
        go_wp2_with fail
        exact ⟨⟨k + 1, by omega, by go_num, HB, hnext.out hq2.out⟩, by simp [intOf]; omega⟩
      | true =>
        have K : (u.x != ax) = false := by rw [bne, hx]; rfl
        have b1 := waV_bd (ax := ax) (s := u.t) (t := u.f) hl HVA.out
        have b2 := waV_bd (ax := ax) (s := u.f) (t := u.t) hl HVA.out
        have hq1 := hq.out
        rw [hx, Bool.not_true, Bool.false_or] at hq1
        obtain ⟨x, hx1⟩ : ∃ x, waV vs ax u.t u.f = x := ⟨_, rfl⟩
        obtain ⟨y, hy1⟩ : ∃ y, waV vs ax u.f u.t = y := ⟨_, rfl⟩
        rw [hx1] at b1 hq1
        rw [hy1] at b2 hq1
        have Hx := Lib.hid hx1
        have Hy := Lib.hid hy1
        have HQ1 := Lib.hid hq1
        have hw1 : IntKind.i64.wrap (u.h + x) = u.h + x := by rw [IntKind.wrap_i64]; omega
        have hw2 : IntKind.i64.wrap (-u.l) = -u.l := by rw [IntKind.wrap_i64]; omega
        have hw3 : IntKind.i64.wrap (-u.l + y) = -u.l + y := by rw [IntKind.wrap_i64]; omega
        clear hq hx hq1 hx1 hy1 b1 b2 hbd
        go_wp2_with fail
        obtain ⟨wA, hwA⟩ : ∃ wA, wr.alloc (.cells #[.string u.f, .string u.t, .int .i64 u.x, .int .i64 u.l, .int .i64 u.h] 73) = wA := ⟨_, rfl⟩
        have zA : wr.heap.size < wA.heap.size := by rw [← hwA]; simp
        rw [hwA] at HA X0 ⊢
        have sA := HA.out.size
        clear hwA d0 d1 d2 d3 d4
        have HBB : Hid (Below wA.heap.size wA wA.drew) := (Below.refl _ _).drew
        have e0 := cell_of (blk_box X0.out HBB.out zA) (j := 0) (v := .string u.f) rfl
        have e1 := cell_of (blk_box X0.out HBB.out zA) (j := 1) (v := .string u.t) rfl
        have e3 := cell_of (blk_box X0.out HBB.out zA) (j := 3) (v := .int .i64 u.l) rfl
        have e4 := cell_of (blk_box X0.out HBB.out zA) (j := 4) (v := .int .i64 u.h) rfl
        by_cases h1 : u.h + x < 0
        · have hn2 : Hid (cfE vs ax = false) := hnot.out (by rw [HQ1.out]; simp; omega)
          clear HQ1 hnext hnot
          refine regionQ (fun w' => w'.cell? ⟨wr.heap.size, 0, none⟩ = some (.string u.f) ∧ w'.cell? ⟨wr.heap.size, 1, none⟩ = some (.string u.t) ∧ w'.cell? ⟨wr.heap.size, 3, none⟩ = some (.int .i64 u.l) ∧ w'.cell? ⟨wr.heap.size, 4, none⟩ = some (.int .i64 u.h)) (by kernel_rfl) (⟨e0, e1, e3, e4⟩) (fun Qn hPQ hQn hS0 => ?_)
          refine takeQ (i := 0) (d := some 24) (v := ?v1) rfl rfl (by kernel_rfl) (by kernel_rfl) (by kernel_rfl) hPQ hS0 (by kernel_rfl) ?h1 ?r1
          case h1 => (intro w hSw; (try dsimp only at hSw); obtain ⟨k0, k1, k3, k4⟩ := hSw; go_simp; (try with_reducible rfl))
          (try simp only [Act.put, List.setIfInBounds_toArray, List.set_cons_zero, List.set_cons_succ])
          refine takeQ (i := 1) (d := some 25) (v := ?v2) rfl rfl (by kernel_rfl) (by kernel_rfl) (by kernel_rfl) hPQ hS0 (by kernel_rfl) ?h2 ?r2
          case h2 => (intro w hSw; (try dsimp only at hSw); obtain ⟨k0, k1, k3, k4⟩ := hSw; go_simp; (try with_reducible rfl))
          (try simp only [Act.put, List.setIfInBounds_toArray, List.set_cons_zero, List.set_cons_succ])
          refine takeQ (i := 2) (d := some 26) (v := ?v3) rfl rfl (by kernel_rfl) (by kernel_rfl) (by kernel_rfl) hPQ hS0 (by kernel_rfl) ?h3 ?r3
          case h3 => (intro w hSw; (try dsimp only at hSw); obtain ⟨k0, k1, k3, k4⟩ := hSw; go_simp; (try with_reducible rfl))
          (try simp only [Act.put, List.setIfInBounds_toArray, List.set_cons_zero, List.set_cons_succ])
          refine takeQ (i := 3) (d := some 27) (v := ?v4) rfl rfl (by kernel_rfl) (by kernel_rfl) (by kernel_rfl) hPQ hS0 (by kernel_rfl) ?h4 ?r4
          case h4 => (intro w hSw; (try dsimp only at hSw); obtain ⟨k0, k1, k3, k4⟩ := hSw; go_simp; (try with_reducible rfl))
          (try simp only [Act.put, List.setIfInBounds_toArray, List.set_cons_zero, List.set_cons_succ])
          refine takeQ (i := 4) (d := some 28) (v := ?v5) rfl rfl (by kernel_rfl) (by kernel_rfl) (by kernel_rfl) hPQ hS0 (by kernel_rfl) ?h5 ?r5
          case h5 => (intro w hSw; (try dsimp only at hSw); obtain ⟨k0, k1, k3, k4⟩ := hSw; go_simp; (try with_reducible rfl))
          (try simp only [Act.put, List.setIfInBounds_toArray, List.set_cons_zero, List.set_cons_succ])
          refine takeQ (i := 5) (d := some 29) (v := ?v6) rfl rfl (by kernel_rfl) (by kernel_rfl) (by kernel_rfl) hPQ hS0 (by kernel_rfl) ?h6 ?r6
          case h6 => (intro w hSw; (try dsimp only at hSw); obtain ⟨k0, k1, k3, k4⟩ := hSw; go_simp; (try with_reducible rfl))
          (try simp only [Act.put, List.setIfInBounds_toArray, List.set_cons_zero, List.set_cons_succ])
          refine takeQ (i := 6) (d := some 30) (v := ?v7) rfl rfl (by kernel_rfl) (by kernel_rfl) (by kernel_rfl) hPQ hS0 (by kernel_rfl) ?h7 ?r7
          case h7 => (intro w hSw; (try dsimp only at hSw); obtain ⟨k0, k1, k3, k4⟩ := hSw; go_simp; (try with_reducible rfl))
          (try simp only [Act.put, List.setIfInBounds_toArray, List.set_cons_zero, List.set_cons_succ])
          refine takeQ (i := 7) (d := some 31) (v := ?v8) rfl rfl (by kernel_rfl) (by kernel_rfl) (by kernel_rfl) hPQ hS0 (by kernel_rfl) ?h8 ?r8
          case h8 => (intro w hSw; (try dsimp only at hSw); obtain ⟨k0, k1, k3, k4⟩ := hSw; go_simp; (try with_reducible rfl))
          (try simp only [Act.put, List.setIfInBounds_toArray, List.set_cons_zero, List.set_cons_succ])
          refine takeQ (i := 8) (d := some 32) (v := ?v9) rfl rfl (by kernel_rfl) (by kernel_rfl) (by kernel_rfl) hPQ hS0 (by kernel_rfl) ?h9 ?r9
          case h9 => (intro w hSw; (try dsimp only at hSw); obtain ⟨k0, k1, k3, k4⟩ := hSw; go_simp; (try with_reducible rfl))
          (try simp only [Act.put, List.setIfInBounds_toArray, List.set_cons_zero, List.set_cons_succ])
          refine wpAnyH_ready (rs := [9]) (by kernel_rfl) (by simp) ?_
          refine AllReadyH.cons (o := _) rfl (fun K hK => ?_) AllReadyH.nil
          go_simp
          refine way_any (some ⟨b, o, none⟩) vs _ c ax u.t u.f _ _ rfl hl ((HC.out.below HA.out).below (HBB.out.mono (Nat.le_refl _))) HVA.out ?_
          rw [Hx.out]
          intro wX hb
          have tA : Hid (Below wA.heap.size wA wX) := HBB.out.trans (hb.mono HBB.out.size)
          have r0 := cell_of (blk_box X0.out tA.out zA) (j := 0) (v := .string u.f) rfl
          have r1 := cell_of (blk_box X0.out tA.out zA) (j := 1) (v := .string u.t) rfl
          have r3 := cell_of (blk_box X0.out tA.out zA) (j := 3) (v := .int .i64 u.l) rfl
          have r4 := cell_of (blk_box X0.out tA.out zA) (j := 4) (v := .int .i64 u.h) rfl
          clear hb
          refine hK.out _ _ (⟨r0, r1, r3, r4⟩) (fun hS1 => ?_)
          clear hK K hS0
          (try simp only [Act.put, List.setIfInBounds_toArray, List.set_cons_zero, List.set_cons_succ])
          refine takeQ (i := 10) (d := some 34) (v := ?v10) rfl rfl (by kernel_rfl) (by kernel_rfl) (by kernel_rfl) hPQ hS1 (by kernel_rfl) ?h10 ?r10
          case h10 => (intro w hSw; (try dsimp only at hSw); obtain ⟨k0, k1, k3, k4⟩ := hSw; go_simp; (try with_reducible rfl))
          (try simp only [Act.put, List.setIfInBounds_toArray, List.set_cons_zero, List.set_cons_succ])
          refine takeQ (i := 11) (d := some 35) (v := ?v11) rfl rfl (by kernel_rfl) (by kernel_rfl) (by kernel_rfl) hPQ hS1 (by kernel_rfl) ?h11 ?r11
          case h11 => (intro w hSw; (try dsimp only at hSw); obtain ⟨k0, k1, k3, k4⟩ := hSw; go_simp; (try with_reducible rfl))
          (try simp only [Act.put, List.setIfInBounds_toArray, List.set_cons_zero, List.set_cons_succ])
          refine takeQ (i := 12) (d := some 36) (v := ?v12) rfl rfl (by kernel_rfl) (by kernel_rfl) (by kernel_rfl) hPQ hS1 (by kernel_rfl) ?h12 ?r12
          case h12 => (intro w hSw; (try dsimp only at hSw); obtain ⟨k0, k1, k3, k4⟩ := hSw; go_simp; (try with_reducible rfl))
          (try simp only [Act.put, List.setIfInBounds_toArray, List.set_cons_zero, List.set_cons_succ])
          refine skipQ (i := 13) (d := some 37) rfl rfl (by kernel_rfl) (by kernel_rfl) (by kernel_rfl) hPQ hS1 (by kernel_rfl) ?_
          (try simp only [Act.put, List.setIfInBounds_toArray, List.set_cons_zero, List.set_cons_succ])
          refine skipQ (i := 14) (d := some 38) rfl rfl (by kernel_rfl) (by kernel_rfl) (by kernel_rfl) hPQ hS1 (by kernel_rfl) ?_
          (try simp only [Act.put, List.setIfInBounds_toArray, List.set_cons_zero, List.set_cons_succ])
          refine skipQ (i := 15) (d := some 39) rfl rfl (by kernel_rfl) (by kernel_rfl) (by kernel_rfl) hPQ hS1 (by kernel_rfl) ?_
          (try simp only [Act.put, List.setIfInBounds_toArray, List.set_cons_zero, List.set_cons_succ])
          refine skipQ (i := 16) (d := some 40) rfl rfl (by kernel_rfl) (by kernel_rfl) (by kernel_rfl) hPQ hS1 (by kernel_rfl) ?_
          (try simp only [Act.put, List.setIfInBounds_toArray, List.set_cons_zero, List.set_cons_succ])
          refine skipQ (i := 17) (d := some 41) rfl rfl (by kernel_rfl) (by kernel_rfl) (by kernel_rfl) hPQ hS1 (by kernel_rfl) ?_
          (try simp only [Act.put, List.setIfInBounds_toArray, List.set_cons_zero, List.set_cons_succ])
          refine skipQ (i := 18) (d := some 42) rfl rfl (by kernel_rfl) (by kernel_rfl) (by kernel_rfl) hPQ hS1 (by kernel_rfl) ?_
          (try simp only [Act.put, List.setIfInBounds_toArray, List.set_cons_zero, List.set_cons_succ])
          refine skipQ (i := 19) (d := some 43) rfl rfl (by kernel_rfl) (by kernel_rfl) (by kernel_rfl) hPQ hS1 (by kernel_rfl) ?_
          (try simp only [Act.put, List.setIfInBounds_toArray, List.set_cons_zero, List.set_cons_succ])
          refine skipQ (i := 20) (d := some 44) rfl rfl (by kernel_rfl) (by kernel_rfl) (by kernel_rfl) hPQ hS1 (by kernel_rfl) ?_
          (try simp only [Act.put, List.setIfInBounds_toArray, List.set_cons_zero, List.set_cons_succ])
          refine skipQ (i := 21) (d := some 45) rfl rfl (by kernel_rfl) (by kernel_rfl) (by kernel_rfl) hPQ hS1 (by kernel_rfl) ?_
          (try simp only [Act.put, List.setIfInBounds_toArray, List.set_cons_zero, List.set_cons_succ])
          refine skipQ (i := 22) (d := some 46) rfl rfl (by kernel_rfl) (by kernel_rfl) (by kernel_rfl) hPQ hS1 (by kernel_rfl) ?_
          (try simp only [Act.put, List.setIfInBounds_toArray, List.set_cons_zero, List.set_cons_succ])
          refine skipQ (i := 23) (d := some 47) rfl rfl (by kernel_rfl) (by kernel_rfl) (by kernel_rfl) hPQ hS1 (by kernel_rfl) ?_
          (try simp only [Act.put, List.setIfInBounds_toArray, List.set_cons_zero, List.set_cons_succ])
          refine skipQ (i := 24) (d := some 48) rfl rfl (by kernel_rfl) (by kernel_rfl) (by kernel_rfl) hPQ hS1 (by kernel_rfl) ?_
          (try simp only [Act.put, List.setIfInBounds_toArray, List.set_cons_zero, List.set_cons_succ])
          refine skipQ (i := 25) (d := some 49) rfl rfl (by kernel_rfl) (by kernel_rfl) (by kernel_rfl) hPQ hS1 (by kernel_rfl) ?_
          (try simp only [Act.put, List.setIfInBounds_toArray, List.set_cons_zero, List.set_cons_succ])
          refine takeQ (i := 26) (d := some 50) (v := ?v13) rfl rfl (by kernel_rfl) (by kernel_rfl) (by kernel_rfl) hPQ hS1 (by kernel_rfl) ?h13 ?r13
          case h13 => (intro w hSw; (try dsimp only at hSw); obtain ⟨k0, k1, k3, k4⟩ := hSw; go_simp; (try with_reducible rfl))
          (try simp only [Act.put, List.setIfInBounds_toArray, List.set_cons_zero, List.set_cons_succ])
          refine wpAnyH_done (by kernel_rfl) (hQn.out _ _ ?_) _
          clear hS1 hPQ hQn Qn
          all_goals
            go_wp2_with fail
            have h := HR.out _ (HA.out.trans (tA.out.mono sA))
            rw [hn2.out] at h; exact h
        · by_cases h2 : -u.l + y < 0
          · have hn2 : Hid (cfE vs ax = false) := hnot.out (by rw [HQ1.out]; simp; omega)
            clear HQ1 hnext hnot
            refine regionQ (fun w' => w'.cell? ⟨wr.heap.size, 0, none⟩ = some (.string u.f) ∧ w'.cell? ⟨wr.heap.size, 1, none⟩ = some (.string u.t) ∧ w'.cell? ⟨wr.heap.size, 3, none⟩ = some (.int .i64 u.l) ∧ w'.cell? ⟨wr.heap.size, 4, none⟩ = some (.int .i64 u.h)) (by kernel_rfl) (⟨e0, e1, e3, e4⟩) (fun Qn hPQ hQn hS0 => ?_)
            refine takeQ (i := 0) (d := some 24) (v := ?v14) rfl rfl (by kernel_rfl) (by kernel_rfl) (by kernel_rfl) hPQ hS0 (by kernel_rfl) ?h14 ?r14
            case h14 => (intro w hSw; (try dsimp only at hSw); obtain ⟨k0, k1, k3, k4⟩ := hSw; go_simp; (try with_reducible rfl))
            (try simp only [Act.put, List.setIfInBounds_toArray, List.set_cons_zero, List.set_cons_succ])
            refine takeQ (i := 1) (d := some 25) (v := ?v15) rfl rfl (by kernel_rfl) (by kernel_rfl) (by kernel_rfl) hPQ hS0 (by kernel_rfl) ?h15 ?r15
            case h15 => (intro w hSw; (try dsimp only at hSw); obtain ⟨k0, k1, k3, k4⟩ := hSw; go_simp; (try with_reducible rfl))
            (try simp only [Act.put, List.setIfInBounds_toArray, List.set_cons_zero, List.set_cons_succ])
            refine takeQ (i := 2) (d := some 26) (v := ?v16) rfl rfl (by kernel_rfl) (by kernel_rfl) (by kernel_rfl) hPQ hS0 (by kernel_rfl) ?h16 ?r16
            case h16 => (intro w hSw; (try dsimp only at hSw); obtain ⟨k0, k1, k3, k4⟩ := hSw; go_simp; (try with_reducible rfl))
            (try simp only [Act.put, List.setIfInBounds_toArray, List.set_cons_zero, List.set_cons_succ])
            refine takeQ (i := 3) (d := some 27) (v := ?v17) rfl rfl (by kernel_rfl) (by kernel_rfl) (by kernel_rfl) hPQ hS0 (by kernel_rfl) ?h17 ?r17
            case h17 => (intro w hSw; (try dsimp only at hSw); obtain ⟨k0, k1, k3, k4⟩ := hSw; go_simp; (try with_reducible rfl))
            (try simp only [Act.put, List.setIfInBounds_toArray, List.set_cons_zero, List.set_cons_succ])
            refine takeQ (i := 4) (d := some 28) (v := ?v18) rfl rfl (by kernel_rfl) (by kernel_rfl) (by kernel_rfl) hPQ hS0 (by kernel_rfl) ?h18 ?r18
            case h18 => (intro w hSw; (try dsimp only at hSw); obtain ⟨k0, k1, k3, k4⟩ := hSw; go_simp; (try with_reducible rfl))
            (try simp only [Act.put, List.setIfInBounds_toArray, List.set_cons_zero, List.set_cons_succ])
            refine takeQ (i := 5) (d := some 29) (v := ?v19) rfl rfl (by kernel_rfl) (by kernel_rfl) (by kernel_rfl) hPQ hS0 (by kernel_rfl) ?h19 ?r19
            case h19 => (intro w hSw; (try dsimp only at hSw); obtain ⟨k0, k1, k3, k4⟩ := hSw; go_simp; (try with_reducible rfl))
            (try simp only [Act.put, List.setIfInBounds_toArray, List.set_cons_zero, List.set_cons_succ])
            refine takeQ (i := 6) (d := some 30) (v := ?v20) rfl rfl (by kernel_rfl) (by kernel_rfl) (by kernel_rfl) hPQ hS0 (by kernel_rfl) ?h20 ?r20
            case h20 => (intro w hSw; (try dsimp only at hSw); obtain ⟨k0, k1, k3, k4⟩ := hSw; go_simp; (try with_reducible rfl))
            (try simp only [Act.put, List.setIfInBounds_toArray, List.set_cons_zero, List.set_cons_succ])
            refine takeQ (i := 7) (d := some 31) (v := ?v21) rfl rfl (by kernel_rfl) (by kernel_rfl) (by kernel_rfl) hPQ hS0 (by kernel_rfl) ?h21 ?r21
            case h21 => (intro w hSw; (try dsimp only at hSw); obtain ⟨k0, k1, k3, k4⟩ := hSw; go_simp; (try with_reducible rfl))
            (try simp only [Act.put, List.setIfInBounds_toArray, List.set_cons_zero, List.set_cons_succ])
            refine takeQ (i := 8) (d := some 32) (v := ?v22) rfl rfl (by kernel_rfl) (by kernel_rfl) (by kernel_rfl) hPQ hS0 (by kernel_rfl) ?h22 ?r22
            case h22 => (intro w hSw; (try dsimp only at hSw); obtain ⟨k0, k1, k3, k4⟩ := hSw; go_simp; (try with_reducible rfl))
            (try simp only [Act.put, List.setIfInBounds_toArray, List.set_cons_zero, List.set_cons_succ])
            refine wpAnyH_ready (rs := [9]) (by kernel_rfl) (by simp) ?_
            refine AllReadyH.cons (o := _) rfl (fun K hK => ?_) AllReadyH.nil
            go_simp
            refine way_any (some ⟨b, o, none⟩) vs _ c ax u.t u.f _ _ rfl hl ((HC.out.below HA.out).below (HBB.out.mono (Nat.le_refl _))) HVA.out ?_
            rw [Hx.out]
            intro wX hb
            have tA : Hid (Below wA.heap.size wA wX) := HBB.out.trans (hb.mono HBB.out.size)
            have r0 := cell_of (blk_box X0.out tA.out zA) (j := 0) (v := .string u.f) rfl
            have r1 := cell_of (blk_box X0.out tA.out zA) (j := 1) (v := .string u.t) rfl
            have r3 := cell_of (blk_box X0.out tA.out zA) (j := 3) (v := .int .i64 u.l) rfl
            have r4 := cell_of (blk_box X0.out tA.out zA) (j := 4) (v := .int .i64 u.h) rfl
            clear hb
            refine hK.out _ _ (⟨r0, r1, r3, r4⟩) (fun hS1 => ?_)
            clear hK K hS0
            (try simp only [Act.put, List.setIfInBounds_toArray, List.set_cons_zero, List.set_cons_succ])
            refine takeQ (i := 10) (d := some 34) (v := ?v23) rfl rfl (by kernel_rfl) (by kernel_rfl) (by kernel_rfl) hPQ hS1 (by kernel_rfl) ?h23 ?r23
            case h23 => (intro w hSw; (try dsimp only at hSw); obtain ⟨k0, k1, k3, k4⟩ := hSw; go_simp; (try with_reducible rfl))
            (try simp only [Act.put, List.setIfInBounds_toArray, List.set_cons_zero, List.set_cons_succ])
            refine takeQ (i := 11) (d := some 35) (v := ?v24) rfl rfl (by kernel_rfl) (by kernel_rfl) (by kernel_rfl) hPQ hS1 (by kernel_rfl) ?h24 ?r24
            case h24 => (intro w hSw; (try dsimp only at hSw); obtain ⟨k0, k1, k3, k4⟩ := hSw; go_simp; (try with_reducible rfl))
            (try simp only [Act.put, List.setIfInBounds_toArray, List.set_cons_zero, List.set_cons_succ])
            refine takeQ (i := 12) (d := some 36) (v := ?v25) rfl rfl (by kernel_rfl) (by kernel_rfl) (by kernel_rfl) hPQ hS1 (by kernel_rfl) ?h25 ?r25
            case h25 => (intro w hSw; (try dsimp only at hSw); obtain ⟨k0, k1, k3, k4⟩ := hSw; go_simp; (try with_reducible rfl))
            (try simp only [Act.put, List.setIfInBounds_toArray, List.set_cons_zero, List.set_cons_succ])
            refine takeQ (i := 13) (d := some 37) (v := ?v26) rfl rfl (by kernel_rfl) (by kernel_rfl) (by kernel_rfl) hPQ hS1 (by kernel_rfl) ?h26 ?r26
            case h26 => (intro w hSw; (try dsimp only at hSw); obtain ⟨k0, k1, k3, k4⟩ := hSw; go_simp; (try with_reducible rfl))
            (try simp only [Act.put, List.setIfInBounds_toArray, List.set_cons_zero, List.set_cons_succ])
            refine takeQ (i := 14) (d := some 38) (v := ?v27) rfl rfl (by kernel_rfl) (by kernel_rfl) (by kernel_rfl) hPQ hS1 (by kernel_rfl) ?h27 ?r27
            case h27 => (intro w hSw; (try dsimp only at hSw); obtain ⟨k0, k1, k3, k4⟩ := hSw; go_simp; (try with_reducible rfl))
            (try simp only [Act.put, List.setIfInBounds_toArray, List.set_cons_zero, List.set_cons_succ])
            refine takeQ (i := 15) (d := some 39) (v := ?v28) rfl rfl (by kernel_rfl) (by kernel_rfl) (by kernel_rfl) hPQ hS1 (by kernel_rfl) ?h28 ?r28
            case h28 => (intro w hSw; (try dsimp only at hSw); obtain ⟨k0, k1, k3, k4⟩ := hSw; go_simp; (try with_reducible rfl))
            (try simp only [Act.put, List.setIfInBounds_toArray, List.set_cons_zero, List.set_cons_succ])
            refine takeQ (i := 16) (d := some 40) (v := ?v29) rfl rfl (by kernel_rfl) (by kernel_rfl) (by kernel_rfl) hPQ hS1 (by kernel_rfl) ?h29 ?r29
            case h29 => (intro w hSw; (try dsimp only at hSw); obtain ⟨k0, k1, k3, k4⟩ := hSw; go_simp; (try with_reducible rfl))
            (try simp only [Act.put, List.setIfInBounds_toArray, List.set_cons_zero, List.set_cons_succ])
            refine takeQ (i := 17) (d := some 41) (v := ?v30) rfl rfl (by kernel_rfl) (by kernel_rfl) (by kernel_rfl) hPQ hS1 (by kernel_rfl) ?h30 ?r30
            case h30 => (intro w hSw; (try dsimp only at hSw); obtain ⟨k0, k1, k3, k4⟩ := hSw; go_simp; (try with_reducible rfl))
            (try simp only [Act.put, List.setIfInBounds_toArray, List.set_cons_zero, List.set_cons_succ])
            refine takeQ (i := 18) (d := some 42) (v := ?v31) rfl rfl (by kernel_rfl) (by kernel_rfl) (by kernel_rfl) hPQ hS1 (by kernel_rfl) ?h31 ?r31
            case h31 => (intro w hSw; (try dsimp only at hSw); obtain ⟨k0, k1, k3, k4⟩ := hSw; go_simp; (try with_reducible rfl))
            (try simp only [Act.put, List.setIfInBounds_toArray, List.set_cons_zero, List.set_cons_succ])
            refine takeQ (i := 19) (d := some 43) (v := ?v32) rfl rfl (by kernel_rfl) (by kernel_rfl) (by kernel_rfl) hPQ hS1 (by kernel_rfl) ?h32 ?r32
            case h32 => (intro w hSw; (try dsimp only at hSw); obtain ⟨k0, k1, k3, k4⟩ := hSw; go_simp; (try with_reducible rfl))
            (try simp only [Act.put, List.setIfInBounds_toArray, List.set_cons_zero, List.set_cons_succ])
            refine takeQ (i := 20) (d := some 44) (v := ?v33) rfl rfl (by kernel_rfl) (by kernel_rfl) (by kernel_rfl) hPQ hS1 (by kernel_rfl) ?h33 ?r33
            case h33 => (intro w hSw; (try dsimp only at hSw); obtain ⟨k0, k1, k3, k4⟩ := hSw; go_simp; (try with_reducible rfl))
            (try simp only [Act.put, List.setIfInBounds_toArray, List.set_cons_zero, List.set_cons_succ])
            refine takeQ (i := 21) (d := some 45) (v := ?v34) rfl rfl (by kernel_rfl) (by kernel_rfl) (by kernel_rfl) hPQ hS1 (by kernel_rfl) ?h34 ?r34
            case h34 => (intro w hSw; (try dsimp only at hSw); obtain ⟨k0, k1, k3, k4⟩ := hSw; go_simp; (try with_reducible rfl))
            (try simp only [Act.put, List.setIfInBounds_toArray, List.set_cons_zero, List.set_cons_succ])
            refine takeQ (i := 22) (d := some 46) (v := ?v35) rfl rfl (by kernel_rfl) (by kernel_rfl) (by kernel_rfl) hPQ hS1 (by kernel_rfl) ?h35 ?r35
            case h35 => (intro w hSw; (try dsimp only at hSw); obtain ⟨k0, k1, k3, k4⟩ := hSw; go_simp; (try with_reducible rfl))
            (try simp only [Act.put, List.setIfInBounds_toArray, List.set_cons_zero, List.set_cons_succ])
            refine wpAnyH_ready (rs := [23]) (by kernel_rfl) (by simp) ?_
            refine AllReadyH.cons (o := _) rfl (fun K hK => ?_) AllReadyH.nil
            go_simp
            refine way_any (some ⟨b, o, none⟩) vs _ c ax u.f u.t _ _ rfl hl ((HC.out.below HA.out).below (tA.out.mono (Nat.le_refl _))) HVA.out ?_
            rw [Hy.out]
            intro wY hb
            have tB : Hid (Below wA.heap.size wA wY) := tA.out.trans (hb.mono tA.out.size)
            have q0 := cell_of (blk_box X0.out tB.out zA) (j := 0) (v := .string u.f) rfl
            have q1 := cell_of (blk_box X0.out tB.out zA) (j := 1) (v := .string u.t) rfl
            have q3 := cell_of (blk_box X0.out tB.out zA) (j := 3) (v := .int .i64 u.l) rfl
            have q4 := cell_of (blk_box X0.out tB.out zA) (j := 4) (v := .int .i64 u.h) rfl
            clear hb
            refine hK.out _ _ (⟨q0, q1, q3, q4⟩) (fun hS2 => ?_)
            clear hK K hS1
            (try simp only [Act.put, List.setIfInBounds_toArray, List.set_cons_zero, List.set_cons_succ])
            refine takeQ (i := 24) (d := some 48) (v := ?v36) rfl rfl (by kernel_rfl) (by kernel_rfl) (by kernel_rfl) hPQ hS2 (by kernel_rfl) ?h36 ?r36
            case h36 => (intro w hSw; (try dsimp only at hSw); obtain ⟨k0, k1, k3, k4⟩ := hSw; go_simp; (try with_reducible rfl))
            (try simp only [Act.put, List.setIfInBounds_toArray, List.set_cons_zero, List.set_cons_succ])
            refine takeQ (i := 25) (d := some 49) (v := ?v37) rfl rfl (by kernel_rfl) (by kernel_rfl) (by kernel_rfl) hPQ hS2 (by kernel_rfl) ?h37 ?r37
            case h37 => (intro w hSw; (try dsimp only at hSw); obtain ⟨k0, k1, k3, k4⟩ := hSw; go_simp; (try with_reducible rfl))
            (try simp only [Act.put, List.setIfInBounds_toArray, List.set_cons_zero, List.set_cons_succ])
            refine takeQ (i := 26) (d := some 50) (v := ?v38) rfl rfl (by kernel_rfl) (by kernel_rfl) (by kernel_rfl) hPQ hS2 (by kernel_rfl) ?h38 ?r38
            case h38 => (intro w hSw; (try dsimp only at hSw); obtain ⟨k0, k1, k3, k4⟩ := hSw; go_simp; (try with_reducible rfl))
            (try simp only [Act.put, List.setIfInBounds_toArray, List.set_cons_zero, List.set_cons_succ])
            refine wpAnyH_done (by kernel_rfl) (hQn.out _ _ ?_) _
            clear hS2 hPQ hQn Qn
            all_goals
              go_wp2_with fail
              have h := HR.out _ (HA.out.trans (tB.out.mono sA))
              rw [hn2.out] at h; exact h
          · have hq2 : Hid (poQ vs ax k = true) := by unfold Hid; rw [HQ1.out]; simp; omega
            clear HQ1 hnot
            refine regionQ (fun w' => w'.cell? ⟨wr.heap.size, 0, none⟩ = some (.string u.f) ∧ w'.cell? ⟨wr.heap.size, 1, none⟩ = some (.string u.t) ∧ w'.cell? ⟨wr.heap.size, 3, none⟩ = some (.int .i64 u.l) ∧ w'.cell? ⟨wr.heap.size, 4, none⟩ = some (.int .i64 u.h)) (by kernel_rfl) (⟨e0, e1, e3, e4⟩) (fun Qn hPQ hQn hS0 => ?_)
            refine takeQ (i := 0) (d := some 24) (v := ?v39) rfl rfl (by kernel_rfl) (by kernel_rfl) (by kernel_rfl) hPQ hS0 (by kernel_rfl) ?h39 ?r39
            case h39 => (intro w hSw; (try dsimp only at hSw); obtain ⟨k0, k1, k3, k4⟩ := hSw; go_simp; (try with_reducible rfl))
            (try simp only [Act.put, List.setIfInBounds_toArray, List.set_cons_zero, List.set_cons_succ])
            refine takeQ (i := 1) (d := some 25) (v := ?v40) rfl rfl (by kernel_rfl) (by kernel_rfl) (by kernel_rfl) hPQ hS0 (by kernel_rfl) ?h40 ?r40
            case h40 => (intro w hSw; (try dsimp only at hSw); obtain ⟨k0, k1, k3, k4⟩ := hSw; go_simp; (try with_reducible rfl))
            (try simp only [Act.put, List.setIfInBounds_toArray, List.set_cons_zero, List.set_cons_succ])
            refine takeQ (i := 2) (d := some 26) (v := ?v41) rfl rfl (by kernel_rfl) (by kernel_rfl) (by kernel_rfl) hPQ hS0 (by kernel_rfl) ?h41 ?r41
            case h41 => (intro w hSw; (try dsimp only at hSw); obtain ⟨k0, k1, k3, k4⟩ := hSw; go_simp; (try with_reducible rfl))
            (try simp only [Act.put, List.setIfInBounds_toArray, List.set_cons_zero, List.set_cons_succ])
            refine takeQ (i := 3) (d := some 27) (v := ?v42) rfl rfl (by kernel_rfl) (by kernel_rfl) (by kernel_rfl) hPQ hS0 (by kernel_rfl) ?h42 ?r42
            case h42 => (intro w hSw; (try dsimp only at hSw); obtain ⟨k0, k1, k3, k4⟩ := hSw; go_simp; (try with_reducible rfl))
            (try simp only [Act.put, List.setIfInBounds_toArray, List.set_cons_zero, List.set_cons_succ])
            refine takeQ (i := 4) (d := some 28) (v := ?v43) rfl rfl (by kernel_rfl) (by kernel_rfl) (by kernel_rfl) hPQ hS0 (by kernel_rfl) ?h43 ?r43
            case h43 => (intro w hSw; (try dsimp only at hSw); obtain ⟨k0, k1, k3, k4⟩ := hSw; go_simp; (try with_reducible rfl))
            (try simp only [Act.put, List.setIfInBounds_toArray, List.set_cons_zero, List.set_cons_succ])
            refine takeQ (i := 5) (d := some 29) (v := ?v44) rfl rfl (by kernel_rfl) (by kernel_rfl) (by kernel_rfl) hPQ hS0 (by kernel_rfl) ?h44 ?r44
            case h44 => (intro w hSw; (try dsimp only at hSw); obtain ⟨k0, k1, k3, k4⟩ := hSw; go_simp; (try with_reducible rfl))
            (try simp only [Act.put, List.setIfInBounds_toArray, List.set_cons_zero, List.set_cons_succ])
            refine takeQ (i := 6) (d := some 30) (v := ?v45) rfl rfl (by kernel_rfl) (by kernel_rfl) (by kernel_rfl) hPQ hS0 (by kernel_rfl) ?h45 ?r45
            case h45 => (intro w hSw; (try dsimp only at hSw); obtain ⟨k0, k1, k3, k4⟩ := hSw; go_simp; (try with_reducible rfl))
            (try simp only [Act.put, List.setIfInBounds_toArray, List.set_cons_zero, List.set_cons_succ])
            refine takeQ (i := 7) (d := some 31) (v := ?v46) rfl rfl (by kernel_rfl) (by kernel_rfl) (by kernel_rfl) hPQ hS0 (by kernel_rfl) ?h46 ?r46
            case h46 => (intro w hSw; (try dsimp only at hSw); obtain ⟨k0, k1, k3, k4⟩ := hSw; go_simp; (try with_reducible rfl))
            (try simp only [Act.put, List.setIfInBounds_toArray, List.set_cons_zero, List.set_cons_succ])
            refine takeQ (i := 8) (d := some 32) (v := ?v47) rfl rfl (by kernel_rfl) (by kernel_rfl) (by kernel_rfl) hPQ hS0 (by kernel_rfl) ?h47 ?r47
            case h47 => (intro w hSw; (try dsimp only at hSw); obtain ⟨k0, k1, k3, k4⟩ := hSw; go_simp; (try with_reducible rfl))
            (try simp only [Act.put, List.setIfInBounds_toArray, List.set_cons_zero, List.set_cons_succ])
            refine wpAnyH_ready (rs := [9]) (by kernel_rfl) (by simp) ?_
            refine AllReadyH.cons (o := _) rfl (fun K hK => ?_) AllReadyH.nil
            go_simp
            refine way_any (some ⟨b, o, none⟩) vs _ c ax u.t u.f _ _ rfl hl ((HC.out.below HA.out).below (HBB.out.mono (Nat.le_refl _))) HVA.out ?_
            rw [Hx.out]
            intro wX hb
            have tA : Hid (Below wA.heap.size wA wX) := HBB.out.trans (hb.mono HBB.out.size)
            have r0 := cell_of (blk_box X0.out tA.out zA) (j := 0) (v := .string u.f) rfl
            have r1 := cell_of (blk_box X0.out tA.out zA) (j := 1) (v := .string u.t) rfl
            have r3 := cell_of (blk_box X0.out tA.out zA) (j := 3) (v := .int .i64 u.l) rfl
            have r4 := cell_of (blk_box X0.out tA.out zA) (j := 4) (v := .int .i64 u.h) rfl
            clear hb
            refine hK.out _ _ (⟨r0, r1, r3, r4⟩) (fun hS1 => ?_)
            clear hK K hS0
            (try simp only [Act.put, List.setIfInBounds_toArray, List.set_cons_zero, List.set_cons_succ])
            refine takeQ (i := 10) (d := some 34) (v := ?v48) rfl rfl (by kernel_rfl) (by kernel_rfl) (by kernel_rfl) hPQ hS1 (by kernel_rfl) ?h48 ?r48
            case h48 => (intro w hSw; (try dsimp only at hSw); obtain ⟨k0, k1, k3, k4⟩ := hSw; go_simp; (try with_reducible rfl))
            (try simp only [Act.put, List.setIfInBounds_toArray, List.set_cons_zero, List.set_cons_succ])
            refine takeQ (i := 11) (d := some 35) (v := ?v49) rfl rfl (by kernel_rfl) (by kernel_rfl) (by kernel_rfl) hPQ hS1 (by kernel_rfl) ?h49 ?r49
            case h49 => (intro w hSw; (try dsimp only at hSw); obtain ⟨k0, k1, k3, k4⟩ := hSw; go_simp; (try with_reducible rfl))
            (try simp only [Act.put, List.setIfInBounds_toArray, List.set_cons_zero, List.set_cons_succ])
            refine takeQ (i := 12) (d := some 36) (v := ?v50) rfl rfl (by kernel_rfl) (by kernel_rfl) (by kernel_rfl) hPQ hS1 (by kernel_rfl) ?h50 ?r50
            case h50 => (intro w hSw; (try dsimp only at hSw); obtain ⟨k0, k1, k3, k4⟩ := hSw; go_simp; (try with_reducible rfl))
            (try simp only [Act.put, List.setIfInBounds_toArray, List.set_cons_zero, List.set_cons_succ])
            refine takeQ (i := 13) (d := some 37) (v := ?v51) rfl rfl (by kernel_rfl) (by kernel_rfl) (by kernel_rfl) hPQ hS1 (by kernel_rfl) ?h51 ?r51
            case h51 => (intro w hSw; (try dsimp only at hSw); obtain ⟨k0, k1, k3, k4⟩ := hSw; go_simp; (try with_reducible rfl))
            (try simp only [Act.put, List.setIfInBounds_toArray, List.set_cons_zero, List.set_cons_succ])
            refine takeQ (i := 14) (d := some 38) (v := ?v52) rfl rfl (by kernel_rfl) (by kernel_rfl) (by kernel_rfl) hPQ hS1 (by kernel_rfl) ?h52 ?r52
            case h52 => (intro w hSw; (try dsimp only at hSw); obtain ⟨k0, k1, k3, k4⟩ := hSw; go_simp; (try with_reducible rfl))
            (try simp only [Act.put, List.setIfInBounds_toArray, List.set_cons_zero, List.set_cons_succ])
            refine takeQ (i := 15) (d := some 39) (v := ?v53) rfl rfl (by kernel_rfl) (by kernel_rfl) (by kernel_rfl) hPQ hS1 (by kernel_rfl) ?h53 ?r53
            case h53 => (intro w hSw; (try dsimp only at hSw); obtain ⟨k0, k1, k3, k4⟩ := hSw; go_simp; (try with_reducible rfl))
            (try simp only [Act.put, List.setIfInBounds_toArray, List.set_cons_zero, List.set_cons_succ])
            refine takeQ (i := 16) (d := some 40) (v := ?v54) rfl rfl (by kernel_rfl) (by kernel_rfl) (by kernel_rfl) hPQ hS1 (by kernel_rfl) ?h54 ?r54
            case h54 => (intro w hSw; (try dsimp only at hSw); obtain ⟨k0, k1, k3, k4⟩ := hSw; go_simp; (try with_reducible rfl))
            (try simp only [Act.put, List.setIfInBounds_toArray, List.set_cons_zero, List.set_cons_succ])
            refine takeQ (i := 17) (d := some 41) (v := ?v55) rfl rfl (by kernel_rfl) (by kernel_rfl) (by kernel_rfl) hPQ hS1 (by kernel_rfl) ?h55 ?r55
            case h55 => (intro w hSw; (try dsimp only at hSw); obtain ⟨k0, k1, k3, k4⟩ := hSw; go_simp; (try with_reducible rfl))
            (try simp only [Act.put, List.setIfInBounds_toArray, List.set_cons_zero, List.set_cons_succ])
            refine takeQ (i := 18) (d := some 42) (v := ?v56) rfl rfl (by kernel_rfl) (by kernel_rfl) (by kernel_rfl) hPQ hS1 (by kernel_rfl) ?h56 ?r56
            case h56 => (intro w hSw; (try dsimp only at hSw); obtain ⟨k0, k1, k3, k4⟩ := hSw; go_simp; (try with_reducible rfl))
            (try simp only [Act.put, List.setIfInBounds_toArray, List.set_cons_zero, List.set_cons_succ])
            refine takeQ (i := 19) (d := some 43) (v := ?v57) rfl rfl (by kernel_rfl) (by kernel_rfl) (by kernel_rfl) hPQ hS1 (by kernel_rfl) ?h57 ?r57
            case h57 => (intro w hSw; (try dsimp only at hSw); obtain ⟨k0, k1, k3, k4⟩ := hSw; go_simp; (try with_reducible rfl))
            (try simp only [Act.put, List.setIfInBounds_toArray, List.set_cons_zero, List.set_cons_succ])
            refine takeQ (i := 20) (d := some 44) (v := ?v58) rfl rfl (by kernel_rfl) (by kernel_rfl) (by kernel_rfl) hPQ hS1 (by kernel_rfl) ?h58 ?r58
            case h58 => (intro w hSw; (try dsimp only at hSw); obtain ⟨k0, k1, k3, k4⟩ := hSw; go_simp; (try with_reducible rfl))
            (try simp only [Act.put, List.setIfInBounds_toArray, List.set_cons_zero, List.set_cons_succ])
            refine takeQ (i := 21) (d := some 45) (v := ?v59) rfl rfl (by kernel_rfl) (by kernel_rfl) (by kernel_rfl) hPQ hS1 (by kernel_rfl) ?h59 ?r59
            case h59 => (intro w hSw; (try dsimp only at hSw); obtain ⟨k0, k1, k3, k4⟩ := hSw; go_simp; (try with_reducible rfl))
            (try simp only [Act.put, List.setIfInBounds_toArray, List.set_cons_zero, List.set_cons_succ])
            refine takeQ (i := 22) (d := some 46) (v := ?v60) rfl rfl (by kernel_rfl) (by kernel_rfl) (by kernel_rfl) hPQ hS1 (by kernel_rfl) ?h60 ?r60
            case h60 => (intro w hSw; (try dsimp only at hSw); obtain ⟨k0, k1, k3, k4⟩ := hSw; go_simp; (try with_reducible rfl))
            (try simp only [Act.put, List.setIfInBounds_toArray, List.set_cons_zero, List.set_cons_succ])
            refine wpAnyH_ready (rs := [23]) (by kernel_rfl) (by simp) ?_
            refine AllReadyH.cons (o := _) rfl (fun K hK => ?_) AllReadyH.nil
            go_simp
            refine way_any (some ⟨b, o, none⟩) vs _ c ax u.f u.t _ _ rfl hl ((HC.out.below HA.out).below (tA.out.mono (Nat.le_refl _))) HVA.out ?_
            rw [Hy.out]
            intro wY hb
            have tB : Hid (Below wA.heap.size wA wY) := tA.out.trans (hb.mono tA.out.size)
            have q0 := cell_of (blk_box X0.out tB.out zA) (j := 0) (v := .string u.f) rfl
            have q1 := cell_of (blk_box X0.out tB.out zA) (j := 1) (v := .string u.t) rfl
            have q3 := cell_of (blk_box X0.out tB.out zA) (j := 3) (v := .int .i64 u.l) rfl
            have q4 := cell_of (blk_box X0.out tB.out zA) (j := 4) (v := .int .i64 u.h) rfl
            clear hb
            refine hK.out _ _ (⟨q0, q1, q3, q4⟩) (fun hS2 => ?_)
            clear hK K hS1
            (try simp only [Act.put, List.setIfInBounds_toArray, List.set_cons_zero, List.set_cons_succ])
            refine takeQ (i := 24) (d := some 48) (v := ?v61) rfl rfl (by kernel_rfl) (by kernel_rfl) (by kernel_rfl) hPQ hS2 (by kernel_rfl) ?h61 ?r61
            case h61 => (intro w hSw; (try dsimp only at hSw); obtain ⟨k0, k1, k3, k4⟩ := hSw; go_simp; (try with_reducible rfl))
            (try simp only [Act.put, List.setIfInBounds_toArray, List.set_cons_zero, List.set_cons_succ])
            refine takeQ (i := 25) (d := some 49) (v := ?v62) rfl rfl (by kernel_rfl) (by kernel_rfl) (by kernel_rfl) hPQ hS2 (by kernel_rfl) ?h62 ?r62
            case h62 => (intro w hSw; (try dsimp only at hSw); obtain ⟨k0, k1, k3, k4⟩ := hSw; go_simp; (try with_reducible rfl))
            (try simp only [Act.put, List.setIfInBounds_toArray, List.set_cons_zero, List.set_cons_succ])
            refine takeQ (i := 26) (d := some 50) (v := ?v63) rfl rfl (by kernel_rfl) (by kernel_rfl) (by kernel_rfl) hPQ hS2 (by kernel_rfl) ?h63 ?r63
            case h63 => (intro w hSw; (try dsimp only at hSw); obtain ⟨k0, k1, k3, k4⟩ := hSw; go_simp; (try with_reducible rfl))
            (try simp only [Act.put, List.setIfInBounds_toArray, List.set_cons_zero, List.set_cons_succ])
            refine wpAnyH_done (by kernel_rfl) (hQn.out _ _ ?_) _
            clear hS2 hPQ hQn Qn
            all_goals
              go_wp2_with fail
              exact ⟨⟨k + 1, by omega, by go_num, HA.out.trans (tB.out.mono sA), hnext.out hq2.out⟩, by simp [intOf]; omega⟩
    · obtain rfl : k = vs.length := by omega
      have hE : Hid (cfE vs ax = true) := cfE_all HVA.out HQ.out
      go_wp2_with fail
      have h := HR.out wr HB.out
      rw [hE.out] at h; exact h
set_option maxRecDepth 100000 in
set_option maxHeartbeats 8000000 in
theorem rdistance_any (ao : Option Addr) (vs : List Dm) (c : Nat) (ax : Int) (s t : ByteArray) (w : World) (R : Ending → World → Prop) (hl : vs.length ≤ 9223372036854775807) (hc : CellsAt w ao (dC vs)) (hv : DmsOk vs)
   (hR : ∀ w', Below w.heap.size w w' → R (.returned (.tuple #[.agg #[.int .i64 (dsX vs ax s t).1, .int .i64 (dsX vs ax s t).2.1], .int .i64 (dsX vs ax s t).2.2])) w') :
    Calls Try.prog 15 #[.slice ao vs.length c, .string s, .string t, .int .i64 ax] w R := by
  have HR := Lib.hid hR
  have HV := Lib.hid hv
  obtain ⟨w1, E1, U1, s1, X1⟩ := box_ex w #[.int .i64 0, .int .i64 0] 37
  have HC1 := Lib.hid (hc.below U1.out)
  clear hR hc hv
  have hd : Hid (dsX vs ax s t = if giE vs ax = 0 then
    if (inK (nmG vs ax) s && inK (nmG vs ax) t) = true then
      if sameD s t = true then (0, 0, 7)
      else if jnX vs ax s t = true then
        if cfE vs ax = true then (spL vs ax s t, spH vs ax s t, 0) else (0, 0, 16)
      else (0, 0, 13)
    else (0, 0, 6)
  else (0, 0, giE vs ax)) := rfl
  obtain ⟨E, hE⟩ : ∃ E, giE vs ax = E := ⟨_, rfl⟩
  rw [hE] at hd
  have HE := Lib.hid hE
  clear hE
  go_enter Try.func15, Try.ntmps15
  go_wp2_with (rw [E1])
  refine rgiven_any ao vs c ax _ _ hl HC1.out HV.out ?_
  rw [HE.out]
  intro w2 hb
  have V2 := Lib.hid hb
  have U2 := Lib.hid (U1.out.trans (hb.mono (Nat.le_of_lt s1)))
  have X2 := Lib.hid (blk_box X1.out hb s1)
  have s2 := lt_of_block X2.out
  clear hb E1
  by_cases h0 : E = 0
  · subst h0
    have hl2 := giE_len HE.out
    have HVA := Lib.hid (giE_all HE.out).2
    have hd1 := hd.out
    rw [if_pos rfl] at hd1
    have hd' := Lib.hid hd1
    have sV2 := V2.out.size
    clear hd1 hd
    go_wp2_with fail
    refine rall_any ao vs c ax _ _ (by omega) (HC1.out.below V2.out) ?_
    rw [alN_eq]
    intro aN nN cN w3 hb hn hN
    subst hn
    have hb' : Below w2.heap.size w2 w3 := hb
    have V3 := Lib.hid (V2.out.trans (hb.mono V2.out.size))
    have U3 := Lib.hid (U2.out.trans (hb.mono (Nat.le_of_lt s2)))
    have X3 := Lib.hid (blk_box X2.out hb s2)
    have s3 := lt_of_block X3.out
    have HN := Lib.hid hN
    have hNl := nmG_len (ax := ax) hl2
    have sV3 := V3.out.size
    clear hb hN hb'
    go_wp2_with fail
    refine rhas_any aN (nmG vs ax) cN s _ _ (by omega) HN.out ?_
    have hin : ∀ q, hasL (nmG vs ax) q = inK (nmG vs ax) q := fun q => by rw [Bool.eq_iff_iff, hasL_iff, inK_iff]
    rw [hin]
    intro w4 hd4
    have V4 := Lib.hid (V3.out.trans ((hd4.below _).mono sV3))
    have U4 := Lib.hid (U3.out.trans ((hd4.below _).mono (Nat.le_of_lt s3)))
    have X4 := Lib.hid (blk_box X3.out (hd4.below _) s3)
    have s4 := lt_of_block X4.out
    have N4 := Lib.hid (HN.out.below (hd4.below _))
    have Hin := Lib.hid hin
    have z0 := cell_of X4.out (j := 0) rfl
    have z1 := cell_of X4.out (j := 1) rfl
    have f0 := frozen_of X4.out 0
    have f1 := frozen_of X4.out 1
    clear hd4 hin
    cases hs1 : inK (nmG vs ax) s with
    | false =>
      have hX : Hid (dsX vs ax s t = (0, 0, 6)) := by unfold Hid; rw [hd'.out, hs1]; simp
      go_wp2_with fail
      have hbx := heap_setCell_same _ w.heap.size 1 _ _ (.int .i64 0) (heap_setCell_same _ w.heap.size 0 _ _ (.int .i64 0) X4.out)
      have t0 := cell_of hbx (j := 0) (v := .int .i64 0) rfl
      have t1 := cell_of hbx (j := 1) (v := .int .i64 0) rfl
      have hB := (U4.out.setCell (p := ⟨w.heap.size, 0, none⟩) (Nat.le_refl _) (.int .i64 0)).setCell (p := ⟨w.heap.size, 1, none⟩) (Nat.le_refl _) (.int .i64 0)
      refine bodyPost_ret (v := .tuple #[.agg #[.int .i64 0, .int .i64 0], .int .i64 6]) (by simp [results, Try.results15, go_sem, t0, t1]) rfl ?_
      have h := HR.out _ hB
      rw [hX.out] at h; exact h
    | true =>
      go_wp2_with fail
      refine rhas_any aN (nmG vs ax) cN t _ _ (by omega) N4.out ?_
      rw [Hin.out]
      intro w5 hd5
      have V5 := Lib.hid (V4.out.trans ((hd5.below _).mono V4.out.size))
      have U5 := Lib.hid (U4.out.trans ((hd5.below _).mono (Nat.le_of_lt s4)))
      have X5 := Lib.hid (blk_box X4.out (hd5.below _) s4)
      have s5 := lt_of_block X5.out
      have z0 := cell_of X5.out (j := 0) rfl
      have z1 := cell_of X5.out (j := 1) rfl
      have f0 := frozen_of X5.out 0
      have f1 := frozen_of X5.out 1
      clear hd5
      cases ht1 : inK (nmG vs ax) t with
      | false =>
        have hX : Hid (dsX vs ax s t = (0, 0, 6)) := by unfold Hid; rw [hd'.out, hs1, ht1]; simp
        go_wp2_with fail
        have hbx := heap_setCell_same _ w.heap.size 1 _ _ (.int .i64 0) (heap_setCell_same _ w.heap.size 0 _ _ (.int .i64 0) X5.out)
        have t0 := cell_of hbx (j := 0) (v := .int .i64 0) rfl
        have t1 := cell_of hbx (j := 1) (v := .int .i64 0) rfl
        have hB := (U5.out.setCell (p := ⟨w.heap.size, 0, none⟩) (Nat.le_refl _) (.int .i64 0)).setCell (p := ⟨w.heap.size, 1, none⟩) (Nat.le_refl _) (.int .i64 0)
        refine bodyPost_ret (v := .tuple #[.agg #[.int .i64 0, .int .i64 0], .int .i64 6]) (by simp [results, Try.results15, go_sem, t0, t1]) rfl ?_
        have h := HR.out _ hB
        rw [hX.out] at h; exact h
      | true =>
        have hd2 := hd'.out
        rw [hs1, ht1, Bool.and_true, if_pos rfl] at hd2
        have Hd2 := Lib.hid hd2
        clear hd2 hd' hs1 ht1
        cases hst : sameD s t with
        | true =>
          have K : (s.toList == t.toList) = true := hst
          have hX : Hid (dsX vs ax s t = (0, 0, 7)) := by unfold Hid; rw [Hd2.out, hst, if_pos rfl]
          clear hst
          go_wp2_with fail
          have hbx := heap_setCell_same _ w.heap.size 1 _ _ (.int .i64 0) (heap_setCell_same _ w.heap.size 0 _ _ (.int .i64 0) X5.out)
          have t0 := cell_of hbx (j := 0) (v := .int .i64 0) rfl
          have t1 := cell_of hbx (j := 1) (v := .int .i64 0) rfl
          have hB := (U5.out.setCell (p := ⟨w.heap.size, 0, none⟩) (Nat.le_refl _) (.int .i64 0)).setCell (p := ⟨w.heap.size, 1, none⟩) (Nat.le_refl _) (.int .i64 0)
          refine bodyPost_ret (v := .tuple #[.agg #[.int .i64 0, .int .i64 0], .int .i64 7]) (by simp [results, Try.results15, go_sem, t0, t1]) rfl ?_
          have h := HR.out _ hB
          rw [hX.out] at h; exact h
        | false =>
          have K : (s.toList == t.toList) = false := hst
          have hj : hasL (rcA vs ax s) t = jnX vs ax s t := has_jn (sameB_no.1 hst)
          have hd3 := Hd2.out
          rw [hst, if_neg (by simp)] at hd3
          have Hd3 := Lib.hid hd3
          have Hj := Lib.hid hj
          clear hst hd3 Hd2 hj
          go_wp2_with fail
          refine reached_any ao vs c ax s _ _ hl2 (HC1.out.below V5.out) ?_
          intro a6 n6 c6 w6 hb hn6 ho6
          subst hn6
          have V6 := Lib.hid (V5.out.trans (hb.mono V5.out.size))
          have U6 := Lib.hid (U5.out.trans (hb.mono (Nat.le_of_lt s5)))
          have X6 := Lib.hid (blk_box X5.out hb s5)
          have s6 := lt_of_block X6.out
          have G6 := Lib.hid (own_cells ho6)
          clear hb ho6
          go_wp2_with fail
          refine rhas_any a6 _ c6 t _ _ (rcA_small _ _ _ hl2) G6.out ?_
          rw [Hj.out]
          intro w7 hd7
          have V7 := Lib.hid (V6.out.trans ((hd7.below _).mono V6.out.size))
          have U7 := Lib.hid (U6.out.trans ((hd7.below _).mono (Nat.le_of_lt s6)))
          have X7 := Lib.hid (blk_box X6.out (hd7.below _) s6)
          have s7 := lt_of_block X7.out
          have z0 := cell_of X7.out (j := 0) rfl
          have z1 := cell_of X7.out (j := 1) rfl
          have f0 := frozen_of X7.out 0
          have f1 := frozen_of X7.out 1
          clear hd7
          cases hJ : jnX vs ax s t with
          | false =>
            have hX : Hid (dsX vs ax s t = (0, 0, 13)) := by unfold Hid; rw [Hd3.out, hJ, if_neg (by simp)]
            go_wp2_with fail
            have hbx := heap_setCell_same _ w.heap.size 1 _ _ (.int .i64 0) (heap_setCell_same _ w.heap.size 0 _ _ (.int .i64 0) X7.out)
            have t0 := cell_of hbx (j := 0) (v := .int .i64 0) rfl
            have t1 := cell_of hbx (j := 1) (v := .int .i64 0) rfl
            have hB := (U7.out.setCell (p := ⟨w.heap.size, 0, none⟩) (Nat.le_refl _) (.int .i64 0)).setCell (p := ⟨w.heap.size, 1, none⟩) (Nat.le_refl _) (.int .i64 0)
            refine bodyPost_ret (v := .tuple #[.agg #[.int .i64 0, .int .i64 0], .int .i64 13]) (by simp [results, Try.results15, go_sem, t0, t1]) rfl ?_
            have h := HR.out _ hB
            rw [hX.out] at h; exact h
          | true =>
            have hd4 := Hd3.out
            rw [hJ, if_pos rfl] at hd4
            have Hd4 := Lib.hid hd4
            have HJ := Lib.hid hJ
            clear hd4 hJ Hd3
            go_wp2_with fail
            refine rpossible_any ao vs c ax _ _ hl2 (HC1.out.below V7.out) HVA.out ?_
            intro w8 hb
            have V8 := Lib.hid (V7.out.trans (hb.mono V7.out.size))
            have U8 := Lib.hid (U7.out.trans (hb.mono (Nat.le_of_lt s7)))
            have X8 := Lib.hid (blk_box X7.out hb s7)
            have s8 := lt_of_block X8.out
            have z0 := cell_of X8.out (j := 0) rfl
            have z1 := cell_of X8.out (j := 1) rfl
            have f0 := frozen_of X8.out 0
            have f1 := frozen_of X8.out 1
            clear hb
            cases hcf : cfE vs ax with
            | false =>
              have hX : Hid (dsX vs ax s t = (0, 0, 16)) := by unfold Hid; rw [Hd4.out, hcf, if_neg (by simp)]
              go_wp2_with fail
              have hbx := heap_setCell_same _ w.heap.size 1 _ _ (.int .i64 0) (heap_setCell_same _ w.heap.size 0 _ _ (.int .i64 0) X8.out)
              have t0 := cell_of hbx (j := 0) (v := .int .i64 0) rfl
              have t1 := cell_of hbx (j := 1) (v := .int .i64 0) rfl
              have hB := (U8.out.setCell (p := ⟨w.heap.size, 0, none⟩) (Nat.le_refl _) (.int .i64 0)).setCell (p := ⟨w.heap.size, 1, none⟩) (Nat.le_refl _) (.int .i64 0)
              refine bodyPost_ret (v := .tuple #[.agg #[.int .i64 0, .int .i64 0], .int .i64 16]) (by simp [results, Try.results15, go_sem, t0, t1]) rfl ?_
              have h := HR.out _ hB
              rw [hX.out] at h; exact h
            | true =>
              have hX : Hid (dsX vs ax s t = (-waV vs ax t s, waV vs ax s t, 0)) := by unfold Hid; rw [Hd4.out, hcf, if_pos rfl, spL_way hcf HJ.out, spH_way hcf HJ.out]
              clear hcf Hd4
              go_wp2_with fail
              refine rspan_any ao vs _ c ax s t _ _ rfl hl2 (HC1.out.below V8.out) HVA.out ?_
              obtain ⟨x, hx⟩ : ∃ x, -waV vs ax t s = x := ⟨_, rfl⟩
              obtain ⟨y, hy⟩ : ∃ y, waV vs ax s t = y := ⟨_, rfl⟩
              rw [hx, hy] at hX ⊢
              intro w9 hb
              have U9 := Lib.hid (U8.out.trans (hb.mono (Nat.le_of_lt s8)))
              have X9 := Lib.hid (blk_box X8.out hb s8)
              have z0 := cell_of X9.out (j := 0) rfl
              have z1 := cell_of X9.out (j := 1) rfl
              have f0 := frozen_of X9.out 0
              have f1 := frozen_of X9.out 1
              clear hb hx hy
              go_wp2_with fail
              have hbx := heap_setCell_same _ w.heap.size 1 _ _ (.int .i64 y) (heap_setCell_same _ w.heap.size 0 _ _ (.int .i64 x) X9.out)
              have t0 := cell_of hbx (j := 0) (v := .int .i64 x) rfl
              have t1 := cell_of hbx (j := 1) (v := .int .i64 y) rfl
              have hB := (U9.out.setCell (p := ⟨w.heap.size, 0, none⟩) (Nat.le_refl _) (.int .i64 x)).setCell (p := ⟨w.heap.size, 1, none⟩) (Nat.le_refl _) (.int .i64 y)
              refine bodyPost_ret (v := .tuple #[.agg #[.int .i64 x, .int .i64 y], .int .i64 0]) (by simp [results, Try.results15, go_sem, t0, t1]) rfl ?_
              have h := HR.out _ hB
              rw [hX.out] at h; exact h
  · have K : (E != 0) = true := by simpa using h0
    have hX : Hid (dsX vs ax s t = (0, 0, E)) := by unfold Hid; rw [hd.out, if_neg h0]
    have z0 := cell_of X2.out (j := 0) rfl
    have z1 := cell_of X2.out (j := 1) rfl
    have f0 := frozen_of X2.out 0
    have f1 := frozen_of X2.out 1
    clear h0
    go_wp2_with fail
    have hbx := heap_setCell_same _ w.heap.size 1 _ _ (.int .i64 0) (heap_setCell_same _ w.heap.size 0 _ _ (.int .i64 0) X2.out)
    have t0 := cell_of hbx (j := 0) (v := .int .i64 0) rfl
    have t1 := cell_of hbx (j := 1) (v := .int .i64 0) rfl
    have hB := (U2.out.setCell (p := ⟨w.heap.size, 0, none⟩) (Nat.le_refl _) (.int .i64 0)).setCell (p := ⟨w.heap.size, 1, none⟩) (Nat.le_refl _) (.int .i64 0)
    refine bodyPost_ret (v := .tuple #[.agg #[.int .i64 0, .int .i64 0], .int .i64 E]) (by simp [results, Try.results15, go_sem, t0, t1]) rfl ?_
    have h := HR.out _ hB
    rw [hX.out] at h; exact h
end Go.Proofs.Ytlgjhjgdmomfoaa
namespace Go.Proofs.Ytlgjhjgdmomfoaa
open Go.RowKit Go.Maps

theorem cells_dropD {w : World} {b o : Nat} {vs : List Dm} (h : CellsAt w (some ⟨b, o, none⟩) (dC vs)) (k : Nat) : CellsAt w (some ⟨b, o + k * 5, none⟩) (dC (vs.drop k)) := by
  intro h0
  have hlen : 0 < (vs.drop k).length := by rw [dC_length] at h0; omega
  rw [List.length_drop] at hlen
  have hk : (vs.take k).length = k := by rw [List.length_take]; omega
  have hs : dC vs = dC (vs.take k) ++ dC (vs.drop k) := by rw [← dC_append, List.take_append_drop]
  obtain ⟨b', o', e, h1, _⟩ := h (by rw [dC_length]; omega)
  cases e
  refine ⟨b, o + k * 5, rfl, h1, fun j hj => ?_⟩
  have hj' : (dC vs)[k * 5 + j]? = some ((dC (vs.drop k)).getD j undef) := by
    rw [hs, List.getElem?_append_right (by rw [dC_length, hk]; omega), dC_length, hk, show k * 5 + j - k * 5 = j by omega, List.getD_eq_getElem?_getD, List.getElem?_eq_getElem hj]; rfl
  have h2 := h.get rfl hj'
  rw [show o + k * 5 + j = o + (k * 5 + j) by omega]; exact h2
set_option maxRecDepth 100000 in
set_option maxHeartbeats 8000000 in
theorem without_any (b o : Nat) (vs : List Dm) (c i : Nat) (w : World) (R : Ending → World → Prop) (hi : i < vs.length) (hl : vs.length ≤ 1000000) (hcl : vs.length ≤ c) (hc : CellsAt w (some ⟨b, o, none⟩) (dC vs))
   (hR : ∀ v w', Below w.heap.size w w' → w'.ownsRow w.heap.size 73 5 v (wo vs i).length (dC (wo vs i)) → R (.returned v) w') :
    Calls Try.prog 57 #[.slice (some ⟨b, o, none⟩) vs.length c, .int .i64 i] w R := by
  have HR := Lib.hid hR
  have hbb : b < w.heap.size := by
    obtain ⟨b', o', e, h1, _⟩ := hc (by rw [dC_length]; omega)
    cases e; exact h1
  obtain ⟨A, hA, hsrc⟩ : ∃ A : Addr, (if c = i + 1 then some (⟨b, o, none⟩ : Addr) else some ⟨b, o + (i + 1) * 5, none⟩) = some A ∧ Hid (CellsAt w (some A) (dC (vs.drop (i + 1)))) := by
    by_cases h : c = i + 1
    · refine ⟨⟨b, o, none⟩, by simp [h], ?_⟩
      rw [List.drop_eq_nil_of_le (by omega)]
      exact fun h0 => absurd h0 (by simp [dC])
    · exact ⟨⟨b, o + (i + 1) * 5, none⟩, by simp [h], cells_dropD hc (i + 1)⟩
  have HT := Lib.hid (cells_takeD hc i)
  have htl : (vs.take i).length = i := by rw [List.length_take]; omega
  have hdl : (vs.drop (i + 1)).length = vs.length - (i + 1) := by rw [List.length_drop]
  have hwl : Hid ((wo vs i).length = i + (vs.length - (i + 1))) := by unfold Hid wo; rw [List.length_append, htl, hdl]
  have hwd : Hid (dC (wo vs i) = dC (vs.take i) ++ dC (vs.drop (i + 1))) := by unfold Hid wo; rw [dC_append]
  have q1 : (0 : Int) ≤ (i : Int) := by omega
  have q2 : (i : Int) ≤ (c : Int) := by omega
  have q3 : IntKind.i64.wrap ((i : Int) + 1) = (i : Int) + 1 := by rw [IntKind.wrap_i64]; omega
  have q4 : (0 : Int) ≤ (i : Int) + 1 := by omega
  have q5 : (i : Int) + 1 ≤ (vs.length : Int) := by omega
  have q6 : (vs.length : Int) ≤ (c : Int) := by omega
  have q7 : ((i : Int) + 1).toNat = i + 1 := by omega
  have hne0 : ¬ (c = 0) := by omega
  obtain ⟨n, hn⟩ : ∃ n, vs.length = n := ⟨_, rfl⟩
  obtain ⟨L1, hL1⟩ : ∃ L, dC (vs.take i) = L := ⟨_, rfl⟩
  obtain ⟨L2, hL2⟩ : ∃ L, dC (vs.drop (i + 1)) = L := ⟨_, rfl⟩
  have H1 : Hid (L1.length = i * 5 ∧ ∀ u ∈ L1, u.oneCell' = true) := by rw [← hL1]; exact ⟨by rw [dC_length, htl], dC_one _⟩
  have H2 : Hid (L2.length = (n - (i + 1)) * 5 ∧ ∀ u ∈ L2, u.oneCell' = true) := by rw [← hL2, ← hn]; exact ⟨by rw [dC_length, hdl], dC_one _⟩
  rw [hL1] at HT hwd
  rw [hL2] at hsrc hwd
  rw [hn] at hwl hcl q5 q6 hl ⊢
  have HA := Lib.hid hA
  clear hR hc htl hdl hL1 hL2 hn
  go_enter Try.func57, Try.ntmps57
  go_wp2_with fail
  refine regionQ (fun _ => True) (by kernel_rfl) (trivial) (fun Qn hPQ hQn hS0 => ?_)
  refine takeQ (i := 1) (d := some 6) (v := ?_) rfl rfl (by kernel_rfl) (by kernel_rfl) (by kernel_rfl) hPQ hS0 (by kernel_rfl) ?_ ?_
  rotate_left
  · (intro w hSw; (try dsimp only at hSw); go_simp; (try with_reducible rfl))
  (try simp only [Act.put, List.setIfInBounds_toArray, List.set_cons_zero, List.set_cons_succ])
  refine takeQ (i := 2) (d := some 7) (v := ?_) rfl rfl (by kernel_rfl) (by kernel_rfl) (by kernel_rfl) hPQ hS0 (by kernel_rfl) ?_ ?_
  rotate_left
  · (intro w hSw; (try dsimp only at hSw); go_simp; (try with_reducible rfl))
  (try simp only [Act.put, List.setIfInBounds_toArray, List.set_cons_zero, List.set_cons_succ])
  refine takeQ (i := 3) (d := some 8) (v := ?_) rfl rfl (by kernel_rfl) (by kernel_rfl) (by kernel_rfl) hPQ hS0 (by kernel_rfl) ?_ ?_
  rotate_left
  · (intro w hSw; (try dsimp only at hSw); go_simp; (try with_reducible rfl))
  (try simp only [Act.put, List.setIfInBounds_toArray, List.set_cons_zero, List.set_cons_succ])
  refine takeQ (i := 5) (d := some 10) (v := ?_) rfl rfl (by kernel_rfl) (by kernel_rfl) (by kernel_rfl) hPQ hS0 (by kernel_rfl) ?_ ?_
  rotate_left
  · (intro w hSw; (try dsimp only at hSw); go_simp; (try with_reducible rfl))
  (try simp only [Act.put, List.setIfInBounds_toArray, List.set_cons_zero, List.set_cons_succ])
  refine takeQ (i := 6) (d := some 11) (v := ?_) rfl rfl (by kernel_rfl) (by kernel_rfl) (by kernel_rfl) hPQ hS0 (by kernel_rfl) ?_ ?_
  rotate_left
  · (intro w hSw; (try dsimp only at hSw); go_simp; (try with_reducible rfl))
  (try simp only [Act.put, List.setIfInBounds_toArray, List.set_cons_zero, List.set_cons_succ])
  refine takeQ (i := 7) (d := some 12) (v := ?_) rfl rfl (by kernel_rfl) (by kernel_rfl) (by kernel_rfl) hPQ hS0 (by kernel_rfl) ?_ ?_
  rotate_left
  · (intro w hSw; (try dsimp only at hSw); go_simp; (try with_reducible rfl))
  (try simp only [Act.put, List.setIfInBounds_toArray, List.set_cons_zero, List.set_cons_succ])
  refine takeQ (i := 8) (d := some 13) (v := ?_) rfl rfl (by kernel_rfl) (by kernel_rfl) (by kernel_rfl) hPQ hS0 (by kernel_rfl) ?_ ?_
  rotate_left
  · (intro w hSw; (try dsimp only at hSw); go_simp; (try with_reducible rfl))
  (try simp only [Act.put, List.setIfInBounds_toArray, List.set_cons_zero, List.set_cons_succ])
  refine wpAnyH_ready (rs := [0]) (by kernel_rfl) (by simp) ?_
  refine AllReadyH.cons (o := _) rfl (fun K hK => ?_) AllReadyH.nil
  go_simp
  have O1 : Hid (((w.alloc (.cells #[] 73)).drew).ownsRow w.heap.size 73 5 (.slice (some ⟨w.heap.size, 0, none⟩) 0 0) 0 []) := ownsRow_below (World.ownsRow_lit w #[] 0 (Nat.le_refl _) (by decide) rfl) (Below.refl _ _).drew
  have B1 : Hid (Below w.heap.size w ((w.alloc (.cells #[] 73)).drew)) := ((Below.refl _ _).alloc (Nat.le_refl _) _).drew
  have z1 := B1.out.size
  obtain ⟨wp, hwp⟩ : ∃ wp, (w.alloc (.cells #[] 73)).drew = wp := ⟨_, rfl⟩
  rw [hwp] at O1 B1 z1 ⊢
  clear hwp
  refine hK.out _ _ (trivial) (fun hS1 => ?_)
  clear hK K hS0
  (try simp only [Act.put, List.setIfInBounds_toArray, List.set_cons_zero, List.set_cons_succ])
  refine wpAnyH_ready (rs := [4]) (by kernel_rfl) (by simp) ?_
  refine AllReadyH.cons (o := _) rfl (fun K hK => ?_) AllReadyH.nil
  refine step_appendN rfl (.tmp 5) (.tmp 8) 22 (by rfl) w.heap.size 73 Try.underlying22 Try.infoDm rfl (by decide) (.slice (some ⟨w.heap.size, 0, none⟩) 0 0) 0 [] (by rfl) O1.out (some ⟨b, o, none⟩) i c L1 (by rfl) H1.out.1 (HT.out.below B1.out) H1.out.2 (by omega) (by omega) (by omega) ?_
  intro v8 w8 hown hb
  have O8 := Lib.hid hown
  have B8 := Lib.hid (B1.out.trans hb)
  have z8 := B8.out.size
  clear hown hb O1
  refine hK.out _ _ (trivial) (fun hS2 => ?_)
  clear hK K hS1
  (try simp only [Act.put, List.setIfInBounds_toArray])
  refine wpAnyH_ready (rs := [9]) (by kernel_rfl) (by simp) ?_
  refine AllReadyH.cons (o := _) rfl (fun K hK => ?_) AllReadyH.nil
  refine step_appendN rfl (.tmp 9) (.tmp 13) 22 (by rfl) w.heap.size 73 Try.underlying22 Try.infoDm rfl (by decide) v8 (0 + i) ([] ++ L1) (by rfl) O8.out (some A) (n - (i + 1)) (c - (i + 1)) L2 (by rfl) H2.out.1 (hsrc.out.below B8.out) H2.out.2 (by omega) (by omega) (by omega) ?_
  intro v9 w9 hown hb
  rw [Nat.zero_add, List.nil_append] at hown
  have O9 := Lib.hid hown
  have B9 := Lib.hid (B8.out.trans hb)
  clear hown hb O8
  refine hK.out _ _ (trivial) (fun hS3 => ?_)
  clear hK K hS2
  (try simp only [Act.put])
  refine takeQ (i := 10) (d := some 4) (v := ?_) rfl rfl (by kernel_rfl) (by kernel_rfl) (by kernel_rfl) hPQ hS3 (by kernel_rfl) ?_ ?_
  rotate_left
  · (intro w hSw; (try dsimp only at hSw); go_simp; (try with_reducible rfl))
  (try simp only [Act.put])
  refine wpAnyH_done (by kernel_rfl) (hQn.out _ _ ?_) _
  clear hS3 hPQ hQn Qn
  go_wp2_with fail
  refine HR.out _ _ B9.out ?_
  rw [hwl.out, hwd.out]
  exact O9.out
end Go.Proofs.Ytlgjhjgdmomfoaa
