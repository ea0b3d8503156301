/- The laws FrameChecks, FrameConditions, FrameBonuses of layer 19. (Printed by gen_law19.py.) -/
import Derived.Test.YtciokmjhdbcmpaaGreatDoorMfzd
namespace Go.Proofs.YtciokmjhdbcmpaaGreatDoor
open Go.RowKit

set_option maxRecDepth 100000 in
set_option maxHeartbeats 16000000 in
theorem lawFrameChecks (f : Ft) (fo : Option Addr) (fc : Nat) (x : Fm) (da : Option Addr) (dc : Nat) (w : World) (R : Ending → World → Prop) (hok : FtOk w f fo fc) (hox : FmOk w x da dc) (hE : Env w)
   (hR : ∀ w', Below w.heap.size w w' → R (.returned (.bool true)) w') :
    Calls Tryz.prog 3 #[ftV f fo fc, fmV x da dc] w R := by
  have HR := Lib.hid hR
  have HOF := Lib.hid hok
  have HOX := Lib.hid hox
  have HEV := Lib.hid hE
  clear hR hok hox hE
  obtain ⟨fn, hfn⟩ : ∃ fn, f.fs.length = fn := ⟨_, rfl⟩
  have HFV : Hid (ftV f fo fc = .agg #[.string f.n, .int .i64 f.k, .int .i64 f.a, .int .i64 f.x, .int .i64 f.y, .int .i64 f.z, .int .i64 f.l, .int .i64 f.h, .slice fo fn fc]) := by unfold Hid ftV; rw [hfn]
  have HXV : Hid (fmV x da dc = .agg #[.int .i64 x.k, .bool x.d, .int .i64 x.t, .int .i64 x.m, .slice da x.ds.length dc]) := rfl
  rw [HFV.out, HXV.out]
  obtain ⟨w1, E1, HB1, s1, X1⟩ := box_ex w #[.string f.n, .int .i64 f.k, .int .i64 f.a, .int .i64 f.x, .int .i64 f.y, .int .i64 f.z, .int .i64 f.l, .int .i64 f.h, .slice fo fn fc] 28
  obtain ⟨w2, E2, HB2, s2, X2⟩ := box_ex w1 #[.int .i64 x.k, .bool x.d, .int .i64 x.t, .int .i64 x.m, .slice da x.ds.length dc] 31
  have BW0 : Hid (Below w.heap.size w w2) := HB1.out.trans (HB2.out.mono (Nat.le_of_lt s1))
  have HX1 := Lib.hid ((HB2.out.block _ s1).trans X1.out)
  have HX2 := X2
  clear hfn X1 X2
  have p0 := cell_at HX1.out (j := 0) (v := .string f.n) rfl
  have p1 := cell_at HX1.out (j := 1) (v := .int .i64 f.k) rfl
  have p2 := cell_at HX1.out (j := 2) (v := .int .i64 f.a) rfl
  have p3 := cell_at HX1.out (j := 3) (v := .int .i64 f.x) rfl
  have p4 := cell_at HX1.out (j := 4) (v := .int .i64 f.y) rfl
  have p5 := cell_at HX1.out (j := 5) (v := .int .i64 f.z) rfl
  have p6 := cell_at HX1.out (j := 6) (v := .int .i64 f.l) rfl
  have p7 := cell_at HX1.out (j := 7) (v := .int .i64 f.h) rfl
  have p8 := cell_at HX1.out (j := 8) (v := .slice fo fn fc) rfl
  have o0 := cell_at HX2.out (j := 0) (v := .int .i64 x.k) rfl
  have o1 := cell_at HX2.out (j := 1) (v := .bool x.d) rfl
  have o2 := cell_at HX2.out (j := 2) (v := .int .i64 x.t) rfl
  have o3 := cell_at HX2.out (j := 3) (v := .int .i64 x.m) rfl
  have o4 := cell_at HX2.out (j := 4) (v := .slice da x.ds.length dc) rfl
  go_enter Tryz.func3, Tryz.ntmps3
  obtain ⟨FB, hFB⟩ : ∃ b, fewB f = b := ⟨_, rfl⟩
  have HFB := Lib.hid hFB
  obtain ⟨FX, hFX⟩ : ∃ b, fewF x = b := ⟨_, rfl⟩
  have HFX := Lib.hid hFX
  clear hFB hFX
  go_wp2_with (first | rw [E1] | rw [E2])
  rw [← HFV.out]
  refine few18_any f fo fc _ _ (HOF.out.below BW0.out) fun W1 hb => ?_
  rw [HFB.out]
  have BW1 : Hid (Below w.heap.size w W1) := BW0.out.trans (hb.mono BW0.out.size)
  have HX11 := Lib.hid ((hb.block _ (lt_of_block HX1.out)).trans HX1.out)
  have HX21 := Lib.hid ((hb.block _ (lt_of_block HX2.out)).trans HX2.out)
  clear hb p0 p1 p2 p3 p4 p5 p6 p7 p8 o0 o1 o2 o3 o4
  clear E1 E2
  have p0 := cell_at HX11.out (j := 0) (v := .string f.n) rfl
  have p1 := cell_at HX11.out (j := 1) (v := .int .i64 f.k) rfl
  have p2 := cell_at HX11.out (j := 2) (v := .int .i64 f.a) rfl
  have p3 := cell_at HX11.out (j := 3) (v := .int .i64 f.x) rfl
  have p4 := cell_at HX11.out (j := 4) (v := .int .i64 f.y) rfl
  have p5 := cell_at HX11.out (j := 5) (v := .int .i64 f.z) rfl
  have p6 := cell_at HX11.out (j := 6) (v := .int .i64 f.l) rfl
  have p7 := cell_at HX11.out (j := 7) (v := .int .i64 f.h) rfl
  have p8 := cell_at HX11.out (j := 8) (v := .slice fo fn fc) rfl
  have o0 := cell_at HX21.out (j := 0) (v := .int .i64 x.k) rfl
  have o1 := cell_at HX21.out (j := 1) (v := .bool x.d) rfl
  have o2 := cell_at HX21.out (j := 2) (v := .int .i64 x.t) rfl
  have o3 := cell_at HX21.out (j := 3) (v := .int .i64 x.m) rfl
  have o4 := cell_at HX21.out (j := 4) (v := .slice da x.ds.length dc) rfl
  cases FB with
  | false =>
    go_wp2_with fail
    refine awake19_any _ _ (HEV.out.below BW1.out) fun WZ hb => ?_
    have BZ : Hid (Below w.heap.size w WZ) := BW1.out.trans (hb.mono BW1.out.size)
    clear hb p0 p1 p2 p3 p4 p5 p6 p7 p8 o0 o1 o2 o3 o4
    go_wp2_with fail
    exact HR.out _ BZ.out
  | true =>
    go_wp2_with fail
    rw [← HXV.out]
    refine few19_any x da dc _ _ (HOX.out.below BW1.out) fun W2 hb => ?_
    rw [HFX.out]
    have BW2 : Hid (Below w.heap.size w W2) := BW1.out.trans (hb.mono BW1.out.size)
    have HX12 := Lib.hid ((hb.block _ (lt_of_block HX11.out)).trans HX11.out)
    have HX22 := Lib.hid ((hb.block _ (lt_of_block HX21.out)).trans HX21.out)
    clear hb p0 p1 p2 p3 p4 p5 p6 p7 p8 o0 o1 o2 o3 o4
    have p0 := cell_at HX12.out (j := 0) (v := .string f.n) rfl
    have p1 := cell_at HX12.out (j := 1) (v := .int .i64 f.k) rfl
    have p2 := cell_at HX12.out (j := 2) (v := .int .i64 f.a) rfl
    have p3 := cell_at HX12.out (j := 3) (v := .int .i64 f.x) rfl
    have p4 := cell_at HX12.out (j := 4) (v := .int .i64 f.y) rfl
    have p5 := cell_at HX12.out (j := 5) (v := .int .i64 f.z) rfl
    have p6 := cell_at HX12.out (j := 6) (v := .int .i64 f.l) rfl
    have p7 := cell_at HX12.out (j := 7) (v := .int .i64 f.h) rfl
    have p8 := cell_at HX12.out (j := 8) (v := .slice fo fn fc) rfl
    have o0 := cell_at HX22.out (j := 0) (v := .int .i64 x.k) rfl
    have o1 := cell_at HX22.out (j := 1) (v := .bool x.d) rfl
    have o2 := cell_at HX22.out (j := 2) (v := .int .i64 x.t) rfl
    have o3 := cell_at HX22.out (j := 3) (v := .int .i64 x.m) rfl
    have o4 := cell_at HX22.out (j := 4) (v := .slice da x.ds.length dc) rfl
    cases FX with
    | false =>
      go_wp2_with fail
      refine awake19_any _ _ (HEV.out.below BW2.out) fun WZ hb => ?_
      have BZ : Hid (Below w.heap.size w WZ) := BW2.out.trans (hb.mono BW2.out.size)
      clear hb p0 p1 p2 p3 p4 p5 p6 p7 p8 o0 o1 o2 o3 o4
      go_wp2_with fail
      exact HR.out _ BZ.out
    | true =>
      obtain ⟨E, hEE⟩ : ∃ E, fcE f x = E := ⟨_, rfl⟩
      have HEE := Lib.hid hEE
      obtain ⟨E2, hE2⟩ : ∃ E, plE x = E := ⟨_, rfl⟩
      have HE2 := Lib.hid hE2
      clear hEE hE2
      go_wp2_with fail
      clear p0 p1 p2 p3 p4 p5 p6 p7 p8 o0 o1 o2 o3 o4
      have BD : Hid (Below w.heap.size w W2.drew) := BW2.out.drew
      have p0 : W2.drew.cell? ⟨w.heap.size, 0, none⟩ = some (.string f.n) := cell_at HX12.out (j := 0) rfl
      have p1 : W2.drew.cell? ⟨w.heap.size, 1, none⟩ = some (.int .i64 f.k) := cell_at HX12.out (j := 1) rfl
      have p2 : W2.drew.cell? ⟨w.heap.size, 2, none⟩ = some (.int .i64 f.a) := cell_at HX12.out (j := 2) rfl
      have p3 : W2.drew.cell? ⟨w.heap.size, 3, none⟩ = some (.int .i64 f.x) := cell_at HX12.out (j := 3) rfl
      have p4 : W2.drew.cell? ⟨w.heap.size, 4, none⟩ = some (.int .i64 f.y) := cell_at HX12.out (j := 4) rfl
      have p5 : W2.drew.cell? ⟨w.heap.size, 5, none⟩ = some (.int .i64 f.z) := cell_at HX12.out (j := 5) rfl
      have p6 : W2.drew.cell? ⟨w.heap.size, 6, none⟩ = some (.int .i64 f.l) := cell_at HX12.out (j := 6) rfl
      have p7 : W2.drew.cell? ⟨w.heap.size, 7, none⟩ = some (.int .i64 f.h) := cell_at HX12.out (j := 7) rfl
      have p8 : W2.drew.cell? ⟨w.heap.size, 8, none⟩ = some (.slice fo fn fc) := cell_at HX12.out (j := 8) rfl
      have o0 : W2.drew.cell? ⟨w1.heap.size, 0, none⟩ = some (.int .i64 x.k) := cell_at HX22.out (j := 0) rfl
      have o1 : W2.drew.cell? ⟨w1.heap.size, 1, none⟩ = some (.bool x.d) := cell_at HX22.out (j := 1) rfl
      have o2 : W2.drew.cell? ⟨w1.heap.size, 2, none⟩ = some (.int .i64 x.t) := cell_at HX22.out (j := 2) rfl
      have o3 : W2.drew.cell? ⟨w1.heap.size, 3, none⟩ = some (.int .i64 x.m) := cell_at HX22.out (j := 3) rfl
      have o4 : W2.drew.cell? ⟨w1.heap.size, 4, none⟩ = some (.slice da x.ds.length dc) := cell_at HX22.out (j := 4) rfl
      refine regionQ (fun w' => w'.cell? ⟨w.heap.size, 0, none⟩ = some (.string f.n) ∧ w'.cell? ⟨w.heap.size, 1, none⟩ = some (.int .i64 f.k) ∧ w'.cell? ⟨w.heap.size, 2, none⟩ = some (.int .i64 f.a) ∧ w'.cell? ⟨w.heap.size, 3, none⟩ = some (.int .i64 f.x) ∧ w'.cell? ⟨w.heap.size, 4, none⟩ = some (.int .i64 f.y) ∧ w'.cell? ⟨w.heap.size, 5, none⟩ = some (.int .i64 f.z) ∧ w'.cell? ⟨w.heap.size, 6, none⟩ = some (.int .i64 f.l) ∧ w'.cell? ⟨w.heap.size, 7, none⟩ = some (.int .i64 f.h) ∧ w'.cell? ⟨w.heap.size, 8, none⟩ = some (.slice fo fn fc) ∧ w'.cell? ⟨w1.heap.size, 0, none⟩ = some (.int .i64 x.k) ∧ w'.cell? ⟨w1.heap.size, 1, none⟩ = some (.bool x.d) ∧ w'.cell? ⟨w1.heap.size, 2, none⟩ = some (.int .i64 x.t) ∧ w'.cell? ⟨w1.heap.size, 3, none⟩ = some (.int .i64 x.m) ∧ w'.cell? ⟨w1.heap.size, 4, none⟩ = some (.slice da x.ds.length dc)) (by kernel_rfl) (⟨p0, p1, p2, p3, p4, p5, p6, p7, p8, o0, o1, o2, o3, o4⟩) (fun Qn hPQ hQn hS0 => ?_)
      refine wpAnyH_ready (rs := [0]) (by kernel_rfl) (by simp) ?_
      refine AllReadyH.cons (o := _) rfl (fun K hK => ?_) AllReadyH.nil
      go_simp
      refine awake19_any _ _ (HEV.out.below BD.out) fun VA hb => ?_
      have BA : Hid (Below w.heap.size w VA) := BD.out.trans (hb.mono BD.out.size)
      have pa0 := cellB hb p0 (lt_of_cell p0)
      have pa1 := cellB hb p1 (lt_of_cell p1)
      have pa2 := cellB hb p2 (lt_of_cell p2)
      have pa3 := cellB hb p3 (lt_of_cell p3)
      have pa4 := cellB hb p4 (lt_of_cell p4)
      have pa5 := cellB hb p5 (lt_of_cell p5)
      have pa6 := cellB hb p6 (lt_of_cell p6)
      have pa7 := cellB hb p7 (lt_of_cell p7)
      have pa8 := cellB hb p8 (lt_of_cell p8)
      have oa0 := cellB hb o0 (lt_of_cell o0)
      have oa1 := cellB hb o1 (lt_of_cell o1)
      have oa2 := cellB hb o2 (lt_of_cell o2)
      have oa3 := cellB hb o3 (lt_of_cell o3)
      have oa4 := cellB hb o4 (lt_of_cell o4)
      clear hb p0 p1 p2 p3 p4 p5 p6 p7 p8 o0 o1 o2 o3 o4
      refine hK.out _ _ (⟨pa0, pa1, pa2, pa3, pa4, pa5, pa6, pa7, pa8, oa0, oa1, oa2, oa3, oa4⟩) (fun hS1 => ?_)
      clear hK K hS0
      (try simp only [Act.put, List.setIfInBounds_toArray, List.set_cons_zero, List.set_cons_succ])
      refine takeQ (i := 1) (d := some 15) (v := ?_) rfl rfl (by kernel_rfl) (by kernel_rfl) (by kernel_rfl) hPQ hS1 (by kernel_rfl) ?_ ?_
      rotate_left
      · (intro w hSw; (try dsimp only at hSw); obtain ⟨k0, k1, k2, k3, k4, k5, k6, k7, k8, l0, l1, l2, l3, l4⟩ := hSw; go_simp; (try with_reducible rfl))
      (try simp only [Act.put, List.setIfInBounds_toArray, List.set_cons_zero, List.set_cons_succ])
      refine takeQ (i := 2) (d := some 16) (v := ?_) rfl rfl (by kernel_rfl) (by kernel_rfl) (by kernel_rfl) hPQ hS1 (by kernel_rfl) ?_ ?_
      rotate_left
      · (intro w hSw; (try dsimp only at hSw); obtain ⟨k0, k1, k2, k3, k4, k5, k6, k7, k8, l0, l1, l2, l3, l4⟩ := hSw; go_simp; (try with_reducible rfl))
      (try simp only [Act.put, List.setIfInBounds_toArray, List.set_cons_zero, List.set_cons_succ])
      refine takeQ (i := 3) (d := some 17) (v := ?_) rfl rfl (by kernel_rfl) (by kernel_rfl) (by kernel_rfl) hPQ hS1 (by kernel_rfl) ?_ ?_
      rotate_left
      · (intro w hSw; (try dsimp only at hSw); obtain ⟨k0, k1, k2, k3, k4, k5, k6, k7, k8, l0, l1, l2, l3, l4⟩ := hSw; go_simp; (try with_reducible rfl))
      (try simp only [Act.put, List.setIfInBounds_toArray, List.set_cons_zero, List.set_cons_succ])
      refine takeQ (i := 5) (d := some 19) (v := ?_) rfl rfl (by kernel_rfl) (by kernel_rfl) (by kernel_rfl) hPQ hS1 (by kernel_rfl) ?_ ?_
      rotate_left
      · (intro w hSw; (try dsimp only at hSw); obtain ⟨k0, k1, k2, k3, k4, k5, k6, k7, k8, l0, l1, l2, l3, l4⟩ := hSw; go_simp; (try with_reducible rfl))
      (try simp only [Act.put, List.setIfInBounds_toArray, List.set_cons_zero, List.set_cons_succ])
      refine takeQ (i := 6) (d := some 20) (v := ?_) rfl rfl (by kernel_rfl) (by kernel_rfl) (by kernel_rfl) hPQ hS1 (by kernel_rfl) ?_ ?_
      rotate_left
      · (intro w hSw; (try dsimp only at hSw); obtain ⟨k0, k1, k2, k3, k4, k5, k6, k7, k8, l0, l1, l2, l3, l4⟩ := hSw; go_simp; (try with_reducible rfl))
      (try simp only [Act.put, List.setIfInBounds_toArray, List.set_cons_zero, List.set_cons_succ])
      refine wpAnyH_ready (rs := [4]) (by kernel_rfl) (by simp) ?_
      refine AllReadyH.cons (o := _) rfl (fun K hK => ?_) AllReadyH.nil
      go_simp
      (try rw [← HFV.out, ← HXV.out])
      refine fcheck_any f fo fc x da dc _ _ (HOF.out.below BA.out) (HOX.out.below BA.out) fun VB hb => ?_
      rw [HEE.out]
      have BB2 : Hid (Below w.heap.size w VB) := BA.out.trans (hb.mono BA.out.size)
      have pb0 := cellB hb pa0 (lt_of_cell pa0)
      have pb1 := cellB hb pa1 (lt_of_cell pa1)
      have pb2 := cellB hb pa2 (lt_of_cell pa2)
      have pb3 := cellB hb pa3 (lt_of_cell pa3)
      have pb4 := cellB hb pa4 (lt_of_cell pa4)
      have pb5 := cellB hb pa5 (lt_of_cell pa5)
      have pb6 := cellB hb pa6 (lt_of_cell pa6)
      have pb7 := cellB hb pa7 (lt_of_cell pa7)
      have pb8 := cellB hb pa8 (lt_of_cell pa8)
      have ob0 := cellB hb oa0 (lt_of_cell oa0)
      have ob1 := cellB hb oa1 (lt_of_cell oa1)
      have ob2 := cellB hb oa2 (lt_of_cell oa2)
      have ob3 := cellB hb oa3 (lt_of_cell oa3)
      have ob4 := cellB hb oa4 (lt_of_cell oa4)
      clear hb pa0 pa1 pa2 pa3 pa4 pa5 pa6 pa7 pa8 oa0 oa1 oa2 oa3 oa4
      refine hK.out _ _ (⟨pb0, pb1, pb2, pb3, pb4, pb5, pb6, pb7, pb8, ob0, ob1, ob2, ob3, ob4⟩) (fun hS2 => ?_)
      clear hK K hS1
      (try simp only [Act.put, List.setIfInBounds_toArray, List.set_cons_zero, List.set_cons_succ])
      refine wpAnyH_ready (rs := [7]) (by kernel_rfl) (by simp) ?_
      refine AllReadyH.cons (o := _) rfl (fun K hK => ?_) AllReadyH.nil
      go_simp
      (try rw [← HFV.out, ← HXV.out])
      refine rfcheck_any f fo fc x da dc _ _ (HOF.out.below BB2.out) (HOX.out.below BB2.out) fun VC hb => ?_
      rw [HEE.out]
      have BC : Hid (Below w.heap.size w VC) := BB2.out.trans (hb.mono BB2.out.size)
      have pc0 := cellB hb pb0 (lt_of_cell pb0)
      have pc1 := cellB hb pb1 (lt_of_cell pb1)
      have pc2 := cellB hb pb2 (lt_of_cell pb2)
      have pc3 := cellB hb pb3 (lt_of_cell pb3)
      have pc4 := cellB hb pb4 (lt_of_cell pb4)
      have pc5 := cellB hb pb5 (lt_of_cell pb5)
      have pc6 := cellB hb pb6 (lt_of_cell pb6)
      have pc7 := cellB hb pb7 (lt_of_cell pb7)
      have pc8 := cellB hb pb8 (lt_of_cell pb8)
      have oc0 := cellB hb ob0 (lt_of_cell ob0)
      have oc1 := cellB hb ob1 (lt_of_cell ob1)
      have oc2 := cellB hb ob2 (lt_of_cell ob2)
      have oc3 := cellB hb ob3 (lt_of_cell ob3)
      have oc4 := cellB hb ob4 (lt_of_cell ob4)
      clear hb pb0 pb1 pb2 pb3 pb4 pb5 pb6 pb7 pb8 ob0 ob1 ob2 ob3 ob4
      refine hK.out _ _ (⟨pc0, pc1, pc2, pc3, pc4, pc5, pc6, pc7, pc8, oc0, oc1, oc2, oc3, oc4⟩) (fun hS3 => ?_)
      clear hK K hS2
      (try simp only [Act.put, List.setIfInBounds_toArray, List.set_cons_zero, List.set_cons_succ])
      refine takeQ (i := 8) (d := some 22) (v := ?_) rfl rfl (by kernel_rfl) (by kernel_rfl) (by kernel_rfl) hPQ hS3 (by kernel_rfl) ?_ ?_
      rotate_left
      · (intro w hSw; (try dsimp only at hSw); obtain ⟨k0, k1, k2, k3, k4, k5, k6, k7, k8, l0, l1, l2, l3, l4⟩ := hSw; go_simp; (try with_reducible rfl))
      (try simp only [Act.put, List.setIfInBounds_toArray, List.set_cons_zero, List.set_cons_succ])
      refine takeQ (i := 9) (d := some 23) (v := ?_) rfl rfl (by kernel_rfl) (by kernel_rfl) (by kernel_rfl) hPQ hS3 (by kernel_rfl) ?_ ?_
      rotate_left
      · (intro w hSw; (try dsimp only at hSw); obtain ⟨k0, k1, k2, k3, k4, k5, k6, k7, k8, l0, l1, l2, l3, l4⟩ := hSw; go_simp; (try with_reducible rfl))
      (try simp only [Act.put, List.setIfInBounds_toArray, List.set_cons_zero, List.set_cons_succ])
      refine takeQ (i := 10) (d := some 24) (v := ?_) rfl rfl (by kernel_rfl) (by kernel_rfl) (by kernel_rfl) hPQ hS3 (by kernel_rfl) ?_ ?_
      rotate_left
      · (intro w hSw; (try dsimp only at hSw); obtain ⟨k0, k1, k2, k3, k4, k5, k6, k7, k8, l0, l1, l2, l3, l4⟩ := hSw; go_simp; (try with_reducible rfl))
      (try simp only [Act.put, List.setIfInBounds_toArray, List.set_cons_zero, List.set_cons_succ])
      refine takeQ (i := 11) (d := some 25) (v := ?_) rfl rfl (by kernel_rfl) (by kernel_rfl) (by kernel_rfl) hPQ hS3 (by kernel_rfl) ?_ ?_
      rotate_left
      · (intro w hSw; (try dsimp only at hSw); obtain ⟨k0, k1, k2, k3, k4, k5, k6, k7, k8, l0, l1, l2, l3, l4⟩ := hSw; go_simp; (try with_reducible rfl))
      (try simp only [Act.put, List.setIfInBounds_toArray, List.set_cons_zero, List.set_cons_succ])
      refine takeQ (i := 13) (d := some 27) (v := ?_) rfl rfl (by kernel_rfl) (by kernel_rfl) (by kernel_rfl) hPQ hS3 (by kernel_rfl) ?_ ?_
      rotate_left
      · (intro w hSw; (try dsimp only at hSw); obtain ⟨k0, k1, k2, k3, k4, k5, k6, k7, k8, l0, l1, l2, l3, l4⟩ := hSw; go_simp; (try with_reducible rfl))
      (try simp only [Act.put, List.setIfInBounds_toArray, List.set_cons_zero, List.set_cons_succ])
      refine wpAnyH_ready (rs := [12]) (by kernel_rfl) (by simp) ?_
      refine AllReadyH.cons (o := _) rfl (fun K hK => ?_) AllReadyH.nil
      go_simp
      (try rw [← HXV.out])
      refine plain_any x da dc _ _ (HOX.out.below BC.out) fun VE hb => ?_
      rw [HE2.out]
      have BE : Hid (Below w.heap.size w VE) := BC.out.trans (hb.mono BC.out.size)
      have pe0 := cellB hb pc0 (lt_of_cell pc0)
      have pe1 := cellB hb pc1 (lt_of_cell pc1)
      have pe2 := cellB hb pc2 (lt_of_cell pc2)
      have pe3 := cellB hb pc3 (lt_of_cell pc3)
      have pe4 := cellB hb pc4 (lt_of_cell pc4)
      have pe5 := cellB hb pc5 (lt_of_cell pc5)
      have pe6 := cellB hb pc6 (lt_of_cell pc6)
      have pe7 := cellB hb pc7 (lt_of_cell pc7)
      have pe8 := cellB hb pc8 (lt_of_cell pc8)
      have oe0 := cellB hb oc0 (lt_of_cell oc0)
      have oe1 := cellB hb oc1 (lt_of_cell oc1)
      have oe2 := cellB hb oc2 (lt_of_cell oc2)
      have oe3 := cellB hb oc3 (lt_of_cell oc3)
      have oe4 := cellB hb oc4 (lt_of_cell oc4)
      clear hb pc0 pc1 pc2 pc3 pc4 pc5 pc6 pc7 pc8 oc0 oc1 oc2 oc3 oc4
      refine hK.out _ _ (⟨pe0, pe1, pe2, pe3, pe4, pe5, pe6, pe7, pe8, oe0, oe1, oe2, oe3, oe4⟩) (fun hS4 => ?_)
      clear hK K hS3
      (try simp only [Act.put, List.setIfInBounds_toArray, List.set_cons_zero, List.set_cons_succ])
      refine wpAnyH_ready (rs := [14]) (by kernel_rfl) (by simp) ?_
      refine AllReadyH.cons (o := _) rfl (fun K hK => ?_) AllReadyH.nil
      go_simp
      (try rw [← HXV.out])
      refine rplain_any x da dc _ _ (HOX.out.below BE.out) fun VF hb => ?_
      rw [HE2.out]
      have BF : Hid (Below w.heap.size w VF) := BE.out.trans (hb.mono BE.out.size)
      have pf0 := cellB hb pe0 (lt_of_cell pe0)
      have pf1 := cellB hb pe1 (lt_of_cell pe1)
      have pf2 := cellB hb pe2 (lt_of_cell pe2)
      have pf3 := cellB hb pe3 (lt_of_cell pe3)
      have pf4 := cellB hb pe4 (lt_of_cell pe4)
      have pf5 := cellB hb pe5 (lt_of_cell pe5)
      have pf6 := cellB hb pe6 (lt_of_cell pe6)
      have pf7 := cellB hb pe7 (lt_of_cell pe7)
      have pf8 := cellB hb pe8 (lt_of_cell pe8)
      have of0 := cellB hb oe0 (lt_of_cell oe0)
      have of1 := cellB hb oe1 (lt_of_cell oe1)
      have of2 := cellB hb oe2 (lt_of_cell oe2)
      have of3 := cellB hb oe3 (lt_of_cell oe3)
      have of4 := cellB hb oe4 (lt_of_cell oe4)
      clear hb pe0 pe1 pe2 pe3 pe4 pe5 pe6 pe7 pe8 oe0 oe1 oe2 oe3 oe4
      refine hK.out _ _ (⟨pf0, pf1, pf2, pf3, pf4, pf5, pf6, pf7, pf8, of0, of1, of2, of3, of4⟩) (fun hS5 => ?_)
      clear hK K hS4
      (try simp only [Act.put, List.setIfInBounds_toArray, List.set_cons_zero, List.set_cons_succ])
      refine takeQ (i := 15) (d := some 29) (v := ?_) rfl rfl (by kernel_rfl) (by kernel_rfl) (by kernel_rfl) hPQ hS5 (by kernel_rfl) ?_ ?_
      rotate_left
      · (intro w hSw; (try dsimp only at hSw); obtain ⟨k0, k1, k2, k3, k4, k5, k6, k7, k8, l0, l1, l2, l3, l4⟩ := hSw; go_simp; (try with_reducible rfl))
      (try simp only [Act.put, List.setIfInBounds_toArray, List.set_cons_zero, List.set_cons_succ])
      refine takeQ (i := 16) (d := some 30) (v := ?_) rfl rfl (by kernel_rfl) (by kernel_rfl) (by kernel_rfl) hPQ hS5 (by kernel_rfl) ?_ ?_
      rotate_left
      · (intro w hSw; (try dsimp only at hSw); obtain ⟨k0, k1, k2, k3, k4, k5, k6, k7, k8, l0, l1, l2, l3, l4⟩ := hSw; go_simp; (try with_reducible rfl))
      (try simp only [Act.put, List.setIfInBounds_toArray, List.set_cons_zero, List.set_cons_succ])
      refine takeQ (i := 17) (d := some 4) (v := ?_) rfl rfl (by kernel_rfl) (by kernel_rfl) (by kernel_rfl) hPQ hS5 (by kernel_rfl) ?_ ?_
      rotate_left
      · (intro w hSw; (try dsimp only at hSw); obtain ⟨k0, k1, k2, k3, k4, k5, k6, k7, k8, l0, l1, l2, l3, l4⟩ := hSw; go_simp; (try with_reducible rfl))
      (try simp only [Act.put, List.setIfInBounds_toArray, List.set_cons_zero, List.set_cons_succ])
      refine wpAnyH_done (by kernel_rfl) (hQn.out _ _ ?_) _
      clear hS5 hPQ hQn Qn
      go_wp2_with fail
      exact HR.out _ BF.out
set_option maxRecDepth 100000 in
set_option maxHeartbeats 16000000 in
theorem lawFrameConditions (f : Ft) (fo : Option Addr) (fc : Nat) (x : Fm) (da : Option Addr) (dc : Nat) (s : Int) (w : World) (R : Ending → World → Prop) (hok : FtOk w f fo fc) (hox : FmOk w x da dc) (hE : Env w)
   (hR : ∀ w', Below w.heap.size w w' → R (.returned (.bool true)) w') :
    Calls Tryz.prog 4 #[ftV f fo fc, fmV x da dc, .int .i64 s] w R := by
  have HR := Lib.hid hR
  have HOF := Lib.hid hok
  have HOX := Lib.hid hox
  have HEV := Lib.hid hE
  clear hR hok hox hE
  obtain ⟨fn, hfn⟩ : ∃ fn, f.fs.length = fn := ⟨_, rfl⟩
  have HFV : Hid (ftV f fo fc = .agg #[.string f.n, .int .i64 f.k, .int .i64 f.a, .int .i64 f.x, .int .i64 f.y, .int .i64 f.z, .int .i64 f.l, .int .i64 f.h, .slice fo fn fc]) := by unfold Hid ftV; rw [hfn]
  have HXV : Hid (fmV x da dc = .agg #[.int .i64 x.k, .bool x.d, .int .i64 x.t, .int .i64 x.m, .slice da x.ds.length dc]) := rfl
  rw [HFV.out, HXV.out]
  obtain ⟨w1, E1, HB1, s1, X1⟩ := box_ex w #[.string f.n, .int .i64 f.k, .int .i64 f.a, .int .i64 f.x, .int .i64 f.y, .int .i64 f.z, .int .i64 f.l, .int .i64 f.h, .slice fo fn fc] 28
  obtain ⟨w2, E2, HB2, s2, X2⟩ := box_ex w1 #[.int .i64 x.k, .bool x.d, .int .i64 x.t, .int .i64 x.m, .slice da x.ds.length dc] 31
  have BW0 : Hid (Below w.heap.size w w2) := HB1.out.trans (HB2.out.mono (Nat.le_of_lt s1))
  have HX1 := Lib.hid ((HB2.out.block _ s1).trans X1.out)
  have HX2 := X2
  clear hfn X1 X2
  have p0 := cell_at HX1.out (j := 0) (v := .string f.n) rfl
  have p1 := cell_at HX1.out (j := 1) (v := .int .i64 f.k) rfl
  have p2 := cell_at HX1.out (j := 2) (v := .int .i64 f.a) rfl
  have p3 := cell_at HX1.out (j := 3) (v := .int .i64 f.x) rfl
  have p4 := cell_at HX1.out (j := 4) (v := .int .i64 f.y) rfl
  have p5 := cell_at HX1.out (j := 5) (v := .int .i64 f.z) rfl
  have p6 := cell_at HX1.out (j := 6) (v := .int .i64 f.l) rfl
  have p7 := cell_at HX1.out (j := 7) (v := .int .i64 f.h) rfl
  have p8 := cell_at HX1.out (j := 8) (v := .slice fo fn fc) rfl
  have o0 := cell_at HX2.out (j := 0) (v := .int .i64 x.k) rfl
  have o1 := cell_at HX2.out (j := 1) (v := .bool x.d) rfl
  have o2 := cell_at HX2.out (j := 2) (v := .int .i64 x.t) rfl
  have o3 := cell_at HX2.out (j := 3) (v := .int .i64 x.m) rfl
  have o4 := cell_at HX2.out (j := 4) (v := .slice da x.ds.length dc) rfl
  go_enter Tryz.func4, Tryz.ntmps4
  obtain ⟨FB, hFB⟩ : ∃ b, fewB f = b := ⟨_, rfl⟩
  have HFB := Lib.hid hFB
  obtain ⟨FX, hFX⟩ : ∃ b, fewF x = b := ⟨_, rfl⟩
  have HFX := Lib.hid hFX
  clear hFB hFX
  go_wp2_with (first | rw [E1] | rw [E2])
  rw [← HFV.out]
  refine few18_any f fo fc _ _ (HOF.out.below BW0.out) fun W1 hb => ?_
  rw [HFB.out]
  have BW1 : Hid (Below w.heap.size w W1) := BW0.out.trans (hb.mono BW0.out.size)
  have HX11 := Lib.hid ((hb.block _ (lt_of_block HX1.out)).trans HX1.out)
  have HX21 := Lib.hid ((hb.block _ (lt_of_block HX2.out)).trans HX2.out)
  clear hb p0 p1 p2 p3 p4 p5 p6 p7 p8 o0 o1 o2 o3 o4
  clear E1 E2
  have p0 := cell_at HX11.out (j := 0) (v := .string f.n) rfl
  have p1 := cell_at HX11.out (j := 1) (v := .int .i64 f.k) rfl
  have p2 := cell_at HX11.out (j := 2) (v := .int .i64 f.a) rfl
  have p3 := cell_at HX11.out (j := 3) (v := .int .i64 f.x) rfl
  have p4 := cell_at HX11.out (j := 4) (v := .int .i64 f.y) rfl
  have p5 := cell_at HX11.out (j := 5) (v := .int .i64 f.z) rfl
  have p6 := cell_at HX11.out (j := 6) (v := .int .i64 f.l) rfl
  have p7 := cell_at HX11.out (j := 7) (v := .int .i64 f.h) rfl
  have p8 := cell_at HX11.out (j := 8) (v := .slice fo fn fc) rfl
  have o0 := cell_at HX21.out (j := 0) (v := .int .i64 x.k) rfl
  have o1 := cell_at HX21.out (j := 1) (v := .bool x.d) rfl
  have o2 := cell_at HX21.out (j := 2) (v := .int .i64 x.t) rfl
  have o3 := cell_at HX21.out (j := 3) (v := .int .i64 x.m) rfl
  have o4 := cell_at HX21.out (j := 4) (v := .slice da x.ds.length dc) rfl
  cases FB with
  | false =>
    go_wp2_with fail
    refine awake19_any _ _ (HEV.out.below BW1.out) fun WZ hb => ?_
    have BZ : Hid (Below w.heap.size w WZ) := BW1.out.trans (hb.mono BW1.out.size)
    clear hb p0 p1 p2 p3 p4 p5 p6 p7 p8 o0 o1 o2 o3 o4
    go_wp2_with fail
    exact HR.out _ BZ.out
  | true =>
    go_wp2_with fail
    rw [← HXV.out]
    refine few19_any x da dc _ _ (HOX.out.below BW1.out) fun W2 hb => ?_
    rw [HFX.out]
    have BW2 : Hid (Below w.heap.size w W2) := BW1.out.trans (hb.mono BW1.out.size)
    have HX12 := Lib.hid ((hb.block _ (lt_of_block HX11.out)).trans HX11.out)
    have HX22 := Lib.hid ((hb.block _ (lt_of_block HX21.out)).trans HX21.out)
    clear hb p0 p1 p2 p3 p4 p5 p6 p7 p8 o0 o1 o2 o3 o4
    have p0 := cell_at HX12.out (j := 0) (v := .string f.n) rfl
    have p1 := cell_at HX12.out (j := 1) (v := .int .i64 f.k) rfl
    have p2 := cell_at HX12.out (j := 2) (v := .int .i64 f.a) rfl
    have p3 := cell_at HX12.out (j := 3) (v := .int .i64 f.x) rfl
    have p4 := cell_at HX12.out (j := 4) (v := .int .i64 f.y) rfl
    have p5 := cell_at HX12.out (j := 5) (v := .int .i64 f.z) rfl
    have p6 := cell_at HX12.out (j := 6) (v := .int .i64 f.l) rfl
    have p7 := cell_at HX12.out (j := 7) (v := .int .i64 f.h) rfl
    have p8 := cell_at HX12.out (j := 8) (v := .slice fo fn fc) rfl
    have o0 := cell_at HX22.out (j := 0) (v := .int .i64 x.k) rfl
    have o1 := cell_at HX22.out (j := 1) (v := .bool x.d) rfl
    have o2 := cell_at HX22.out (j := 2) (v := .int .i64 x.t) rfl
    have o3 := cell_at HX22.out (j := 3) (v := .int .i64 x.m) rfl
    have o4 := cell_at HX22.out (j := 4) (v := .slice da x.ds.length dc) rfl
    cases FX with
    | false =>
      go_wp2_with fail
      refine awake19_any _ _ (HEV.out.below BW2.out) fun WZ hb => ?_
      have BZ : Hid (Below w.heap.size w WZ) := BW2.out.trans (hb.mono BW2.out.size)
      clear hb p0 p1 p2 p3 p4 p5 p6 p7 p8 o0 o1 o2 o3 o4
      go_wp2_with fail
      exact HR.out _ BZ.out
    | true =>
      obtain ⟨V1, V2, hV⟩ : ∃ a b, viX f x = (a, b) := ⟨_, _, rfl⟩
      have HV := Lib.hid hV
      obtain ⟨C1, C2, hC⟩ : ∃ a b, boX f x s = (a, b) := ⟨_, _, rfl⟩
      have HC := Lib.hid hC
      clear hV hC
      go_wp2_with fail
      rw [← HFV.out, ← HXV.out]
      refine virtual_any f fo fc x da dc _ _ (HOF.out.below BW2.out) (HOX.out.below BW2.out) fun W3 hb => ?_
      rw [HV.out]
      have BW3 : Hid (Below w.heap.size w W3) := BW2.out.trans (hb.mono BW2.out.size)
      have HX13 := Lib.hid ((hb.block _ (lt_of_block HX12.out)).trans HX12.out)
      have HX23 := Lib.hid ((hb.block _ (lt_of_block HX22.out)).trans HX22.out)
      clear hb p0 p1 p2 p3 p4 p5 p6 p7 p8 o0 o1 o2 o3 o4
      have p0 := cell_at HX13.out (j := 0) (v := .string f.n) rfl
      have p1 := cell_at HX13.out (j := 1) (v := .int .i64 f.k) rfl
      have p2 := cell_at HX13.out (j := 2) (v := .int .i64 f.a) rfl
      have p3 := cell_at HX13.out (j := 3) (v := .int .i64 f.x) rfl
      have p4 := cell_at HX13.out (j := 4) (v := .int .i64 f.y) rfl
      have p5 := cell_at HX13.out (j := 5) (v := .int .i64 f.z) rfl
      have p6 := cell_at HX13.out (j := 6) (v := .int .i64 f.l) rfl
      have p7 := cell_at HX13.out (j := 7) (v := .int .i64 f.h) rfl
      have p8 := cell_at HX13.out (j := 8) (v := .slice fo fn fc) rfl
      have o0 := cell_at HX23.out (j := 0) (v := .int .i64 x.k) rfl
      have o1 := cell_at HX23.out (j := 1) (v := .bool x.d) rfl
      have o2 := cell_at HX23.out (j := 2) (v := .int .i64 x.t) rfl
      have o3 := cell_at HX23.out (j := 3) (v := .int .i64 x.m) rfl
      have o4 := cell_at HX23.out (j := 4) (v := .slice da x.ds.length dc) rfl
      go_wp2_with fail
      rw [← HFV.out, ← HXV.out]
      refine rvirtual_any f fo fc x da dc _ _ (HOF.out.below BW3.out) (HOX.out.below BW3.out) fun W4 hb => ?_
      rw [HV.out]
      have BW4 : Hid (Below w.heap.size w W4) := BW3.out.trans (hb.mono BW3.out.size)
      have HX14 := Lib.hid ((hb.block _ (lt_of_block HX13.out)).trans HX13.out)
      have HX24 := Lib.hid ((hb.block _ (lt_of_block HX23.out)).trans HX23.out)
      clear hb p0 p1 p2 p3 p4 p5 p6 p7 p8 o0 o1 o2 o3 o4
      have p0 := cell_at HX14.out (j := 0) (v := .string f.n) rfl
      have p1 := cell_at HX14.out (j := 1) (v := .int .i64 f.k) rfl
      have p2 := cell_at HX14.out (j := 2) (v := .int .i64 f.a) rfl
      have p3 := cell_at HX14.out (j := 3) (v := .int .i64 f.x) rfl
      have p4 := cell_at HX14.out (j := 4) (v := .int .i64 f.y) rfl
      have p5 := cell_at HX14.out (j := 5) (v := .int .i64 f.z) rfl
      have p6 := cell_at HX14.out (j := 6) (v := .int .i64 f.l) rfl
      have p7 := cell_at HX14.out (j := 7) (v := .int .i64 f.h) rfl
      have p8 := cell_at HX14.out (j := 8) (v := .slice fo fn fc) rfl
      have o0 := cell_at HX24.out (j := 0) (v := .int .i64 x.k) rfl
      have o1 := cell_at HX24.out (j := 1) (v := .bool x.d) rfl
      have o2 := cell_at HX24.out (j := 2) (v := .int .i64 x.t) rfl
      have o3 := cell_at HX24.out (j := 3) (v := .int .i64 x.m) rfl
      have o4 := cell_at HX24.out (j := 4) (v := .slice da x.ds.length dc) rfl
      go_wp2_with fail
      rw [← HFV.out, ← HXV.out]
      refine bonus_any f fo fc x da dc s _ _ (HOF.out.below BW4.out) (HOX.out.below BW4.out) fun W5 hb => ?_
      rw [HC.out]
      have BW5 : Hid (Below w.heap.size w W5) := BW4.out.trans (hb.mono BW4.out.size)
      have HX15 := Lib.hid ((hb.block _ (lt_of_block HX14.out)).trans HX14.out)
      have HX25 := Lib.hid ((hb.block _ (lt_of_block HX24.out)).trans HX24.out)
      clear hb p0 p1 p2 p3 p4 p5 p6 p7 p8 o0 o1 o2 o3 o4
      have p0 := cell_at HX15.out (j := 0) (v := .string f.n) rfl
      have p1 := cell_at HX15.out (j := 1) (v := .int .i64 f.k) rfl
      have p2 := cell_at HX15.out (j := 2) (v := .int .i64 f.a) rfl
      have p3 := cell_at HX15.out (j := 3) (v := .int .i64 f.x) rfl
      have p4 := cell_at HX15.out (j := 4) (v := .int .i64 f.y) rfl
      have p5 := cell_at HX15.out (j := 5) (v := .int .i64 f.z) rfl
      have p6 := cell_at HX15.out (j := 6) (v := .int .i64 f.l) rfl
      have p7 := cell_at HX15.out (j := 7) (v := .int .i64 f.h) rfl
      have p8 := cell_at HX15.out (j := 8) (v := .slice fo fn fc) rfl
      have o0 := cell_at HX25.out (j := 0) (v := .int .i64 x.k) rfl
      have o1 := cell_at HX25.out (j := 1) (v := .bool x.d) rfl
      have o2 := cell_at HX25.out (j := 2) (v := .int .i64 x.t) rfl
      have o3 := cell_at HX25.out (j := 3) (v := .int .i64 x.m) rfl
      have o4 := cell_at HX25.out (j := 4) (v := .slice da x.ds.length dc) rfl
      go_wp2_with fail
      rw [← HFV.out, ← HXV.out]
      refine rbonus_any f fo fc x da dc s _ _ (HOF.out.below BW5.out) (HOX.out.below BW5.out) fun W6 hb => ?_
      rw [HC.out]
      have BW6 : Hid (Below w.heap.size w W6) := BW5.out.trans (hb.mono BW5.out.size)
      have HX16 := Lib.hid ((hb.block _ (lt_of_block HX15.out)).trans HX15.out)
      have HX26 := Lib.hid ((hb.block _ (lt_of_block HX25.out)).trans HX25.out)
      clear hb p0 p1 p2 p3 p4 p5 p6 p7 p8 o0 o1 o2 o3 o4
      have p0 := cell_at HX16.out (j := 0) (v := .string f.n) rfl
      have p1 := cell_at HX16.out (j := 1) (v := .int .i64 f.k) rfl
      have p2 := cell_at HX16.out (j := 2) (v := .int .i64 f.a) rfl
      have p3 := cell_at HX16.out (j := 3) (v := .int .i64 f.x) rfl
      have p4 := cell_at HX16.out (j := 4) (v := .int .i64 f.y) rfl
      have p5 := cell_at HX16.out (j := 5) (v := .int .i64 f.z) rfl
      have p6 := cell_at HX16.out (j := 6) (v := .int .i64 f.l) rfl
      have p7 := cell_at HX16.out (j := 7) (v := .int .i64 f.h) rfl
      have p8 := cell_at HX16.out (j := 8) (v := .slice fo fn fc) rfl
      have o0 := cell_at HX26.out (j := 0) (v := .int .i64 x.k) rfl
      have o1 := cell_at HX26.out (j := 1) (v := .bool x.d) rfl
      have o2 := cell_at HX26.out (j := 2) (v := .int .i64 x.t) rfl
      have o3 := cell_at HX26.out (j := 3) (v := .int .i64 x.m) rfl
      have o4 := cell_at HX26.out (j := 4) (v := .slice da x.ds.length dc) rfl
      go_wp2_with fail
      refine awake19_any _ _ (HEV.out.below BW6.out) fun WZ hb => ?_
      have BZ : Hid (Below w.heap.size w WZ) := BW6.out.trans (hb.mono BW6.out.size)
      clear hb p0 p1 p2 p3 p4 p5 p6 p7 p8 o0 o1 o2 o3 o4
      go_wp2_with fail
      exact HR.out _ BZ.out
theorem mtB_of {f : Ft} {x : Fm} (h : x.m = 1 ∨ x.m = 2) : mtB f x = (hoB f.k == (x.m == 1)) := by
  unfold mtB
  rcases h with h | h
  · rw [if_neg (by omega), h]
    cases hoB f.k <;> rfl
  · rw [if_pos h, h]
    cases hoB f.k <;> rfl
set_option maxRecDepth 100000 in
set_option maxHeartbeats 16000000 in
theorem lawFrameBonuses (f : Ft) (fo : Option Addr) (fc : Nat) (x : Fm) (da : Option Addr) (dc : Nat) (at_ : Int) (w : World) (R : Ending → World → Prop) (hok : FtOk w f fo fc) (hox : FmOk w x da dc) (hE : Env w) (ha : 0 ≤ at_ ∧ at_ ≤ 65535)
   (hR : ∀ w', Below w.heap.size w w' → R (.returned (.bool true)) w') :
    Calls Tryz.prog 5 #[ftV f fo fc, fmV x da dc, .int .u16 at_] w R := by
  have HR := Lib.hid hR
  have HOF := Lib.hid hok
  have HOX := Lib.hid hox
  have HEV := Lib.hid hE
  clear hR hok hox hE
  obtain ⟨fn, hfn⟩ : ∃ fn, f.fs.length = fn := ⟨_, rfl⟩
  have HFV : Hid (ftV f fo fc = .agg #[.string f.n, .int .i64 f.k, .int .i64 f.a, .int .i64 f.x, .int .i64 f.y, .int .i64 f.z, .int .i64 f.l, .int .i64 f.h, .slice fo fn fc]) := by unfold Hid ftV; rw [hfn]
  have HXV : Hid (fmV x da dc = .agg #[.int .i64 x.k, .bool x.d, .int .i64 x.t, .int .i64 x.m, .slice da x.ds.length dc]) := rfl
  rw [HFV.out, HXV.out]
  obtain ⟨w1, E1, HB1, s1, X1⟩ := box_ex w #[.string f.n, .int .i64 f.k, .int .i64 f.a, .int .i64 f.x, .int .i64 f.y, .int .i64 f.z, .int .i64 f.l, .int .i64 f.h, .slice fo fn fc] 28
  obtain ⟨w2, E2, HB2, s2, X2⟩ := box_ex w1 #[.int .i64 x.k, .bool x.d, .int .i64 x.t, .int .i64 x.m, .slice da x.ds.length dc] 31
  have BW0 : Hid (Below w.heap.size w w2) := HB1.out.trans (HB2.out.mono (Nat.le_of_lt s1))
  have HX1 := Lib.hid ((HB2.out.block _ s1).trans X1.out)
  have HX2 := X2
  clear hfn X1 X2
  have p0 := cell_at HX1.out (j := 0) (v := .string f.n) rfl
  have p1 := cell_at HX1.out (j := 1) (v := .int .i64 f.k) rfl
  have p2 := cell_at HX1.out (j := 2) (v := .int .i64 f.a) rfl
  have p3 := cell_at HX1.out (j := 3) (v := .int .i64 f.x) rfl
  have p4 := cell_at HX1.out (j := 4) (v := .int .i64 f.y) rfl
  have p5 := cell_at HX1.out (j := 5) (v := .int .i64 f.z) rfl
  have p6 := cell_at HX1.out (j := 6) (v := .int .i64 f.l) rfl
  have p7 := cell_at HX1.out (j := 7) (v := .int .i64 f.h) rfl
  have p8 := cell_at HX1.out (j := 8) (v := .slice fo fn fc) rfl
  have o0 := cell_at HX2.out (j := 0) (v := .int .i64 x.k) rfl
  have o1 := cell_at HX2.out (j := 1) (v := .bool x.d) rfl
  have o2 := cell_at HX2.out (j := 2) (v := .int .i64 x.t) rfl
  have o3 := cell_at HX2.out (j := 3) (v := .int .i64 x.m) rfl
  have o4 := cell_at HX2.out (j := 4) (v := .slice da x.ds.length dc) rfl
  go_enter Tryz.func5, Tryz.ntmps5
  obtain ⟨FB, hFB⟩ : ∃ b, fewB f = b := ⟨_, rfl⟩
  have HFB := Lib.hid hFB
  obtain ⟨FX, hFX⟩ : ∃ b, fewF x = b := ⟨_, rfl⟩
  have HFX := Lib.hid hFX
  clear hFB hFX
  go_wp2_with (first | rw [E1] | rw [E2])
  rw [← HFV.out]
  refine few18_any f fo fc _ _ (HOF.out.below BW0.out) fun W1 hb => ?_
  rw [HFB.out]
  have BW1 : Hid (Below w.heap.size w W1) := BW0.out.trans (hb.mono BW0.out.size)
  have HX11 := Lib.hid ((hb.block _ (lt_of_block HX1.out)).trans HX1.out)
  have HX21 := Lib.hid ((hb.block _ (lt_of_block HX2.out)).trans HX2.out)
  clear hb p0 p1 p2 p3 p4 p5 p6 p7 p8 o0 o1 o2 o3 o4
  clear E1 E2
  have p0 := cell_at HX11.out (j := 0) (v := .string f.n) rfl
  have p1 := cell_at HX11.out (j := 1) (v := .int .i64 f.k) rfl
  have p2 := cell_at HX11.out (j := 2) (v := .int .i64 f.a) rfl
  have p3 := cell_at HX11.out (j := 3) (v := .int .i64 f.x) rfl
  have p4 := cell_at HX11.out (j := 4) (v := .int .i64 f.y) rfl
  have p5 := cell_at HX11.out (j := 5) (v := .int .i64 f.z) rfl
  have p6 := cell_at HX11.out (j := 6) (v := .int .i64 f.l) rfl
  have p7 := cell_at HX11.out (j := 7) (v := .int .i64 f.h) rfl
  have p8 := cell_at HX11.out (j := 8) (v := .slice fo fn fc) rfl
  have o0 := cell_at HX21.out (j := 0) (v := .int .i64 x.k) rfl
  have o1 := cell_at HX21.out (j := 1) (v := .bool x.d) rfl
  have o2 := cell_at HX21.out (j := 2) (v := .int .i64 x.t) rfl
  have o3 := cell_at HX21.out (j := 3) (v := .int .i64 x.m) rfl
  have o4 := cell_at HX21.out (j := 4) (v := .slice da x.ds.length dc) rfl
  cases FB with
  | false =>
    go_wp2_with fail
    refine awake19_any _ _ (HEV.out.below BW1.out) fun WZ hb => ?_
    have BZ : Hid (Below w.heap.size w WZ) := BW1.out.trans (hb.mono BW1.out.size)
    clear hb p0 p1 p2 p3 p4 p5 p6 p7 p8 o0 o1 o2 o3 o4
    go_wp2_with fail
    exact HR.out _ BZ.out
  | true =>
    go_wp2_with fail
    rw [← HXV.out]
    refine few19_any x da dc _ _ (HOX.out.below BW1.out) fun W2 hb => ?_
    rw [HFX.out]
    have BW2 : Hid (Below w.heap.size w W2) := BW1.out.trans (hb.mono BW1.out.size)
    have HX12 := Lib.hid ((hb.block _ (lt_of_block HX11.out)).trans HX11.out)
    have HX22 := Lib.hid ((hb.block _ (lt_of_block HX21.out)).trans HX21.out)
    clear hb p0 p1 p2 p3 p4 p5 p6 p7 p8 o0 o1 o2 o3 o4
    have p0 := cell_at HX12.out (j := 0) (v := .string f.n) rfl
    have p1 := cell_at HX12.out (j := 1) (v := .int .i64 f.k) rfl
    have p2 := cell_at HX12.out (j := 2) (v := .int .i64 f.a) rfl
    have p3 := cell_at HX12.out (j := 3) (v := .int .i64 f.x) rfl
    have p4 := cell_at HX12.out (j := 4) (v := .int .i64 f.y) rfl
    have p5 := cell_at HX12.out (j := 5) (v := .int .i64 f.z) rfl
    have p6 := cell_at HX12.out (j := 6) (v := .int .i64 f.l) rfl
    have p7 := cell_at HX12.out (j := 7) (v := .int .i64 f.h) rfl
    have p8 := cell_at HX12.out (j := 8) (v := .slice fo fn fc) rfl
    have o0 := cell_at HX22.out (j := 0) (v := .int .i64 x.k) rfl
    have o1 := cell_at HX22.out (j := 1) (v := .bool x.d) rfl
    have o2 := cell_at HX22.out (j := 2) (v := .int .i64 x.t) rfl
    have o3 := cell_at HX22.out (j := 3) (v := .int .i64 x.m) rfl
    have o4 := cell_at HX22.out (j := 4) (v := .slice da x.ds.length dc) rfl
    cases FX with
    | false =>
      go_wp2_with fail
      refine awake19_any _ _ (HEV.out.below BW2.out) fun WZ hb => ?_
      have BZ : Hid (Below w.heap.size w WZ) := BW2.out.trans (hb.mono BW2.out.size)
      clear hb p0 p1 p2 p3 p4 p5 p6 p7 p8 o0 o1 o2 o3 o4
      go_wp2_with fail
      exact HR.out _ BZ.out
    | true =>
      obtain ⟨E, hEE⟩ : ∃ E, fcE f x = E := ⟨_, rfl⟩
      have HEE := Lib.hid hEE
      clear hEE
      go_wp2_with fail
      rw [← HFV.out, ← HXV.out]
      refine rfcheck_any f fo fc x da dc _ _ (HOF.out.below BW2.out) (HOX.out.below BW2.out) fun W3 hb => ?_
      rw [HEE.out]
      have BW3 : Hid (Below w.heap.size w W3) := BW2.out.trans (hb.mono BW2.out.size)
      have HX13 := Lib.hid ((hb.block _ (lt_of_block HX12.out)).trans HX12.out)
      have HX23 := Lib.hid ((hb.block _ (lt_of_block HX22.out)).trans HX22.out)
      clear hb p0 p1 p2 p3 p4 p5 p6 p7 p8 o0 o1 o2 o3 o4
      have p0 := cell_at HX13.out (j := 0) (v := .string f.n) rfl
      have p1 := cell_at HX13.out (j := 1) (v := .int .i64 f.k) rfl
      have p2 := cell_at HX13.out (j := 2) (v := .int .i64 f.a) rfl
      have p3 := cell_at HX13.out (j := 3) (v := .int .i64 f.x) rfl
      have p4 := cell_at HX13.out (j := 4) (v := .int .i64 f.y) rfl
      have p5 := cell_at HX13.out (j := 5) (v := .int .i64 f.z) rfl
      have p6 := cell_at HX13.out (j := 6) (v := .int .i64 f.l) rfl
      have p7 := cell_at HX13.out (j := 7) (v := .int .i64 f.h) rfl
      have p8 := cell_at HX13.out (j := 8) (v := .slice fo fn fc) rfl
      have o0 := cell_at HX23.out (j := 0) (v := .int .i64 x.k) rfl
      have o1 := cell_at HX23.out (j := 1) (v := .bool x.d) rfl
      have o2 := cell_at HX23.out (j := 2) (v := .int .i64 x.t) rfl
      have o3 := cell_at HX23.out (j := 3) (v := .int .i64 x.m) rfl
      have o4 := cell_at HX23.out (j := 4) (v := .slice da x.ds.length dc) rfl
      by_cases e0 : E = 0
      · subst e0
        obtain ⟨g1, g2, g3⟩ := fcE_good HEE.out
        obtain ⟨t0, t1, gm⟩ := plE_good g2
        by_cases m0 : x.m = 0
        · have K : (x.m == 0) = true := by rw [m0]; rfl
          clear m0 gm g3
          go_wp2_with fail
          refine awake19_any _ _ (HEV.out.below BW3.out) fun WZ hb => ?_
          have BZ : Hid (Below w.heap.size w WZ) := BW3.out.trans (hb.mono BW3.out.size)
          clear hb p0 p1 p2 p3 p4 p5 p6 p7 p8 o0 o1 o2 o3 o4
          go_wp2_with fail
          exact HR.out _ BZ.out
        · have K : (x.m == 0) = false := by simpa using m0
          have hk := g3 m0
          obtain ⟨l1, l2, l3⟩ := ftE_lim g1 hk
          have GM : x.m = 1 ∨ x.m = 2 := by omega
          have hmt := mtB_of (f := f) GM
          obtain ⟨q, hq⟩ : ∃ q, (hoB f.k == (x.m == 1)) = q := ⟨_, rfl⟩
          rw [hq] at hmt
          obtain ⟨s, hs⟩ : ∃ s, f.l + at_ % (f.h - f.l + 1) = s := ⟨_, rfl⟩
          have hr0 : 0 ≤ at_ % (f.h - f.l + 1) := Int.emod_nonneg _ (by omega)
          have hr1 : at_ % (f.h - f.l + 1) < f.h - f.l + 1 := Int.emod_lt_of_pos _ (by omega)
          have hsl : f.l ≤ s := by omega
          have hsh : s ≤ f.h := by omega
          have hex := exX_of g1 hk (mtB f x)
          rw [hmt] at hex
          have HV : Hid (viX f x = (if q = true then f.l - x.t else f.h + x.t, 0)) := by
            unfold Hid viX
            rw [HEE.out, if_pos rfl, if_neg m0, hq, hmt, hex]
            cases q <;> rfl
          have HB : Hid (boX f x s = (if q = true then s - f.l else f.h - s, 0)) := by
            unfold Hid boX
            rw [HEE.out, if_pos rfl, if_neg hk, if_neg (by omega), if_neg m0, hmt, hex]
            cases q with
            | true => show (max (f.l - s) (s - f.l), (0 : Int)) = (s - f.l, 0); rw [Int.max_eq_right (by omega)]
            | false => show (max (f.h - s) (s - f.h), (0 : Int)) = (f.h - s, 0); rw [Int.max_eq_left (by omega)]
          obtain ⟨b, hb0⟩ : ∃ b, hoB f.k = b := ⟨_, rfl⟩
          rw [hb0] at hq
          have HI : Hid ((decide (ftE f = 0) && hoB f.k) = b) := by unfold Hid; rw [g1, hb0]; simp
          have HF0 := Lib.hid g1
          obtain ⟨mq, hmq⟩ : ∃ m, (x.m == 1) = m := ⟨_, rfl⟩
          rw [hmq] at hq
          have hcv : IntKind.i64.wrap at_ = at_ := by rw [IntKind.wrap_i64]; omega
          have hw1 : IntKind.i64.wrap (f.h - f.l) = f.h - f.l := by rw [IntKind.wrap_i64]; omega
          have hw2 : IntKind.i64.wrap (f.h - f.l + 1) = f.h - f.l + 1 := by rw [IntKind.wrap_i64]; omega
          have htm : at_.tmod (f.h - f.l + 1) = at_ % (f.h - f.l + 1) := Int.tmod_eq_emod_of_nonneg ha.1
          have hw3 : IntKind.i64.wrap (at_ % (f.h - f.l + 1)) = at_ % (f.h - f.l + 1) := by rw [IntKind.wrap_i64]; omega
          have hw4 : IntKind.i64.wrap (f.l + at_ % (f.h - f.l + 1)) = s := by rw [hs, IntKind.wrap_i64]; omega
          have hne : (f.h - f.l + 1 == 0) = false := by simpa using (by omega : ¬ f.h - f.l + 1 = 0)
          have GMq := Lib.hid hq
          have HMT := Lib.hid hmt
          clear m0 gm g3 hk hmt hq hex hb0 g1 g2 GM hr0 hr1
          go_wp2_with fail
          go_quiet (fail)
          obtain ⟨W4, hWq⟩ : ∃ v, W3.drewN nq = v := ⟨_, rfl⟩
          have BW4 : Hid (Below w.heap.size w W4) := by unfold Hid; rw [← hWq]; exact BW3.out.trans ⟨rfl, rfl, rfl, Nat.le_refl _, fun _ _ => rfl⟩
          have HX14 : Hid (W4.heap[w.heap.size]? = some (.cells #[.string f.n, .int .i64 f.k, .int .i64 f.a, .int .i64 f.x, .int .i64 f.y, .int .i64 f.z, .int .i64 f.l, .int .i64 f.h, .slice fo fn fc] 28 (0, 0))) := by unfold Hid; rw [← hWq]; exact HX13.out
          have HX24 : Hid (W4.heap[w1.heap.size]? = some (.cells #[.int .i64 x.k, .bool x.d, .int .i64 x.t, .int .i64 x.m, .slice da x.ds.length dc] 31 (0, 0))) := by unfold Hid; rw [← hWq]; exact HX23.out
          rw [hWq]
          clear hWq p0 p1 p2 p3 p4 p5 p6 p7 p8 o0 o1 o2 o3 o4 hcv hw2 htm hw3 hw4 hne hs ha
          have p0 := cell_at HX14.out (j := 0) (v := .string f.n) rfl
          have p1 := cell_at HX14.out (j := 1) (v := .int .i64 f.k) rfl
          have p2 := cell_at HX14.out (j := 2) (v := .int .i64 f.a) rfl
          have p3 := cell_at HX14.out (j := 3) (v := .int .i64 f.x) rfl
          have p4 := cell_at HX14.out (j := 4) (v := .int .i64 f.y) rfl
          have p5 := cell_at HX14.out (j := 5) (v := .int .i64 f.z) rfl
          have p6 := cell_at HX14.out (j := 6) (v := .int .i64 f.l) rfl
          have p7 := cell_at HX14.out (j := 7) (v := .int .i64 f.h) rfl
          have p8 := cell_at HX14.out (j := 8) (v := .slice fo fn fc) rfl
          have o0 := cell_at HX24.out (j := 0) (v := .int .i64 x.k) rfl
          have o1 := cell_at HX24.out (j := 1) (v := .bool x.d) rfl
          have o2 := cell_at HX24.out (j := 2) (v := .int .i64 x.t) rfl
          have o3 := cell_at HX24.out (j := 3) (v := .int .i64 x.m) rfl
          have o4 := cell_at HX24.out (j := 4) (v := .slice da x.ds.length dc) rfl
          cases b with
          | true =>
            cases mq with
            | true =>
              obtain rfl : q = true := GMq.out.symm
              have HV : Hid (viX f x = (f.l - x.t, 0)) := HV.out
              have HB : Hid (boX f x s = (s - f.l, 0)) := HB.out
              have c1 : (s - f.l < 0) = False := eq_false (by omega)
              have c2 : (f.h - f.l < s - f.l) = False := eq_false (by omega)
              have c3 : IntKind.i64.wrap (s - x.t) = s - x.t := by rw [IntKind.wrap_i64]; omega
              have c4 : IntKind.i64.wrap (s - x.t - (s - f.l)) = f.l - x.t := by rw [IntKind.wrap_i64]; omega
              have hha : (decide (f.l ≤ s) && decide (s ≤ f.h)) = true := by simp [hsl, hsh]
              have HHA := Lib.hid hha
              clear hha
              go_wp2_with fail
              rw [← HFV.out, ← HXV.out]
              refine virtual_any f fo fc x da dc _ _ (HOF.out.below BW4.out) (HOX.out.below BW4.out) fun W5 hb => ?_
              rw [HV.out]
              have BW5 : Hid (Below w.heap.size w W5) := BW4.out.trans (hb.mono BW4.out.size)
              have HX15 := Lib.hid ((hb.block _ (lt_of_block HX14.out)).trans HX14.out)
              have HX25 := Lib.hid ((hb.block _ (lt_of_block HX24.out)).trans HX24.out)
              clear hb p0 p1 p2 p3 p4 p5 p6 p7 p8 o0 o1 o2 o3 o4
              have p0 := cell_at HX15.out (j := 0) (v := .string f.n) rfl
              have p1 := cell_at HX15.out (j := 1) (v := .int .i64 f.k) rfl
              have p2 := cell_at HX15.out (j := 2) (v := .int .i64 f.a) rfl
              have p3 := cell_at HX15.out (j := 3) (v := .int .i64 f.x) rfl
              have p4 := cell_at HX15.out (j := 4) (v := .int .i64 f.y) rfl
              have p5 := cell_at HX15.out (j := 5) (v := .int .i64 f.z) rfl
              have p6 := cell_at HX15.out (j := 6) (v := .int .i64 f.l) rfl
              have p7 := cell_at HX15.out (j := 7) (v := .int .i64 f.h) rfl
              have p8 := cell_at HX15.out (j := 8) (v := .slice fo fn fc) rfl
              have o0 := cell_at HX25.out (j := 0) (v := .int .i64 x.k) rfl
              have o1 := cell_at HX25.out (j := 1) (v := .bool x.d) rfl
              have o2 := cell_at HX25.out (j := 2) (v := .int .i64 x.t) rfl
              have o3 := cell_at HX25.out (j := 3) (v := .int .i64 x.m) rfl
              have o4 := cell_at HX25.out (j := 4) (v := .slice da x.ds.length dc) rfl
              go_wp2_with fail
              rw [← HFV.out, ← HXV.out]
              refine bonus_any f fo fc x da dc s _ _ (HOF.out.below BW5.out) (HOX.out.below BW5.out) fun W6 hb => ?_
              rw [HB.out]
              have BW6 : Hid (Below w.heap.size w W6) := BW5.out.trans (hb.mono BW5.out.size)
              have HX16 := Lib.hid ((hb.block _ (lt_of_block HX15.out)).trans HX15.out)
              have HX26 := Lib.hid ((hb.block _ (lt_of_block HX25.out)).trans HX25.out)
              clear hb p0 p1 p2 p3 p4 p5 p6 p7 p8 o0 o1 o2 o3 o4
              have p0 := cell_at HX16.out (j := 0) (v := .string f.n) rfl
              have p1 := cell_at HX16.out (j := 1) (v := .int .i64 f.k) rfl
              have p2 := cell_at HX16.out (j := 2) (v := .int .i64 f.a) rfl
              have p3 := cell_at HX16.out (j := 3) (v := .int .i64 f.x) rfl
              have p4 := cell_at HX16.out (j := 4) (v := .int .i64 f.y) rfl
              have p5 := cell_at HX16.out (j := 5) (v := .int .i64 f.z) rfl
              have p6 := cell_at HX16.out (j := 6) (v := .int .i64 f.l) rfl
              have p7 := cell_at HX16.out (j := 7) (v := .int .i64 f.h) rfl
              have p8 := cell_at HX16.out (j := 8) (v := .slice fo fn fc) rfl
              have o0 := cell_at HX26.out (j := 0) (v := .int .i64 x.k) rfl
              have o1 := cell_at HX26.out (j := 1) (v := .bool x.d) rfl
              have o2 := cell_at HX26.out (j := 2) (v := .int .i64 x.t) rfl
              have o3 := cell_at HX26.out (j := 3) (v := .int .i64 x.m) rfl
              have o4 := cell_at HX26.out (j := 4) (v := .slice da x.ds.length dc) rfl
              go_wp2_with fail
              rw [← HFV.out]
              refine inner18_any f fo fc _ _ (HOF.out.below BW6.out) fun W7 hb => ?_
              rw [HI.out, HF0.out]
              have BW7 : Hid (Below w.heap.size w W7) := BW6.out.trans (hb.mono BW6.out.size)
              have HX17 := Lib.hid ((hb.block _ (lt_of_block HX16.out)).trans HX16.out)
              have HX27 := Lib.hid ((hb.block _ (lt_of_block HX26.out)).trans HX26.out)
              clear hb p0 p1 p2 p3 p4 p5 p6 p7 p8 o0 o1 o2 o3 o4
              have p0 := cell_at HX17.out (j := 0) (v := .string f.n) rfl
              have p1 := cell_at HX17.out (j := 1) (v := .int .i64 f.k) rfl
              have p2 := cell_at HX17.out (j := 2) (v := .int .i64 f.a) rfl
              have p3 := cell_at HX17.out (j := 3) (v := .int .i64 f.x) rfl
              have p4 := cell_at HX17.out (j := 4) (v := .int .i64 f.y) rfl
              have p5 := cell_at HX17.out (j := 5) (v := .int .i64 f.z) rfl
              have p6 := cell_at HX17.out (j := 6) (v := .int .i64 f.l) rfl
              have p7 := cell_at HX17.out (j := 7) (v := .int .i64 f.h) rfl
              have p8 := cell_at HX17.out (j := 8) (v := .slice fo fn fc) rfl
              have o0 := cell_at HX27.out (j := 0) (v := .int .i64 x.k) rfl
              have o1 := cell_at HX27.out (j := 1) (v := .bool x.d) rfl
              have o2 := cell_at HX27.out (j := 2) (v := .int .i64 x.t) rfl
              have o3 := cell_at HX27.out (j := 3) (v := .int .i64 x.m) rfl
              have o4 := cell_at HX27.out (j := 4) (v := .slice da x.ds.length dc) rfl
              go_wp2_with fail
              refine rhas17b_any f.l f.h s _ _  fun W8 hb => ?_
              rw [HHA.out]
              have BW8 : Hid (Below w.heap.size w W8) := BW7.out.trans (hb.mono BW7.out.size)
              have HX18 := Lib.hid ((hb.block _ (lt_of_block HX17.out)).trans HX17.out)
              have HX28 := Lib.hid ((hb.block _ (lt_of_block HX27.out)).trans HX27.out)
              clear hb p0 p1 p2 p3 p4 p5 p6 p7 p8 o0 o1 o2 o3 o4
              have p0 := cell_at HX18.out (j := 0) (v := .string f.n) rfl
              have p1 := cell_at HX18.out (j := 1) (v := .int .i64 f.k) rfl
              have p2 := cell_at HX18.out (j := 2) (v := .int .i64 f.a) rfl
              have p3 := cell_at HX18.out (j := 3) (v := .int .i64 f.x) rfl
              have p4 := cell_at HX18.out (j := 4) (v := .int .i64 f.y) rfl
              have p5 := cell_at HX18.out (j := 5) (v := .int .i64 f.z) rfl
              have p6 := cell_at HX18.out (j := 6) (v := .int .i64 f.l) rfl
              have p7 := cell_at HX18.out (j := 7) (v := .int .i64 f.h) rfl
              have p8 := cell_at HX18.out (j := 8) (v := .slice fo fn fc) rfl
              have o0 := cell_at HX28.out (j := 0) (v := .int .i64 x.k) rfl
              have o1 := cell_at HX28.out (j := 1) (v := .bool x.d) rfl
              have o2 := cell_at HX28.out (j := 2) (v := .int .i64 x.t) rfl
              have o3 := cell_at HX28.out (j := 3) (v := .int .i64 x.m) rfl
              have o4 := cell_at HX28.out (j := 4) (v := .slice da x.ds.length dc) rfl
              go_wp2_with fail
              refine awake19_any _ _ (HEV.out.below BW8.out) fun WZ hb => ?_
              have BZ : Hid (Below w.heap.size w WZ) := BW8.out.trans (hb.mono BW8.out.size)
              clear hb p0 p1 p2 p3 p4 p5 p6 p7 p8 o0 o1 o2 o3 o4
              go_wp2_with fail
              exact HR.out _ BZ.out
            | false =>
              obtain rfl : q = false := GMq.out.symm
              have HV : Hid (viX f x = (f.h + x.t, 0)) := HV.out
              have HB : Hid (boX f x s = (f.h - s, 0)) := HB.out
              have c1 : (f.h - s < 0) = False := eq_false (by omega)
              have c2 : (f.h - f.l < f.h - s) = False := eq_false (by omega)
              have c3 : IntKind.i64.wrap (s + x.t) = s + x.t := by rw [IntKind.wrap_i64]; omega
              have c4 : IntKind.i64.wrap (s + x.t + (f.h - s)) = f.h + x.t := by rw [IntKind.wrap_i64]; omega
              have hha : (decide (f.l ≤ s) && decide (s ≤ f.h)) = true := by simp [hsl, hsh]
              have HHA := Lib.hid hha
              clear hha
              go_wp2_with fail
              rw [← HFV.out, ← HXV.out]
              refine virtual_any f fo fc x da dc _ _ (HOF.out.below BW4.out) (HOX.out.below BW4.out) fun W5 hb => ?_
              rw [HV.out]
              have BW5 : Hid (Below w.heap.size w W5) := BW4.out.trans (hb.mono BW4.out.size)
              have HX15 := Lib.hid ((hb.block _ (lt_of_block HX14.out)).trans HX14.out)
              have HX25 := Lib.hid ((hb.block _ (lt_of_block HX24.out)).trans HX24.out)
              clear hb p0 p1 p2 p3 p4 p5 p6 p7 p8 o0 o1 o2 o3 o4
              have p0 := cell_at HX15.out (j := 0) (v := .string f.n) rfl
              have p1 := cell_at HX15.out (j := 1) (v := .int .i64 f.k) rfl
              have p2 := cell_at HX15.out (j := 2) (v := .int .i64 f.a) rfl
              have p3 := cell_at HX15.out (j := 3) (v := .int .i64 f.x) rfl
              have p4 := cell_at HX15.out (j := 4) (v := .int .i64 f.y) rfl
              have p5 := cell_at HX15.out (j := 5) (v := .int .i64 f.z) rfl
              have p6 := cell_at HX15.out (j := 6) (v := .int .i64 f.l) rfl
              have p7 := cell_at HX15.out (j := 7) (v := .int .i64 f.h) rfl
              have p8 := cell_at HX15.out (j := 8) (v := .slice fo fn fc) rfl
              have o0 := cell_at HX25.out (j := 0) (v := .int .i64 x.k) rfl
              have o1 := cell_at HX25.out (j := 1) (v := .bool x.d) rfl
              have o2 := cell_at HX25.out (j := 2) (v := .int .i64 x.t) rfl
              have o3 := cell_at HX25.out (j := 3) (v := .int .i64 x.m) rfl
              have o4 := cell_at HX25.out (j := 4) (v := .slice da x.ds.length dc) rfl
              go_wp2_with fail
              rw [← HFV.out, ← HXV.out]
              refine bonus_any f fo fc x da dc s _ _ (HOF.out.below BW5.out) (HOX.out.below BW5.out) fun W6 hb => ?_
              rw [HB.out]
              have BW6 : Hid (Below w.heap.size w W6) := BW5.out.trans (hb.mono BW5.out.size)
              have HX16 := Lib.hid ((hb.block _ (lt_of_block HX15.out)).trans HX15.out)
              have HX26 := Lib.hid ((hb.block _ (lt_of_block HX25.out)).trans HX25.out)
              clear hb p0 p1 p2 p3 p4 p5 p6 p7 p8 o0 o1 o2 o3 o4
              have p0 := cell_at HX16.out (j := 0) (v := .string f.n) rfl
              have p1 := cell_at HX16.out (j := 1) (v := .int .i64 f.k) rfl
              have p2 := cell_at HX16.out (j := 2) (v := .int .i64 f.a) rfl
              have p3 := cell_at HX16.out (j := 3) (v := .int .i64 f.x) rfl
              have p4 := cell_at HX16.out (j := 4) (v := .int .i64 f.y) rfl
              have p5 := cell_at HX16.out (j := 5) (v := .int .i64 f.z) rfl
              have p6 := cell_at HX16.out (j := 6) (v := .int .i64 f.l) rfl
              have p7 := cell_at HX16.out (j := 7) (v := .int .i64 f.h) rfl
              have p8 := cell_at HX16.out (j := 8) (v := .slice fo fn fc) rfl
              have o0 := cell_at HX26.out (j := 0) (v := .int .i64 x.k) rfl
              have o1 := cell_at HX26.out (j := 1) (v := .bool x.d) rfl
              have o2 := cell_at HX26.out (j := 2) (v := .int .i64 x.t) rfl
              have o3 := cell_at HX26.out (j := 3) (v := .int .i64 x.m) rfl
              have o4 := cell_at HX26.out (j := 4) (v := .slice da x.ds.length dc) rfl
              go_wp2_with fail
              rw [← HFV.out]
              refine inner18_any f fo fc _ _ (HOF.out.below BW6.out) fun W7 hb => ?_
              rw [HI.out, HF0.out]
              have BW7 : Hid (Below w.heap.size w W7) := BW6.out.trans (hb.mono BW6.out.size)
              have HX17 := Lib.hid ((hb.block _ (lt_of_block HX16.out)).trans HX16.out)
              have HX27 := Lib.hid ((hb.block _ (lt_of_block HX26.out)).trans HX26.out)
              clear hb p0 p1 p2 p3 p4 p5 p6 p7 p8 o0 o1 o2 o3 o4
              have p0 := cell_at HX17.out (j := 0) (v := .string f.n) rfl
              have p1 := cell_at HX17.out (j := 1) (v := .int .i64 f.k) rfl
              have p2 := cell_at HX17.out (j := 2) (v := .int .i64 f.a) rfl
              have p3 := cell_at HX17.out (j := 3) (v := .int .i64 f.x) rfl
              have p4 := cell_at HX17.out (j := 4) (v := .int .i64 f.y) rfl
              have p5 := cell_at HX17.out (j := 5) (v := .int .i64 f.z) rfl
              have p6 := cell_at HX17.out (j := 6) (v := .int .i64 f.l) rfl
              have p7 := cell_at HX17.out (j := 7) (v := .int .i64 f.h) rfl
              have p8 := cell_at HX17.out (j := 8) (v := .slice fo fn fc) rfl
              have o0 := cell_at HX27.out (j := 0) (v := .int .i64 x.k) rfl
              have o1 := cell_at HX27.out (j := 1) (v := .bool x.d) rfl
              have o2 := cell_at HX27.out (j := 2) (v := .int .i64 x.t) rfl
              have o3 := cell_at HX27.out (j := 3) (v := .int .i64 x.m) rfl
              have o4 := cell_at HX27.out (j := 4) (v := .slice da x.ds.length dc) rfl
              go_wp2_with fail
              refine rhas17b_any f.l f.h s _ _  fun W8 hb => ?_
              rw [HHA.out]
              have BW8 : Hid (Below w.heap.size w W8) := BW7.out.trans (hb.mono BW7.out.size)
              have HX18 := Lib.hid ((hb.block _ (lt_of_block HX17.out)).trans HX17.out)
              have HX28 := Lib.hid ((hb.block _ (lt_of_block HX27.out)).trans HX27.out)
              clear hb p0 p1 p2 p3 p4 p5 p6 p7 p8 o0 o1 o2 o3 o4
              have p0 := cell_at HX18.out (j := 0) (v := .string f.n) rfl
              have p1 := cell_at HX18.out (j := 1) (v := .int .i64 f.k) rfl
              have p2 := cell_at HX18.out (j := 2) (v := .int .i64 f.a) rfl
              have p3 := cell_at HX18.out (j := 3) (v := .int .i64 f.x) rfl
              have p4 := cell_at HX18.out (j := 4) (v := .int .i64 f.y) rfl
              have p5 := cell_at HX18.out (j := 5) (v := .int .i64 f.z) rfl
              have p6 := cell_at HX18.out (j := 6) (v := .int .i64 f.l) rfl
              have p7 := cell_at HX18.out (j := 7) (v := .int .i64 f.h) rfl
              have p8 := cell_at HX18.out (j := 8) (v := .slice fo fn fc) rfl
              have o0 := cell_at HX28.out (j := 0) (v := .int .i64 x.k) rfl
              have o1 := cell_at HX28.out (j := 1) (v := .bool x.d) rfl
              have o2 := cell_at HX28.out (j := 2) (v := .int .i64 x.t) rfl
              have o3 := cell_at HX28.out (j := 3) (v := .int .i64 x.m) rfl
              have o4 := cell_at HX28.out (j := 4) (v := .slice da x.ds.length dc) rfl
              go_wp2_with fail
              refine awake19_any _ _ (HEV.out.below BW8.out) fun WZ hb => ?_
              have BZ : Hid (Below w.heap.size w WZ) := BW8.out.trans (hb.mono BW8.out.size)
              clear hb p0 p1 p2 p3 p4 p5 p6 p7 p8 o0 o1 o2 o3 o4
              go_wp2_with fail
              exact HR.out _ BZ.out
          | false =>
            cases mq with
            | true =>
              obtain rfl : q = false := GMq.out.symm
              have HV : Hid (viX f x = (f.h + x.t, 0)) := HV.out
              have HB : Hid (boX f x s = (f.h - s, 0)) := HB.out
              have c1 : (f.h - s < 0) = False := eq_false (by omega)
              have c2 : (f.h - f.l < f.h - s) = False := eq_false (by omega)
              have c3 : IntKind.i64.wrap (s + x.t) = s + x.t := by rw [IntKind.wrap_i64]; omega
              have c4 : IntKind.i64.wrap (s + x.t + (f.h - s)) = f.h + x.t := by rw [IntKind.wrap_i64]; omega
              have hha : (decide (f.l ≤ s) && decide (s ≤ f.h)) = true := by simp [hsl, hsh]
              have HHA := Lib.hid hha
              clear hha
              go_wp2_with fail
              rw [← HFV.out, ← HXV.out]
              refine virtual_any f fo fc x da dc _ _ (HOF.out.below BW4.out) (HOX.out.below BW4.out) fun W5 hb => ?_
              rw [HV.out]
              have BW5 : Hid (Below w.heap.size w W5) := BW4.out.trans (hb.mono BW4.out.size)
              have HX15 := Lib.hid ((hb.block _ (lt_of_block HX14.out)).trans HX14.out)
              have HX25 := Lib.hid ((hb.block _ (lt_of_block HX24.out)).trans HX24.out)
              clear hb p0 p1 p2 p3 p4 p5 p6 p7 p8 o0 o1 o2 o3 o4
              have p0 := cell_at HX15.out (j := 0) (v := .string f.n) rfl
              have p1 := cell_at HX15.out (j := 1) (v := .int .i64 f.k) rfl
              have p2 := cell_at HX15.out (j := 2) (v := .int .i64 f.a) rfl
              have p3 := cell_at HX15.out (j := 3) (v := .int .i64 f.x) rfl
              have p4 := cell_at HX15.out (j := 4) (v := .int .i64 f.y) rfl
              have p5 := cell_at HX15.out (j := 5) (v := .int .i64 f.z) rfl
              have p6 := cell_at HX15.out (j := 6) (v := .int .i64 f.l) rfl
              have p7 := cell_at HX15.out (j := 7) (v := .int .i64 f.h) rfl
              have p8 := cell_at HX15.out (j := 8) (v := .slice fo fn fc) rfl
              have o0 := cell_at HX25.out (j := 0) (v := .int .i64 x.k) rfl
              have o1 := cell_at HX25.out (j := 1) (v := .bool x.d) rfl
              have o2 := cell_at HX25.out (j := 2) (v := .int .i64 x.t) rfl
              have o3 := cell_at HX25.out (j := 3) (v := .int .i64 x.m) rfl
              have o4 := cell_at HX25.out (j := 4) (v := .slice da x.ds.length dc) rfl
              go_wp2_with fail
              rw [← HFV.out, ← HXV.out]
              refine bonus_any f fo fc x da dc s _ _ (HOF.out.below BW5.out) (HOX.out.below BW5.out) fun W6 hb => ?_
              rw [HB.out]
              have BW6 : Hid (Below w.heap.size w W6) := BW5.out.trans (hb.mono BW5.out.size)
              have HX16 := Lib.hid ((hb.block _ (lt_of_block HX15.out)).trans HX15.out)
              have HX26 := Lib.hid ((hb.block _ (lt_of_block HX25.out)).trans HX25.out)
              clear hb p0 p1 p2 p3 p4 p5 p6 p7 p8 o0 o1 o2 o3 o4
              have p0 := cell_at HX16.out (j := 0) (v := .string f.n) rfl
              have p1 := cell_at HX16.out (j := 1) (v := .int .i64 f.k) rfl
              have p2 := cell_at HX16.out (j := 2) (v := .int .i64 f.a) rfl
              have p3 := cell_at HX16.out (j := 3) (v := .int .i64 f.x) rfl
              have p4 := cell_at HX16.out (j := 4) (v := .int .i64 f.y) rfl
              have p5 := cell_at HX16.out (j := 5) (v := .int .i64 f.z) rfl
              have p6 := cell_at HX16.out (j := 6) (v := .int .i64 f.l) rfl
              have p7 := cell_at HX16.out (j := 7) (v := .int .i64 f.h) rfl
              have p8 := cell_at HX16.out (j := 8) (v := .slice fo fn fc) rfl
              have o0 := cell_at HX26.out (j := 0) (v := .int .i64 x.k) rfl
              have o1 := cell_at HX26.out (j := 1) (v := .bool x.d) rfl
              have o2 := cell_at HX26.out (j := 2) (v := .int .i64 x.t) rfl
              have o3 := cell_at HX26.out (j := 3) (v := .int .i64 x.m) rfl
              have o4 := cell_at HX26.out (j := 4) (v := .slice da x.ds.length dc) rfl
              go_wp2_with fail
              rw [← HFV.out]
              refine inner18_any f fo fc _ _ (HOF.out.below BW6.out) fun W7 hb => ?_
              rw [HI.out, HF0.out]
              have BW7 : Hid (Below w.heap.size w W7) := BW6.out.trans (hb.mono BW6.out.size)
              have HX17 := Lib.hid ((hb.block _ (lt_of_block HX16.out)).trans HX16.out)
              have HX27 := Lib.hid ((hb.block _ (lt_of_block HX26.out)).trans HX26.out)
              clear hb p0 p1 p2 p3 p4 p5 p6 p7 p8 o0 o1 o2 o3 o4
              have p0 := cell_at HX17.out (j := 0) (v := .string f.n) rfl
              have p1 := cell_at HX17.out (j := 1) (v := .int .i64 f.k) rfl
              have p2 := cell_at HX17.out (j := 2) (v := .int .i64 f.a) rfl
              have p3 := cell_at HX17.out (j := 3) (v := .int .i64 f.x) rfl
              have p4 := cell_at HX17.out (j := 4) (v := .int .i64 f.y) rfl
              have p5 := cell_at HX17.out (j := 5) (v := .int .i64 f.z) rfl
              have p6 := cell_at HX17.out (j := 6) (v := .int .i64 f.l) rfl
              have p7 := cell_at HX17.out (j := 7) (v := .int .i64 f.h) rfl
              have p8 := cell_at HX17.out (j := 8) (v := .slice fo fn fc) rfl
              have o0 := cell_at HX27.out (j := 0) (v := .int .i64 x.k) rfl
              have o1 := cell_at HX27.out (j := 1) (v := .bool x.d) rfl
              have o2 := cell_at HX27.out (j := 2) (v := .int .i64 x.t) rfl
              have o3 := cell_at HX27.out (j := 3) (v := .int .i64 x.m) rfl
              have o4 := cell_at HX27.out (j := 4) (v := .slice da x.ds.length dc) rfl
              go_wp2_with fail
              refine rhas17b_any f.l f.h s _ _  fun W8 hb => ?_
              rw [HHA.out]
              have BW8 : Hid (Below w.heap.size w W8) := BW7.out.trans (hb.mono BW7.out.size)
              have HX18 := Lib.hid ((hb.block _ (lt_of_block HX17.out)).trans HX17.out)
              have HX28 := Lib.hid ((hb.block _ (lt_of_block HX27.out)).trans HX27.out)
              clear hb p0 p1 p2 p3 p4 p5 p6 p7 p8 o0 o1 o2 o3 o4
              have p0 := cell_at HX18.out (j := 0) (v := .string f.n) rfl
              have p1 := cell_at HX18.out (j := 1) (v := .int .i64 f.k) rfl
              have p2 := cell_at HX18.out (j := 2) (v := .int .i64 f.a) rfl
              have p3 := cell_at HX18.out (j := 3) (v := .int .i64 f.x) rfl
              have p4 := cell_at HX18.out (j := 4) (v := .int .i64 f.y) rfl
              have p5 := cell_at HX18.out (j := 5) (v := .int .i64 f.z) rfl
              have p6 := cell_at HX18.out (j := 6) (v := .int .i64 f.l) rfl
              have p7 := cell_at HX18.out (j := 7) (v := .int .i64 f.h) rfl
              have p8 := cell_at HX18.out (j := 8) (v := .slice fo fn fc) rfl
              have o0 := cell_at HX28.out (j := 0) (v := .int .i64 x.k) rfl
              have o1 := cell_at HX28.out (j := 1) (v := .bool x.d) rfl
              have o2 := cell_at HX28.out (j := 2) (v := .int .i64 x.t) rfl
              have o3 := cell_at HX28.out (j := 3) (v := .int .i64 x.m) rfl
              have o4 := cell_at HX28.out (j := 4) (v := .slice da x.ds.length dc) rfl
              go_wp2_with fail
              refine awake19_any _ _ (HEV.out.below BW8.out) fun WZ hb => ?_
              have BZ : Hid (Below w.heap.size w WZ) := BW8.out.trans (hb.mono BW8.out.size)
              clear hb p0 p1 p2 p3 p4 p5 p6 p7 p8 o0 o1 o2 o3 o4
              go_wp2_with fail
              exact HR.out _ BZ.out
            | false =>
              obtain rfl : q = true := GMq.out.symm
              have HV : Hid (viX f x = (f.l - x.t, 0)) := HV.out
              have HB : Hid (boX f x s = (s - f.l, 0)) := HB.out
              have c1 : (s - f.l < 0) = False := eq_false (by omega)
              have c2 : (f.h - f.l < s - f.l) = False := eq_false (by omega)
              have c3 : IntKind.i64.wrap (s - x.t) = s - x.t := by rw [IntKind.wrap_i64]; omega
              have c4 : IntKind.i64.wrap (s - x.t - (s - f.l)) = f.l - x.t := by rw [IntKind.wrap_i64]; omega
              have hha : (decide (f.l ≤ s) && decide (s ≤ f.h)) = true := by simp [hsl, hsh]
              have HHA := Lib.hid hha
              clear hha
              go_wp2_with fail
              rw [← HFV.out, ← HXV.out]
              refine virtual_any f fo fc x da dc _ _ (HOF.out.below BW4.out) (HOX.out.below BW4.out) fun W5 hb => ?_
              rw [HV.out]
              have BW5 : Hid (Below w.heap.size w W5) := BW4.out.trans (hb.mono BW4.out.size)
              have HX15 := Lib.hid ((hb.block _ (lt_of_block HX14.out)).trans HX14.out)
              have HX25 := Lib.hid ((hb.block _ (lt_of_block HX24.out)).trans HX24.out)
              clear hb p0 p1 p2 p3 p4 p5 p6 p7 p8 o0 o1 o2 o3 o4
              have p0 := cell_at HX15.out (j := 0) (v := .string f.n) rfl
              have p1 := cell_at HX15.out (j := 1) (v := .int .i64 f.k) rfl
              have p2 := cell_at HX15.out (j := 2) (v := .int .i64 f.a) rfl
              have p3 := cell_at HX15.out (j := 3) (v := .int .i64 f.x) rfl
              have p4 := cell_at HX15.out (j := 4) (v := .int .i64 f.y) rfl
              have p5 := cell_at HX15.out (j := 5) (v := .int .i64 f.z) rfl
              have p6 := cell_at HX15.out (j := 6) (v := .int .i64 f.l) rfl
              have p7 := cell_at HX15.out (j := 7) (v := .int .i64 f.h) rfl
              have p8 := cell_at HX15.out (j := 8) (v := .slice fo fn fc) rfl
              have o0 := cell_at HX25.out (j := 0) (v := .int .i64 x.k) rfl
              have o1 := cell_at HX25.out (j := 1) (v := .bool x.d) rfl
              have o2 := cell_at HX25.out (j := 2) (v := .int .i64 x.t) rfl
              have o3 := cell_at HX25.out (j := 3) (v := .int .i64 x.m) rfl
              have o4 := cell_at HX25.out (j := 4) (v := .slice da x.ds.length dc) rfl
              go_wp2_with fail
              rw [← HFV.out, ← HXV.out]
              refine bonus_any f fo fc x da dc s _ _ (HOF.out.below BW5.out) (HOX.out.below BW5.out) fun W6 hb => ?_
              rw [HB.out]
              have BW6 : Hid (Below w.heap.size w W6) := BW5.out.trans (hb.mono BW5.out.size)
              have HX16 := Lib.hid ((hb.block _ (lt_of_block HX15.out)).trans HX15.out)
              have HX26 := Lib.hid ((hb.block _ (lt_of_block HX25.out)).trans HX25.out)
              clear hb p0 p1 p2 p3 p4 p5 p6 p7 p8 o0 o1 o2 o3 o4
              have p0 := cell_at HX16.out (j := 0) (v := .string f.n) rfl
              have p1 := cell_at HX16.out (j := 1) (v := .int .i64 f.k) rfl
              have p2 := cell_at HX16.out (j := 2) (v := .int .i64 f.a) rfl
              have p3 := cell_at HX16.out (j := 3) (v := .int .i64 f.x) rfl
              have p4 := cell_at HX16.out (j := 4) (v := .int .i64 f.y) rfl
              have p5 := cell_at HX16.out (j := 5) (v := .int .i64 f.z) rfl
              have p6 := cell_at HX16.out (j := 6) (v := .int .i64 f.l) rfl
              have p7 := cell_at HX16.out (j := 7) (v := .int .i64 f.h) rfl
              have p8 := cell_at HX16.out (j := 8) (v := .slice fo fn fc) rfl
              have o0 := cell_at HX26.out (j := 0) (v := .int .i64 x.k) rfl
              have o1 := cell_at HX26.out (j := 1) (v := .bool x.d) rfl
              have o2 := cell_at HX26.out (j := 2) (v := .int .i64 x.t) rfl
              have o3 := cell_at HX26.out (j := 3) (v := .int .i64 x.m) rfl
              have o4 := cell_at HX26.out (j := 4) (v := .slice da x.ds.length dc) rfl
              go_wp2_with fail
              rw [← HFV.out]
              refine inner18_any f fo fc _ _ (HOF.out.below BW6.out) fun W7 hb => ?_
              rw [HI.out, HF0.out]
              have BW7 : Hid (Below w.heap.size w W7) := BW6.out.trans (hb.mono BW6.out.size)
              have HX17 := Lib.hid ((hb.block _ (lt_of_block HX16.out)).trans HX16.out)
              have HX27 := Lib.hid ((hb.block _ (lt_of_block HX26.out)).trans HX26.out)
              clear hb p0 p1 p2 p3 p4 p5 p6 p7 p8 o0 o1 o2 o3 o4
              have p0 := cell_at HX17.out (j := 0) (v := .string f.n) rfl
              have p1 := cell_at HX17.out (j := 1) (v := .int .i64 f.k) rfl
              have p2 := cell_at HX17.out (j := 2) (v := .int .i64 f.a) rfl
              have p3 := cell_at HX17.out (j := 3) (v := .int .i64 f.x) rfl
              have p4 := cell_at HX17.out (j := 4) (v := .int .i64 f.y) rfl
              have p5 := cell_at HX17.out (j := 5) (v := .int .i64 f.z) rfl
              have p6 := cell_at HX17.out (j := 6) (v := .int .i64 f.l) rfl
              have p7 := cell_at HX17.out (j := 7) (v := .int .i64 f.h) rfl
              have p8 := cell_at HX17.out (j := 8) (v := .slice fo fn fc) rfl
              have o0 := cell_at HX27.out (j := 0) (v := .int .i64 x.k) rfl
              have o1 := cell_at HX27.out (j := 1) (v := .bool x.d) rfl
              have o2 := cell_at HX27.out (j := 2) (v := .int .i64 x.t) rfl
              have o3 := cell_at HX27.out (j := 3) (v := .int .i64 x.m) rfl
              have o4 := cell_at HX27.out (j := 4) (v := .slice da x.ds.length dc) rfl
              go_wp2_with fail
              refine rhas17b_any f.l f.h s _ _  fun W8 hb => ?_
              rw [HHA.out]
              have BW8 : Hid (Below w.heap.size w W8) := BW7.out.trans (hb.mono BW7.out.size)
              have HX18 := Lib.hid ((hb.block _ (lt_of_block HX17.out)).trans HX17.out)
              have HX28 := Lib.hid ((hb.block _ (lt_of_block HX27.out)).trans HX27.out)
              clear hb p0 p1 p2 p3 p4 p5 p6 p7 p8 o0 o1 o2 o3 o4
              have p0 := cell_at HX18.out (j := 0) (v := .string f.n) rfl
              have p1 := cell_at HX18.out (j := 1) (v := .int .i64 f.k) rfl
              have p2 := cell_at HX18.out (j := 2) (v := .int .i64 f.a) rfl
              have p3 := cell_at HX18.out (j := 3) (v := .int .i64 f.x) rfl
              have p4 := cell_at HX18.out (j := 4) (v := .int .i64 f.y) rfl
              have p5 := cell_at HX18.out (j := 5) (v := .int .i64 f.z) rfl
              have p6 := cell_at HX18.out (j := 6) (v := .int .i64 f.l) rfl
              have p7 := cell_at HX18.out (j := 7) (v := .int .i64 f.h) rfl
              have p8 := cell_at HX18.out (j := 8) (v := .slice fo fn fc) rfl
              have o0 := cell_at HX28.out (j := 0) (v := .int .i64 x.k) rfl
              have o1 := cell_at HX28.out (j := 1) (v := .bool x.d) rfl
              have o2 := cell_at HX28.out (j := 2) (v := .int .i64 x.t) rfl
              have o3 := cell_at HX28.out (j := 3) (v := .int .i64 x.m) rfl
              have o4 := cell_at HX28.out (j := 4) (v := .slice da x.ds.length dc) rfl
              go_wp2_with fail
              refine awake19_any _ _ (HEV.out.below BW8.out) fun WZ hb => ?_
              have BZ : Hid (Below w.heap.size w WZ) := BW8.out.trans (hb.mono BW8.out.size)
              clear hb p0 p1 p2 p3 p4 p5 p6 p7 p8 o0 o1 o2 o3 o4
              go_wp2_with fail
              exact HR.out _ BZ.out
      · have K : (E != 0) = true := by simpa using e0
        clear e0
        go_wp2_with fail
        refine awake19_any _ _ (HEV.out.below BW3.out) fun WZ hb => ?_
        have BZ : Hid (Below w.heap.size w WZ) := BW3.out.trans (hb.mono BW3.out.size)
        clear hb p0 p1 p2 p3 p4 p5 p6 p7 p8 o0 o1 o2 o3 o4
        go_wp2_with fail
        exact HR.out _ BZ.out
end Go.Proofs.YtciokmjhdbcmpaaGreatDoor
