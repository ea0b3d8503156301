/- All and Datums return what the reference returns: the law FrameLists of layer 19. (Printed by gen_law19d.py.) -/
import Derived.Test.YtciokmjhdbcmpaaGreatDoorMfzo
namespace Go.Proofs.YtciokmjhdbcmpaaGreatDoor
open Go.RowKit

set_option maxRecDepth 100000 in
set_option maxHeartbeats 2000000 in
theorem equalS_same (ao ao2 : Option Addr) (ks : List ByteArray) (n c c2 : Nat) (w : World) (R : Ending → World → Prop) (hn : ks.length = n) (hn' : n ≤ 1000000) (hc : CellsAt w ao (sC ks)) (hc2 : CellsAt w ao2 (sC ks))
   (hR : ∀ w', Drew w w' → R (.returned (.bool true)) w') :
    Calls Tryz.prog 33 #[.slice ao n c, .slice ao2 n c2] w R := by
  subst hn
  have HR := Lib.hid hR
  have HC := Lib.hid hc
  have HC2 := Lib.hid hc2
  clear hR hc hc2
  go_enter Tryz.func33, Tryz.ntmps33
  go_wp2_with fail
  go_loopw [13] (fun j wr => ∃ k : Nat, k ≤ ks.length ∧ j = .int .i64 k ∧ Drew w wr) (fun j _ => ks.length - (intOf j).toNat)
  case atStart => exact ⟨0, Nat.zero_le _, rfl, Drew.refl _⟩
  case round =>
    obtain ⟨k, hk, rfl, ⟨q, rfl⟩⟩ := hrel
    by_cases hlt : k < ks.length
    · obtain ⟨b, o, rfl, _, hcell⟩ := HC.out.strs (by omega)
      have d0 := hcell k hlt
      clear hcell
      obtain ⟨b2, o2, rfl, _, hcell⟩ := HC2.out.strs (by omega)
      have d1 := hcell k hlt
      obtain ⟨u, hu⟩ : ∃ u, kat ks k = u := ⟨_, rfl⟩
      rw [hu] at d0 d1
      have hs1 : (u.toList == u.toList) = true := by simp
      clear hcell hu
      go_wp2_with fail
      go_quiet (fail)
      go_wp2_with fail
      exact ⟨⟨k + 1, by omega, by go_num, (by repeat first | exact Drew.refl _ | apply Drew.drewN)⟩, by simp [intOf]; omega⟩
    · go_wp2_with fail
      exact HR.out _ (by repeat first | exact Drew.refl _ | apply Drew.drewN)
theorem dmL_len (f : Ft) : (dmL f).length ≤ 24 := by
  unfold dmL
  split
  · rename_i h; exact Nat.le_trans (putsL_len _) (nmsF_few (alE_few h))
  · simp
set_option maxRecDepth 100000 in
set_option maxHeartbeats 16000000 in
theorem lawFrameLists (f : Ft) (fo : Option Addr) (fc : Nat) (w : World) (R : Ending → World → Prop) (hok : FtOk w f fo fc) (hE : Env w)
   (hR : ∀ w', Below w.heap.size w w' → R (.returned (.bool true)) w') :
    Calls Tryz.prog 8 #[ftV f fo fc] w R := by
  have HR := Lib.hid hR
  have HOF := Lib.hid hok
  have HEV := Lib.hid hE
  obtain ⟨fn, hfn⟩ : ∃ fn, f.fs.length = fn := ⟨_, rfl⟩
  have HFV : Hid (ftV f fo fc = .agg #[.string f.n, .int .i64 f.k, .int .i64 f.a, .int .i64 f.x, .int .i64 f.y, .int .i64 f.z, .int .i64 f.l, .int .i64 f.h, .slice fo fn fc]) := by unfold Hid ftV; rw [hfn]
  have HFN := Lib.hid hfn
  have HLF := Lib.hid (hfn ▸ hok.len)
  clear hfn
  rw [HFV.out]
  obtain ⟨w1, E1, HB1, s1, HX1⟩ := box_ex w #[.string f.n, .int .i64 f.k, .int .i64 f.a, .int .i64 f.x, .int .i64 f.y, .int .i64 f.z, .int .i64 f.l, .int .i64 f.h, .slice fo fn fc] 28
  clear hR hok hE
  have BW0 : Hid (Below w.heap.size w w1) := HB1
  obtain ⟨FB, hFB⟩ : ∃ b, fewB f = b := ⟨_, rfl⟩
  have HFB := Lib.hid hFB
  clear hFB
  obtain ⟨E, hEE⟩ : ∃ E, alE f = E := ⟨_, rfl⟩
  have HEE := Lib.hid hEE
  clear hEE
  have p0 := cell_at HX1.out (j := 0) (v := .string f.n) rfl
  have p1 := cell_at HX1.out (j := 1) (v := .int .i64 f.k) rfl
  have p2 := cell_at HX1.out (j := 2) (v := .int .i64 f.a) rfl
  have p3 := cell_at HX1.out (j := 3) (v := .int .i64 f.x) rfl
  have p4 := cell_at HX1.out (j := 4) (v := .int .i64 f.y) rfl
  have p5 := cell_at HX1.out (j := 5) (v := .int .i64 f.z) rfl
  have p6 := cell_at HX1.out (j := 6) (v := .int .i64 f.l) rfl
  have p7 := cell_at HX1.out (j := 7) (v := .int .i64 f.h) rfl
  have p8 := cell_at HX1.out (j := 8) (v := .slice fo fn fc) rfl
  go_enter Tryz.func8, Tryz.ntmps8
  obtain ⟨DL, hDL⟩ : ∃ l, dmL f = l := ⟨_, rfl⟩
  have hdl : DL.length ≤ 24 := by rw [← hDL]; exact dmL_len f
  have HDL := Lib.hid hDL
  obtain ⟨DN, hDN⟩ : ∃ n, DL.length = n := ⟨_, rfl⟩
  rw [hDN] at hdl
  have HDN := Lib.hid hDN
  clear hDL hDN
  go_wp2_with (rw [E1])
  rw [← HFV.out]
  refine few18_any f fo fc _ _ (HOF.out.below BW0.out) fun W1 hb => ?_
  rw [HFB.out]
  have BW1 : Hid (Below w.heap.size w W1) := BW0.out.trans (hb.mono BW0.out.size)
  have HX1_1 := Lib.hid ((hb.block _ (lt_of_block HX1.out)).trans HX1.out)
  clear hb p0 p1 p2 p3 p4 p5 p6 p7 p8
  have p0 := cell_at HX1_1.out (j := 0) (v := .string f.n) rfl
  have p1 := cell_at HX1_1.out (j := 1) (v := .int .i64 f.k) rfl
  have p2 := cell_at HX1_1.out (j := 2) (v := .int .i64 f.a) rfl
  have p3 := cell_at HX1_1.out (j := 3) (v := .int .i64 f.x) rfl
  have p4 := cell_at HX1_1.out (j := 4) (v := .int .i64 f.y) rfl
  have p5 := cell_at HX1_1.out (j := 5) (v := .int .i64 f.z) rfl
  have p6 := cell_at HX1_1.out (j := 6) (v := .int .i64 f.l) rfl
  have p7 := cell_at HX1_1.out (j := 7) (v := .int .i64 f.h) rfl
  have p8 := cell_at HX1_1.out (j := 8) (v := .slice fo fn fc) rfl
  clear E1
  cases FB with
  | false =>
    go_wp2_with fail
    refine awake19_any _ _ (HEV.out.below BW1.out) fun WZ hb => ?_
    have BZ : Hid (Below w.heap.size w WZ) := BW1.out.trans (hb.mono BW1.out.size)
    clear hb p0 p1 p2 p3 p4 p5 p6 p7 p8
    go_wp2_with fail
    exact HR.out _ BZ.out
  | true =>
    go_wp2_with fail
    rw [← HFV.out]
    refine fdatums_any f fo fc _ _ (HOF.out.below BW1.out) fun a1 c1 W2 hb hfm => ?_
    rw [HEE.out, HDL.out, HDN.out]
    rw [HDL.out] at hfm
    have HC1 := Lib.hid hfm
    clear hfm
    have BW2 : Hid (Below w.heap.size w W2) := BW1.out.trans (hb.mono BW1.out.size)
    have HX1_2 := Lib.hid ((hb.block _ (lt_of_block HX1_1.out)).trans HX1_1.out)
    clear hb p0 p1 p2 p3 p4 p5 p6 p7 p8
    have p0 := cell_at HX1_2.out (j := 0) (v := .string f.n) rfl
    have p1 := cell_at HX1_2.out (j := 1) (v := .int .i64 f.k) rfl
    have p2 := cell_at HX1_2.out (j := 2) (v := .int .i64 f.a) rfl
    have p3 := cell_at HX1_2.out (j := 3) (v := .int .i64 f.x) rfl
    have p4 := cell_at HX1_2.out (j := 4) (v := .int .i64 f.y) rfl
    have p5 := cell_at HX1_2.out (j := 5) (v := .int .i64 f.z) rfl
    have p6 := cell_at HX1_2.out (j := 6) (v := .int .i64 f.l) rfl
    have p7 := cell_at HX1_2.out (j := 7) (v := .int .i64 f.h) rfl
    have p8 := cell_at HX1_2.out (j := 8) (v := .slice fo fn fc) rfl
    go_wp2_with fail
    rw [← HFV.out]
    refine rdatums_any19 f fo fc _ _ (HOF.out.below BW2.out) fun a2 c2 W3 hb hfm => ?_
    rw [HEE.out, HDL.out, HDN.out]
    rw [HDL.out] at hfm
    have HC2 := Lib.hid hfm
    have HC1 := Lib.hid (HC1.out.below hb)
    clear hfm
    have BW3 : Hid (Below w.heap.size w W3) := BW2.out.trans (hb.mono BW2.out.size)
    have HX1_3 := Lib.hid ((hb.block _ (lt_of_block HX1_2.out)).trans HX1_2.out)
    clear hb p0 p1 p2 p3 p4 p5 p6 p7 p8
    have p0 := cell_at HX1_3.out (j := 0) (v := .string f.n) rfl
    have p1 := cell_at HX1_3.out (j := 1) (v := .int .i64 f.k) rfl
    have p2 := cell_at HX1_3.out (j := 2) (v := .int .i64 f.a) rfl
    have p3 := cell_at HX1_3.out (j := 3) (v := .int .i64 f.x) rfl
    have p4 := cell_at HX1_3.out (j := 4) (v := .int .i64 f.y) rfl
    have p5 := cell_at HX1_3.out (j := 5) (v := .int .i64 f.z) rfl
    have p6 := cell_at HX1_3.out (j := 6) (v := .int .i64 f.l) rfl
    have p7 := cell_at HX1_3.out (j := 7) (v := .int .i64 f.h) rfl
    have p8 := cell_at HX1_3.out (j := 8) (v := .slice fo fn fc) rfl
    go_wp2_with fail
    clear p0 p1 p2 p3 p4 p5 p6 p7 p8
    have BD : Hid (Below w.heap.size w W3.drew) := BW3.out.drew
    have BD2 : Hid (Below W3.heap.size W3 W3.drew) := (Below.refl _ _).drew
    have p0 : W3.drew.cell? ⟨w.heap.size, 0, none⟩ = some (.string f.n) := cell_at HX1_3.out (j := 0) rfl
    have p1 : W3.drew.cell? ⟨w.heap.size, 1, none⟩ = some (.int .i64 f.k) := cell_at HX1_3.out (j := 1) rfl
    have p2 : W3.drew.cell? ⟨w.heap.size, 2, none⟩ = some (.int .i64 f.a) := cell_at HX1_3.out (j := 2) rfl
    have p3 : W3.drew.cell? ⟨w.heap.size, 3, none⟩ = some (.int .i64 f.x) := cell_at HX1_3.out (j := 3) rfl
    have p4 : W3.drew.cell? ⟨w.heap.size, 4, none⟩ = some (.int .i64 f.y) := cell_at HX1_3.out (j := 4) rfl
    have p5 : W3.drew.cell? ⟨w.heap.size, 5, none⟩ = some (.int .i64 f.z) := cell_at HX1_3.out (j := 5) rfl
    have p6 : W3.drew.cell? ⟨w.heap.size, 6, none⟩ = some (.int .i64 f.l) := cell_at HX1_3.out (j := 6) rfl
    have p7 : W3.drew.cell? ⟨w.heap.size, 7, none⟩ = some (.int .i64 f.h) := cell_at HX1_3.out (j := 7) rfl
    have p8 : W3.drew.cell? ⟨w.heap.size, 8, none⟩ = some (.slice fo fn fc) := cell_at HX1_3.out (j := 8) rfl
    refine regionQ (fun w' => w'.cell? ⟨w.heap.size, 0, none⟩ = some (.string f.n) ∧ w'.cell? ⟨w.heap.size, 1, none⟩ = some (.int .i64 f.k) ∧ w'.cell? ⟨w.heap.size, 2, none⟩ = some (.int .i64 f.a) ∧ w'.cell? ⟨w.heap.size, 3, none⟩ = some (.int .i64 f.x) ∧ w'.cell? ⟨w.heap.size, 4, none⟩ = some (.int .i64 f.y) ∧ w'.cell? ⟨w.heap.size, 5, none⟩ = some (.int .i64 f.z) ∧ w'.cell? ⟨w.heap.size, 6, none⟩ = some (.int .i64 f.l) ∧ w'.cell? ⟨w.heap.size, 7, none⟩ = some (.int .i64 f.h) ∧ w'.cell? ⟨w.heap.size, 8, none⟩ = some (.slice fo fn fc)) (by kernel_rfl) (⟨p0, p1, p2, p3, p4, p5, p6, p7, p8⟩) (fun Qn hPQ hQn hS0 => ?_)
    refine wpAnyH_ready (rs := [0]) (by kernel_rfl) (by simp) ?_
    refine AllReadyH.cons (o := _) rfl (fun K hK => ?_) AllReadyH.nil
    go_simp
    refine awake19_any _ _ (HEV.out.below BD.out) fun VA hb => ?_
    have BA : Hid (Below w.heap.size w VA) := BD.out.trans (hb.mono BD.out.size)
    have SA : Hid (Below W3.heap.size W3 VA) := BD2.out.trans (hb.mono BD2.out.size)
    have pa0 := cellB hb p0 (lt_of_cell p0)
    have pa1 := cellB hb p1 (lt_of_cell p1)
    have pa2 := cellB hb p2 (lt_of_cell p2)
    have pa3 := cellB hb p3 (lt_of_cell p3)
    have pa4 := cellB hb p4 (lt_of_cell p4)
    have pa5 := cellB hb p5 (lt_of_cell p5)
    have pa6 := cellB hb p6 (lt_of_cell p6)
    have pa7 := cellB hb p7 (lt_of_cell p7)
    have pa8 := cellB hb p8 (lt_of_cell p8)
    clear hb p0 p1 p2 p3 p4 p5 p6 p7 p8
    refine hK.out _ _ (⟨pa0, pa1, pa2, pa3, pa4, pa5, pa6, pa7, pa8⟩) (fun hS1 => ?_)
    clear hK K hS0
    (try simp only [Act.put, List.setIfInBounds_toArray, List.set_cons_zero, List.set_cons_succ])
    refine takeQ (i := 1) (d := some 22) (v := ?_) rfl rfl (by kernel_rfl) (by kernel_rfl) (by kernel_rfl) hPQ hS1 (by kernel_rfl) ?_ ?_
    rotate_left
    · (intro w hSw; (try dsimp only at hSw); obtain ⟨k0, k1, k2, k3, k4, k5, k6, k7, k8⟩ := hSw; go_simp; (try with_reducible rfl))
    (try simp only [Act.put, List.setIfInBounds_toArray, List.set_cons_zero, List.set_cons_succ])
    refine takeQ (i := 2) (d := some 23) (v := ?_) rfl rfl (by kernel_rfl) (by kernel_rfl) (by kernel_rfl) hPQ hS1 (by kernel_rfl) ?_ ?_
    rotate_left
    · (intro w hSw; (try dsimp only at hSw); obtain ⟨k0, k1, k2, k3, k4, k5, k6, k7, k8⟩ := hSw; go_simp; (try with_reducible rfl))
    (try simp only [Act.put, List.setIfInBounds_toArray, List.set_cons_zero, List.set_cons_succ])
    refine takeQ (i := 4) (d := some 25) (v := ?_) rfl rfl (by kernel_rfl) (by kernel_rfl) (by kernel_rfl) hPQ hS1 (by kernel_rfl) ?_ ?_
    rotate_left
    · (intro w hSw; (try dsimp only at hSw); obtain ⟨k0, k1, k2, k3, k4, k5, k6, k7, k8⟩ := hSw; go_simp; (try with_reducible rfl))
    (try simp only [Act.put, List.setIfInBounds_toArray, List.set_cons_zero, List.set_cons_succ])
    refine wpAnyH_ready (rs := [3]) (by kernel_rfl) (by simp) ?_
    refine AllReadyH.cons (o := _) rfl (fun K hK => ?_) AllReadyH.nil
    go_simp
    (try rw [← HFV.out])
    refine fall_any f fo fc _ _ (HOF.out.below BA.out) fun VB hb => ?_
    rw [HEE.out]
    have BB2 : Hid (Below w.heap.size w VB) := BA.out.trans (hb.mono BA.out.size)
    have SB : Hid (Below W3.heap.size W3 VB) := SA.out.trans (hb.mono SA.out.size)
    have pb0 := cellB hb pa0 (lt_of_cell pa0)
    have pb1 := cellB hb pa1 (lt_of_cell pa1)
    have pb2 := cellB hb pa2 (lt_of_cell pa2)
    have pb3 := cellB hb pa3 (lt_of_cell pa3)
    have pb4 := cellB hb pa4 (lt_of_cell pa4)
    have pb5 := cellB hb pa5 (lt_of_cell pa5)
    have pb6 := cellB hb pa6 (lt_of_cell pa6)
    have pb7 := cellB hb pa7 (lt_of_cell pa7)
    have pb8 := cellB hb pa8 (lt_of_cell pa8)
    clear hb pa0 pa1 pa2 pa3 pa4 pa5 pa6 pa7 pa8
    refine hK.out _ _ (⟨pb0, pb1, pb2, pb3, pb4, pb5, pb6, pb7, pb8⟩) (fun hS2 => ?_)
    clear hK K hS1
    (try simp only [Act.put, List.setIfInBounds_toArray, List.set_cons_zero, List.set_cons_succ])
    refine wpAnyH_ready (rs := [5]) (by kernel_rfl) (by simp) ?_
    refine AllReadyH.cons (o := _) rfl (fun K hK => ?_) AllReadyH.nil
    go_simp
    (try rw [← HFV.out])
    refine rall_any f fo fc _ _ (HOF.out.below BB2.out) fun VC hb => ?_
    rw [HEE.out]
    have BC : Hid (Below w.heap.size w VC) := BB2.out.trans (hb.mono BB2.out.size)
    have SC : Hid (Below W3.heap.size W3 VC) := SB.out.trans (hb.mono SB.out.size)
    have pc0 := cellB hb pb0 (lt_of_cell pb0)
    have pc1 := cellB hb pb1 (lt_of_cell pb1)
    have pc2 := cellB hb pb2 (lt_of_cell pb2)
    have pc3 := cellB hb pb3 (lt_of_cell pb3)
    have pc4 := cellB hb pb4 (lt_of_cell pb4)
    have pc5 := cellB hb pb5 (lt_of_cell pb5)
    have pc6 := cellB hb pb6 (lt_of_cell pb6)
    have pc7 := cellB hb pb7 (lt_of_cell pb7)
    have pc8 := cellB hb pb8 (lt_of_cell pb8)
    clear hb pb0 pb1 pb2 pb3 pb4 pb5 pb6 pb7 pb8
    refine hK.out _ _ (⟨pc0, pc1, pc2, pc3, pc4, pc5, pc6, pc7, pc8⟩) (fun hS3 => ?_)
    clear hK K hS2
    (try simp only [Act.put, List.setIfInBounds_toArray, List.set_cons_zero, List.set_cons_succ])
    refine takeQ (i := 6) (d := some 27) (v := ?_) rfl rfl (by kernel_rfl) (by kernel_rfl) (by kernel_rfl) hPQ hS3 (by kernel_rfl) ?_ ?_
    rotate_left
    · (intro w hSw; (try dsimp only at hSw); obtain ⟨k0, k1, k2, k3, k4, k5, k6, k7, k8⟩ := hSw; go_simp; (try with_reducible rfl))
    (try simp only [Act.put, List.setIfInBounds_toArray, List.set_cons_zero, List.set_cons_succ])
    refine takeQ (i := 7) (d := some 28) (v := ?_) rfl rfl (by kernel_rfl) (by kernel_rfl) (by kernel_rfl) hPQ hS3 (by kernel_rfl) ?_ ?_
    rotate_left
    · (intro w hSw; (try dsimp only at hSw); obtain ⟨k0, k1, k2, k3, k4, k5, k6, k7, k8⟩ := hSw; go_simp; (try with_reducible rfl))
    (try simp only [Act.put, List.setIfInBounds_toArray, List.set_cons_zero, List.set_cons_succ])
    refine takeQ (i := 8) (d := some 29) (v := ?_) rfl rfl (by kernel_rfl) (by kernel_rfl) (by kernel_rfl) hPQ hS3 (by kernel_rfl) ?_ ?_
    rotate_left
    · (intro w hSw; (try dsimp only at hSw); obtain ⟨k0, k1, k2, k3, k4, k5, k6, k7, k8⟩ := hSw; go_simp; (try with_reducible rfl))
    (try simp only [Act.put, List.setIfInBounds_toArray, List.set_cons_zero, List.set_cons_succ])
    refine takeQ (i := 9) (d := some 30) (v := ?_) rfl rfl (by kernel_rfl) (by kernel_rfl) (by kernel_rfl) hPQ hS3 (by kernel_rfl) ?_ ?_
    rotate_left
    · (intro w hSw; (try dsimp only at hSw); obtain ⟨k0, k1, k2, k3, k4, k5, k6, k7, k8⟩ := hSw; go_simp; (try with_reducible rfl))
    (try simp only [Act.put, List.setIfInBounds_toArray, List.set_cons_zero, List.set_cons_succ])
    refine takeQ (i := 10) (d := some 31) (v := ?_) rfl rfl (by kernel_rfl) (by kernel_rfl) (by kernel_rfl) hPQ hS3 (by kernel_rfl) ?_ ?_
    rotate_left
    · (intro w hSw; (try dsimp only at hSw); obtain ⟨k0, k1, k2, k3, k4, k5, k6, k7, k8⟩ := hSw; go_simp; (try with_reducible rfl))
    (try simp only [Act.put, List.setIfInBounds_toArray, List.set_cons_zero, List.set_cons_succ])
    refine wpAnyH_ready (rs := [11]) (by kernel_rfl) (by simp) ?_
    refine AllReadyH.cons (o := _) rfl (fun K hK => ?_) AllReadyH.nil
    go_simp
    refine equalS_same a1 a2 DL DN c1 c2 _ _ HDN.out (by omega) (HC1.out.below SC.out) (HC2.out.below SC.out) fun VE hd => ?_
    obtain ⟨q, rfl⟩ := hd
    have BE : Hid (Below w.heap.size w (VC.drewN q)) := BC.out.trans ⟨rfl, rfl, rfl, Nat.le_refl _, fun _ _ => rfl⟩
    have pe0 : (VC.drewN q).cell? _ = _ := pc0
    have pe1 : (VC.drewN q).cell? _ = _ := pc1
    have pe2 : (VC.drewN q).cell? _ = _ := pc2
    have pe3 : (VC.drewN q).cell? _ = _ := pc3
    have pe4 : (VC.drewN q).cell? _ = _ := pc4
    have pe5 : (VC.drewN q).cell? _ = _ := pc5
    have pe6 : (VC.drewN q).cell? _ = _ := pc6
    have pe7 : (VC.drewN q).cell? _ = _ := pc7
    have pe8 : (VC.drewN q).cell? _ = _ := pc8
    clear pc0 pc1 pc2 pc3 pc4 pc5 pc6 pc7 pc8
    refine hK.out _ _ (⟨pe0, pe1, pe2, pe3, pe4, pe5, pe6, pe7, pe8⟩) (fun hS4 => ?_)
    clear hK K hS3
    (try simp only [Act.put, List.setIfInBounds_toArray, List.set_cons_zero, List.set_cons_succ])
    refine takeQ (i := 12) (d := some 33) (v := ?_) rfl rfl (by kernel_rfl) (by kernel_rfl) (by kernel_rfl) hPQ hS4 (by kernel_rfl) ?_ ?_
    rotate_left
    · (intro w hSw; (try dsimp only at hSw); obtain ⟨k0, k1, k2, k3, k4, k5, k6, k7, k8⟩ := hSw; go_simp; (try with_reducible rfl))
    (try simp only [Act.put, List.setIfInBounds_toArray, List.set_cons_zero, List.set_cons_succ])
    refine takeQ (i := 13) (d := some 34) (v := ?_) rfl rfl (by kernel_rfl) (by kernel_rfl) (by kernel_rfl) hPQ hS4 (by kernel_rfl) ?_ ?_
    rotate_left
    · (intro w hSw; (try dsimp only at hSw); obtain ⟨k0, k1, k2, k3, k4, k5, k6, k7, k8⟩ := hSw; go_simp; (try with_reducible rfl))
    (try simp only [Act.put, List.setIfInBounds_toArray, List.set_cons_zero, List.set_cons_succ])
    refine takeQ (i := 14) (d := some 35) (v := ?_) rfl rfl (by kernel_rfl) (by kernel_rfl) (by kernel_rfl) hPQ hS4 (by kernel_rfl) ?_ ?_
    rotate_left
    · (intro w hSw; (try dsimp only at hSw); obtain ⟨k0, k1, k2, k3, k4, k5, k6, k7, k8⟩ := hSw; go_simp; (try with_reducible rfl))
    (try simp only [Act.put, List.setIfInBounds_toArray, List.set_cons_zero, List.set_cons_succ])
    refine takeQ (i := 15) (d := some 36) (v := ?_) rfl rfl (by kernel_rfl) (by kernel_rfl) (by kernel_rfl) hPQ hS4 (by kernel_rfl) ?_ ?_
    rotate_left
    · (intro w hSw; (try dsimp only at hSw); obtain ⟨k0, k1, k2, k3, k4, k5, k6, k7, k8⟩ := hSw; go_simp; (try with_reducible rfl))
    (try simp only [Act.put, List.setIfInBounds_toArray, List.set_cons_zero, List.set_cons_succ])
    refine takeQ (i := 16) (d := some 37) (v := ?_) rfl rfl (by kernel_rfl) (by kernel_rfl) (by kernel_rfl) hPQ hS4 (by kernel_rfl) ?_ ?_
    rotate_left
    · (intro w hSw; (try dsimp only at hSw); obtain ⟨k0, k1, k2, k3, k4, k5, k6, k7, k8⟩ := hSw; go_simp; (try with_reducible rfl))
    (try simp only [Act.put, List.setIfInBounds_toArray, List.set_cons_zero, List.set_cons_succ])
    refine takeQ (i := 17) (d := some 38) (v := ?_) rfl rfl (by kernel_rfl) (by kernel_rfl) (by kernel_rfl) hPQ hS4 (by kernel_rfl) ?_ ?_
    rotate_left
    · (intro w hSw; (try dsimp only at hSw); obtain ⟨k0, k1, k2, k3, k4, k5, k6, k7, k8⟩ := hSw; go_simp; (try with_reducible rfl))
    (try simp only [Act.put, List.setIfInBounds_toArray, List.set_cons_zero, List.set_cons_succ])
    refine takeQ (i := 18) (d := some 2) (v := ?_) rfl rfl (by kernel_rfl) (by kernel_rfl) (by kernel_rfl) hPQ hS4 (by kernel_rfl) ?_ ?_
    rotate_left
    · (intro w hSw; (try dsimp only at hSw); obtain ⟨k0, k1, k2, k3, k4, k5, k6, k7, k8⟩ := hSw; go_simp; (try with_reducible rfl))
    (try simp only [Act.put, List.setIfInBounds_toArray, List.set_cons_zero, List.set_cons_succ])
    refine wpAnyH_done (by kernel_rfl) (hQn.out _ _ ?_) _
    clear hS4 hPQ hQn Qn
    go_wp2_with fail
    exact HR.out _ BE.out
end Go.Proofs.YtciokmjhdbcmpaaGreatDoor
