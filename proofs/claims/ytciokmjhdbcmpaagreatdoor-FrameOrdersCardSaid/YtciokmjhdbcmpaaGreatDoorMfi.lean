/- permitted of reference 19. (Printed by gen_perm.py.) Check of package frame. (Printed by gen_check.py.) -/
import Derived.Test.YtciokmjhdbcmpaaGreatDoorMlib
import Derived.Test.YtciokmjhdbcmpaaGreatDoorMfe
namespace Go.Proofs.YtciokmjhdbcmpaaGreatDoor
open Go.RowKit

theorem rrows_ex (w : World) (R : Ending → World → Prop) (hR : ∀ w' br, Below w.heap.size w w' → w.heap.size ≤ br → w'.heap[br]? = some (.cells rrA 124 (0, 0)) → R (.returned (.slice (some ⟨br, 0, none⟩) 9 9)) w') :
    Calls Tryz.prog 83 #[] w R := rrows_any w R fun w' hb hx => hR w' w.heap.size hb (Nat.le_refl _) hx
theorem rrA_get : ∀ k, k < 9 → rrA[k * 5]? = some (.string (rrAt k).wd) ∧ rrA[k * 5 + 1]? = some (.string (rrAt k).fe) ∧ rrA[k * 5 + 2]? = some (.int .i64 (rrAt k).le) ∧ rrA[k * 5 + 3]? = some (.int .i64 (rrAt k).mo) ∧ rrA[k * 5 + 4]? = some (.string (rrAt k).di) := fun k hk => by
  have h : k = 0 ∨ k = 1 ∨ k = 2 ∨ k = 3 ∨ k = 4 ∨ k = 5 ∨ k = 6 ∨ k = 7 ∨ k = 8 := by omega
  rcases h with rfl | rfl | rfl | rfl | rfl | rfl | rfl | rfl | rfl <;> exact ⟨rfl, rfl, rfl, rfl, rfl⟩
theorem rr_sizes : ∀ k, k < 9 → (rrAt k).fe.size ≤ 1000 ∧ (rrAt k).di.size ≤ 1000 := by decide
section
variable {w : World} {br k : Nat} (hk : k < 9) (hx : w.heap[br]? = some (.cells rrA 124 (0, 0)))
include hk hx
theorem rrow_cells0 : w.cell? ⟨br, k * 5, none⟩ = some (.string (rrAt k).wd) := cell_at hx (rrA_get k hk).1
theorem rrow_cells1 : w.cell? ⟨br, k * 5 + 1, none⟩ = some (.string (rrAt k).fe) := cell_at hx (rrA_get k hk).2.1
theorem rrow_cells2 : w.cell? ⟨br, k * 5 + 2, none⟩ = some (.int .i64 (rrAt k).le) := cell_at hx (rrA_get k hk).2.2.1
theorem rrow_cells3 : w.cell? ⟨br, k * 5 + 3, none⟩ = some (.int .i64 (rrAt k).mo) := cell_at hx (rrA_get k hk).2.2.2.1
theorem rrow_cells4 : w.cell? ⟨br, k * 5 + 4, none⟩ = some (.string (rrAt k).di) := cell_at hx (rrA_get k hk).2.2.2.2
end
theorem set5 (w : World) (b : Nat) (z0 z1 z2 z3 z4 x0 x1 x2 x3 x4 : Value) (T : TypeId) (h : w.heap[b]? = some (.cells #[z0, z1, z2, z3, z4] T (0, 0))) :
    ∃ w', ((((w.setCell ⟨b, 0, none⟩ x0).setCell ⟨b, 1, none⟩ x1).setCell ⟨b, 2, none⟩ x2).setCell ⟨b, 3, none⟩ x3).setCell ⟨b, 4, none⟩ x4 = w' ∧ Hid (Below b w w') ∧ Hid (∀ j, j ≠ b → w'.heap[j]? = w.heap[j]?) ∧ Hid (w'.heap[b]? = some (.cells #[x0, x1, x2, x3, x4] T (0, 0))) :=
  ⟨_, rfl, (((((Below.refl b w).setCell (Nat.le_refl _) x0).setCell (Nat.le_refl _) x1).setCell (Nat.le_refl _) x2).setCell (Nat.le_refl _) x3).setCell (Nat.le_refl _) x4,
    fun j hj => (Below.heap_setCell _ ⟨b, 4, none⟩ _ j hj).trans ((Below.heap_setCell _ ⟨b, 3, none⟩ _ j hj).trans ((Below.heap_setCell _ ⟨b, 2, none⟩ _ j hj).trans ((Below.heap_setCell _ ⟨b, 1, none⟩ _ j hj).trans (Below.heap_setCell _ ⟨b, 0, none⟩ _ j hj)))),
    heap_setCell_same _ b 4 _ _ x4 (heap_setCell_same _ b 3 _ _ x3 (heap_setCell_same _ b 2 _ _ x2 (heap_setCell_same _ b 1 _ _ x1 (heap_setCell_same w b 0 _ _ x0 h))))⟩
set_option maxRecDepth 100000 in
set_option maxHeartbeats 8000000 in
theorem rpermitted_any (f : Ft) (fo : Option Addr) (fc : Nat) (x : Fm) (da : Option Addr) (dc kd k : Nat) (hkd : f.k = kd) (hkd5 : kd < 5) (hk : x.k = k) (hk9 : k < 9) (_hl : x.ds.length ≤ 3) (w : World) (R : Ending → World → Prop)
   (hR : ∀ w', Below w.heap.size w w' → R (.returned (.int .i64 (pmE kd k x.d x.t x.m x.ds.length))) w') :
    Calls Tryz.prog 46 #[ftV f fo fc, fmV x da dc] w R := by
  have HR := Lib.hid hR
  obtain ⟨fn, hfn⟩ : ∃ fn, f.fs.length = fn := ⟨_, rfl⟩
  have HFV : Hid (ftV f fo fc = .agg #[.string f.n, .int .i64 kd, .int .i64 f.a, .int .i64 f.x, .int .i64 f.y, .int .i64 f.z, .int .i64 f.l, .int .i64 f.h, .slice fo fn fc]) := by unfold Hid ftV; rw [hkd, hfn]
  obtain ⟨dn, hdn⟩ : ∃ dn, x.ds.length = dn := ⟨_, rfl⟩
  have HXV : Hid (fmV x da dc = .agg #[.int .i64 k, .bool x.d, .int .i64 x.t, .int .i64 x.m, .slice da dn dc]) := by unfold Hid fmV; rw [hk, hdn]
  rw [hdn] at HR _hl
  rw [HFV.out, HXV.out]
  obtain ⟨d, hd⟩ : ∃ d, x.d = d := ⟨_, rfl⟩
  obtain ⟨t, ht⟩ : ∃ t, x.t = t := ⟨_, rfl⟩
  obtain ⟨m, hm⟩ : ∃ m, x.m = m := ⟨_, rfl⟩
  rw [hd, ht, hm] at HR ⊢
  clear hR hfn hdn hd ht hm hk
  obtain ⟨w1, E1, HB1, s1, X1⟩ := box_ex w #[.string f.n, .int .i64 kd, .int .i64 f.a, .int .i64 f.x, .int .i64 f.y, .int .i64 f.z, .int .i64 f.l, .int .i64 f.h, .slice fo fn fc] 28
  obtain ⟨V, E2, HB2, s2, X2⟩ := box_ex w1 #[.int .i64 k, .bool d, .int .i64 t, .int .i64 m, .slice da dn dc] 31
  have HX1 := Lib.hid ((HB2.out.block _ s1).trans X1.out)
  have HX2 := Lib.hid X2.out
  have d0 : V.drew.cell? ⟨w1.heap.size, 0, none⟩ = some (.int .i64 k) := cell_at X2.out rfl
  have hxV : w1.heap.size < V.heap.size := s2
  have BV : Hid (Below w.heap.size w V) := HB1.out.trans (HB2.out.mono (Nat.le_of_lt s1))
  have BD : Hid (Below V.heap.size V V.drew) := (Below.refl _ _).drew
  have hk9i : (k : Int) < 9 := by omega
  obtain ⟨tb1, tb2, tb3, tb4⟩ := tabs_on k hk9 kd hkd5
  obtain ⟨ON, hON⟩ : ∃ ON, isB (rwAt k).on kd = ON := ⟨_, rfl⟩
  obtain ⟨DI, hDI⟩ : ∃ DI, isB (rwAt k).di kd = DI := ⟨_, rfl⟩
  obtain ⟨MM, hMM⟩ : ∃ MM, mmB kd k = MM := ⟨_, rfl⟩
  obtain ⟨LE, hLE⟩ : ∃ LE, (rwAt k).le = LE := ⟨_, rfl⟩
  obtain ⟨MO, hMO⟩ : ∃ MO, (rwAt k).mo = MO := ⟨_, rfl⟩
  have HON : Hid (hsB (rrAt k).fe kd = ON) := tb1.trans hON
  have HDI : Hid (hsB (rrAt k).di kd = DI) := tb2.trans hDI
  have HMM := Lib.hid hMM
  have HLE : Hid ((rrAt k).le = LE) := tb3.trans hLE
  have HMO : Hid ((rrAt k).mo = MO) := tb4.trans hMO
  obtain ⟨E, hE0⟩ : ∃ E, pmE kd k d t m dn = E := ⟨_, rfl⟩
  have hE : Hid (E = if ON = true then (if d = true ∧ DI = false then 3 else if t = 0 ∧ m ≠ 1 then 10 else if m ≠ 0 ∧ MM = false then 3 else if (dn : Int) < LE then 13 else if MO < (dn : Int) then 5 else 0) else 14) := by
    unfold Hid; rw [← hE0, ← hON, ← hDI, ← hMM, ← hLE, ← hMO]; rfl
  rw [hE0] at HR
  clear tb1 tb2 tb3 tb4 hON hDI hMM hLE hMO hE0
  clear X1 X2
  go_enter Tryz.func46, Tryz.ntmps46
  go_wp2_with (first | rw [E1] | rw [E2])
  refine regionQ (fun w' => w'.cell? ⟨w1.heap.size, 0, none⟩ = some (.int .i64 k)) (by kernel_rfl) (d0) (fun Qn hPQ hQn hS0 => ?_)
  refine takeQ (i := 1) (d := some 7) (v := ?_) rfl rfl (by kernel_rfl) (by kernel_rfl) (by kernel_rfl) hPQ hS0 (by kernel_rfl) ?_ ?_
  rotate_left
  · (intro w hSw; (try dsimp only at hSw); go_simp; (try with_reducible rfl))
  (try simp only [Act.put, List.setIfInBounds_toArray, List.set_cons_zero, List.set_cons_succ])
  refine takeQ (i := 2) (d := some 8) (v := ?_) rfl rfl (by kernel_rfl) (by kernel_rfl) (by kernel_rfl) hPQ hS0 (by kernel_rfl) ?_ ?_
  rotate_left
  · (intro w hSw; (try dsimp only at hSw); go_simp; (try with_reducible rfl))
  (try simp only [Act.put, List.setIfInBounds_toArray, List.set_cons_zero, List.set_cons_succ])
  refine wpAnyH_ready (rs := [0, 5]) (by kernel_rfl) (by simp) ?_
  refine AllReadyH.cons (o := _) rfl (fun K hK => ?_) (AllReadyH.cons (o := _) rfl (fun K hK => ?_) AllReadyH.nil)
  go_simp
  refine rrows_ex _ _ fun w8 br hb hge hx => ?_
  have B8 : Hid (Below V.heap.size V w8) := BD.out.trans (hb.mono BD.out.size)
  have e8 := cellB B8.out d0 hxV
  have r0 := rrow_cells0 hk9 hx
  have r1 := rrow_cells1 hk9 hx
  have r2 := rrow_cells2 hk9 hx
  have r3 := rrow_cells3 hk9 hx
  have r4 := rrow_cells4 hk9 hx
  have hbr := lt_of_block hx
  clear hb hx
  refine hK.out _ _ (e8) (fun hS1 => ?_)
  clear hK K hS0
  (try simp only [Act.put, List.setIfInBounds_toArray, List.set_cons_zero, List.set_cons_succ])
  refine takeQ (i := 3) (d := some 9) (v := ?_) rfl rfl (by kernel_rfl) (by kernel_rfl) (by kernel_rfl) hPQ hS1 (by kernel_rfl) ?_ ?_
  rotate_left
  · (intro w hSw; (try dsimp only at hSw); go_simp; (try with_reducible rfl))
  (try simp only [Act.put, List.setIfInBounds_toArray, List.set_cons_zero, List.set_cons_succ])
  refine wpAnyH_ready (rs := [4, 5]) (by kernel_rfl) (by simp) ?_
  refine AllReadyH.cons (o := _) rfl (fun K hK => ?_) (AllReadyH.cons (o := _) rfl (fun K hK => ?_) AllReadyH.nil)
  go_simp
  refine hK.out _ _ (e8) (fun hS2 => ?_)
  clear hK K hS1
  (try simp only [Act.put, List.setIfInBounds_toArray, List.set_cons_zero, List.set_cons_succ])
  refine wpAnyH_ready (rs := [5]) (by kernel_rfl) (by simp) ?_
  refine AllReadyH.cons (o := _) rfl (fun K hK => ?_) AllReadyH.nil
  go_simp
  obtain ⟨bx, hbx⟩ : ∃ bx, w8.heap.size = bx := ⟨_, rfl⟩
  have BA : Hid (Below V.heap.size V (w8.alloc (.cells #[.string ⟨#[]⟩, .string ⟨#[]⟩, .int .i64 0, .int .i64 0, .string ⟨#[]⟩] 124))) := B8.out.alloc B8.out.size _
  have XA := World.alloc_heap_new w8 (.cells #[.string ⟨#[]⟩, .string ⟨#[]⟩, .int .i64 0, .int .i64 0, .string ⟨#[]⟩] 124)
  have eA := cellB BA.out d0 hxV
  have hVb : V.heap.size ≤ bx := by rw [← hbx]; exact B8.out.size
  have q0 := cellB ((Below.refl w8.heap.size w8).alloc (Nat.le_refl _) (.cells #[.string ⟨#[]⟩, .string ⟨#[]⟩, .int .i64 0, .int .i64 0, .string ⟨#[]⟩] 124)) r0 hbr
  have q1 := cellB ((Below.refl w8.heap.size w8).alloc (Nat.le_refl _) (.cells #[.string ⟨#[]⟩, .string ⟨#[]⟩, .int .i64 0, .int .i64 0, .string ⟨#[]⟩] 124)) r1 hbr
  have q2 := cellB ((Below.refl w8.heap.size w8).alloc (Nat.le_refl _) (.cells #[.string ⟨#[]⟩, .string ⟨#[]⟩, .int .i64 0, .int .i64 0, .string ⟨#[]⟩] 124)) r2 hbr
  have q3 := cellB ((Below.refl w8.heap.size w8).alloc (Nat.le_refl _) (.cells #[.string ⟨#[]⟩, .string ⟨#[]⟩, .int .i64 0, .int .i64 0, .string ⟨#[]⟩] 124)) r3 hbr
  have q4 := cellB ((Below.refl w8.heap.size w8).alloc (Nat.le_refl _) (.cells #[.string ⟨#[]⟩, .string ⟨#[]⟩, .int .i64 0, .int .i64 0, .string ⟨#[]⟩] 124)) r4 hbr
  have zA : (w8.alloc (.cells #[.string ⟨#[]⟩, .string ⟨#[]⟩, .int .i64 0, .int .i64 0, .string ⟨#[]⟩] 124)).heap.size = w8.heap.size + 1 := by simp
  obtain ⟨wA, hA⟩ : ∃ wA, w8.alloc (.cells #[.string ⟨#[]⟩, .string ⟨#[]⟩, .int .i64 0, .int .i64 0, .string ⟨#[]⟩] 124) = wA := ⟨_, rfl⟩
  rw [hA] at BA XA eA zA q0 q1 q2 q3 q4 ⊢
  rw [hbx] at XA zA ⊢
  have a0 := cell_at XA (j := 0) rfl
  have a1 := cell_at XA (j := 1) rfl
  have a2 := cell_at XA (j := 2) rfl
  have a3 := cell_at XA (j := 3) rfl
  have a4 := cell_at XA (j := 4) rfl
  have f0 := frozen_at XA 0
  have f1 := frozen_at XA 1
  have f2 := frozen_at XA 2
  have f3 := frozen_at XA 3
  have f4 := frozen_at XA 4
  have XAh := Lib.hid XA
  clear XA hA
  refine hK.out _ _ (eA) (fun hS3 => ?_)
  clear hK K hS2
  (try simp only [Act.put, List.setIfInBounds_toArray, List.set_cons_zero, List.set_cons_succ])
  refine wpAnyH_ready (rs := [6]) (by kernel_rfl) (by simp) ?_
  refine AllReadyH.cons (o := _) rfl (fun K hK => ?_) AllReadyH.nil
  go_simp
  obtain ⟨w9, E9, B9, K9, X9⟩ := set5 wA bx _ _ _ _ _ (.string (rrAt k).wd) (.string (rrAt k).fe) (.int .i64 (rrAt k).le) (.int .i64 (rrAt k).mo) (.string (rrAt k).di) _ XAh.out
  have n9 := (World.cell?_of_block (a := ⟨w1.heap.size, 0, none⟩) (K9.out w1.heap.size (by omega))).trans eA
  rw [E9]
  have BF : Hid (Below V.heap.size V w9) := BA.out.trans (B9.out.mono hVb)
  refine hK.out _ _ (n9) (fun hS4 => ?_)
  clear hK K hS3
  (try simp only [Act.put, List.setIfInBounds_toArray, List.set_cons_zero, List.set_cons_succ])
  refine wpAnyH_done (by kernel_rfl) (hQn.out _ _ ?_) _
  clear hS4 hPQ hQn Qn
  rotate_left
  go_simp
  obtain ⟨bx, hbx⟩ : ∃ bx, w8.heap.size = bx := ⟨_, rfl⟩
  have BA : Hid (Below V.heap.size V (w8.alloc (.cells #[.string ⟨#[]⟩, .string ⟨#[]⟩, .int .i64 0, .int .i64 0, .string ⟨#[]⟩] 124))) := B8.out.alloc B8.out.size _
  have XA := World.alloc_heap_new w8 (.cells #[.string ⟨#[]⟩, .string ⟨#[]⟩, .int .i64 0, .int .i64 0, .string ⟨#[]⟩] 124)
  have eA := cellB BA.out d0 hxV
  have hVb : V.heap.size ≤ bx := by rw [← hbx]; exact B8.out.size
  have q0 := cellB ((Below.refl w8.heap.size w8).alloc (Nat.le_refl _) (.cells #[.string ⟨#[]⟩, .string ⟨#[]⟩, .int .i64 0, .int .i64 0, .string ⟨#[]⟩] 124)) r0 hbr
  have q1 := cellB ((Below.refl w8.heap.size w8).alloc (Nat.le_refl _) (.cells #[.string ⟨#[]⟩, .string ⟨#[]⟩, .int .i64 0, .int .i64 0, .string ⟨#[]⟩] 124)) r1 hbr
  have q2 := cellB ((Below.refl w8.heap.size w8).alloc (Nat.le_refl _) (.cells #[.string ⟨#[]⟩, .string ⟨#[]⟩, .int .i64 0, .int .i64 0, .string ⟨#[]⟩] 124)) r2 hbr
  have q3 := cellB ((Below.refl w8.heap.size w8).alloc (Nat.le_refl _) (.cells #[.string ⟨#[]⟩, .string ⟨#[]⟩, .int .i64 0, .int .i64 0, .string ⟨#[]⟩] 124)) r3 hbr
  have q4 := cellB ((Below.refl w8.heap.size w8).alloc (Nat.le_refl _) (.cells #[.string ⟨#[]⟩, .string ⟨#[]⟩, .int .i64 0, .int .i64 0, .string ⟨#[]⟩] 124)) r4 hbr
  have zA : (w8.alloc (.cells #[.string ⟨#[]⟩, .string ⟨#[]⟩, .int .i64 0, .int .i64 0, .string ⟨#[]⟩] 124)).heap.size = w8.heap.size + 1 := by simp
  obtain ⟨wA, hA⟩ : ∃ wA, w8.alloc (.cells #[.string ⟨#[]⟩, .string ⟨#[]⟩, .int .i64 0, .int .i64 0, .string ⟨#[]⟩] 124) = wA := ⟨_, rfl⟩
  rw [hA] at BA XA eA zA q0 q1 q2 q3 q4 ⊢
  rw [hbx] at XA zA ⊢
  have a0 := cell_at XA (j := 0) rfl
  have a1 := cell_at XA (j := 1) rfl
  have a2 := cell_at XA (j := 2) rfl
  have a3 := cell_at XA (j := 3) rfl
  have a4 := cell_at XA (j := 4) rfl
  have f0 := frozen_at XA 0
  have f1 := frozen_at XA 1
  have f2 := frozen_at XA 2
  have f3 := frozen_at XA 3
  have f4 := frozen_at XA 4
  have XAh := Lib.hid XA
  clear XA hA
  refine hK.out _ _ (eA) (fun hS2 => ?_)
  clear hK K hS1
  (try simp only [Act.put, List.setIfInBounds_toArray, List.set_cons_zero, List.set_cons_succ])
  refine wpAnyH_ready (rs := [4]) (by kernel_rfl) (by simp) ?_
  refine AllReadyH.cons (o := _) rfl (fun K hK => ?_) AllReadyH.nil
  go_simp
  refine hK.out _ _ (eA) (fun hS3 => ?_)
  clear hK K hS2
  (try simp only [Act.put, List.setIfInBounds_toArray, List.set_cons_zero, List.set_cons_succ])
  refine wpAnyH_ready (rs := [6]) (by kernel_rfl) (by simp) ?_
  refine AllReadyH.cons (o := _) rfl (fun K hK => ?_) AllReadyH.nil
  go_simp
  obtain ⟨w9, E9, B9, K9, X9⟩ := set5 wA bx _ _ _ _ _ (.string (rrAt k).wd) (.string (rrAt k).fe) (.int .i64 (rrAt k).le) (.int .i64 (rrAt k).mo) (.string (rrAt k).di) _ XAh.out
  have n9 := (World.cell?_of_block (a := ⟨w1.heap.size, 0, none⟩) (K9.out w1.heap.size (by omega))).trans eA
  rw [E9]
  have BF : Hid (Below V.heap.size V w9) := BA.out.trans (B9.out.mono hVb)
  refine hK.out _ _ (n9) (fun hS4 => ?_)
  clear hK K hS3
  (try simp only [Act.put, List.setIfInBounds_toArray, List.set_cons_zero, List.set_cons_succ])
  refine wpAnyH_done (by kernel_rfl) (hQn.out _ _ ?_) _
  clear hS4 hPQ hQn Qn
  rotate_left
  go_simp
  obtain ⟨bx, hbx⟩ : ∃ bx, V.heap.size = bx := ⟨_, rfl⟩
  have BA : Hid (Below V.heap.size V (V.alloc (.cells #[.string ⟨#[]⟩, .string ⟨#[]⟩, .int .i64 0, .int .i64 0, .string ⟨#[]⟩] 124)).drew) := ((Below.refl _ V).alloc (Nat.le_refl _) _).drew
  have XA : (V.alloc (.cells #[.string ⟨#[]⟩, .string ⟨#[]⟩, .int .i64 0, .int .i64 0, .string ⟨#[]⟩] 124)).drew.heap[V.heap.size]? = some (.cells #[.string ⟨#[]⟩, .string ⟨#[]⟩, .int .i64 0, .int .i64 0, .string ⟨#[]⟩] 124 (0, 0)) := World.alloc_heap_new V (.cells #[.string ⟨#[]⟩, .string ⟨#[]⟩, .int .i64 0, .int .i64 0, .string ⟨#[]⟩] 124)
  have eA := cellB BA.out d0 hxV
  have hVb : V.heap.size ≤ bx := Nat.le_of_eq hbx
  have zA : (V.alloc (.cells #[.string ⟨#[]⟩, .string ⟨#[]⟩, .int .i64 0, .int .i64 0, .string ⟨#[]⟩] 124)).drew.heap.size = V.heap.size + 1 := (by simp : (V.alloc (.cells #[.string ⟨#[]⟩, .string ⟨#[]⟩, .int .i64 0, .int .i64 0, .string ⟨#[]⟩] 124)).heap.size = V.heap.size + 1)
  obtain ⟨wA, hA⟩ : ∃ wA, (V.alloc (.cells #[.string ⟨#[]⟩, .string ⟨#[]⟩, .int .i64 0, .int .i64 0, .string ⟨#[]⟩] 124)).drew = wA := ⟨_, rfl⟩
  rw [hA] at BA XA eA zA ⊢
  rw [hbx] at XA zA ⊢
  have a0 := cell_at XA (j := 0) rfl
  have a1 := cell_at XA (j := 1) rfl
  have a2 := cell_at XA (j := 2) rfl
  have a3 := cell_at XA (j := 3) rfl
  have a4 := cell_at XA (j := 4) rfl
  have f0 := frozen_at XA 0
  have f1 := frozen_at XA 1
  have f2 := frozen_at XA 2
  have f3 := frozen_at XA 3
  have f4 := frozen_at XA 4
  have XAh := Lib.hid XA
  clear XA hA
  refine hK.out _ _ (eA) (fun hS1 => ?_)
  clear hK K hS0
  (try simp only [Act.put, List.setIfInBounds_toArray, List.set_cons_zero, List.set_cons_succ])
  refine wpAnyH_ready (rs := [0]) (by kernel_rfl) (by simp) ?_
  refine AllReadyH.cons (o := _) rfl (fun K hK => ?_) AllReadyH.nil
  go_simp
  refine rrows_ex _ _ fun w8 br hb hge hx => ?_
  have B8 : Hid (Below V.heap.size V w8) := BA.out.trans (hb.mono BA.out.size)
  have e8 := cellB B8.out d0 hxV
  have r0 := rrow_cells0 hk9 hx
  have r1 := rrow_cells1 hk9 hx
  have r2 := rrow_cells2 hk9 hx
  have r3 := rrow_cells3 hk9 hx
  have r4 := rrow_cells4 hk9 hx
  have hbxA : bx < wA.heap.size := lt_of_block XAh.out
  have XA2 := (hb.block bx hbxA).trans XAh.out
  clear XAh a0 a1 a2 a3 a4 f0 f1 f2 f3 f4
  have a0 := cell_at XA2 (j := 0) rfl
  have a1 := cell_at XA2 (j := 1) rfl
  have a2 := cell_at XA2 (j := 2) rfl
  have a3 := cell_at XA2 (j := 3) rfl
  have a4 := cell_at XA2 (j := 4) rfl
  have f0 := frozen_at XA2 0
  have f1 := frozen_at XA2 1
  have f2 := frozen_at XA2 2
  have f3 := frozen_at XA2 3
  have f4 := frozen_at XA2 4
  have XAh := Lib.hid XA2
  clear hb hx XA2
  refine hK.out _ _ (e8) (fun hS2 => ?_)
  clear hK K hS1
  (try simp only [Act.put, List.setIfInBounds_toArray, List.set_cons_zero, List.set_cons_succ])
  refine takeQ (i := 3) (d := some 9) (v := ?_) rfl rfl (by kernel_rfl) (by kernel_rfl) (by kernel_rfl) hPQ hS2 (by kernel_rfl) ?_ ?_
  rotate_left
  · (intro w hSw; (try dsimp only at hSw); go_simp; (try with_reducible rfl))
  (try simp only [Act.put, List.setIfInBounds_toArray, List.set_cons_zero, List.set_cons_succ])
  refine wpAnyH_ready (rs := [4]) (by kernel_rfl) (by simp) ?_
  refine AllReadyH.cons (o := _) rfl (fun K hK => ?_) AllReadyH.nil
  go_simp
  refine hK.out _ _ (e8) (fun hS3 => ?_)
  clear hK K hS2
  (try simp only [Act.put, List.setIfInBounds_toArray, List.set_cons_zero, List.set_cons_succ])
  refine wpAnyH_ready (rs := [6]) (by kernel_rfl) (by simp) ?_
  refine AllReadyH.cons (o := _) rfl (fun K hK => ?_) AllReadyH.nil
  go_simp
  obtain ⟨w9, E9, B9, K9, X9⟩ := set5 w8 bx _ _ _ _ _ (.string (rrAt k).wd) (.string (rrAt k).fe) (.int .i64 (rrAt k).le) (.int .i64 (rrAt k).mo) (.string (rrAt k).di) _ XAh.out
  have n9 := (World.cell?_of_block (a := ⟨w1.heap.size, 0, none⟩) (K9.out w1.heap.size (by omega))).trans e8
  rw [E9]
  have BF : Hid (Below V.heap.size V w9) := B8.out.trans (B9.out.mono hVb)
  refine hK.out _ _ (n9) (fun hS4 => ?_)
  clear hK K hS3
  (try simp only [Act.put, List.setIfInBounds_toArray, List.set_cons_zero, List.set_cons_succ])
  refine wpAnyH_done (by kernel_rfl) (hQn.out _ _ ?_) _
  clear hS4 hPQ hQn Qn
  rotate_left
  all_goals
    have g0 := cellB BF.out (cell_at HX1.out (j := 0) (v := .string f.n) rfl) (lt_of_block HX1.out)
    have g1 := cellB BF.out (cell_at HX1.out (j := 1) (v := .int .i64 kd) rfl) (lt_of_block HX1.out)
    have g2 := cellB BF.out (cell_at HX1.out (j := 2) (v := .int .i64 f.a) rfl) (lt_of_block HX1.out)
    have g3 := cellB BF.out (cell_at HX1.out (j := 3) (v := .int .i64 f.x) rfl) (lt_of_block HX1.out)
    have g4 := cellB BF.out (cell_at HX1.out (j := 4) (v := .int .i64 f.y) rfl) (lt_of_block HX1.out)
    have g5 := cellB BF.out (cell_at HX1.out (j := 5) (v := .int .i64 f.z) rfl) (lt_of_block HX1.out)
    have g6 := cellB BF.out (cell_at HX1.out (j := 6) (v := .int .i64 f.l) rfl) (lt_of_block HX1.out)
    have g7 := cellB BF.out (cell_at HX1.out (j := 7) (v := .int .i64 f.h) rfl) (lt_of_block HX1.out)
    have g8 := cellB BF.out (cell_at HX1.out (j := 8) (v := .slice fo fn fc) rfl) (lt_of_block HX1.out)
    have y0 := cellB BF.out (cell_at HX2.out (j := 0) (v := .int .i64 k) rfl) (lt_of_block HX2.out)
    have y1 := cellB BF.out (cell_at HX2.out (j := 1) (v := .bool d) rfl) (lt_of_block HX2.out)
    have y2 := cellB BF.out (cell_at HX2.out (j := 2) (v := .int .i64 t) rfl) (lt_of_block HX2.out)
    have y3 := cellB BF.out (cell_at HX2.out (j := 3) (v := .int .i64 m) rfl) (lt_of_block HX2.out)
    have y4 := cellB BF.out (cell_at HX2.out (j := 4) (v := .slice da dn dc) rfl) (lt_of_block HX2.out)
    have u1 := cell_at X9.out (j := 1) (v := .string (rrAt k).fe) rfl
    have u2 := cell_at X9.out (j := 2) (v := .int .i64 (rrAt k).le) rfl
    have u3 := cell_at X9.out (j := 3) (v := .int .i64 (rrAt k).mo) rfl
    have u4 := cell_at X9.out (j := 4) (v := .string (rrAt k).di) rfl
    have BW : Hid (Below w.heap.size w w9) := BV.out.trans (BF.out.mono BV.out.size)
    clear n9 d0 a0 a1 a2 a3 a4 f0 f1 f2 f3 f4 r0 r1 r2 r3 r4 e8 eA zA hbx hge
    try clear hbr
    try clear q0 q1 q2 q3 q4
    try clear hbxA
    rw [HLE.out] at u2
    rw [HMO.out] at u3
    go_wp2_with fail
    refine rhas_any (rrAt k).fe kd hkd5 (rr_sizes k hk9).1 _ _ fun w10 hb => ?_
    rw [HON.out]
    have B10 : Hid (Below w.heap.size w w10) := BW.out.trans (hb.mono BW.out.size)
    have hg0 := cellB hb g0 (lt_of_cell g0)
    have hg1 := cellB hb g1 (lt_of_cell g1)
    have hg2 := cellB hb g2 (lt_of_cell g2)
    have hg3 := cellB hb g3 (lt_of_cell g3)
    have hg4 := cellB hb g4 (lt_of_cell g4)
    have hg5 := cellB hb g5 (lt_of_cell g5)
    have hg6 := cellB hb g6 (lt_of_cell g6)
    have hg7 := cellB hb g7 (lt_of_cell g7)
    have hg8 := cellB hb g8 (lt_of_cell g8)
    have hy0 := cellB hb y0 (lt_of_cell y0)
    have hy1 := cellB hb y1 (lt_of_cell y1)
    have hy2 := cellB hb y2 (lt_of_cell y2)
    have hy3 := cellB hb y3 (lt_of_cell y3)
    have hy4 := cellB hb y4 (lt_of_cell y4)
    have hu2 := cellB hb u2 (lt_of_cell u2)
    have hu3 := cellB hb u3 (lt_of_cell u3)
    have hu4 := cellB hb u4 (lt_of_cell u4)
    clear hb g0 g1 g2 g3 g4 g5 g6 g7 g8 y0 y1 y2 y3 y4 u2 u3 u4
    cases ON with
    | false =>
      have e : Hid (E = 14) := by unfold Hid; rw [hE.out, if_neg (by simp)]
      go_wp2_with fail
      exact ret_i (HR.out _ B10.out) rfl e.out
    | true =>
      have hE1 : Hid (E = if d = true ∧ DI = false then 3 else if t = 0 ∧ m ≠ 1 then 10 else if m ≠ 0 ∧ MM = false then 3 else if (dn : Int) < LE then 13 else if MO < (dn : Int) then 5 else 0) := by unfold Hid; rw [hE.out, if_pos rfl]
      cases d with
      | false =>
        have hE2 : Hid (E = if t = 0 ∧ m ≠ 1 then 10 else if m ≠ 0 ∧ MM = false then 3 else if (dn : Int) < LE then 13 else if MO < (dn : Int) then 5 else 0) := by unfold Hid; rw [hE1.out, if_neg (by simp)]
        by_cases t0 : t = 0 ∧ m ≠ 1
        · have K4 : (t == 0) = true := by simpa using t0.1
          have K5 : (m != 1) = true := by simpa using t0.2
          have e : Hid (E = 10) := by unfold Hid; rw [hE2.out, if_pos t0]
          clear t0
          go_wp2_with fail
          exact ret_i (HR.out _ B10.out) rfl e.out
        have hE3 : Hid (E = if m ≠ 0 ∧ MM = false then 3 else if (dn : Int) < LE then 13 else if MO < (dn : Int) then 5 else 0) := by unfold Hid; rw [hE2.out, if_neg t0]
        have t1 : (t == 0) = false ∨ ((t == 0) = true ∧ (m != 1) = false) := by
          by_cases e4 : t = 0
          · right; exact ⟨by simpa using e4, by simpa using fun h0 => t0 ⟨e4, h0⟩⟩
          · left; simpa using e4
        clear t0
        by_cases m0 : m = 0
        · have K6 : (m != 0) = false := by simpa using m0
          have K6b : (m == 0) = true := by simpa using m0
          have hE4 : Hid (E = if (dn : Int) < LE then 13 else if MO < (dn : Int) then 5 else 0) := by unfold Hid; rw [hE3.out, if_neg (fun h => h.1 m0)]
          clear m0
          rcases t1 with K4 | ⟨K4, K5⟩
          all_goals
            by_cases l1 : (dn : Int) < LE
            · have K7 : ((dn : Int) < LE) = True := eq_true l1
              have e : Hid (E = 13) := by unfold Hid; rw [hE4.out, if_pos l1]
              go_wp2_with fail
              exact ret_i (HR.out _ B10.out) rfl e.out
            · have K7 : ((dn : Int) < LE) = False := eq_false l1
              by_cases l2 : MO < (dn : Int)
              · have K8 : (MO < (dn : Int)) = True := eq_true l2
                have e : Hid (E = 5) := by unfold Hid; rw [hE4.out, if_neg l1, if_pos l2]
                go_wp2_with fail
                exact ret_i (HR.out _ B10.out) rfl e.out
              · have K8 : (MO < (dn : Int)) = False := eq_false l2
                have e : Hid (E = 0) := by unfold Hid; rw [hE4.out, if_neg l1, if_neg l2]
                go_wp2_with fail
                exact ret_i (HR.out _ B10.out) rfl e.out
        · have K6 : (m != 0) = true := by simpa using m0
          have K6b : (m == 0) = false := by simpa using m0
          rcases t1 with K4 | ⟨K4, K5⟩
          all_goals
            have M0 := Lib.hid m0
            clear m0
            go_wp2_with fail
            rw [← HFV.out]
            refine rmm_any f fo fc kd k hkd _ _ fun wq hb => ?_
            rw [HMM.out]
            have BQ : Hid (Below w.heap.size w wq) := B10.out.trans (hb.mono B10.out.size)
            have sg0 := cellB hb hg0 (lt_of_cell hg0)
            have sg1 := cellB hb hg1 (lt_of_cell hg1)
            have sg2 := cellB hb hg2 (lt_of_cell hg2)
            have sg3 := cellB hb hg3 (lt_of_cell hg3)
            have sg4 := cellB hb hg4 (lt_of_cell hg4)
            have sg5 := cellB hb hg5 (lt_of_cell hg5)
            have sg6 := cellB hb hg6 (lt_of_cell hg6)
            have sg7 := cellB hb hg7 (lt_of_cell hg7)
            have sg8 := cellB hb hg8 (lt_of_cell hg8)
            have sy0 := cellB hb hy0 (lt_of_cell hy0)
            have sy1 := cellB hb hy1 (lt_of_cell hy1)
            have sy2 := cellB hb hy2 (lt_of_cell hy2)
            have sy3 := cellB hb hy3 (lt_of_cell hy3)
            have sy4 := cellB hb hy4 (lt_of_cell hy4)
            have su2 := cellB hb hu2 (lt_of_cell hu2)
            have su3 := cellB hb hu3 (lt_of_cell hu3)
            have su4 := cellB hb hu4 (lt_of_cell hu4)
            clear hb hg0 hg1 hg2 hg3 hg4 hg5 hg6 hg7 hg8 hy0 hy1 hy2 hy3 hy4 hu2 hu3 hu4
            cases MM with
            | false =>
              have e : Hid (E = 3) := by unfold Hid; rw [hE3.out, if_pos ⟨M0.out, rfl⟩]
              go_wp2_with fail
              exact ret_i (HR.out _ BQ.out) rfl e.out
            | true =>
              have hE4 : Hid (E = if (dn : Int) < LE then 13 else if MO < (dn : Int) then 5 else 0) := by unfold Hid; rw [hE3.out, if_neg (by simp)]
              by_cases l1 : (dn : Int) < LE
              · have K7 : ((dn : Int) < LE) = True := eq_true l1
                have e : Hid (E = 13) := by unfold Hid; rw [hE4.out, if_pos l1]
                go_wp2_with fail
                exact ret_i (HR.out _ BQ.out) rfl e.out
              · have K7 : ((dn : Int) < LE) = False := eq_false l1
                by_cases l2 : MO < (dn : Int)
                · have K8 : (MO < (dn : Int)) = True := eq_true l2
                  have e : Hid (E = 5) := by unfold Hid; rw [hE4.out, if_neg l1, if_pos l2]
                  go_wp2_with fail
                  exact ret_i (HR.out _ BQ.out) rfl e.out
                · have K8 : (MO < (dn : Int)) = False := eq_false l2
                  have e : Hid (E = 0) := by unfold Hid; rw [hE4.out, if_neg l1, if_neg l2]
                  go_wp2_with fail
                  exact ret_i (HR.out _ BQ.out) rfl e.out
      | true =>
        go_wp2_with fail
        refine rhas_any (rrAt k).di kd hkd5 (rr_sizes k hk9).2 _ _ fun w11 hb => ?_
        rw [HDI.out]
        have B11 : Hid (Below w.heap.size w w11) := B10.out.trans (hb.mono B10.out.size)
        have jg0 := cellB hb hg0 (lt_of_cell hg0)
        have jg1 := cellB hb hg1 (lt_of_cell hg1)
        have jg2 := cellB hb hg2 (lt_of_cell hg2)
        have jg3 := cellB hb hg3 (lt_of_cell hg3)
        have jg4 := cellB hb hg4 (lt_of_cell hg4)
        have jg5 := cellB hb hg5 (lt_of_cell hg5)
        have jg6 := cellB hb hg6 (lt_of_cell hg6)
        have jg7 := cellB hb hg7 (lt_of_cell hg7)
        have jg8 := cellB hb hg8 (lt_of_cell hg8)
        have jy0 := cellB hb hy0 (lt_of_cell hy0)
        have jy1 := cellB hb hy1 (lt_of_cell hy1)
        have jy2 := cellB hb hy2 (lt_of_cell hy2)
        have jy3 := cellB hb hy3 (lt_of_cell hy3)
        have jy4 := cellB hb hy4 (lt_of_cell hy4)
        have ju2 := cellB hb hu2 (lt_of_cell hu2)
        have ju3 := cellB hb hu3 (lt_of_cell hu3)
        have ju4 := cellB hb hu4 (lt_of_cell hu4)
        clear hb hg0 hg1 hg2 hg3 hg4 hg5 hg6 hg7 hg8 hy0 hy1 hy2 hy3 hy4 hu2 hu3 hu4
        cases DI with
        | false =>
          have e : Hid (E = 3) := by unfold Hid; rw [hE1.out, if_pos (by simp)]
          go_wp2_with fail
          exact ret_i (HR.out _ B11.out) rfl e.out
        | true =>
          have hE2 : Hid (E = if t = 0 ∧ m ≠ 1 then 10 else if m ≠ 0 ∧ MM = false then 3 else if (dn : Int) < LE then 13 else if MO < (dn : Int) then 5 else 0) := by unfold Hid; rw [hE1.out, if_neg (by simp)]
          by_cases t0 : t = 0 ∧ m ≠ 1
          · have K4 : (t == 0) = true := by simpa using t0.1
            have K5 : (m != 1) = true := by simpa using t0.2
            have e : Hid (E = 10) := by unfold Hid; rw [hE2.out, if_pos t0]
            clear t0
            go_wp2_with fail
            exact ret_i (HR.out _ B11.out) rfl e.out
          have hE3 : Hid (E = if m ≠ 0 ∧ MM = false then 3 else if (dn : Int) < LE then 13 else if MO < (dn : Int) then 5 else 0) := by unfold Hid; rw [hE2.out, if_neg t0]
          have t1 : (t == 0) = false ∨ ((t == 0) = true ∧ (m != 1) = false) := by
            by_cases e4 : t = 0
            · right; exact ⟨by simpa using e4, by simpa using fun h0 => t0 ⟨e4, h0⟩⟩
            · left; simpa using e4
          clear t0
          by_cases m0 : m = 0
          · have K6 : (m != 0) = false := by simpa using m0
            have K6b : (m == 0) = true := by simpa using m0
            have hE4 : Hid (E = if (dn : Int) < LE then 13 else if MO < (dn : Int) then 5 else 0) := by unfold Hid; rw [hE3.out, if_neg (fun h => h.1 m0)]
            clear m0
            rcases t1 with K4 | ⟨K4, K5⟩
            all_goals
              by_cases l1 : (dn : Int) < LE
              · have K7 : ((dn : Int) < LE) = True := eq_true l1
                have e : Hid (E = 13) := by unfold Hid; rw [hE4.out, if_pos l1]
                go_wp2_with fail
                exact ret_i (HR.out _ B11.out) rfl e.out
              · have K7 : ((dn : Int) < LE) = False := eq_false l1
                by_cases l2 : MO < (dn : Int)
                · have K8 : (MO < (dn : Int)) = True := eq_true l2
                  have e : Hid (E = 5) := by unfold Hid; rw [hE4.out, if_neg l1, if_pos l2]
                  go_wp2_with fail
                  exact ret_i (HR.out _ B11.out) rfl e.out
                · have K8 : (MO < (dn : Int)) = False := eq_false l2
                  have e : Hid (E = 0) := by unfold Hid; rw [hE4.out, if_neg l1, if_neg l2]
                  go_wp2_with fail
                  exact ret_i (HR.out _ B11.out) rfl e.out
          · have K6 : (m != 0) = true := by simpa using m0
            have K6b : (m == 0) = false := by simpa using m0
            rcases t1 with K4 | ⟨K4, K5⟩
            all_goals
              have M0 := Lib.hid m0
              clear m0
              go_wp2_with fail
              rw [← HFV.out]
              refine rmm_any f fo fc kd k hkd _ _ fun wq hb => ?_
              rw [HMM.out]
              have BQ : Hid (Below w.heap.size w wq) := B11.out.trans (hb.mono B11.out.size)
              have sg0 := cellB hb jg0 (lt_of_cell jg0)
              have sg1 := cellB hb jg1 (lt_of_cell jg1)
              have sg2 := cellB hb jg2 (lt_of_cell jg2)
              have sg3 := cellB hb jg3 (lt_of_cell jg3)
              have sg4 := cellB hb jg4 (lt_of_cell jg4)
              have sg5 := cellB hb jg5 (lt_of_cell jg5)
              have sg6 := cellB hb jg6 (lt_of_cell jg6)
              have sg7 := cellB hb jg7 (lt_of_cell jg7)
              have sg8 := cellB hb jg8 (lt_of_cell jg8)
              have sy0 := cellB hb jy0 (lt_of_cell jy0)
              have sy1 := cellB hb jy1 (lt_of_cell jy1)
              have sy2 := cellB hb jy2 (lt_of_cell jy2)
              have sy3 := cellB hb jy3 (lt_of_cell jy3)
              have sy4 := cellB hb jy4 (lt_of_cell jy4)
              have su2 := cellB hb ju2 (lt_of_cell ju2)
              have su3 := cellB hb ju3 (lt_of_cell ju3)
              have su4 := cellB hb ju4 (lt_of_cell ju4)
              clear hb jg0 jg1 jg2 jg3 jg4 jg5 jg6 jg7 jg8 jy0 jy1 jy2 jy3 jy4 ju2 ju3 ju4
              cases MM with
              | false =>
                have e : Hid (E = 3) := by unfold Hid; rw [hE3.out, if_pos ⟨M0.out, rfl⟩]
                go_wp2_with fail
                exact ret_i (HR.out _ BQ.out) rfl e.out
              | true =>
                have hE4 : Hid (E = if (dn : Int) < LE then 13 else if MO < (dn : Int) then 5 else 0) := by unfold Hid; rw [hE3.out, if_neg (by simp)]
                by_cases l1 : (dn : Int) < LE
                · have K7 : ((dn : Int) < LE) = True := eq_true l1
                  have e : Hid (E = 13) := by unfold Hid; rw [hE4.out, if_pos l1]
                  go_wp2_with fail
                  exact ret_i (HR.out _ BQ.out) rfl e.out
                · have K7 : ((dn : Int) < LE) = False := eq_false l1
                  by_cases l2 : MO < (dn : Int)
                  · have K8 : (MO < (dn : Int)) = True := eq_true l2
                    have e : Hid (E = 5) := by unfold Hid; rw [hE4.out, if_neg l1, if_pos l2]
                    go_wp2_with fail
                    exact ret_i (HR.out _ BQ.out) rfl e.out
                  · have K8 : (MO < (dn : Int)) = False := eq_false l2
                    have e : Hid (E = 0) := by unfold Hid; rw [hE4.out, if_neg l1, if_neg l2]
                    go_wp2_with fail
                    exact ret_i (HR.out _ BQ.out) rfl e.out
end Go.Proofs.YtciokmjhdbcmpaaGreatDoor
namespace Go.Proofs.YtciokmjhdbcmpaaGreatDoor
open Go.RowKit

theorem set6 (w : World) (b : Nat) (z0 z1 z2 z3 z4 z5 x0 x1 x2 x3 x4 x5 : Value) (T : TypeId) (h : w.heap[b]? = some (.cells #[z0, z1, z2, z3, z4, z5] T (0, 0))) :
    ∃ w', (((((w.setCell ⟨b, 0, none⟩ x0).setCell ⟨b, 1, none⟩ x1).setCell ⟨b, 2, none⟩ x2).setCell ⟨b, 3, none⟩ x3).setCell ⟨b, 4, none⟩ x4).setCell ⟨b, 5, none⟩ x5 = w' ∧ Hid (Below b w w') ∧ Hid (∀ j, j ≠ b → w'.heap[j]? = w.heap[j]?) ∧ Hid (w'.heap[b]? = some (.cells #[x0, x1, x2, x3, x4, x5] T (0, 0))) :=
  ⟨_, rfl, ((((((Below.refl b w).setCell (Nat.le_refl _) x0).setCell (Nat.le_refl _) x1).setCell (Nat.le_refl _) x2).setCell (Nat.le_refl _) x3).setCell (Nat.le_refl _) x4).setCell (Nat.le_refl _) x5,
    fun j hj => (Below.heap_setCell _ ⟨b, 5, none⟩ _ j hj).trans ((Below.heap_setCell _ ⟨b, 4, none⟩ _ j hj).trans ((Below.heap_setCell _ ⟨b, 3, none⟩ _ j hj).trans ((Below.heap_setCell _ ⟨b, 2, none⟩ _ j hj).trans ((Below.heap_setCell _ ⟨b, 1, none⟩ _ j hj).trans (Below.heap_setCell _ ⟨b, 0, none⟩ _ j hj))))),
    heap_setCell_same _ b 5 _ _ x5 (heap_setCell_same _ b 4 _ _ x4 (heap_setCell_same _ b 3 _ _ x3 (heap_setCell_same _ b 2 _ _ x2 (heap_setCell_same _ b 1 _ _ x1 (heap_setCell_same w b 0 _ _ x0 h)))))⟩
set_option maxRecDepth 100000 in
set_option maxHeartbeats 8000000 in
theorem fcheck_good (f : Ft) (fo : Option Addr) (fc : Nat) (x : Fm) (da : Option Addr) (dc : Nat) (w : World) (R : Ending → World → Prop) (hok : FtOk w f fo fc) (hox : FmOk w x da dc) (hf0 : ftE f = 0) (hx0 : plE x = 0)
   (hR : ∀ w', Below w.heap.size w w' → R (.returned (.int .i64 (fcE f x))) w') :
    Calls Tryz.prog 13 #[ftV f fo fc, fmV x da dc] w R := by
  have HR := Lib.hid hR
  obtain ⟨hk0, hk5⟩ := ftE_kind hf0
  obtain ⟨hx1, hx9⟩ := plE_kind hx0
  have hl := plE_few hx0
  obtain ⟨kd, hkd⟩ : ∃ kd : Nat, f.k = kd := ⟨f.k.toNat, (Int.toNat_of_nonneg hk0).symm⟩
  obtain ⟨k, hk⟩ : ∃ k : Nat, x.k = k := ⟨x.k.toNat, (Int.toNat_of_nonneg hx1).symm⟩
  have hkd5 : kd < 5 := by omega
  have hk9 : k < 9 := by omega
  obtain ⟨fn, hfn⟩ : ∃ fn, f.fs.length = fn := ⟨_, rfl⟩
  have HFV : Hid (ftV f fo fc = .agg #[.string f.n, .int .i64 kd, .int .i64 f.a, .int .i64 f.x, .int .i64 f.y, .int .i64 f.z, .int .i64 f.l, .int .i64 f.h, .slice fo fn fc]) := by unfold Hid ftV; rw [hkd, hfn]
  obtain ⟨dn, hdn⟩ : ∃ dn, x.ds.length = dn := ⟨_, rfl⟩
  have HDN := Lib.hid hdn
  have HXV : Hid (fmV x da dc = .agg #[.int .i64 k, .bool x.d, .int .i64 x.t, .int .i64 x.m, .slice da dn dc]) := by unfold Hid fmV; rw [hk, hdn]
  have HCD := Lib.hid hox.cells
  have HDS := Lib.hid hox.ok
  have HOF := Lib.hid hok
  have HOX := Lib.hid hox
  have HF0 := Lib.hid hf0
  have HX0 := Lib.hid hx0
  obtain ⟨d, hd⟩ : ∃ d, x.d = d := ⟨_, rfl⟩
  obtain ⟨t, ht⟩ : ∃ t, x.t = t := ⟨_, rfl⟩
  obtain ⟨m, hm⟩ : ∃ m, x.m = m := ⟨_, rfl⟩
  have hfc : fcE f x = if pmE kd k d t m dn = 0 then (if anyN (fun i => dnQ f.n (dtAt x.ds i)) x.ds.length = true then 7 else 0) else pmE kd k d t m dn := by
    unfold fcE
    rw [if_pos hf0, if_pos hx0, hkd, hk, hd, ht, hm, hdn, Int.toNat_natCast, Int.toNat_natCast]
  rw [HFV.out, HXV.out, hd, ht, hm]
  rw [hd, ht, hm] at HXV
  rw [hdn] at hl
  obtain ⟨ON, hON⟩ : ∃ ON, isB (rwAt k).on kd = ON := ⟨_, rfl⟩
  obtain ⟨DI, hDI⟩ : ∃ DI, isB (rwAt k).di kd = DI := ⟨_, rfl⟩
  obtain ⟨MA, hMA⟩ : ∃ MA, (rwAt k).ma = MA := ⟨_, rfl⟩
  obtain ⟨KZ, hKZ⟩ : ∃ KZ, (kd != 0) = KZ := ⟨_, rfl⟩
  obtain ⟨LE, hLE⟩ : ∃ LE, (rwAt k).le = LE := ⟨_, rfl⟩
  obtain ⟨MO, hMO⟩ : ∃ MO, (rwAt k).mo = MO := ⟨_, rfl⟩
  obtain ⟨AQ, hAQ⟩ : ∃ AQ, anyN (fun i => dnQ f.n (dtAt x.ds i)) x.ds.length = AQ := ⟨_, rfl⟩
  have HON := Lib.hid hON
  have HDI := Lib.hid hDI
  have HMA := Lib.hid hMA
  have HLE := Lib.hid hLE
  have HMO := Lib.hid hMO
  have HAQ := Lib.hid hAQ
  have hmm := tabs_ma k hk9 kd hkd5
  have hkz : (((kd : Int) == 0) = true ∧ KZ = false) ∨ (((kd : Int) == 0) = false ∧ KZ = true) := by
    by_cases h0 : kd = 0
    · left; exact ⟨by rw [h0]; rfl, by rw [← hKZ, h0]; rfl⟩
    · right; exact ⟨by rw [beq_eq_false_iff_ne]; omega, by rw [← hKZ]; simpa using h0⟩
  rw [hMA, hKZ] at hmm
  obtain ⟨E, hE0⟩ : ∃ E, fcE f x = E := ⟨_, rfl⟩
  have hE : Hid (E = if ON = true then (if d = true ∧ DI = false then 3 else if t = 0 ∧ m ≠ 1 then 10 else if m ≠ 0 ∧ (MA && KZ) = false then 3 else if (dn : Int) < LE then 13 else if MO < (dn : Int) then 5 else if AQ = true then 7 else 0) else 14) := by
    unfold Hid
    rw [← hE0, hfc, hAQ]
    unfold pmE
    rw [hON, hDI, hmm, hLE, hMO]
    repeat' split
    all_goals first | rfl | contradiction | omega
  rw [hE0] at HR
  have hidx : ∀ w, (Instr.index 81 (.agg rwA) (.int .i64 k)).run Tryz.prog w = .ok (.agg #[.string (rwAt k).wd, .string (rwAt k).on, .string (rwAt k).di, .int .i64 (rwAt k).le, .int .i64 (rwAt k).mo, .bool (rwAt k).ma]) w := idx_rows k hk9
  clear hR hfn hdn hd ht hm hk hok hox hf0 hx0 hON hDI hMA hKZ hLE hMO hAQ hmm hfc hE0 hk0 hk5 hx1 hx9
  obtain ⟨w1, E1, HB1, s1, X1⟩ := box_ex w #[.string f.n, .int .i64 kd, .int .i64 f.a, .int .i64 f.x, .int .i64 f.y, .int .i64 f.z, .int .i64 f.l, .int .i64 f.h, .slice fo fn fc] 28
  obtain ⟨W0, E2, HB2, s2, X2⟩ := box_ex w1 #[.int .i64 k, .bool d, .int .i64 t, .int .i64 m, .slice da dn dc] 31
  have HX10 := Lib.hid ((HB2.out.block _ s1).trans X1.out)
  have HX20 := Lib.hid X2.out
  have BW0 : Hid (Below w.heap.size w W0) := HB1.out.trans (HB2.out.mono (Nat.le_of_lt s1))
  clear X1 X2
  go_enter Tryz.func13, Tryz.ntmps13
  have p0 := cell_at HX10.out (j := 0) (v := .string f.n) rfl
  have p1 := cell_at HX10.out (j := 1) (v := .int .i64 kd) rfl
  have p2 := cell_at HX10.out (j := 2) (v := .int .i64 f.a) rfl
  have p3 := cell_at HX10.out (j := 3) (v := .int .i64 f.x) rfl
  have p4 := cell_at HX10.out (j := 4) (v := .int .i64 f.y) rfl
  have p5 := cell_at HX10.out (j := 5) (v := .int .i64 f.z) rfl
  have p6 := cell_at HX10.out (j := 6) (v := .int .i64 f.l) rfl
  have p7 := cell_at HX10.out (j := 7) (v := .int .i64 f.h) rfl
  have p8 := cell_at HX10.out (j := 8) (v := .slice fo fn fc) rfl
  go_wp2_with (first | rw [E1] | rw [E2])
  rw [← HFV.out]
  refine check18_any f fo fc _ _ HOF.out.name fun W1 hb => ?_
  rw [HF0.out]
  have BW1 : Hid (Below w.heap.size w W1) := BW0.out.trans (hb.mono BW0.out.size)
  have HX11 := Lib.hid ((hb.block _ (lt_of_block HX10.out)).trans HX10.out)
  have HX21 := Lib.hid ((hb.block _ (lt_of_block HX20.out)).trans HX20.out)
  clear p0 p1 p2 p3 p4 p5 p6 p7 p8 hb E1 E2
  have o0 := cell_at HX21.out (j := 0) (v := .int .i64 k) rfl
  have o1 := cell_at HX21.out (j := 1) (v := .bool d) rfl
  have o2 := cell_at HX21.out (j := 2) (v := .int .i64 t) rfl
  have o3 := cell_at HX21.out (j := 3) (v := .int .i64 m) rfl
  have o4 := cell_at HX21.out (j := 4) (v := .slice da dn dc) rfl
  go_wp2_with fail
  rw [← HXV.out]
  refine plain_any x da dc _ _ (HOX.out.below BW1.out) fun V hb => ?_
  rw [HX0.out]
  have BV : Hid (Below w.heap.size w V) := BW1.out.trans (hb.mono BW1.out.size)
  have HX1 := Lib.hid ((hb.block _ (lt_of_block HX11.out)).trans HX11.out)
  have HX2 := Lib.hid ((hb.block _ (lt_of_block HX21.out)).trans HX21.out)
  have d0 : V.drew.cell? ⟨w1.heap.size, 0, none⟩ = some (.int .i64 k) := cell_at HX2.out rfl
  have hxV : w1.heap.size < V.heap.size := lt_of_block HX2.out
  have BD : Hid (Below V.heap.size V V.drew) := (Below.refl _ _).drew
  clear hb o0 o1 o2 o3 o4
  go_wp2_with fail
  refine regionQ (fun w' => w'.cell? ⟨w1.heap.size, 0, none⟩ = some (.int .i64 k)) (by kernel_rfl) (d0) (fun Qn hPQ hQn hS0 => ?_)
  refine takeQ (i := 1) (d := some 20) (v := ?_) rfl rfl (by kernel_rfl) (by kernel_rfl) (by kernel_rfl) hPQ hS0 (by kernel_rfl) ?_ ?_
  rotate_left
  · (intro w hSw; (try dsimp only at hSw); go_simp; (try with_reducible rfl))
  (try simp only [Act.put, List.setIfInBounds_toArray, List.set_cons_zero, List.set_cons_succ])
  refine takeQ (i := 2) (d := some 21) (v := ?_) rfl rfl (by kernel_rfl) (by kernel_rfl) (by kernel_rfl) hPQ hS0 (by kernel_rfl) ?_ ?_
  rotate_left
  · (intro w hSw; (try dsimp only at hSw); go_simp; (try with_reducible rfl))
  (try simp only [Act.put, List.setIfInBounds_toArray, List.set_cons_zero, List.set_cons_succ])
  refine wpAnyH_ready (rs := [0, 4]) (by kernel_rfl) (by simp) ?_
  refine AllReadyH.cons (o := _) rfl (fun K hK => ?_) (AllReadyH.cons (o := _) rfl (fun K hK => ?_) AllReadyH.nil)
  go_simp
  refine rows_any _ _ fun w8 hb => ?_
  have B8 : Hid (Below V.heap.size V w8) := BD.out.trans (hb.mono BD.out.size)
  have e8 := cellB B8.out d0 hxV
  refine hK.out _ _ (e8) (fun hS1 => ?_)
  clear hK K hS0
  (try simp only [Act.put, List.setIfInBounds_toArray, List.set_cons_zero, List.set_cons_succ])
  refine takeQ (i := 3) (d := some 22) (v := ?_) rfl rfl (by kernel_rfl) (by kernel_rfl) (by kernel_rfl) hPQ hS1 (by kernel_rfl) ?_ ?_
  rotate_left
  · (intro w hSw; (try dsimp only at hSw); go_simp; (try with_reducible rfl))
  (try simp only [Act.put, List.setIfInBounds_toArray, List.set_cons_zero, List.set_cons_succ])
  refine wpAnyH_ready (rs := [4]) (by kernel_rfl) (by simp) ?_
  refine AllReadyH.cons (o := _) rfl (fun K hK => ?_) AllReadyH.nil
  go_simp
  obtain ⟨bx, hbx⟩ : ∃ bx, w8.heap.size = bx := ⟨_, rfl⟩
  have BA : Hid (Below V.heap.size V (w8.alloc (.cells #[.string ⟨#[]⟩, .string ⟨#[]⟩, .string ⟨#[]⟩, .int .i64 0, .int .i64 0, .bool false] 80))) := B8.out.alloc B8.out.size _
  have XA := World.alloc_heap_new w8 (.cells #[.string ⟨#[]⟩, .string ⟨#[]⟩, .string ⟨#[]⟩, .int .i64 0, .int .i64 0, .bool false] 80)
  have eA := cellB BA.out d0 hxV
  have hVb : V.heap.size ≤ bx := by rw [← hbx]; exact B8.out.size
  have zA : (w8.alloc (.cells #[.string ⟨#[]⟩, .string ⟨#[]⟩, .string ⟨#[]⟩, .int .i64 0, .int .i64 0, .bool false] 80)).heap.size = w8.heap.size + 1 := by simp
  obtain ⟨wA, hA⟩ : ∃ wA, w8.alloc (.cells #[.string ⟨#[]⟩, .string ⟨#[]⟩, .string ⟨#[]⟩, .int .i64 0, .int .i64 0, .bool false] 80) = wA := ⟨_, rfl⟩
  rw [hA] at BA XA eA zA ⊢
  rw [hbx] at XA zA ⊢
  have a0 := cell_at XA (j := 0) rfl
  have a1 := cell_at XA (j := 1) rfl
  have a2 := cell_at XA (j := 2) rfl
  have a3 := cell_at XA (j := 3) rfl
  have a4 := cell_at XA (j := 4) rfl
  have a5 := cell_at XA (j := 5) rfl
  have f0 := frozen_at XA 0
  have f1 := frozen_at XA 1
  have f2 := frozen_at XA 2
  have f3 := frozen_at XA 3
  have f4 := frozen_at XA 4
  have f5 := frozen_at XA 5
  have XAh := Lib.hid XA
  clear XA hA
  refine hK.out _ _ (eA) (fun hS2 => ?_)
  clear hK K hS1
  (try simp only [Act.put, List.setIfInBounds_toArray, List.set_cons_zero, List.set_cons_succ])
  refine wpAnyH_ready (rs := [5]) (by kernel_rfl) (by simp) ?_
  refine AllReadyH.cons (o := _) rfl (fun K hK => ?_) AllReadyH.nil
  go_simp
  obtain ⟨w9, E9, B9, K9, X9⟩ := set6 wA bx _ _ _ _ _ _ (.string (rwAt k).wd) (.string (rwAt k).on) (.string (rwAt k).di) (.int .i64 (rwAt k).le) (.int .i64 (rwAt k).mo) (.bool (rwAt k).ma) _ XAh.out
  have n9 := (World.cell?_of_block (a := ⟨w1.heap.size, 0, none⟩) (K9.out w1.heap.size (by omega))).trans eA
  rw [E9]
  have BF : Hid (Below V.heap.size V w9) := BA.out.trans (B9.out.mono hVb)
  refine hK.out _ _ (n9) (fun hS3 => ?_)
  clear hK K hS2
  (try simp only [Act.put, List.setIfInBounds_toArray, List.set_cons_zero, List.set_cons_succ])
  refine wpAnyH_done (by kernel_rfl) (hQn.out _ _ ?_) _
  clear hS3 hPQ hQn Qn
  rotate_left
  go_simp
  obtain ⟨bx, hbx⟩ : ∃ bx, V.heap.size = bx := ⟨_, rfl⟩
  have BA : Hid (Below V.heap.size V (V.alloc (.cells #[.string ⟨#[]⟩, .string ⟨#[]⟩, .string ⟨#[]⟩, .int .i64 0, .int .i64 0, .bool false] 80)).drew) := ((Below.refl _ V).alloc (Nat.le_refl _) _).drew
  have XA : (V.alloc (.cells #[.string ⟨#[]⟩, .string ⟨#[]⟩, .string ⟨#[]⟩, .int .i64 0, .int .i64 0, .bool false] 80)).drew.heap[V.heap.size]? = some (.cells #[.string ⟨#[]⟩, .string ⟨#[]⟩, .string ⟨#[]⟩, .int .i64 0, .int .i64 0, .bool false] 80 (0, 0)) := World.alloc_heap_new V (.cells #[.string ⟨#[]⟩, .string ⟨#[]⟩, .string ⟨#[]⟩, .int .i64 0, .int .i64 0, .bool false] 80)
  have eA := cellB BA.out d0 hxV
  have hVb : V.heap.size ≤ bx := Nat.le_of_eq hbx
  have zA : (V.alloc (.cells #[.string ⟨#[]⟩, .string ⟨#[]⟩, .string ⟨#[]⟩, .int .i64 0, .int .i64 0, .bool false] 80)).drew.heap.size = V.heap.size + 1 := (by simp : (V.alloc (.cells #[.string ⟨#[]⟩, .string ⟨#[]⟩, .string ⟨#[]⟩, .int .i64 0, .int .i64 0, .bool false] 80)).heap.size = V.heap.size + 1)
  obtain ⟨wA, hA⟩ : ∃ wA, (V.alloc (.cells #[.string ⟨#[]⟩, .string ⟨#[]⟩, .string ⟨#[]⟩, .int .i64 0, .int .i64 0, .bool false] 80)).drew = wA := ⟨_, rfl⟩
  rw [hA] at BA XA eA zA ⊢
  rw [hbx] at XA zA ⊢
  have a0 := cell_at XA (j := 0) rfl
  have a1 := cell_at XA (j := 1) rfl
  have a2 := cell_at XA (j := 2) rfl
  have a3 := cell_at XA (j := 3) rfl
  have a4 := cell_at XA (j := 4) rfl
  have a5 := cell_at XA (j := 5) rfl
  have f0 := frozen_at XA 0
  have f1 := frozen_at XA 1
  have f2 := frozen_at XA 2
  have f3 := frozen_at XA 3
  have f4 := frozen_at XA 4
  have f5 := frozen_at XA 5
  have XAh := Lib.hid XA
  clear XA hA
  refine hK.out _ _ (eA) (fun hS1 => ?_)
  clear hK K hS0
  (try simp only [Act.put, List.setIfInBounds_toArray, List.set_cons_zero, List.set_cons_succ])
  refine wpAnyH_ready (rs := [0]) (by kernel_rfl) (by simp) ?_
  refine AllReadyH.cons (o := _) rfl (fun K hK => ?_) AllReadyH.nil
  go_simp
  refine rows_any _ _ fun w8 hb => ?_
  have B8 : Hid (Below V.heap.size V w8) := BA.out.trans (hb.mono BA.out.size)
  have e8 := cellB B8.out d0 hxV
  have XA2 := (hb.block bx (lt_of_block XAh.out)).trans XAh.out
  clear XAh a0 f0 a1 f1 a2 f2 a3 f3 a4 f4 a5 f5
  have a0 := cell_at XA2 (j := 0) rfl
  have a1 := cell_at XA2 (j := 1) rfl
  have a2 := cell_at XA2 (j := 2) rfl
  have a3 := cell_at XA2 (j := 3) rfl
  have a4 := cell_at XA2 (j := 4) rfl
  have a5 := cell_at XA2 (j := 5) rfl
  have f0 := frozen_at XA2 0
  have f1 := frozen_at XA2 1
  have f2 := frozen_at XA2 2
  have f3 := frozen_at XA2 3
  have f4 := frozen_at XA2 4
  have f5 := frozen_at XA2 5
  have XAh := Lib.hid XA2
  clear XA2
  refine hK.out _ _ (e8) (fun hS2 => ?_)
  clear hK K hS1
  (try simp only [Act.put, List.setIfInBounds_toArray, List.set_cons_zero, List.set_cons_succ])
  refine takeQ (i := 3) (d := some 22) (v := ?_) rfl rfl (by kernel_rfl) (by kernel_rfl) (by kernel_rfl) hPQ hS2 (by kernel_rfl) ?_ ?_
  rotate_left
  · (intro w hSw; (try dsimp only at hSw); go_simp; (try with_reducible rfl))
  (try simp only [Act.put, List.setIfInBounds_toArray, List.set_cons_zero, List.set_cons_succ])
  refine wpAnyH_ready (rs := [5]) (by kernel_rfl) (by simp) ?_
  refine AllReadyH.cons (o := _) rfl (fun K hK => ?_) AllReadyH.nil
  go_simp
  obtain ⟨w9, E9, B9, K9, X9⟩ := set6 w8 bx _ _ _ _ _ _ (.string (rwAt k).wd) (.string (rwAt k).on) (.string (rwAt k).di) (.int .i64 (rwAt k).le) (.int .i64 (rwAt k).mo) (.bool (rwAt k).ma) _ XAh.out
  have n9 := (World.cell?_of_block (a := ⟨w1.heap.size, 0, none⟩) (K9.out w1.heap.size (by omega))).trans e8
  rw [E9]
  have BF : Hid (Below V.heap.size V w9) := B8.out.trans (B9.out.mono hVb)
  refine hK.out _ _ (n9) (fun hS3 => ?_)
  clear hK K hS2
  (try simp only [Act.put, List.setIfInBounds_toArray, List.set_cons_zero, List.set_cons_succ])
  refine wpAnyH_done (by kernel_rfl) (hQn.out _ _ ?_) _
  clear hS3 hPQ hQn Qn
  rotate_left
  all_goals
    have g0 := cellB BF.out (cell_at HX1.out (j := 0) (v := .string f.n) rfl) (lt_of_block HX1.out)
    have g1 := cellB BF.out (cell_at HX1.out (j := 1) (v := .int .i64 kd) rfl) (lt_of_block HX1.out)
    have g2 := cellB BF.out (cell_at HX1.out (j := 2) (v := .int .i64 f.a) rfl) (lt_of_block HX1.out)
    have g3 := cellB BF.out (cell_at HX1.out (j := 3) (v := .int .i64 f.x) rfl) (lt_of_block HX1.out)
    have g4 := cellB BF.out (cell_at HX1.out (j := 4) (v := .int .i64 f.y) rfl) (lt_of_block HX1.out)
    have g5 := cellB BF.out (cell_at HX1.out (j := 5) (v := .int .i64 f.z) rfl) (lt_of_block HX1.out)
    have g6 := cellB BF.out (cell_at HX1.out (j := 6) (v := .int .i64 f.l) rfl) (lt_of_block HX1.out)
    have g7 := cellB BF.out (cell_at HX1.out (j := 7) (v := .int .i64 f.h) rfl) (lt_of_block HX1.out)
    have g8 := cellB BF.out (cell_at HX1.out (j := 8) (v := .slice fo fn fc) rfl) (lt_of_block HX1.out)
    have y0 := cellB BF.out (cell_at HX2.out (j := 0) (v := .int .i64 k) rfl) (lt_of_block HX2.out)
    have y1 := cellB BF.out (cell_at HX2.out (j := 1) (v := .bool d) rfl) (lt_of_block HX2.out)
    have y2 := cellB BF.out (cell_at HX2.out (j := 2) (v := .int .i64 t) rfl) (lt_of_block HX2.out)
    have y3 := cellB BF.out (cell_at HX2.out (j := 3) (v := .int .i64 m) rfl) (lt_of_block HX2.out)
    have y4 := cellB BF.out (cell_at HX2.out (j := 4) (v := .slice da dn dc) rfl) (lt_of_block HX2.out)
    have u0 := cell_at X9.out (j := 0) (v := .string (rwAt k).wd) rfl
    have u1 := cell_at X9.out (j := 1) (v := .string (rwAt k).on) rfl
    have u2 := cell_at X9.out (j := 2) (v := .string (rwAt k).di) rfl
    have u3 := cell_at X9.out (j := 3) (v := .int .i64 (rwAt k).le) rfl
    have u4 := cell_at X9.out (j := 4) (v := .int .i64 (rwAt k).mo) rfl
    have u5 := cell_at X9.out (j := 5) (v := .bool (rwAt k).ma) rfl
    have BW : Hid (Below w.heap.size w w9) := BV.out.trans (BF.out.mono BV.out.size)
    clear n9 d0 e8 eA zA hbx a0 f0 a1 f1 a2 f2 a3 f3 a4 f4 a5 f5
    rw [HLE.out] at u3
    rw [HMO.out] at u4
    rw [HMA.out] at u5
    go_wp2_with fail
    refine is_any w.heap.size kd hkd5 _ _ _ g1 ?_
    rw [HON.out]
    cases ON with
    | false =>
      have e : Hid (E = 14) := by unfold Hid; rw [hE.out, if_neg (by simp)]
      go_wp2_with fail
      exact ret_i (HR.out _ BW.out) rfl e.out
    | true =>
      have hE1 : Hid (E = if d = true ∧ DI = false then 3 else if t = 0 ∧ m ≠ 1 then 10 else if m ≠ 0 ∧ (MA && KZ) = false then 3 else if (dn : Int) < LE then 13 else if MO < (dn : Int) then 5 else if AQ = true then 7 else 0) := by unfold Hid; rw [hE.out, if_pos rfl]
      cases d with
      | false =>
        have hE2 : Hid (E = if t = 0 ∧ m ≠ 1 then 10 else if m ≠ 0 ∧ (MA && KZ) = false then 3 else if (dn : Int) < LE then 13 else if MO < (dn : Int) then 5 else if AQ = true then 7 else 0) := by unfold Hid; rw [hE1.out, if_neg (by simp)]
        by_cases t0 : t = 0 ∧ m ≠ 1
        · have K4 : (t == 0) = true := by simpa using t0.1
          have K5 : (m != 1) = true := by simpa using t0.2
          have e : Hid (E = 10) := by unfold Hid; rw [hE2.out, if_pos t0]
          clear t0
          go_wp2_with fail
          exact ret_i (HR.out _ BW.out) rfl e.out
        have hE3 : Hid (E = if m ≠ 0 ∧ (MA && KZ) = false then 3 else if (dn : Int) < LE then 13 else if MO < (dn : Int) then 5 else if AQ = true then 7 else 0) := by unfold Hid; rw [hE2.out, if_neg t0]
        have t1 : (t == 0) = false ∨ ((t == 0) = true ∧ (m != 1) = false) := by
          by_cases e4 : t = 0
          · right; exact ⟨by simpa using e4, by simpa using fun h0 => t0 ⟨e4, h0⟩⟩
          · left; simpa using e4
        clear t0
        rcases t1 with K4 | ⟨K4, K5⟩
        all_goals
          by_cases m0 : m = 0
          · have K6 : (m != 0) = false := by simpa using m0
            have hE4 : Hid (E = if (dn : Int) < LE then 13 else if MO < (dn : Int) then 5 else if AQ = true then 7 else 0) := by unfold Hid; rw [hE3.out, if_neg (fun h => h.1 m0)]
            clear m0
            by_cases l1 : (dn : Int) < LE
            · have K7 : ((dn : Int) < LE) = True := eq_true l1
              have e : Hid (E = 13) := by unfold Hid; rw [hE4.out, if_pos l1]
              go_wp2_with fail
              exact ret_i (HR.out _ BW.out) rfl e.out
            · have K7 : ((dn : Int) < LE) = False := eq_false l1
              by_cases l2 : MO < (dn : Int)
              · have K8 : (MO < (dn : Int)) = True := eq_true l2
                have e : Hid (E = 5) := by unfold Hid; rw [hE4.out, if_neg l1, if_pos l2]
                go_wp2_with fail
                exact ret_i (HR.out _ BW.out) rfl e.out
              · have K8 : (MO < (dn : Int)) = False := eq_false l2
                have hE5 : Hid (E = if AQ = true then 7 else 0) := by unfold Hid; rw [hE4.out, if_neg l1, if_neg l2]
                go_wp2_with fail
                rw [← HDN.out]
                refine containsFuncD_any 44 _ (dnQ f.n) da x.ds dc _ _ (enters_of Tryz.func44 (by kernel_rfl) rfl) (by have := HDN.out; omega) (HCD.out.below BW.out) HDS.out (check2_dat w.heap.size f.n _ g0) fun wq hb => ?_
                rw [HAQ.out]
                have BQ : Hid (Below w.heap.size w wq) := BW.out.trans (hb.mono BW.out.size)
                clear hb
                cases AQ with
                | false =>
                  have e : Hid (E = 0) := by unfold Hid; rw [hE5.out, if_neg (by simp)]
                  go_wp2_with fail
                  exact ret_i (HR.out _ BQ.out) rfl e.out
                | true =>
                  have e : Hid (E = 7) := by unfold Hid; rw [hE5.out, if_pos rfl]
                  go_wp2_with fail
                  exact ret_i (HR.out _ BQ.out) rfl e.out
          · have K6 : (m != 0) = true := by simpa using m0
            have M0 := Lib.hid m0
            clear m0
            cases MA with
            | false =>
              have e : Hid (E = 3) := by unfold Hid; rw [hE3.out, if_pos ⟨M0.out, by simp⟩]
              go_wp2_with fail
              exact ret_i (HR.out _ BW.out) rfl e.out
            | true =>
              rcases hkz with ⟨K9, KZ0⟩ | ⟨K9, KZ0⟩
              · subst KZ0
                have e : Hid (E = 3) := by unfold Hid; rw [hE3.out, if_pos ⟨M0.out, by simp⟩]
                go_wp2_with fail
                exact ret_i (HR.out _ BW.out) rfl e.out
              · subst KZ0
                have hE4 : Hid (E = if (dn : Int) < LE then 13 else if MO < (dn : Int) then 5 else if AQ = true then 7 else 0) := by unfold Hid; rw [hE3.out, if_neg (by simp)]
                by_cases l1 : (dn : Int) < LE
                · have K7 : ((dn : Int) < LE) = True := eq_true l1
                  have e : Hid (E = 13) := by unfold Hid; rw [hE4.out, if_pos l1]
                  go_wp2_with fail
                  exact ret_i (HR.out _ BW.out) rfl e.out
                · have K7 : ((dn : Int) < LE) = False := eq_false l1
                  by_cases l2 : MO < (dn : Int)
                  · have K8 : (MO < (dn : Int)) = True := eq_true l2
                    have e : Hid (E = 5) := by unfold Hid; rw [hE4.out, if_neg l1, if_pos l2]
                    go_wp2_with fail
                    exact ret_i (HR.out _ BW.out) rfl e.out
                  · have K8 : (MO < (dn : Int)) = False := eq_false l2
                    have hE5 : Hid (E = if AQ = true then 7 else 0) := by unfold Hid; rw [hE4.out, if_neg l1, if_neg l2]
                    go_wp2_with fail
                    rw [← HDN.out]
                    refine containsFuncD_any 44 _ (dnQ f.n) da x.ds dc _ _ (enters_of Tryz.func44 (by kernel_rfl) rfl) (by have := HDN.out; omega) (HCD.out.below BW.out) HDS.out (check2_dat w.heap.size f.n _ g0) fun wq hb => ?_
                    rw [HAQ.out]
                    have BQ : Hid (Below w.heap.size w wq) := BW.out.trans (hb.mono BW.out.size)
                    clear hb
                    cases AQ with
                    | false =>
                      have e : Hid (E = 0) := by unfold Hid; rw [hE5.out, if_neg (by simp)]
                      go_wp2_with fail
                      exact ret_i (HR.out _ BQ.out) rfl e.out
                    | true =>
                      have e : Hid (E = 7) := by unfold Hid; rw [hE5.out, if_pos rfl]
                      go_wp2_with fail
                      exact ret_i (HR.out _ BQ.out) rfl e.out
      | true =>
        go_wp2_with fail
        refine is_any w.heap.size kd hkd5 _ _ _ g1 ?_
        rw [HDI.out]
        cases DI with
        | false =>
          have e : Hid (E = 3) := by unfold Hid; rw [hE1.out, if_pos (by simp)]
          go_wp2_with fail
          exact ret_i (HR.out _ BW.out) rfl e.out
        | true =>
          have hE2 : Hid (E = if t = 0 ∧ m ≠ 1 then 10 else if m ≠ 0 ∧ (MA && KZ) = false then 3 else if (dn : Int) < LE then 13 else if MO < (dn : Int) then 5 else if AQ = true then 7 else 0) := by unfold Hid; rw [hE1.out, if_neg (by simp)]
          by_cases t0 : t = 0 ∧ m ≠ 1
          · have K4 : (t == 0) = true := by simpa using t0.1
            have K5 : (m != 1) = true := by simpa using t0.2
            have e : Hid (E = 10) := by unfold Hid; rw [hE2.out, if_pos t0]
            clear t0
            go_wp2_with fail
            exact ret_i (HR.out _ BW.out) rfl e.out
          have hE3 : Hid (E = if m ≠ 0 ∧ (MA && KZ) = false then 3 else if (dn : Int) < LE then 13 else if MO < (dn : Int) then 5 else if AQ = true then 7 else 0) := by unfold Hid; rw [hE2.out, if_neg t0]
          have t1 : (t == 0) = false ∨ ((t == 0) = true ∧ (m != 1) = false) := by
            by_cases e4 : t = 0
            · right; exact ⟨by simpa using e4, by simpa using fun h0 => t0 ⟨e4, h0⟩⟩
            · left; simpa using e4
          clear t0
          rcases t1 with K4 | ⟨K4, K5⟩
          all_goals
            by_cases m0 : m = 0
            · have K6 : (m != 0) = false := by simpa using m0
              have hE4 : Hid (E = if (dn : Int) < LE then 13 else if MO < (dn : Int) then 5 else if AQ = true then 7 else 0) := by unfold Hid; rw [hE3.out, if_neg (fun h => h.1 m0)]
              clear m0
              by_cases l1 : (dn : Int) < LE
              · have K7 : ((dn : Int) < LE) = True := eq_true l1
                have e : Hid (E = 13) := by unfold Hid; rw [hE4.out, if_pos l1]
                go_wp2_with fail
                exact ret_i (HR.out _ BW.out) rfl e.out
              · have K7 : ((dn : Int) < LE) = False := eq_false l1
                by_cases l2 : MO < (dn : Int)
                · have K8 : (MO < (dn : Int)) = True := eq_true l2
                  have e : Hid (E = 5) := by unfold Hid; rw [hE4.out, if_neg l1, if_pos l2]
                  go_wp2_with fail
                  exact ret_i (HR.out _ BW.out) rfl e.out
                · have K8 : (MO < (dn : Int)) = False := eq_false l2
                  have hE5 : Hid (E = if AQ = true then 7 else 0) := by unfold Hid; rw [hE4.out, if_neg l1, if_neg l2]
                  go_wp2_with fail
                  rw [← HDN.out]
                  refine containsFuncD_any 44 _ (dnQ f.n) da x.ds dc _ _ (enters_of Tryz.func44 (by kernel_rfl) rfl) (by have := HDN.out; omega) (HCD.out.below BW.out) HDS.out (check2_dat w.heap.size f.n _ g0) fun wq hb => ?_
                  rw [HAQ.out]
                  have BQ : Hid (Below w.heap.size w wq) := BW.out.trans (hb.mono BW.out.size)
                  clear hb
                  cases AQ with
                  | false =>
                    have e : Hid (E = 0) := by unfold Hid; rw [hE5.out, if_neg (by simp)]
                    go_wp2_with fail
                    exact ret_i (HR.out _ BQ.out) rfl e.out
                  | true =>
                    have e : Hid (E = 7) := by unfold Hid; rw [hE5.out, if_pos rfl]
                    go_wp2_with fail
                    exact ret_i (HR.out _ BQ.out) rfl e.out
            · have K6 : (m != 0) = true := by simpa using m0
              have M0 := Lib.hid m0
              clear m0
              cases MA with
              | false =>
                have e : Hid (E = 3) := by unfold Hid; rw [hE3.out, if_pos ⟨M0.out, by simp⟩]
                go_wp2_with fail
                exact ret_i (HR.out _ BW.out) rfl e.out
              | true =>
                rcases hkz with ⟨K9, KZ0⟩ | ⟨K9, KZ0⟩
                · subst KZ0
                  have e : Hid (E = 3) := by unfold Hid; rw [hE3.out, if_pos ⟨M0.out, by simp⟩]
                  go_wp2_with fail
                  exact ret_i (HR.out _ BW.out) rfl e.out
                · subst KZ0
                  have hE4 : Hid (E = if (dn : Int) < LE then 13 else if MO < (dn : Int) then 5 else if AQ = true then 7 else 0) := by unfold Hid; rw [hE3.out, if_neg (by simp)]
                  by_cases l1 : (dn : Int) < LE
                  · have K7 : ((dn : Int) < LE) = True := eq_true l1
                    have e : Hid (E = 13) := by unfold Hid; rw [hE4.out, if_pos l1]
                    go_wp2_with fail
                    exact ret_i (HR.out _ BW.out) rfl e.out
                  · have K7 : ((dn : Int) < LE) = False := eq_false l1
                    by_cases l2 : MO < (dn : Int)
                    · have K8 : (MO < (dn : Int)) = True := eq_true l2
                      have e : Hid (E = 5) := by unfold Hid; rw [hE4.out, if_neg l1, if_pos l2]
                      go_wp2_with fail
                      exact ret_i (HR.out _ BW.out) rfl e.out
                    · have K8 : (MO < (dn : Int)) = False := eq_false l2
                      have hE5 : Hid (E = if AQ = true then 7 else 0) := by unfold Hid; rw [hE4.out, if_neg l1, if_neg l2]
                      go_wp2_with fail
                      rw [← HDN.out]
                      refine containsFuncD_any 44 _ (dnQ f.n) da x.ds dc _ _ (enters_of Tryz.func44 (by kernel_rfl) rfl) (by have := HDN.out; omega) (HCD.out.below BW.out) HDS.out (check2_dat w.heap.size f.n _ g0) fun wq hb => ?_
                      rw [HAQ.out]
                      have BQ : Hid (Below w.heap.size w wq) := BW.out.trans (hb.mono BW.out.size)
                      clear hb
                      cases AQ with
                      | false =>
                        have e : Hid (E = 0) := by unfold Hid; rw [hE5.out, if_neg (by simp)]
                        go_wp2_with fail
                        exact ret_i (HR.out _ BQ.out) rfl e.out
                      | true =>
                        have e : Hid (E = 7) := by unfold Hid; rw [hE5.out, if_pos rfl]
                        go_wp2_with fail
                        exact ret_i (HR.out _ BQ.out) rfl e.out
end Go.Proofs.YtciokmjhdbcmpaaGreatDoor
