/- The walk of awake: it returns true, and memory that was there is as it was. (Printed by gen_awake.py.) -/
import Derived.LoopN
import Derived.Test.YtdmolmdenfepkaaS
namespace Go.Proofs.Ytdmolmdenfepkaa
open Go.RowKit

theorem CellsAt.of_heap {W : World} {b : Nat} {cs : List Value} {t : TypeId} (h : W.heap[b]? = some (.cells cs.toArray t (0, 0))) : CellsAt W (some ⟨b, 0, none⟩) cs := by
  intro _
  refine ⟨b, 0, rfl, lt_of_block h, fun j hj => ?_⟩
  simp [World.cell?, h, List.getD, hj]
theorem heap_below {B : Nat} {W W' : World} {b : Nat} {o : Obj} (h : W.heap[b]? = some o) (hb : Below B W W') (hB : B = W.heap.size) : W'.heap[b]? = some o := by
  subst hB; exact (hb.block b (lt_of_block h)).trans h
theorem cell_heap {W : World} {b j : Nat} {cs : List Value} {t : TypeId} {v : Value} (h : W.heap[b]? = some (.cells cs.toArray t (0, 0))) (hv : cs[j]? = some v) : W.cell? ⟨b, j, none⟩ = some v := by
  simp [World.cell?, h, hv]

def awC : List Value := [.int .i64 1, .int .i64 2, .int .i64 3, .int .i64 6]
def awA (B : Nat) : List Value := [.int .i64 6, .int .i64 2, .slice (some ⟨B + 1, 0, none⟩) 1 1, .int .i64 9, .int .i64 2, .slice (some ⟨B + 1 + 1, 0, none⟩) 2 2, .int .i64 12, .int .i64 1, .slice (some ⟨B + 1 + 1 + 1, 0, none⟩) 4 4]

theorem alloc5 (w : World) (o0 o1 o2 o3 o4 : Obj) (W : World) (hW : ((((w.alloc o0).alloc o1).alloc o2).alloc o3).alloc o4 = W) :
    W.heap[w.heap.size]? = some o0 ∧ W.heap[w.heap.size + 1]? = some o1 ∧ W.heap[w.heap.size + 1 + 1]? = some o2 ∧ W.heap[w.heap.size + 1 + 1 + 1]? = some o3 ∧ W.heap[w.heap.size + 1 + 1 + 1 + 1]? = some o4 := by
  obtain ⟨W1, h1⟩ : ∃ W1, w.alloc o0 = W1 := ⟨_, rfl⟩
  obtain ⟨W2, h2⟩ : ∃ W2, W1.alloc o1 = W2 := ⟨_, rfl⟩
  obtain ⟨W3, h3⟩ : ∃ W3, W2.alloc o2 = W3 := ⟨_, rfl⟩
  obtain ⟨W4, h4⟩ : ∃ W4, W3.alloc o3 = W4 := ⟨_, rfl⟩
  rw [h1, h2, h3, h4] at hW
  have n1 : W1.heap.size = w.heap.size + 1 := by rw [← h1]; exact World.size_alloc _ _
  have n2 : W2.heap.size = w.heap.size + 1 + 1 := by rw [← h2, ← n1]; exact World.size_alloc _ _
  have n3 : W3.heap.size = w.heap.size + 1 + 1 + 1 := by rw [← h3, ← n2]; exact World.size_alloc _ _
  have n4 : W4.heap.size = w.heap.size + 1 + 1 + 1 + 1 := by rw [← h4, ← n3]; exact World.size_alloc _ _
  have up : ∀ {A B : World} {o : Obj}, A.alloc o = B → ∀ {k : Nat} {x : Obj}, A.heap[k]? = some x → B.heap[k]? = some x := by
    intro A B o h k x hx
    rw [← h, Below.heap_alloc _ _ _ (lt_of_block hx)]; exact hx
  refine ⟨up hW (up h4 (up h3 (up h2 ?_))), up hW (up h4 (up h3 ?_)), up hW (up h4 ?_), up hW ?_, ?_⟩
  · rw [← h1]; exact World.alloc_heap_new _ _
  · rw [← h2, ← n1]; exact World.alloc_heap_new _ _
  · rw [← h3, ← n2]; exact World.alloc_heap_new _ _
  · rw [← h4, ← n3]; exact World.alloc_heap_new _ _
  · rw [← hW, ← n4]; exact World.alloc_heap_new _ _

set_option maxRecDepth 100000 in
set_option maxHeartbeats 8000000 in
theorem awake_any (w : World) (R : Ending → World → Prop) (hR : ∀ w', Below w.heap.size w w' → R (.returned (.bool true)) w') :
    Calls Try.prog 12 #[] w R := by
  have HR := Lib.hid hR
  clear hR
  go_enter Try.func12, Try.ntmps12
  go_wp2_with fail
  have b0 : Below w.heap.size w (((((w.alloc (.cells #[.int .i64 1, .int .i64 2, .int .i64 3, .int .i64 6] 3)).alloc (.cells #[.int .i64 3] 3)).alloc (.cells #[.int .i64 2, .int .i64 3] 3)).alloc (.cells #[.int .i64 0, .int .i64 1, .int .i64 2, .int .i64 3] 3)).alloc (.cells #[.int .i64 6, .int .i64 2, .slice (some ⟨w.heap.size + 1, 0, none⟩) 1 1, .int .i64 9, .int .i64 2, .slice (some ⟨w.heap.size + 1 + 1, 0, none⟩) 2 2, .int .i64 12, .int .i64 1, .slice (some ⟨w.heap.size + 1 + 1 + 1, 0, none⟩) 4 4] 57)) := (((((Below.refl _ w).alloc (Nat.le_refl _) _).alloc (by simp) _).alloc (by simp; omega) _).alloc (by simp; omega) _).alloc (by simp; omega) _
  obtain ⟨W0, hW0⟩ : ∃ W0, ((((w.alloc (.cells #[.int .i64 1, .int .i64 2, .int .i64 3, .int .i64 6] 3)).alloc (.cells #[.int .i64 3] 3)).alloc (.cells #[.int .i64 2, .int .i64 3] 3)).alloc (.cells #[.int .i64 0, .int .i64 1, .int .i64 2, .int .i64 3] 3)).alloc (.cells #[.int .i64 6, .int .i64 2, .slice (some ⟨w.heap.size + 1, 0, none⟩) 1 1, .int .i64 9, .int .i64 2, .slice (some ⟨w.heap.size + 1 + 1, 0, none⟩) 2 2, .int .i64 12, .int .i64 1, .slice (some ⟨w.heap.size + 1 + 1 + 1, 0, none⟩) 4 4] 57) = W0 := ⟨_, rfl⟩
  have hz : w.heap.size + 5 ≤ W0.heap.size := by rw [← hW0]; simp
  rw [hW0] at b0 ⊢
  obtain ⟨q0, q1, q2, q3, q4⟩ := alloc5 _ _ _ _ _ _ _ hW0
  clear hW0
  have HB1x0 := Lib.hid b0
  have Q0 : Hid (W0.heap[w.heap.size]? = some (.cells awC.toArray 3 (0, 0))) := q0
  have Q1 : Hid (W0.heap[w.heap.size + 1]? = some (.cells (I64s [3]).toArray 3 (0, 0))) := q1
  have Q2 : Hid (W0.heap[w.heap.size + 1 + 1]? = some (.cells (I64s [2, 3]).toArray 3 (0, 0))) := q2
  have Q3 : Hid (W0.heap[w.heap.size + 1 + 1 + 1]? = some (.cells (I64s [0, 1, 2, 3]).toArray 3 (0, 0))) := q3
  have Q4 : Hid (W0.heap[w.heap.size + 1 + 1 + 1 + 1]? = some (.cells (awA w.heap.size).toArray 57 (0, 0))) := q4

  clear q0 q1 q2 q3 q4 b0
  refine wp_loop_rounds 4 ?_
  -- round 0
  rw [rounds_succ]
  have p0 : W0.cell? ⟨w.heap.size + 1 + 1 + 1 + 1, 0, none⟩ = some (.int .i64 6) := cell_heap Q4.out rfl
  have p1 : W0.cell? ⟨w.heap.size + 1 + 1 + 1 + 1, 1, none⟩ = some (.int .i64 2) := cell_heap Q4.out rfl
  have p2 : W0.cell? ⟨w.heap.size + 1 + 1 + 1 + 1, 2, none⟩ = some (.slice (some ⟨w.heap.size + 1, 0, none⟩) 1 1) := cell_heap Q4.out rfl
  go_wp2_with fail
  have hbx : Below W0.heap.size W0 (W0.alloc (.cells #[.int .i64 6, .int .i64 2, .slice (some ⟨w.heap.size + 1, 0, none⟩) 1 1] 57)) := (Below.refl _ _).alloc (Nat.le_refl _) _
  have x : (W0.alloc (.cells #[.int .i64 6, .int .i64 2, .slice (some ⟨w.heap.size + 1, 0, none⟩) 1 1] 57)).heap[W0.heap.size]? = some (.cells ([.int .i64 6, .int .i64 2, .slice (some ⟨w.heap.size + 1, 0, none⟩) 1 1] : List Value).toArray 57 (0, 0)) := World.alloc_heap_new _ _
  obtain ⟨X, hX⟩ : ∃ X, (W0.alloc (.cells #[.int .i64 6, .int .i64 2, .slice (some ⟨w.heap.size + 1, 0, none⟩) 1 1] 57)) = X := ⟨_, rfl⟩
  rw [hX] at hbx x ⊢
  have hxs : W0.heap.size < X.heap.size := lt_of_block x
  clear hX p0 p1 p2
  have S := Lib.hid (CellsAt.of_heap Q0.out)
  have HX := Lib.hid x
  have HBX := Lib.hid hbx
  clear x hbx
  refine fewestAt _ aw 4 4 6 _ _ [3] 1 0 rfl (by omega) aw_f6.1 rfl aw_f6.2.1 (S.out.below HBX.out) ?_
  intro a1 c1 w1 hb1 hc1
  have x := heap_below HX.out hb1 rfl
  have hs1 := hb1.size
  have x0 : w1.cell? ⟨W0.heap.size, 0, none⟩ = some (.int .i64 6) := cell_heap x rfl
  have HX1 := Lib.hid x
  have HB1 := Lib.hid (HBX.out.trans (hb1.mono (Nat.le_of_lt hxs)))
  have HC1 := Lib.hid hc1
  clear x hb1 hc1 HX
  go_wp2_with fail
  refine countAt _ aw 4 4 6 _ _ 2 0 rfl (by omega) aw_f6.2.2.1 aw_f6.2.2.2.1 (S.out.below HB1.out) ?_
  intro w2 hb2
  have x := heap_below HX1.out hb2 rfl
  have hs2 := hb2.size
  have y0 : w2.cell? ⟨W0.heap.size, 0, none⟩ = some (.int .i64 6) := cell_heap x rfl
  have y1 : w2.cell? ⟨W0.heap.size, 1, none⟩ = some (.int .i64 2) := cell_heap x rfl
  have y2 : w2.cell? ⟨W0.heap.size, 2, none⟩ = some (.slice (some ⟨w.heap.size + 1, 0, none⟩) 1 1) := cell_heap x rfl
  have HX2 := Lib.hid x
  have HB2 := Lib.hid (HB1.out.trans (hb2.mono (by omega)))
  have HC2 := Lib.hid (HC1.out.below hb2)
  clear x x0 hb2 HX1 HC1
  go_wp2_with fail
  refine equalAt _ _ [3] 1 c1 1 _ _ rfl (by omega) HC2.out ((CellsAt.of_heap Q1.out).below HB2.out) ?_
  rintro w3 ⟨q3, rfl⟩
  go_wp2_with fail
  refine verifyAt _ _ aw [3] 4 1 4 c1 6 _ _ 0 rfl (by omega) rfl (by omega) aw_f6.2.2.2.2 ((S.out.below HB2.out).below (Drew.below ⟨_, rfl⟩ _)) (HC2.out.below (Drew.below ⟨_, rfl⟩ _)) ?_
  intro W1 hb3
  have hs3 : w2.heap.size ≤ W1.heap.size := hb3.size
  have HB3 : Hid (Below W0.heap.size W0 W1) := Lib.hid ((HB2.out.trans (Drew.below ⟨_, rfl⟩ _)).trans (hb3.mono (show W0.heap.size ≤ w2.heap.size by omega)))
  have HB1x1 : Hid (Below w.heap.size w W1) := Lib.hid (HB1x0.out.trans (HB3.out.mono (by omega)))
  have hz1 : w.heap.size + 5 ≤ W1.heap.size := by omega
  replace Q0 := Lib.hid (heap_below Q0.out HB3.out rfl)
  replace Q1 := Lib.hid (heap_below Q1.out HB3.out rfl)
  replace Q2 := Lib.hid (heap_below Q2.out HB3.out rfl)
  replace Q3 := Lib.hid (heap_below Q3.out HB3.out rfl)
  replace Q4 := Lib.hid (heap_below Q4.out HB3.out rfl)
  clear hb3 y0 y1 y2 S HBX HX2 HB2 HC2 HB1
  go_wp2_with fail
  -- round 1
  rw [rounds_succ]
  have p0 : W1.cell? ⟨w.heap.size + 1 + 1 + 1 + 1, 3, none⟩ = some (.int .i64 9) := cell_heap Q4.out rfl
  have p1 : W1.cell? ⟨w.heap.size + 1 + 1 + 1 + 1, 4, none⟩ = some (.int .i64 2) := cell_heap Q4.out rfl
  have p2 : W1.cell? ⟨w.heap.size + 1 + 1 + 1 + 1, 5, none⟩ = some (.slice (some ⟨w.heap.size + 1 + 1, 0, none⟩) 2 2) := cell_heap Q4.out rfl
  go_wp2_with fail
  have hbx : Below W1.heap.size W1 (W1.alloc (.cells #[.int .i64 9, .int .i64 2, .slice (some ⟨w.heap.size + 1 + 1, 0, none⟩) 2 2] 57)) := (Below.refl _ _).alloc (Nat.le_refl _) _
  have x : (W1.alloc (.cells #[.int .i64 9, .int .i64 2, .slice (some ⟨w.heap.size + 1 + 1, 0, none⟩) 2 2] 57)).heap[W1.heap.size]? = some (.cells ([.int .i64 9, .int .i64 2, .slice (some ⟨w.heap.size + 1 + 1, 0, none⟩) 2 2] : List Value).toArray 57 (0, 0)) := World.alloc_heap_new _ _
  obtain ⟨X, hX⟩ : ∃ X, (W1.alloc (.cells #[.int .i64 9, .int .i64 2, .slice (some ⟨w.heap.size + 1 + 1, 0, none⟩) 2 2] 57)) = X := ⟨_, rfl⟩
  rw [hX] at hbx x ⊢
  have hxs : W1.heap.size < X.heap.size := lt_of_block x
  clear hX p0 p1 p2
  have S := Lib.hid (CellsAt.of_heap Q0.out)
  have HX := Lib.hid x
  have HBX := Lib.hid hbx
  clear x hbx
  refine fewestAt _ aw 4 4 9 _ _ [2, 3] 2 0 rfl (by omega) aw_f9.1 rfl aw_f9.2.1 (S.out.below HBX.out) ?_
  intro a1 c1 w1 hb1 hc1
  have x := heap_below HX.out hb1 rfl
  have hs1 := hb1.size
  have x0 : w1.cell? ⟨W1.heap.size, 0, none⟩ = some (.int .i64 9) := cell_heap x rfl
  have HX1 := Lib.hid x
  have HB1 := Lib.hid (HBX.out.trans (hb1.mono (Nat.le_of_lt hxs)))
  have HC1 := Lib.hid hc1
  clear x hb1 hc1 HX
  go_wp2_with fail
  refine countAt _ aw 4 4 9 _ _ 2 0 rfl (by omega) aw_f9.2.2.1 aw_f9.2.2.2.1 (S.out.below HB1.out) ?_
  intro w2 hb2
  have x := heap_below HX1.out hb2 rfl
  have hs2 := hb2.size
  have y0 : w2.cell? ⟨W1.heap.size, 0, none⟩ = some (.int .i64 9) := cell_heap x rfl
  have y1 : w2.cell? ⟨W1.heap.size, 1, none⟩ = some (.int .i64 2) := cell_heap x rfl
  have y2 : w2.cell? ⟨W1.heap.size, 2, none⟩ = some (.slice (some ⟨w.heap.size + 1 + 1, 0, none⟩) 2 2) := cell_heap x rfl
  have HX2 := Lib.hid x
  have HB2 := Lib.hid (HB1.out.trans (hb2.mono (by omega)))
  have HC2 := Lib.hid (HC1.out.below hb2)
  clear x x0 hb2 HX1 HC1
  go_wp2_with fail
  refine equalAt _ _ [2, 3] 2 c1 2 _ _ rfl (by omega) HC2.out ((CellsAt.of_heap Q2.out).below HB2.out) ?_
  rintro w3 ⟨q3, rfl⟩
  go_wp2_with fail
  refine verifyAt _ _ aw [2, 3] 4 2 4 c1 9 _ _ 0 rfl (by omega) rfl (by omega) aw_f9.2.2.2.2 ((S.out.below HB2.out).below (Drew.below ⟨_, rfl⟩ _)) (HC2.out.below (Drew.below ⟨_, rfl⟩ _)) ?_
  intro W2 hb3
  have hs3 : w2.heap.size ≤ W2.heap.size := hb3.size
  have HB3 : Hid (Below W1.heap.size W1 W2) := Lib.hid ((HB2.out.trans (Drew.below ⟨_, rfl⟩ _)).trans (hb3.mono (show W1.heap.size ≤ w2.heap.size by omega)))
  have HB1x2 : Hid (Below w.heap.size w W2) := Lib.hid (HB1x1.out.trans (HB3.out.mono (by omega)))
  have hz2 : w.heap.size + 5 ≤ W2.heap.size := by omega
  replace Q0 := Lib.hid (heap_below Q0.out HB3.out rfl)
  replace Q1 := Lib.hid (heap_below Q1.out HB3.out rfl)
  replace Q2 := Lib.hid (heap_below Q2.out HB3.out rfl)
  replace Q3 := Lib.hid (heap_below Q3.out HB3.out rfl)
  replace Q4 := Lib.hid (heap_below Q4.out HB3.out rfl)
  clear hb3 y0 y1 y2 S HBX HX2 HB2 HC2 HB1
  go_wp2_with fail
  -- round 2
  rw [rounds_succ]
  have p0 : W2.cell? ⟨w.heap.size + 1 + 1 + 1 + 1, 6, none⟩ = some (.int .i64 12) := cell_heap Q4.out rfl
  have p1 : W2.cell? ⟨w.heap.size + 1 + 1 + 1 + 1, 7, none⟩ = some (.int .i64 1) := cell_heap Q4.out rfl
  have p2 : W2.cell? ⟨w.heap.size + 1 + 1 + 1 + 1, 8, none⟩ = some (.slice (some ⟨w.heap.size + 1 + 1 + 1, 0, none⟩) 4 4) := cell_heap Q4.out rfl
  go_wp2_with fail
  have hbx : Below W2.heap.size W2 (W2.alloc (.cells #[.int .i64 12, .int .i64 1, .slice (some ⟨w.heap.size + 1 + 1 + 1, 0, none⟩) 4 4] 57)) := (Below.refl _ _).alloc (Nat.le_refl _) _
  have x : (W2.alloc (.cells #[.int .i64 12, .int .i64 1, .slice (some ⟨w.heap.size + 1 + 1 + 1, 0, none⟩) 4 4] 57)).heap[W2.heap.size]? = some (.cells ([.int .i64 12, .int .i64 1, .slice (some ⟨w.heap.size + 1 + 1 + 1, 0, none⟩) 4 4] : List Value).toArray 57 (0, 0)) := World.alloc_heap_new _ _
  obtain ⟨X, hX⟩ : ∃ X, (W2.alloc (.cells #[.int .i64 12, .int .i64 1, .slice (some ⟨w.heap.size + 1 + 1 + 1, 0, none⟩) 4 4] 57)) = X := ⟨_, rfl⟩
  rw [hX] at hbx x ⊢
  have hxs : W2.heap.size < X.heap.size := lt_of_block x
  clear hX p0 p1 p2
  have S := Lib.hid (CellsAt.of_heap Q0.out)
  have HX := Lib.hid x
  have HBX := Lib.hid hbx
  clear x hbx
  refine fewestAt _ aw 4 4 12 _ _ [0, 1, 2, 3] 4 0 rfl (by omega) aw_f12.1 rfl aw_f12.2.1 (S.out.below HBX.out) ?_
  intro a1 c1 w1 hb1 hc1
  have x := heap_below HX.out hb1 rfl
  have hs1 := hb1.size
  have x0 : w1.cell? ⟨W2.heap.size, 0, none⟩ = some (.int .i64 12) := cell_heap x rfl
  have HX1 := Lib.hid x
  have HB1 := Lib.hid (HBX.out.trans (hb1.mono (Nat.le_of_lt hxs)))
  have HC1 := Lib.hid hc1
  clear x hb1 hc1 HX
  go_wp2_with fail
  refine countAt _ aw 4 4 12 _ _ 1 0 rfl (by omega) aw_f12.2.2.1 aw_f12.2.2.2.1 (S.out.below HB1.out) ?_
  intro w2 hb2
  have x := heap_below HX1.out hb2 rfl
  have hs2 := hb2.size
  have y0 : w2.cell? ⟨W2.heap.size, 0, none⟩ = some (.int .i64 12) := cell_heap x rfl
  have y1 : w2.cell? ⟨W2.heap.size, 1, none⟩ = some (.int .i64 1) := cell_heap x rfl
  have y2 : w2.cell? ⟨W2.heap.size, 2, none⟩ = some (.slice (some ⟨w.heap.size + 1 + 1 + 1, 0, none⟩) 4 4) := cell_heap x rfl
  have HX2 := Lib.hid x
  have HB2 := Lib.hid (HB1.out.trans (hb2.mono (by omega)))
  have HC2 := Lib.hid (HC1.out.below hb2)
  clear x x0 hb2 HX1 HC1
  go_wp2_with fail
  refine equalAt _ _ [0, 1, 2, 3] 4 c1 4 _ _ rfl (by omega) HC2.out ((CellsAt.of_heap Q3.out).below HB2.out) ?_
  rintro w3 ⟨q3, rfl⟩
  go_wp2_with fail
  refine verifyAt _ _ aw [0, 1, 2, 3] 4 4 4 c1 12 _ _ 0 rfl (by omega) rfl (by omega) aw_f12.2.2.2.2 ((S.out.below HB2.out).below (Drew.below ⟨_, rfl⟩ _)) (HC2.out.below (Drew.below ⟨_, rfl⟩ _)) ?_
  intro W3 hb3
  have hs3 : w2.heap.size ≤ W3.heap.size := hb3.size
  have HB3 : Hid (Below W2.heap.size W2 W3) := Lib.hid ((HB2.out.trans (Drew.below ⟨_, rfl⟩ _)).trans (hb3.mono (show W2.heap.size ≤ w2.heap.size by omega)))
  have HB1x3 : Hid (Below w.heap.size w W3) := Lib.hid (HB1x2.out.trans (HB3.out.mono (by omega)))
  have hz3 : w.heap.size + 5 ≤ W3.heap.size := by omega
  replace Q0 := Lib.hid (heap_below Q0.out HB3.out rfl)
  replace Q1 := Lib.hid (heap_below Q1.out HB3.out rfl)
  replace Q2 := Lib.hid (heap_below Q2.out HB3.out rfl)
  replace Q3 := Lib.hid (heap_below Q3.out HB3.out rfl)
  replace Q4 := Lib.hid (heap_below Q4.out HB3.out rfl)
  clear hb3 y0 y1 y2 S HBX HX2 HB2 HC2 HB1
  go_wp2_with fail
  rw [rounds_succ]
  have S := Lib.hid (CellsAt.of_heap Q0.out)
  go_wp2_with fail
  refine fewestAt _ aw 4 4 13 _ _ [] 0 6 rfl (by omega) aw_f13.1 rfl aw_f13.2 S.out ?_
  intro a1 c1 w1 hb1 _
  have B1 := Lib.hid hb1
  have s1 := hb1.size
  clear hb1
  go_wp2_with fail
  refine reachAt _ aw 4 4 2 _ _ [1, 2, 3, 4, 5, 6, 7, 8, 9] 9 0 rfl (by omega) aw_r.1 rfl aw_r.2 (S.out.below B1.out) ?_
  intro a2 c2 w2 hb2 hc2
  have B2 := Lib.hid (B1.out.trans (hb2.mono s1))
  have s2 := hb2.size
  have C2 := Lib.hid hc2
  clear hb2 hc2
  go_wp2_with fail
  refine standardAt 87 _ _ l87 87 0 (by rw [rstdL, if_neg (by omega), if_neg (by omega), if_pos rfl, l87_eq]) rfl rfl ?_
  intro a3 c3 w3 hb3 hc3
  have B3 := Lib.hid (B2.out.trans (hb3.mono (by omega)))
  have s3 := hb3.size
  have C3 := Lib.hid hc3
  have C2' := Lib.hid (C2.out.below hb3)
  clear hb3 hc3
  go_wp2_with fail
  refine fewestAt _ l87 87 c3 57315 _ _ (fewL l87 57315) 4 0 rfl (by omega) rfl l87_few.1 l87_few.2 C3.out ?_
  intro a4 c4 w4 hb4 _
  have B4 := Lib.hid (B3.out.trans (hb4.mono (by omega)))
  have s4 := hb4.size
  have C4 := Lib.hid (C2'.out.below hb4)
  clear hb4
  go_wp2_with fail
  refine equalAt _ _ [1, 2, 3, 4, 5, 6, 7, 8, 9] 9 c2 9 _ _ rfl (by omega) (C4.out.below ((Below.refl _ _).alloc (Nat.le_refl _) _)) (CellsAt.of_heap (World.alloc_heap_new _ _)) ?_
  rintro w5 ⟨q5, rfl⟩
  go_wp2_with fail
  refine HR.out _ ?_
  refine (HB1x3.out.trans ((B4.out.mono (by omega)).trans ?_)).trans (Drew.below ⟨_, rfl⟩ _)
  exact (Below.refl _ _).alloc (by omega) _
end Go.Proofs.Ytdmolmdenfepkaa
