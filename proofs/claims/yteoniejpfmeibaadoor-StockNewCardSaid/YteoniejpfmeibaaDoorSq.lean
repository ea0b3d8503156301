/- The walk of the law StockNew: it returns true, and memory that was there is as it was. -/
import Derived.Test.YteoniejpfmeibaaDoorSp
namespace Go.Proofs.YteoniejpfmeibaaDoor
open Go.RowKit Go.Shelf

set_option maxRecDepth 100000 in
set_option maxHeartbeats 4000000 in
theorem lawNew (m : Int) (ao : Option Addr) (zs : List Int) (c : Nat) (w : World) (R : Ending → World → Prop)
   (hl : zs.length ≤ 9223372036854775807) (hc : CellsAt w ao (I64s zs)) (hR : ∀ w', Below w.heap.size w w' → R (.returned (.bool true)) w') :
    Calls Tryd.prog 4 #[.int .i64 m, .slice ao zs.length c] w R := by
  have HR := Lib.hid hR
  have HC := Lib.hid hc
  clear hR hc
  by_cases h512 : 512 < zs.length
  · go_enter Tryd.func4, Tryd.ntmps4
    go_wp2_with fail
    refine awake_any _ _ ?_
    intro w1 hb1
    have HB1 := Lib.hid hb1
    clear hb1
    go_wp2_with fail
    exact HR.out _ HB1.out
  · obtain ⟨B, hB⟩ : ∃ B, Hid (nwB m zs = B) := ⟨_, rfl⟩
    obtain ⟨E, hE⟩ : ∃ E, Hid (nwE m zs = E) := ⟨_, rfl⟩
    obtain ⟨M, hM⟩ : ∃ M, Hid (okM m E = M) := ⟨_, rfl⟩
    have hBl : B.length ≤ 512 := by
      rw [← hB.out]; unfold nwB; split
      · rw [newTo_length]; omega
      · simp
    go_enter Tryd.func4, Tryd.ntmps4
    go_wp2_with fail
    refine newS_any m ao zs c _ _ hl HC.out ?_
    rw [hB.out, hE.out, hM.out]
    intro a1 c1 w1 hb1 hs1 hf1
    have HB1 := Lib.hid hb1
    have HS1 := Lib.hid hs1
    have s1 := hb1.size
    clear hb1 hs1 hf1
    go_wp2_with fail
    obtain ⟨W1, E1, D1, t1, x0, x1⟩ := box2 w1 (.int .i64 M) (.slice a1 B.length c1) 24
    rw [E1.out]
    have A1 := Lib.hid (HB1.out.trans (D1.out.mono s1))
    have S1 := Lib.hid (HS1.out.below D1.out)
    have z1 := A1.out.size
    refine rnewS_any m ao zs c _ _ hl (HC.out.below A1.out) ?_
    rw [hB.out, hE.out, hM.out]
    intro a2 c2 w2 hb2 hs2 hf2
    have A2 := Lib.hid (A1.out.trans (hb2.mono z1))
    have S2 := Lib.hid (S1.out.below hb2)
    have T2 := Lib.hid hs2
    have x0' := cellB hb2 x0 t1
    have x1' := cellB hb2 x1 t1
    have hlt : w1.heap.size < w2.heap.size := by have := hb2.size; omega
    have z2 := A2.out.size
    clear hb2 hs2 hf2 x0 x1
    go_wp2_with fail
    obtain ⟨W3, E3, D3, t3, y0, y1⟩ := box2 w2 (.int .i64 M) (.slice a2 B.length c2) 28
    rw [E3.out]
    have A3 := Lib.hid (A2.out.trans (D3.out.mono z2))
    have S3 := Lib.hid (S2.out.below D3.out)
    have T3 := Lib.hid (T2.out.below D3.out)
    have p0 := cellB D3.out x0' hlt
    have p1 := cellB D3.out x1' hlt
    have z3 := A3.out.size
    clear x0' x1'
    have HBB : Hid (Below W3.heap.size W3 W3.drew) := (Below.refl _ _).drew
    go_region_held3 (fun w' => w'.cell? ⟨w1.heap.size, 0, none⟩ = some (.int .i64 M) ∧ w'.cell? ⟨w1.heap.size, 1, none⟩ = some (.slice a1 B.length c1) ∧ w'.cell? ⟨w2.heap.size, 0, none⟩ = some (.int .i64 M) ∧ w'.cell? ⟨w2.heap.size, 1, none⟩ = some (.slice a2 B.length c2) ∧ Hid (Below W3.heap.size W3 w'))
      (first | go_keep | exact ⟨r0, r1, r2, r3, r4⟩ | exact ⟨s0, s1, s2, s3, s4⟩ | exact ⟨u0, u1, u2, u3, u4⟩)
      (first
        | (go_at_call 13; refine own_any M a1 B c1 _ _ (by omega) (S3.out.1.below HBB.out) ?_; intro a5 c5 w5 hb5 hs5 hf5; have r4 : Hid (Below W3.heap.size W3 w5) := HBB.out.trans (hb5.mono (Nat.le_refl _)); have r0 := cellB r4.out p0 (lt_of_cell p0); have r1 := cellB r4.out p1 (lt_of_cell p1); have r2 := cellB r4.out y0 (lt_of_cell y0); have r3 := cellB r4.out y1 (lt_of_cell y1); have T5 := Lib.hid hs5; clear hb5 hs5 hf5)
        | (go_at_call 24; refine rsame_any M a5 a2 B c5 c2 _ _ (by omega) T5.out.1 (T3.out.1.below r4.out) ?_; intro w6 hb6; have s4 : Hid (Below W3.heap.size W3 w6) := r4.out.trans (hb6.mono r4.out.size); have s0 := cellB s4.out p0 (lt_of_cell p0); have s1 := cellB s4.out p1 (lt_of_cell p1); have s2 := cellB s4.out y0 (lt_of_cell y0); have s3 := cellB s4.out y1 (lt_of_cell y1); clear hb6)
        | (go_at_call 14; refine awake_any _ _ ?_; intro w7 hb7; have u4 : Hid (Below W3.heap.size W3 w7) := s4.out.trans (hb7.mono s4.out.size); have u0 := cellB u4.out p0 (lt_of_cell p0); have u1 := cellB u4.out p1 (lt_of_cell p1); have u2 := cellB u4.out y0 (lt_of_cell y0); have u3 := cellB u4.out y1 (lt_of_cell y1); clear hb7))
    all_goals
      go_wp2_with fail
      exact HR.out _ (A3.out.trans (u4.out.mono z3))
end Go.Proofs.YteoniejpfmeibaaDoor
