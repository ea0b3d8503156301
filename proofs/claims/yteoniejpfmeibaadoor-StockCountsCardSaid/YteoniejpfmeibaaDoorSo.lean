/- The walks of own, of Same of the reference of package stock (of equal stocks). -/
import Derived.Test.YteoniejpfmeibaaDoorSn
namespace Go.Proofs.YteoniejpfmeibaaDoor
open Go.RowKit Go.Shelf

theorem take_succB {bs : List B5} {k : Nat} (h : k < bs.length) : bs.take (k + 1) = bs.take k ++ [bAt bs k] := by
  rw [List.take_succ_eq_append_getElem h, bAt_lt h]

set_option maxHeartbeats 2000000 in
theorem own_any (most : Int) (ao : Option Addr) (bs : List B5) (c : Nat) (w : World) (R : Ending → World → Prop) (hl : bs.length * 40 ≤ 140737488355328) (hc : CellsAt w ao (bC bs))
   (hR : ∀ a' c' w', Below w.heap.size w w' → BSl w' a' c' bs → Fresh w.heap.size a' → R (.returned (.agg #[.int .i64 most, .slice a' bs.length c'])) w') :
    Calls Tryd.prog 13 #[.agg #[.int .i64 most, .slice ao bs.length c]] w R := by
  have HR := Lib.hid hR
  have HC := Lib.hid hc
  clear hR hc
  obtain ⟨w1, E1', HB1, s1, X1⟩ := box_ex w #[.int .i64 most, .slice ao bs.length c] 24
  have E1 := Lib.hid E1'
  have hz1 : w1.heap.size = w.heap.size + 1 := by rw [← E1', World.size_alloc]
  clear E1'
  obtain ⟨w2, E2', HB2, s2, X2⟩ := box_ex w1 #[.int .i64 0, .slice none 0 0] 28
  have E2 := Lib.hid E2'
  have hz2 : w2.heap.size = w.heap.size + 2 := by rw [← E2', World.size_alloc]; omega
  clear E2'
  obtain ⟨w3, E3', HB3, s3, X3⟩ := box_ex w2 #[.int .i64 most, .slice none 0 0] 28
  have E3 := Lib.hid E3'
  have hz3 : w3.heap.size = w.heap.size + 3 := by rw [← E3', World.size_alloc]; omega
  clear E3'
  rw [hz1] at X2
  rw [hz2] at X3
  have HV3 : Hid (Below w.heap.size w w3) := (HB1.out.trans (HB2.out.mono (by omega))).trans (HB3.out.mono (by omega))
  have Y1 : Hid (w3.heap[w.heap.size]? = some (.cells #[.int .i64 most, .slice ao bs.length c] 24 (0, 0))) := heap_below (heap_below X1.out HB2.out s1) HB3.out (by omega)
  have Y2 : Hid (w3.heap[w.heap.size + 1]? = some (.cells #[.int .i64 0, .slice none 0 0] 28 (0, 0))) := heap_below X2.out HB3.out (by omega)
  have k0 : w3.cell? ⟨w.heap.size, 0, none⟩ = some (.int .i64 most) := cell_at Y1.out rfl
  have k1 : w3.cell? ⟨w.heap.size, 1, none⟩ = some (.slice ao bs.length c) := cell_at Y1.out rfl
  go_enter Tryd.func13, Tryd.ntmps13
  go_wp2_with fail
  rw [E1.out, E2.out, E3.out]
  go_loopw [12] (fun i wr => ∃ (k : Nat) (v : Value), k ≤ bs.length ∧ i = .int .i64 k ∧ Hid (Below w.heap.size w wr) ∧ w.heap.size + 3 ≤ wr.heap.size ∧ Hid (wr.heap[w.heap.size + 1]? = some (.cells #[.int .i64 0, .slice none 0 0] 28 (0, 0))) ∧
        Hid (wr.heap[w.heap.size + 1 + 1]? = some (.cells #[.int .i64 most, v] 28 (0, 0))) ∧ Hid (wr.ownsRow (w.heap.size + 3) 78 4 v k (bC (bs.take k)))) (fun i _ => bs.length - (intOf i).toNat)
  case atStart => exact ⟨0, .slice none 0 0, Nat.zero_le _, rfl, HV3, by omega, Y2, X3, World.ownsRow_nil _ _ _ _⟩
  case round =>
    obtain ⟨k, v, hk, rfl, HB, sB, Z1, Z2, HO⟩ := hrel
    obtain ⟨av, cv, rfl, _, _⟩ := ownsRow_read HO.out
    have d1 : wr.cell? ⟨w.heap.size + 1 + 1, 1, none⟩ = some (.slice av k cv) := cell_at Z2.out rfl
    have d0 : wr.cell? ⟨w.heap.size + 1 + 1, 0, none⟩ = some (.int .i64 most) := cell_at Z2.out rfl
    by_cases hlt : k < bs.length
    · obtain ⟨b, o, rfl, _, hcell⟩ := (HC.out.below HB.out).blks (by omega)
      obtain ⟨c1, c2, c3, c4⟩ := hcell k hlt
      clear hcell
      obtain ⟨w4, E4, HB4, s4, x0, x1, x2, x3⟩ := box4 wr (.int .i64 (bAt bs k).l) (.int .i64 (bAt bs k).w) (.int .i64 (bAt bs k).u) (.string (bAt bs k).h) 66
      have g1 := cellB HB4.out d1 (by omega)
      have HO4 := Lib.hid (ownsRow_below HO.out HB4.out)
      have q1 : (wr.alloc (.cells #[.int .i64 (bAt bs k).l, .int .i64 (bAt bs k).w, .int .i64 (bAt bs k).u, .string (bAt bs k).h] 66)).cell? ⟨w.heap.size + 1 + 1, 1, none⟩ = some (.slice av k cv) := by rw [E4.out]; exact g1
      have q2 : Hid ((wr.alloc (.cells #[.int .i64 (bAt bs k).l, .int .i64 (bAt bs k).w, .int .i64 (bAt bs k).u, .string (bAt bs k).h] 66)).ownsRow (w.heap.size + 3) 78 4 (.slice av k cv) k (bC (bs.take k))) := by rw [E4.out]; exact HO4
      go_wp2_with (at_builtin; refine wp_appendT rfl (.tmp 17) (.tmp 19) 26 rfl (w.heap.size + 3) 78 Tryd.underlying26 Tryd.infoRBlk rfl (by decide) (.slice av k cv) k (bC (bs.take k)) rfl (ownsRow_below q2.out ((Below.refl _ _).alloc (Nat.le_refl _) _)) ⟨wr.heap.size + 1, 0, none⟩ 1 1 [.int .i64 (bAt bs k).l, .int .i64 (bAt bs k).w, .int .i64 (bAt bs k).u, .string (bAt bs k).h] rfl rfl (by have h := cells4 (wr.alloc (.cells #[.int .i64 (bAt bs k).l, .int .i64 (bAt bs k).w, .int .i64 (bAt bs k).u, .string (bAt bs k).h] 66)) (.int .i64 (bAt bs k).l) (.int .i64 (bAt bs k).w) (.int .i64 (bAt bs k).u) (.string (bAt bs k).h) 78; simpa using h) (one4 _ _ _ _) (by omega) (by omega) (by simp; omega) ?_; intro v1 w5 hown1 hgrow1 hn1; have Hg1 : Hid (Below (w.heap.size + 3) wr w5) := (Below.grown (((Below.refl _ wr).alloc sB _).alloc (by simp; omega) _) hgrow1 (by simp; omega) (fun j e => (HO.out.lt j e).1)); have H1 := Lib.hid hown1; clear hown1 hgrow1 hn1; obtain ⟨a1, cc1, rfl, _, _⟩ := ownsRow_read H1.out; have Z2' : Hid (w5.heap[w.heap.size + 1 + 1]? = some (.cells #[.int .i64 most, .slice av k cv] 28 (0, 0))) := heap_below Z2.out Hg1.out (by omega); have g3 : w5.cell? ⟨w.heap.size + 1 + 1, 1, none⟩ = some (.slice av k cv) := cell_at Z2'.out rfl; have g2 := frozen_at Z2'.out 1)
      have s5 := Hg1.out.size
      refine ⟨⟨k + 1, .slice a1 (k + 1) cc1, by omega, by go_num, (HB.out.trans (Hg1.out.mono (by omega))).setCell (by show w.heap.size ≤ w.heap.size + 1 + 1; omega) _, by simp; omega, (Below.heap_setCell _ _ _ _ (by show w.heap.size + 1 ≠ w.heap.size + 1 + 1; omega)).trans (heap_below Z1.out Hg1.out (by omega)), ?_, ?_⟩, by simp [intOf]; omega⟩
      · exact heap_setCell_same w5 (w.heap.size + 1 + 1) 1 _ _ _ Z2'.out
      · have h := ownsRow_set H1.out (a := ⟨w.heap.size + 1 + 1, 1, none⟩) (by show w.heap.size + 1 + 1 < w.heap.size + 3; omega) (.slice a1 (k + 1) cc1)
        unfold Hid
        rw [take_succB hlt, bC_append]
        exact h
    · obtain rfl : k = bs.length := by omega
      rw [List.take_length] at HO
      have f0 := frozen_at Z1.out 0
      have f1 := frozen_at Z1.out 1
      have y0 : wr.cell? ⟨w.heap.size + 1, 0, none⟩ = some (.int .i64 0) := cell_at Z1.out rfl
      have y1 : wr.cell? ⟨w.heap.size + 1, 1, none⟩ = some (.slice none 0 0) := cell_at Z1.out rfl
      go_wp2_with fail
      refine bodyPost_ret (v := .agg #[.int .i64 most, .slice av bs.length cv]) (by simp [results, Tryd.results13, go_sem, y0, y1]) rfl ?_
      have hrow := ownsRow_set (ownsRow_set HO.out (a := ⟨w.heap.size + 1, 0, none⟩) (by show w.heap.size + 1 < w.heap.size + 3; omega) (.int .i64 most)) (a := ⟨w.heap.size + 1, 1, none⟩) (by show w.heap.size + 1 < w.heap.size + 3; omega) (.slice av bs.length cv)
      obtain ⟨a', c', e', q1, q2⟩ := ownsRow_read hrow
      cases e'
      exact HR.out av cv _ ((HB.out.setCell (p := ⟨w.heap.size + 1, 0, none⟩) (by show w.heap.size ≤ w.heap.size + 1; omega) (.int .i64 most)).setCell (p := ⟨w.heap.size + 1, 1, none⟩) (by show w.heap.size ≤ w.heap.size + 1; omega) (.slice av bs.length cv)) ⟨q1, q2⟩ (ownsRow_fresh hrow (by omega))

theorem neqBlk (b : B5) (w : World) : (binOp .neq 78 (.agg #[.int .i64 b.l, .int .i64 b.w, .int .i64 b.u, .string b.h]) (.agg #[.int .i64 b.l, .int .i64 b.w, .int .i64 b.u, .string b.h])).run Tryd.prog w = .ok (.bool false) w := by
  have hu : Tryd.prog.underlying 78 = some (.struct (Tryd.prog.fieldsOf 78)) := by kernel_rfl
  have hp : Tryd.prog.stoodInHeld 78 = false := by kernel_rfl
  have u3 := Tryd.underlying3
  have a3 := Tryd.isAgg3
  have z3 := Tryd.sizeOf3
  have u9 := Tryd.underlying9
  have a9 := Tryd.isAgg9
  have z9 := Tryd.sizeOf9
  rw [run_neq_struct, show (10000 : Nat) = 9999 + 1 from rfl, run_equalIn_agg w 9999 78 _ _ hu hp]
  simp only [Program.fieldsOf, Tryd.underlying78]
  go_simp

set_option maxHeartbeats 2000000 in
theorem rsame_any (most : Int) (ao ao2 : Option Addr) (bs : List B5) (c c2 : Nat) (w : World) (R : Ending → World → Prop) (hl : bs.length ≤ 1000000) (hc : CellsAt w ao (bC bs)) (hc2 : CellsAt w ao2 (bC bs))
   (hR : ∀ w', Below w.heap.size w w' → R (.returned (.bool true)) w') :
    Calls Tryd.prog 24 #[.agg #[.int .i64 most, .slice ao bs.length c], .agg #[.int .i64 most, .slice ao2 bs.length c2]] w R := by
  have HR := Lib.hid hR
  have HC := Lib.hid hc
  have HC2 := Lib.hid hc2
  clear hR hc hc2
  obtain ⟨w1, E1, HB1, s1, b0, b1⟩ := box2 w (.int .i64 most) (.slice ao bs.length c) 28
  have hz1 : w1.heap.size = w.heap.size + 1 := by rw [← E1.out, World.size_alloc]
  obtain ⟨w2, E2, HB2, s2, b2, b3⟩ := box2 w1 (.int .i64 most) (.slice ao2 bs.length c2) 28
  rw [hz1] at b2 b3
  have HV2 : Hid (Below w.heap.size w w2) := HB1.out.trans (HB2.out.mono (by omega))
  have k0 := Lib.hid (cellB HB2.out b0 s1)
  have k1 := Lib.hid (cellB HB2.out b1 s1)
  have k2 := Lib.hid b2
  have k3 := Lib.hid b3
  have hs2 : w.heap.size + 1 < w2.heap.size := by omega
  clear b0 b1 b2 b3
  have hq := neqBlk
  go_enter Tryd.func24, Tryd.ntmps24
  go_wp2_with fail
  rw [E1.out, E2.out]
  go_loopw [5] (fun i wr => ∃ k : Nat, k ≤ bs.length ∧ i = .int .i64 k ∧ Hid (Below w2.heap.size w2 wr)) (fun i _ => bs.length - (intOf i).toNat)
  case atStart => exact ⟨0, Nat.zero_le _, rfl, Below.refl _ _⟩
  case round =>
    obtain ⟨k, hk, rfl, HB⟩ := hrel
    have g1 := cellB HB.out k1.out (by omega)
    have g3 := cellB HB.out k3.out (by omega)
    have HW : Hid (Below w.heap.size w wr) := HV2.out.trans (HB.out.mono (by omega))
    by_cases hlt : k < bs.length
    · obtain ⟨b, o, rfl, _, hcell⟩ := (HC.out.below HW.out).blks (by omega)
      obtain ⟨c1, c2', c3, c4⟩ := hcell k hlt
      obtain ⟨b', o', rfl, _, hcell'⟩ := (HC2.out.below HW.out).blks (by omega)
      obtain ⟨e1, e2, e3, e4⟩ := hcell' k hlt
      clear hcell hcell'
      go_wp2_with fail
      go_quiet (fail)
      go_wp2_with fail
      exact ⟨⟨k + 1, by omega, by go_num, HB.out.trans ((by repeat first | exact Drew.refl _ | apply Drew.drewN : Drew _ _).below _)⟩, by simp [intOf]; omega⟩
    · go_wp2_with fail
      exact HR.out _ HW.out
end Go.Proofs.YteoniejpfmeibaaDoor
