/- The walks of New, own, Same, Few, With of the reference of package stock. -/
import Derived.Deep.RegionHeld3
import Derived.Deep.RegionLaw
import Derived.Deep.AppendLies
import Derived.Test.YteoniejpfmeibaaDoorSk
namespace Go.Proofs.YteoniejpfmeibaaDoor
open Go.RowKit Go.Shelf

theorem Tryd.infoRBlk : (Tryd.prog.info? 78).map (fun i => (i.zero, i.size, i.bytes)) = some (some (.agg #[.int .i64 0, .int .i64 0, .int .i64 0, .string ⟨#[]⟩]), 4, 40) := by kernel_rfl

set_option maxHeartbeats 2000000 in
theorem rnewS_any (most : Int) (ao : Option Addr) (zs : List Int) (c : Nat) (w : World) (R : Ending → World → Prop) (hl : zs.length ≤ 9223372036854775807) (hc : CellsAt w ao (I64s zs))
   (hR : ∀ a' c' w', Below w.heap.size w w' → BSl w' a' c' (nwB most zs) → Fresh w.heap.size a' → R (.returned (.tuple #[.agg #[.int .i64 (okM most (nwE most zs)), .slice a' (nwB most zs).length c'], .int .i64 (nwE most zs)])) w') :
    Calls Tryd.prog 23 #[.int .i64 most, .slice ao zs.length c] w R := by
  have HR := Lib.hid hR
  obtain ⟨i0, hi0, hi1, hi2, hi3⟩ := info_parts Tryd.infoRBlk
  have HC := Lib.hid hc
  clear hR hc
  obtain ⟨w1, E1', HB1, s1, X1⟩ := box_ex w #[.int .i64 0, .slice none 0 0] 28
  have E1 := Lib.hid E1'
  clear E1'
  have f0 := frozen_at X1.out 0
  have f1 := frozen_at X1.out 1
  have y0 : w1.cell? ⟨w.heap.size, 0, none⟩ = some (.int .i64 0) := cell_at X1.out rfl
  have y1 : w1.cell? ⟨w.heap.size, 1, none⟩ = some (.slice none 0 0) := cell_at X1.out rfl
  have hz1 : w1.heap.size = w.heap.size + 1 := by rw [← E1.out]; simp
  cases hm : inB most 0 100000 with
  | false =>
    have HD : Hid (nwE most zs = 2) := by unfold Hid nwE; rw [if_neg (by rw [hm]; simp)]
    have HDB : Hid (nwB most zs = []) := by unfold Hid nwB; rw [if_neg (by rw [HD.out]; omega)]
    go_enter Tryd.func23, Tryd.ntmps23
    go_wp2_with fail
    rw [E1.out]
    refine length_any _ _ _ _ ?_
    go_wp2_with fail
    refine bodyPost_ret (v := .tuple #[.agg #[.int .i64 0, .slice none 0 0], .int .i64 2]) (by simp [results, Tryd.results23, go_sem, y0, y1]) rfl ?_
    have HR' := HR.out none 0 _ ((HB1.out.setCell (p := ⟨w.heap.size, 0, none⟩) (Nat.le_refl _) (.int .i64 0)).setCell (p := ⟨w.heap.size, 1, none⟩) (Nat.le_refl _) (.slice none 0 0)) (by rw [HDB.out]; exact BSl.nil _) (Fresh.nil _)
    rw [HDB.out, HD.out, okM, if_neg (by omega)] at HR'
    exact HR'
  | true =>
    by_cases hE : chk zs = 0
    · have HD : Hid (nwE most zs = 0) := by unfold Hid nwE; rw [if_pos hm]; exact hE
      have HDB : Hid (nwB most zs = newTo zs zs.length) := by unfold Hid nwB; rw [if_pos HD.out]
      have hlen : zs.length ≤ 256 := ((chk_zero zs).1 hE).1
      have HE := Lib.hid hE
      go_enter Tryd.func23, Tryd.ntmps23
      go_wp2_with fail
      rw [E1.out]
      refine length_any _ _ _ _ ?_
      go_wp2_with fail
      refine rcheck_any ao zs c _ _ hl (HC.out.below HB1.out) ?_
      intro w9 hd9
      have HB9 : Hid (Below w.heap.size w w9) := HB1.out.trans (hd9.below _)
      have hz9 : w9.heap.size = w.heap.size + 1 := by obtain ⟨q, rfl⟩ := hd9; exact hz1
      have X9 : Hid (w9.heap[w.heap.size]? = some (.cells #[.int .i64 0, .slice none 0 0] 28 (0, 0))) := heap_below X1.out (hd9.below _) s1
      obtain ⟨w2, E2', HB2, s2, X2⟩ := box_ex w9 #[.int .i64 most, .slice none 0 0] 28
      have E2 := Lib.hid E2'
      have hz2 : w2.heap.size = w.heap.size + 2 := by rw [← E2', World.size_alloc]; omega
      clear E2' hd9
      have HV2 : Hid (Below w.heap.size w w2) := HB9.out.trans (HB2.out.mono (by omega))
      go_wp2_with fail
      rw [E2.out]
      rw [hz9] at X2
      have X12 : Hid (w2.heap[w.heap.size]? = some (.cells #[.int .i64 0, .slice none 0 0] 28 (0, 0))) := heap_below X9.out HB2.out (by omega)
      clear f0 f1 y0 y1
      go_loopw [8] (fun i wr => ∃ (k : Nat) (v : Value), k ≤ zs.length ∧ i = .int .i64 k ∧ Hid (Below w.heap.size w wr) ∧ w.heap.size + 2 ≤ wr.heap.size ∧ Hid (wr.heap[w.heap.size]? = some (.cells #[.int .i64 0, .slice none 0 0] 28 (0, 0))) ∧
        Hid (wr.heap[w.heap.size + 1]? = some (.cells #[.int .i64 most, v] 28 (0, 0))) ∧ Hid (wr.ownsRow (w.heap.size + 2) 78 4 v k (bC (newTo zs k)))) (fun i _ => zs.length - (intOf i).toNat)
      case atStart => exact ⟨0, .slice none 0 0, Nat.zero_le _, rfl, HV2, by omega, X12, X2, World.ownsRow_nil _ _ _ _⟩
      case round =>
        obtain ⟨k, v, hk, rfl, HB, sB, Y0, Y1, HO⟩ := hrel
        obtain ⟨av, cv, rfl, _, _⟩ := ownsRow_read HO.out
        have d1 : wr.cell? ⟨w.heap.size + 1, 1, none⟩ = some (.slice av k cv) := cell_at Y1.out rfl
        have d0 : wr.cell? ⟨w.heap.size + 1, 0, none⟩ = some (.int .i64 most) := cell_at Y1.out rfl
        by_cases hlt : k < zs.length
        · obtain ⟨b, o, rfl, _, hcell⟩ := (HC.out.below HB.out).ints (by omega)
          have c1 := hcell k hlt
          clear hcell
          obtain ⟨x, hx⟩ : ∃ x, at0 zs k = x := ⟨_, rfl⟩
          have HX := Lib.hid hx
          rw [hx] at c1
          clear hx
          have dA : (wr.alloc (.cells #[.int .i64 x, .int .i64 0, .int .i64 0, .string ⟨#[]⟩] 78)).cell? ⟨w.heap.size + 1, 1, none⟩ = some (.slice av k cv) := cellB ((Below.refl _ _).alloc (Nat.le_refl _) _) d1 (by omega)
          go_wp2_with fail
          go_region_law ((refine step_append_lies _ (by rfl) (.tmp 28) (.tmp 34) _ (by rfl) (w.heap.size + 2) 78 i0 _ 4 40 Tryd.underlying26 hi0 hi1 hi2 hi3 rfl (by omega) (.slice av k cv) k (bC (newTo zs k)) (by rfl) (ownsRow_below HO.out (((Below.refl _ _).alloc (Nat.le_refl _) _).drew)) ⟨wr.heap.size, 0, none⟩ 1 1 [.int .i64 x, .int .i64 0, .int .i64 0, .string ⟨#[]⟩] (by rfl) (by rfl) (World.news_of_block (cs := #[.int .i64 x, .int .i64 0, .int .i64 0, .string ⟨#[]⟩]) (fr := (0, 0)) (heap_alloc_new wr _)) (one4 _ _ _ _) (by omega) (by unfold maxLen; omega) (by omega) (by simp; omega) (wr.heap.size + 1) (by simp) ?_; intro gg cap w3 hown1 hgrow hat hlt; have Hg1 : Hid (Below (w.heap.size + 2) wr w3) := (Below.grown (((Below.refl _ wr).alloc sB _).drew) hgrow (by simp; omega) (fun j e => (HO.out.lt j e).1)); have H1 := Lib.hid hown1; clear hown1 hgrow hat hlt; have Y1' : Hid (w3.heap[w.heap.size + 1]? = some (.cells #[.int .i64 most, .slice av k cv] 28 (0, 0))) := heap_below Y1.out Hg1.out (by omega); have g1 : w3.cell? ⟨w.heap.size + 1, 1, none⟩ = some (.slice av k cv) := cell_at Y1'.out rfl; have g2 := frozen_at Y1'.out 1))
          all_goals
            go_wp2_with fail
            have s3 := Hg1.out.size
            refine ⟨⟨k + 1, .slice (some ⟨gg, 0, none⟩) (k + 1) cap, by omega, by go_num, (HB.out.trans (Hg1.out.mono (by omega))).setCell (by show w.heap.size ≤ w.heap.size + 1; omega) _, by simp; omega, (Below.heap_setCell _ _ _ _ (by show w.heap.size ≠ w.heap.size + 1; omega)).trans (heap_below Y0.out Hg1.out (by omega)), ?_, ?_⟩, by simp [intOf]; omega⟩
            · exact heap_setCell_same w3 (w.heap.size + 1) 1 _ _ _ Y1'.out
            · have h := ownsRow_set H1.out (a := ⟨w.heap.size + 1, 1, none⟩) (by show w.heap.size + 1 < w.heap.size + 2; omega) (.slice (some ⟨gg, 0, none⟩) (k + 1) cap)
              unfold Hid
              rw [newTo, bC_append, HX.out]
              exact h
        · obtain rfl : k = zs.length := by omega
          have f0 := frozen_at Y0.out 0
          have f1 := frozen_at Y0.out 1
          have y0 : wr.cell? ⟨w.heap.size, 0, none⟩ = some (.int .i64 0) := cell_at Y0.out rfl
          have y1 : wr.cell? ⟨w.heap.size, 1, none⟩ = some (.slice none 0 0) := cell_at Y0.out rfl
          go_wp2_with fail
          refine bodyPost_ret (v := .tuple #[.agg #[.int .i64 most, .slice av zs.length cv], .int .i64 0]) (by simp [results, Tryd.results23, go_sem, y0, y1]) rfl ?_
          have hrow := ownsRow_set (ownsRow_set HO.out (a := ⟨w.heap.size, 0, none⟩) (by show w.heap.size < w.heap.size + 2; omega) (.int .i64 most)) (a := ⟨w.heap.size, 1, none⟩) (by show w.heap.size < w.heap.size + 2; omega) (.slice av zs.length cv)
          obtain ⟨a', c', e', q1, q2⟩ := ownsRow_read hrow
          cases e'
          have HR' := HR.out av cv _ ((HB.out.setCell (p := ⟨w.heap.size, 0, none⟩) (Nat.le_refl _) (.int .i64 most)).setCell (p := ⟨w.heap.size, 1, none⟩) (Nat.le_refl _) (.slice av zs.length cv)) (by rw [HDB.out]; exact ⟨q1, by rw [newTo_length]; exact q2⟩) (ownsRow_fresh hrow (by omega))
          rw [HDB.out, HD.out, okM, if_pos rfl, newTo_length] at HR'
          exact HR'
    · have HD : Hid (nwE most zs = chk zs) := by unfold Hid nwE; rw [if_pos hm]
      have HDB : Hid (nwB most zs = []) := by unfold Hid nwB; rw [if_neg (by rw [HD.out]; exact hE)]
      have HE := Lib.hid hE
      have hE' : (chk zs == 0) = false := by simpa using hE
      have hE'' : (chk zs != 0) = true := by simpa using hE
      clear hE
      go_enter Tryd.func23, Tryd.ntmps23
      go_wp2_with fail
      rw [E1.out]
      refine length_any _ _ _ _ ?_
      go_wp2_with fail
      refine rcheck_any ao zs c _ _ hl (HC.out.below HB1.out) ?_
      intro w9 hd9
      have HB9 : Hid (Below w.heap.size w w9) := HB1.out.trans (hd9.below _)
      have X9 : Hid (w9.heap[w.heap.size]? = some (.cells #[.int .i64 0, .slice none 0 0] 28 (0, 0))) := heap_below X1.out (hd9.below _) s1
      have f0 := frozen_at X9.out 0
      have f1 := frozen_at X9.out 1
      have y0 : w9.cell? ⟨w.heap.size, 0, none⟩ = some (.int .i64 0) := cell_at X9.out rfl
      have y1 : w9.cell? ⟨w.heap.size, 1, none⟩ = some (.slice none 0 0) := cell_at X9.out rfl
      clear hd9
      go_wp2_with fail
      refine bodyPost_ret (v := .tuple #[.agg #[.int .i64 0, .slice none 0 0], .int .i64 (chk zs)]) (by simp [results, Tryd.results23, go_sem, y0, y1]) rfl ?_
      have HR' := HR.out none 0 _ ((HB9.out.setCell (p := ⟨w.heap.size, 0, none⟩) (Nat.le_refl _) (.int .i64 0)).setCell (p := ⟨w.heap.size, 1, none⟩) (Nat.le_refl _) (.slice none 0 0)) (by rw [HDB.out]; exact BSl.nil _) (Fresh.nil _)
      rw [HDB.out, HD.out, okM, if_neg (by exact HE.out)] at HR'
      exact HR'
end Go.Proofs.YteoniejpfmeibaaDoor
