/- The walks of fewest and best. -/
import Derived.Test.YteoniejpfmeibaaDoorC
namespace Go.Proofs.YteoniejpfmeibaaDoor
open Go.RowKit

theorem Tryd.infoInt : (Tryd.prog.info? 3).map (fun i => (i.zero, i.size, i.bytes)) = some (some (.int .i64 0), 1, 8) := by kernel_rfl

set_option maxHeartbeats 400000 in
theorem fewest_any (ao : Option Addr) (zs : List Int) (c : Nat) (most : Int) (w : World) (R : Ending → World → Prop)
   (hl : zs.length ≤ 256) (hc : CellsAt w ao (I64s zs)) (hz : ∀ j, j < zs.length → 1 ≤ at0 zs j ∧ at0 zs j ≤ 100000)
   (hm : 1 ≤ most ∧ most ≤ 100000)
   (hR : ∀ (T C W : Nat) (cells : List Int) w', Below w.heap.size w w' → (W : Int) = min zs.sum most + 1 → w.heap.size ≤ T → w.heap.size ≤ C →
      Blk w' T 121 [.slice ao zs.length c, .int .i64 W, .slice (some ⟨C, 0, none⟩) ((zs.length + 1) * W) ((zs.length + 1) * W)] → Blk w' C 21 (I32s cells) → cells.length = (zs.length + 1) * W →
      TabFrom joinF 258 0 zs W cells 0 → R (.returned (.pointer (some ⟨T, 0, none⟩))) w') :
    Calls Tryd.prog 73 #[.slice ao zs.length c, .int .i64 most] w R := by
  have HR := Lib.hid hR
  have Hz := Lib.hid hz
  clear hR hz
  go_enter Tryd.func73, Tryd.ntmps73
  go_wp2_with fail
  refine filledF_any ao zs c most 258 0 _ _ hl hc Hz.out hm ?_
  intro T C W cells w' h1 h2 h3 h4 h5 h6 h7 h8
  have H := HR.out T C W cells w' h1 h2 h3 h4 h5 h6 h7 h8
  clear h1 h2 h3 h4 h5 h6 h7 h8
  go_wp2_with fail
  exact H

theorem row_any' (T C : Nat) (sv : Value) (W N : Nat) (j : Int) (i : Nat) (w : World) (R : Ending → World → Prop) (hj : j = i)
    (h1 : w.cell? ⟨T, 1, none⟩ = some (.int .i64 W)) (h2 : w.cell? ⟨T, 2, none⟩ = some (.slice (some ⟨C, 0, none⟩) N N))
    (hW : 0 < W) (hN : N ≤ 1000000000000) (hi : (i + 1) * W ≤ N)
    (hR : ∀ w', Drew w w' → R (.returned (.slice (some ⟨C, i * W, none⟩) W W)) w') :
    Calls Tryd.prog 74 #[.pointer (some ⟨T, 0, none⟩), .int .i64 j] w R := by
  subst hj; exact row_any T C sv W N i w R h1 h2 hW hN hi hR

theorem row_q (T C : Nat) (sv : Value) (W N : Nat) (j : Int) (i : Nat) (w : World) (hj : j = i)
    (h1 : w.cell? ⟨T, 1, none⟩ = some (.int .i64 W)) (h2 : w.cell? ⟨T, 2, none⟩ = some (.slice (some ⟨C, 0, none⟩) N N))
    (hW : 0 < W) (hN : N ≤ 1000000000000) (hi : (i + 1) * W ≤ N) :
    Calls Tryd.prog 74 #[.pointer (some ⟨T, 0, none⟩), .int .i64 j] w fun e w' => e = .returned (.slice (some ⟨C, i * W, none⟩) W W) ∧ ∃ m, w' = w.drewN m :=
  row_any' T C sv W N j i w _ hj h1 h2 hW hN hi fun _ ⟨q, h⟩ => ⟨rfl, q, h⟩

/-- What the loop of 'best' holds. -/
def BestInv (zs : List Int) (_T _C _W : Nat) (W0 : World) (l : Nat) (k : Nat) (r : Nat) (v : Value) (wr : World) : Prop :=
  ∃ out : List Int, OwnL wr W0.heap.size 3 1 v out.length (I64s out) ∧ out.length ≤ k ∧ out ++ bestL (zs.drop k) k r = bestL zs 0 l ∧ Below W0.heap.size W0 wr

theorem bestL_drop {zs : List Int} {k r x : Nat} (hk : k < zs.length) (hx : at0 zs k = x) :
    bestL (zs.drop k) k r = if x ≤ r ∧ wrap32 (tab joinF 258 0 (zs.drop (k+1)) (r - x) + 1) = tab joinF 258 0 (zs.drop k) r then (k : Int) :: bestL (zs.drop (k+1)) (k + 1) (r - x) else bestL (zs.drop (k+1)) (k + 1) r := by
  have e : zs.drop k = at0 zs k :: zs.drop (k+1) := by rw [List.drop_eq_getElem_cons hk]; simp [at0, List.getD, hk]
  rw [e, bestL, hx]; simp

set_option maxRecDepth 100000 in
set_option maxHeartbeats 1000000 in
theorem best_any (ao : Option Addr) (zs : List Int) (c : Nat) (l : Nat) (w : World) (R : Ending → World → Prop)
   (hl : zs.length ≤ 256) (hc : CellsAt w ao (I64s zs)) (hz : ∀ j, j < zs.length → 1 ≤ at0 zs j ∧ at0 zs j ≤ 100000)
   (hm : 1 ≤ l ∧ l ≤ 100000)
   (hR1 : reachB zs l = true → ∀ ao' c' w', Below w.heap.size w w' → CellsAt w' ao' (I64s (bestL zs 0 l)) → (∀ b o, ao' = some ⟨b, o, none⟩ → w.heap.size ≤ b) → R (.returned (.tuple #[.slice ao' (bestL zs 0 l).length c', .bool true])) w')
   (hR2 : reachB zs l = false → ∀ w', Below w.heap.size w w' → R (.returned (.tuple #[.slice none 0 0, .bool false])) w') :
    Calls Tryd.prog 60 #[.slice ao zs.length c, .int .i64 l] w R := by
  have HR1 := Lib.hid hR1
  have HR2 := Lib.hid hR2
  have Hz := Lib.hid hz
  clear hR1 hR2 hz
  go_enter Tryd.func60, Tryd.ntmps60
  go_wp2_with fail
  refine fewest_any ao zs c l _ _ hl hc Hz.out (by omega) ?_
  intro T C W cells w' h1 h2 h3 h4 h5 h6 h7 h8
  have c1 := h5.cell (j := 1) (by simp)
  have c2 := h5.cell (j := 2) (by simp)
  have hWl : (W : Int) ≤ l + 1 := by omega
  obtain ⟨N, hN⟩ : ∃ N : Nat, N = (zs.length + 1) * W := ⟨_, rfl⟩
  rw [← hN] at c2 h7 h5
  have HN := Lib.hid hN
  have H2 := Lib.hid h2
  have H1 := Lib.hid h1
  have H5 := Lib.hid h5
  have H6 := Lib.hid h6
  have H7 := Lib.hid h7
  have H8 := Lib.hid h8
  clear hN h2 h1 h5 h6 h7 h8
  have Hsum : Hid (0 ≤ zs.sum ∧ zs.sum ≤ 25600000) := by
    have := sum_take_bd zs 100000 (fun j hj => ⟨by have := (Hz.out j hj).1; omega, (Hz.out j hj).2⟩) zs.length (Nat.le_refl _)
    rw [List.take_length] at this
    exact ⟨this.1, by omega⟩
  by_cases g1 : W ≤ l
  · have g2 : decide ((l : Int) < W) = false := by simp; omega
    go_wp2_with fail
    refine ret_eq (HR2.out (by have := H2.out; simp [reachB]; omega) _ H1.out) rfl
  · have hWe : W = l + 1 := by omega
    have HWe := Lib.hid hWe
    have hT0 := H8.out 0 (Nat.le_refl _) (Nat.zero_le _) l (by omega)
    rw [Nat.zero_mul, Nat.zero_add, List.drop_zero] at hT0
    have c3 := H6.out.cell32 (j := l) (by rw [H7.out, HN.out, Nat.succ_mul]; omega)
    rw [hT0] at c3
    clear hWe hT0
    have hN1 : N ≤ 1000000000 := by rw [HN.out]; exact Nat.le_trans (Nat.mul_le_mul (show zs.length + 1 ≤ 257 by omega) (show W ≤ 100001 by omega)) (by omega)
    have hWN : (0 + 1) * W ≤ N := by rw [HN.out]; exact Nat.mul_le_mul_right _ (by omega)
    have HWN := Lib.hid hWN
    clear hWN
    by_cases g3 : 258 ≤ tab joinF 258 0 zs l
    · go_wp2_with fail
      refine row_any T C (.slice none 0 0) W N 0 _ _ c1 c2 (by omega) (by omega) HWN.out ?_
      rintro w3 ⟨q, rfl⟩
      go_wp2_with fail
      refine ret_eq (HR2.out (by simp [reachB]; omega) _ (H1.out.trans ((Drew.refl _).drewN.below _))) rfl
    · go_wp2_with fail
      refine row_any T C (.slice none 0 0) W N 0 _ _ c1 c2 (by omega) (by omega) HWN.out ?_
      rintro w3 ⟨q, rfl⟩
      go_wp2_with fail
      have Hr : Hid (reachB zs l = true) := by unfold Hid; have := H2.out; have := HWe.out; simp [reachB]; omega
      go_loopw [1, 7, 29] (fun s v i wr => ∃ k r : Nat, k ≤ zs.length ∧ r ≤ l ∧ s = .int .i64 r ∧ i = .int .i64 k ∧ BestInv zs T C W w' l k r v wr) (fun _ _ i _ => zs.length - (intOf i).toNat)
      case atStart => exact ⟨0, l, Nat.zero_le _, Nat.le_refl _, rfl, rfl, [], OwnL.nil _ _ _ _, Nat.le_refl _, rfl, (Drew.refl _).drewN.below _⟩
      case round =>
        obtain ⟨k, r, hk, hr, rfl, rfl, out, hown, hout, hbl, hbel⟩ := hrel
        obtain ⟨ao2, cap2, rfl, hcells, hbase, hnil⟩ := hown.read
        have HO := Lib.hid hown
        have HL := Lib.hid hbl
        have HBl := Lib.hid hbel
        by_cases hlt : k < zs.length
        · obtain ⟨x, hx, hx1, hx2⟩ : ∃ x : Nat, at0 zs k = x ∧ 1 ≤ x ∧ x ≤ 100000 := by
            have := Hz.out k hlt
            exact ⟨(at0 zs k).toNat, by omega, by omega, by omega⟩
          obtain ⟨b, o, rfl, hblt, hcell⟩ := hc.ints (by omega)
          have hbk := hcell k hlt
          rw [hx] at hbk
          have hbk' := (hbel.cell (p := ⟨b, o + k, none⟩) (Nat.lt_of_lt_of_le hblt H1.out.size)).trans ((H1.out.cell (p := ⟨b, o + k, none⟩) hblt).trans hbk)
          have d1 := (hbel.cell (p := ⟨T, 1, none⟩) H5.out.lt).trans c1
          have d2 := (hbel.cell (p := ⟨T, 2, none⟩) H5.out.lt).trans c2
          have hiW : (k + 1 + 1) * W ≤ N := by rw [HN.out]; exact Nat.mul_le_mul_right _ (by omega)
          have hiW2 : (k + 1) * W ≤ N := Nat.le_trans (Nat.mul_le_mul_right _ (by omega)) hiW
          have hiW' : (k + 1) * W + W ≤ N := by rw [Nat.succ_mul] at hiW; exact hiW
          have hiW2' : k * W + W ≤ N := by rw [Nat.succ_mul] at hiW2; exact hiW2
          have HiW := Lib.hid hiW
          have HiW2 := Lib.hid hiW2
          have Hx := Lib.hid hx
          have d4 := (hbel.cell (p := ⟨C, k * W + r, none⟩) H6.out.lt).trans (H6.out.cell32 (j := k * W + r) (by rw [H7.out]; have := HWe.out; omega))
          rw [H8.out k (Nat.zero_le _) hk r (by have := HWe.out; omega)] at d4
          clear hcell hbk hx hown hbl hbel hbase hnil hcells hiW hiW2
          by_cases g5 : x ≤ r
          · have d3 := (HBl.out.cell (p := ⟨C, (k + 1) * W + (r - x), none⟩) H6.out.lt).trans (H6.out.cell32 (j := (k + 1) * W + (r - x)) (by rw [H7.out]; have := HWe.out; omega))
            rw [H8.out (k + 1) (Nat.zero_le _) hlt (r - x) (by have := HWe.out; omega)] at d3
            by_cases g6 : wrap32 (tab joinF 258 0 (zs.drop (k+1)) (r - x) + 1) = tab joinF 258 0 (zs.drop k) r
            · have g7 : (wrap32 (tab joinF 258 0 (zs.drop (k+1)) (r - x) + 1) == tab joinF 258 0 (zs.drop k) r) = true := by simpa using g6
              have G6 := Lib.hid g6
              clear g6
              have e1 : IntKind.i64.wrap ((k : Int) + 1) = (k : Int) + 1 := IntWalk.i64_in _ (by omega)
              have e2 : IntKind.i64.wrap ((r : Int) - x) = ((r - x : Nat) : Int) := by rw [Int.ofNat_sub g5]; exact IntWalk.i64_in _ (by omega)
              have hrx : ((r - x : Nat) : Int) < W := by have := HWe.out; omega
              go_wp2_with fail
              go_quiet (first | (go_at_call 74; exact Calls.quiet_of (row_q T C (.slice none 0 0) W N _ (k + 1) _ (by omega) d1 d2 (by omega) (by omega) HiW.out)) | (go_at_call 74; exact Calls.quiet_of (row_q T C (.slice none 0 0) W N _ k _ (by omega) d1 d2 (by omega) (by omega) HiW2.out)))
              go_wp2_with (at_builtin; refine wp_append1 rfl (.tmp 56) (.tmp 58) 31 rfl w'.heap.size 3 Tryd.underlying31 Tryd.infoInt rfl (by decide) (by decide) _ out.length (I64s out) rfl (by first | exact (HO.out.drewN nq).alloc _ | exact (HO.out.alloc _).drewN nq) wr.heap.size [.int .i64 k] rfl rfl ?_ ?_ (by omega) ?_ ?_)
              · exact new1 _ _ _
              · exact one1 _ rfl
              · have := HBl.out.size; simp; omega
              intro v' w1 hown' hb'
              have Ho' := Lib.hid hown'
              clear hown'
              go_wp2_with fail
              refine ⟨⟨k + 1, r - x, by omega, by omega, by first | rfl | (congr 1; omega), by go_num, out ++ [(k : Int)], ?_, by simp; omega, ?_, HBl.out.trans ((((Drew.refl _).drewN.below _).alloc (by exact HBl.out.size) _).trans hb')⟩, by simp [intOf]; omega⟩
              · simpa [I64s] using Ho'.out
              · have h := HL.out
                rw [bestL_drop hlt Hx.out, if_pos ⟨g5, G6.out⟩] at h
                simpa using h
            · have g7 : (wrap32 (tab joinF 258 0 (zs.drop (k+1)) (r - x) + 1) == tab joinF 258 0 (zs.drop k) r) = false := by simpa using g6
              have G6 := Lib.hid g6
              clear g6
              have e1 : IntKind.i64.wrap ((k : Int) + 1) = (k : Int) + 1 := IntWalk.i64_in _ (by omega)
              have e2 : IntKind.i64.wrap ((r : Int) - x) = ((r - x : Nat) : Int) := by rw [Int.ofNat_sub g5]; exact IntWalk.i64_in _ (by omega)
              have hrx : ((r - x : Nat) : Int) < W := by have := HWe.out; omega
              go_wp2_with fail
              go_quiet (first | (go_at_call 74; exact Calls.quiet_of (row_q T C (.slice none 0 0) W N _ (k + 1) _ (by omega) d1 d2 (by omega) (by omega) HiW.out)) | (go_at_call 74; exact Calls.quiet_of (row_q T C (.slice none 0 0) W N _ k _ (by omega) d1 d2 (by omega) (by omega) HiW2.out)))
              go_wp2_with fail
              refine ⟨⟨k + 1, r, by omega, by omega, rfl, by go_num, out, HO.out.drewN _, by omega, ?_, HBl.out.trans ((Drew.refl _).drewN.below _)⟩, by simp [intOf]; omega⟩
              have h := HL.out
              rw [bestL_drop hlt Hx.out, if_neg (fun h => G6.out h.2)] at h
              exact h
          · have e3 : decide ((x : Int) ≤ r) = false := by simp; omega
            go_wp2_with fail
            go_quiet (fail)
            go_wp2_with fail
            refine ⟨⟨k + 1, r, by omega, by omega, rfl, by go_num, out, HO.out.drewN _, by omega, ?_, HBl.out.trans ((Drew.refl _).drewN.below _)⟩, by simp [intOf]; omega⟩
            have h := HL.out
            rw [bestL_drop hlt Hx.out, if_neg (fun h => g5 h.1)] at h
            exact h
        · obtain rfl : k = zs.length := by omega
          go_wp2_with fail
          have h := HL.out
          rw [List.drop_length] at h
          simp only [bestL, List.append_nil] at h
          subst h
          exact HR1.out Hr.out ao2 cap2 _ (H1.out.trans (HBl.out.mono H1.out.size)) hcells (fun b o e => Nat.le_trans H1.out.size (hbase b o e))
end Go.Proofs.YteoniejpfmeibaaDoor
