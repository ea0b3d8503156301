/- The walk of 'filled'. -/
import Derived.Test.YteoniejpfmeibaaDoorB
namespace Go.Proofs.YteoniejpfmeibaaDoor
open Go.RowKit

/-- The two blocks of the table in a world. -/
def FillW (ao : Option Addr) (zs : List Int) (c W N C : Nat) (w : World) (cells : List Int) (wr : World) : Prop :=
  Blk wr w.heap.size 121 [.slice ao zs.length c, .int .i64 W, .slice (some ⟨C, 0, none⟩) N N] ∧ Blk wr C 21 (I32s cells) ∧ cells.length = N ∧ Below w.heap.size w wr
theorem FillW.drewN {ao : Option Addr} {zs : List Int} {c W N C : Nat} {w : World} {cells : List Int} {wr : World} (h : FillW ao zs c W N C w cells wr) (q : Nat) : FillW ao zs c W N C w cells (wr.drewN q) :=
  ⟨h.1, h.2.1, h.2.2.1, h.2.2.2.trans ((Drew.refl _).drewN.below _)⟩
theorem FillW.set {ao : Option Addr} {zs : List Int} {c W N C : Nat} {w : World} {cells : List Int} {wr : World} (h : FillW ao zs c W N C w cells wr) (hC : w.heap.size < C) (j : Nat) (v : Int) :
    FillW ao zs c W N C w (cells.set j v) (wr.setCell ⟨C, j, none⟩ (.int .i32 v)) :=
  ⟨h.1.other (by show w.heap.size ≠ C; omega) _, h.2.1.set32 j v, by rw [List.length_set]; exact h.2.2.1, h.2.2.2.setCell (p := ⟨C, j, none⟩) (by show w.heap.size ≤ C; omega) _⟩
def FillInv (J : Int → Int → Int) (nn dd : Int) (ao : Option Addr) (zs : List Int) (c W N C : Nat) (w : World) (k : Nat) (wr : World) : Prop :=
  ∃ cells, FillW ao zs c W N C w cells wr ∧ TabFrom J nn dd zs W cells k
def RowInv (J : Int → Int → Int) (nn dd : Int) (ao : Option Addr) (zs : List Int) (c W N C : Nat) (w : World) (i n : Nat) (wr : World) : Prop :=
  ∃ cells, FillW ao zs c W N C w cells wr ∧ TabRow J nn dd zs W cells i n

set_option maxRecDepth 100000 in
set_option maxHeartbeats 2000000 in
theorem filledF_any (ao : Option Addr) (zs : List Int) (c : Nat) (most nn dd : Int) (w : World) (R : Ending → World → Prop)
   (hl : zs.length ≤ 256) (hc : CellsAt w ao (I64s zs)) (hz : ∀ j, j < zs.length → 1 ≤ at0 zs j ∧ at0 zs j ≤ 100000)
   (hm : 1 ≤ most ∧ most ≤ 100000)
   (hR : ∀ (T C W : Nat) (cells : List Int) w', Below w.heap.size w w' → (W : Int) = min zs.sum most + 1 → w.heap.size ≤ T → w.heap.size ≤ C →
      Blk w' T 121 [.slice ao zs.length c, .int .i64 W, .slice (some ⟨C, 0, none⟩) ((zs.length + 1) * W) ((zs.length + 1) * W)] → Blk w' C 21 (I32s cells) → cells.length = (zs.length + 1) * W →
      TabFrom joinF nn dd zs W cells 0 → R (.returned (.pointer (some ⟨T, 0, none⟩))) w') :
    Calls Tryd.prog 84 #[.slice ao zs.length c, .int .i64 most, .int .i32 nn, .int .i32 dd, .func (.func 85) #[] #[]] w R := by
  have HR := Lib.hid (hR)
  clear hR
  have Hz := Lib.hid (hz)
  clear hz
  have Hbd : Hid (∀ k, k ≤ zs.length → 0 ≤ (zs.take k).sum ∧ (zs.take k).sum ≤ k * 100000) := fun k hk => sum_take_bd zs 100000 (fun j hj => ⟨by have := (Hz.out j hj).1; omega, (Hz.out j hj).2⟩) k hk
  go_enter Tryd.func84, Tryd.ntmps84
  go_wp2_with fail
  go_loop [11, 22] (fun s i => ∃ k : Nat, k ≤ zs.length ∧ i = .int .i64 k ∧ s = .int .i64 (zs.take k).sum) (fun _ i => zs.length - (intOf i).toNat)
  case atStart => exact ⟨0, Nat.zero_le _, rfl, rfl⟩
  case round =>
    obtain ⟨k, hk, rfl, rfl⟩ := hrel
    by_cases hlt : k < zs.length
    · obtain ⟨b, o, rfl, _, hcell⟩ := hc.ints (by omega)
      have h1 := hcell k hlt
      clear hcell
      have h2 := Hz.out k hlt
      have h3 := Hbd.out k hk
      have h4 := Lib.hid (sum_take_succ zs k hlt)
      go_wp2_with fail
      refine ⟨⟨k+1, by omega, by go_num, ?_⟩, by simp [intOf]; omega⟩
      rw [h4.out]
    · obtain rfl : k = zs.length := by omega
      have h3 := Hbd.out _ hk
      rw [List.take_length] at h3 ⊢
      obtain ⟨W, hs⟩ : ∃ W : Nat, (W : Int) = min zs.sum most + 1 := ⟨(min zs.sum most).toNat + 1, by omega⟩
      have hW1 : 1 ≤ W := by omega
      have hW2 : W ≤ 100001 := by omega
      obtain ⟨N, hN⟩ : ∃ N : Nat, N = (zs.length + 1) * W := ⟨_, rfl⟩
      have hN1 : N ≤ 100000000 := by rw [hN]; exact Nat.le_trans (Nat.mul_le_mul (show zs.length + 1 ≤ 257 by omega) hW2) (by omega)
      have hN2 : 1 ≤ N := by rw [hN]; exact Nat.le_trans hW1 (Nat.le_mul_of_pos_left _ (by omega))
      have HN := Lib.hid (hN)
      have HNw : Hid (wrap64 (((zs.length : Int) + 1) * W) = N) := by
        unfold Hid
        have : ((zs.length : Int) + 1) * W = (((zs.length + 1) * W : Nat) : Int) := by simp
        rw [this, ← hN]; exact IntWalk.wrap64_in _ (by omega)
      clear hN
      have Hs := Lib.hid (hs)
      clear hs
      have HB0 : Below w.heap.size w w := Below.refl _ _
      by_cases hle : zs.sum ≤ most
      · have e : zs.sum = (W : Int) - 1 := by have := Hs.out; omega
        have em : min ((W : Int) - 1) most = (W : Int) - 1 := by omega
        go_wp2_with fail
        rw [HNw.out]
        refine repeat_any (w.heap.size + 1) nn N _ _ hN2 (by omega) (by simp) ?_
        intro C w1 hC hb1 hblkC
        have hT1 := ((Blk.new w [.slice ao zs.length c, .int .i64 W, .slice none 0 0] 121).alloc (.cells #[.int .i32 nn] 21)).below hb1 (by simp; omega)
        have hBw1 : Hid (Below w.heap.size w w1) := (((Below.refl w.heap.size w).alloc (Nat.le_refl _) _).alloc (by simp) _).trans (hb1.mono (by simp; omega))
        have hC' : w.heap.size + 2 ≤ C := by simpa using hC
        have HT1 := Lib.hid (hT1)
        have HC1 := Lib.hid (hblkC)
        have c1 := hT1.cell (j := 1) (by simp)
        have c2 := hT1.cell (j := 2) (by simp)
        have f2 := hT1.frozen 2
        clear hb1 hT1 hblkC hC HB0
        go_wp2_with fail
        have HT2 := Lib.hid (HT1.out.set 2 (.slice (some ⟨C, 0, none⟩) N N))
        have HC2 := Lib.hid (HC1.out.other (a := ⟨w.heap.size, 2, none⟩) (show C ≠ w.heap.size by omega) (.slice (some ⟨C, 0, none⟩) N N))
        have HB2 := Lib.hid (hBw1.out.setCell (p := ⟨w.heap.size, 2, none⟩) (Nat.le_refl _) (.slice (some ⟨C, 0, none⟩) N N))
        clear HT1 HC1 hBw1 c1 c2 f2
        generalize w1.setCell ⟨w.heap.size, 2, none⟩ (.slice (some ⟨C, 0, none⟩) N N) = w2 at *
        have hLW : zs.length * W + W = N := by rw [HN.out, Nat.succ_mul]
        refine row_any w.heap.size C (.slice none 0 0) W N zs.length _ _ (HT2.out.cell (j := 1) (by simp)) (HT2.out.cell (j := 2) (by simp)) (by omega) (by omega) (by rw [HN.out]; exact Nat.le_refl _) ?_
        rintro w3 ⟨q, rfl⟩
        have c3 : w2.cell? ⟨C, zs.length * W, none⟩ = some _ := HC2.out.cell (by simp [I32s, reps]; omega)
        have f3 := HC2.out.frozen (zs.length * W)
        have hst : FillInv joinF nn dd ao zs c W N C w zs.length ((w2.drewN q).setCell ⟨C, zs.length * W, none⟩ (.int .i32 dd)) :=
          ⟨_, FillW.set (FillW.drewN (cells := reps N nn) (wr := w2) ⟨HT2.out, HC2.out, reps_length _ _, HB2.out⟩ q) (by omega) _ _, TabFrom_start hW1 hLW⟩
        have Hst := Lib.hid hst
        clear hst HT2 HC2 HB2
        go_wp2_with fail
        go_loopw [15] (fun i wr => ∃ k : Nat, k ≤ zs.length ∧ i = .int .i64 ((k : Int) - 1) ∧ FillInv joinF nn dd ao zs c W N C w k wr) (fun i _ => ((intOf i) + 1).toNat)
        case atStart => exact ⟨zs.length, Nat.le_refl _, rfl, Hst.out⟩
        case round =>
          obtain ⟨k, hk, rfl, cells, hF, hTab⟩ := hrel
          have c1 := hF.1.cell (j := 1) (by simp)
          have c2 := hF.1.cell (j := 2) (by simp)
          have HF := Lib.hid hF
          have HT := Lib.hid hTab
          clear hF hTab
          obtain ⟨wo, rfl⟩ : ∃ wo : World, wo = wr := ⟨_, rfl⟩
          match k with
          | 0 =>
            go_wp2_with fail
            have h := HF.out
            exact ret_eq (HR.out w.heap.size C W cells _ h.2.2.2 Hs.out (Nat.le_refl _) (by omega) (by rw [← HN.out]; exact h.1) h.2.1 (by rw [← HN.out]; exact h.2.2.1) HT.out) rfl
          | i + 1 =>
            rw [show (((i + 1 : Nat) : Int) - 1) = (i : Int) from by omega]
            go_wp2_with fail
            rw [show ((i : Int) + 1) = ((i + 1 : Nat) : Int) from by omega]
            have hiW : (i + 1 + 1) * W ≤ N := by rw [HN.out]; exact Nat.mul_le_mul_right _ (by omega)
            have hiW2 : (i + 1) * W ≤ N := Nat.le_trans (Nat.mul_le_mul_right _ (by omega)) hiW
            have HiW := Lib.hid hiW
            have HiW2 := Lib.hid hiW2
            clear hiW hiW2
            refine row_any w.heap.size C (.slice none 0 0) W N (i + 1) _ _ c1 c2 (by omega) (by omega) HiW.out ?_
            rintro w3 ⟨q1, rfl⟩
            go_wp2_with fail
            refine row_any w.heap.size C (.slice none 0 0) W N i _ _ c1 c2 (by omega) (by omega) HiW2.out ?_
            rintro w3 ⟨q2, rfl⟩
            go_wp2_with fail
            have hx : ∃ x : Nat, at0 zs i = x ∧ 1 ≤ x := by
              have := Hz.out i (by omega)
              exact ⟨(at0 zs i).toNat, by omega, by omega⟩
            obtain ⟨x, hx, hx1⟩ := hx
            have Hx := Lib.hid hx
            obtain ⟨b, o, rfl, hblt, hcell⟩ := hc.ints (by omega)
            have hbi := hcell i (by omega)
            rw [hx] at hbi
            clear hx hcell
            go_loopw [73] (fun v wr => ∃ n : Nat, n ≤ W ∧ v = .int .i64 n ∧ RowInv joinF nn dd (some ⟨b, o, none⟩) zs c W N C w i n wr) (fun v _ => W - (intOf v).toNat)
            case atStart => exact ⟨0, Nat.zero_le _, rfl, cells, HF.out.drewN (q1 + q2), TabRow_start HT.out⟩
            case round =>
              obtain ⟨n, hn, rfl, cells2, hF2, hTab2⟩ := hrel
              by_cases hnW : n < W
              · have hNN : (i + 1) * W + W ≤ N := by have := HiW.out; rw [Nat.succ_mul] at this; exact this
                have hNN2 : i * W + W ≤ N := by have := HiW2.out; rw [Nat.succ_mul] at this; exact this
                have hbi' := (hF2.2.2.2.cell (p := ⟨b, o + i, none⟩) hblt).trans hbi
                have r1 := hF2.2.1.cell32 (j := (i + 1) * W + n) (by rw [hF2.2.2.1]; omega)
                have r2 := hF2.2.1.cell32 (j := i * W + n) (by rw [hF2.2.2.1]; omega)
                have r3 := hF2.2.1.frozen (i * W + n)
                by_cases g : x ≤ n
                · have r4 := hF2.2.1.cell32 (j := (i + 1) * W + (n - x)) (by rw [hF2.2.2.1]; omega)
                  have HF2 := Lib.hid hF2
                  have HT2 := Lib.hid hTab2
                  clear hF2 hTab2
                  go_wp2_with fail
                  refine joinF_any _ _ _ _ ?_
                  go_wp2_with fail
                  refine ⟨⟨n + 1, by omega, by go_num, _, FillW.set HF2.out (by omega) _ _, ?_⟩, by simp [intOf]; omega⟩
                  have h := TabRow_step HT2.out (by omega) hnW HN.out.symm HF2.out.2.2.1 Hx.out
                  rw [if_pos g] at h
                  exact h
                · have HF2 := Lib.hid hF2
                  have HT2 := Lib.hid hTab2
                  clear hF2 hTab2
                  go_wp2_with fail
                  refine joinF_any _ _ _ _ ?_
                  go_wp2_with fail
                  refine ⟨⟨n + 1, by omega, by go_num, _, FillW.set HF2.out (by omega) _ _, ?_⟩, by simp [intOf]; omega⟩
                  have h := TabRow_step HT2.out (by omega) hnW HN.out.symm HF2.out.2.2.1 Hx.out
                  rw [if_neg g] at h
                  exact h
              · obtain rfl : n = W := by omega
                have HF2 := Lib.hid hF2
                have HT2 := Lib.hid hTab2
                clear hF2 hTab2
                go_wp2_with fail
                exact ⟨⟨i, by omega, rfl, cells2, HF2.out, TabRow_end HT2.out⟩, by simp [intOf]⟩
      · have e : most = (W : Int) - 1 := by have := Hs.out; omega
        have em : min zs.sum ((W : Int) - 1) = (W : Int) - 1 := by omega
        go_wp2_with fail
        rw [HNw.out]
        refine repeat_any (w.heap.size + 1) nn N _ _ hN2 (by omega) (by simp) ?_
        intro C w1 hC hb1 hblkC
        have hT1 := ((Blk.new w [.slice ao zs.length c, .int .i64 W, .slice none 0 0] 121).alloc (.cells #[.int .i32 nn] 21)).below hb1 (by simp; omega)
        have hBw1 : Hid (Below w.heap.size w w1) := (((Below.refl w.heap.size w).alloc (Nat.le_refl _) _).alloc (by simp) _).trans (hb1.mono (by simp; omega))
        have hC' : w.heap.size + 2 ≤ C := by simpa using hC
        have HT1 := Lib.hid (hT1)
        have HC1 := Lib.hid (hblkC)
        have c1 := hT1.cell (j := 1) (by simp)
        have c2 := hT1.cell (j := 2) (by simp)
        have f2 := hT1.frozen 2
        clear hb1 hT1 hblkC hC HB0
        go_wp2_with fail
        have HT2 := Lib.hid (HT1.out.set 2 (.slice (some ⟨C, 0, none⟩) N N))
        have HC2 := Lib.hid (HC1.out.other (a := ⟨w.heap.size, 2, none⟩) (show C ≠ w.heap.size by omega) (.slice (some ⟨C, 0, none⟩) N N))
        have HB2 := Lib.hid (hBw1.out.setCell (p := ⟨w.heap.size, 2, none⟩) (Nat.le_refl _) (.slice (some ⟨C, 0, none⟩) N N))
        clear HT1 HC1 hBw1 c1 c2 f2
        generalize w1.setCell ⟨w.heap.size, 2, none⟩ (.slice (some ⟨C, 0, none⟩) N N) = w2 at *
        have hLW : zs.length * W + W = N := by rw [HN.out, Nat.succ_mul]
        refine row_any w.heap.size C (.slice none 0 0) W N zs.length _ _ (HT2.out.cell (j := 1) (by simp)) (HT2.out.cell (j := 2) (by simp)) (by omega) (by omega) (by rw [HN.out]; exact Nat.le_refl _) ?_
        rintro w3 ⟨q, rfl⟩
        have c3 : w2.cell? ⟨C, zs.length * W, none⟩ = some _ := HC2.out.cell (by simp [I32s, reps]; omega)
        have f3 := HC2.out.frozen (zs.length * W)
        have hst : FillInv joinF nn dd ao zs c W N C w zs.length ((w2.drewN q).setCell ⟨C, zs.length * W, none⟩ (.int .i32 dd)) :=
          ⟨_, FillW.set (FillW.drewN (cells := reps N nn) (wr := w2) ⟨HT2.out, HC2.out, reps_length _ _, HB2.out⟩ q) (by omega) _ _, TabFrom_start hW1 hLW⟩
        have Hst := Lib.hid hst
        clear hst HT2 HC2 HB2
        go_wp2_with fail
        go_loopw [15] (fun i wr => ∃ k : Nat, k ≤ zs.length ∧ i = .int .i64 ((k : Int) - 1) ∧ FillInv joinF nn dd ao zs c W N C w k wr) (fun i _ => ((intOf i) + 1).toNat)
        case atStart => exact ⟨zs.length, Nat.le_refl _, rfl, Hst.out⟩
        case round =>
          obtain ⟨k, hk, rfl, cells, hF, hTab⟩ := hrel
          have c1 := hF.1.cell (j := 1) (by simp)
          have c2 := hF.1.cell (j := 2) (by simp)
          have HF := Lib.hid hF
          have HT := Lib.hid hTab
          clear hF hTab
          obtain ⟨wo, rfl⟩ : ∃ wo : World, wo = wr := ⟨_, rfl⟩
          match k with
          | 0 =>
            go_wp2_with fail
            have h := HF.out
            exact ret_eq (HR.out w.heap.size C W cells _ h.2.2.2 Hs.out (Nat.le_refl _) (by omega) (by rw [← HN.out]; exact h.1) h.2.1 (by rw [← HN.out]; exact h.2.2.1) HT.out) rfl
          | i + 1 =>
            rw [show (((i + 1 : Nat) : Int) - 1) = (i : Int) from by omega]
            go_wp2_with fail
            rw [show ((i : Int) + 1) = ((i + 1 : Nat) : Int) from by omega]
            have hiW : (i + 1 + 1) * W ≤ N := by rw [HN.out]; exact Nat.mul_le_mul_right _ (by omega)
            have hiW2 : (i + 1) * W ≤ N := Nat.le_trans (Nat.mul_le_mul_right _ (by omega)) hiW
            have HiW := Lib.hid hiW
            have HiW2 := Lib.hid hiW2
            clear hiW hiW2
            refine row_any w.heap.size C (.slice none 0 0) W N (i + 1) _ _ c1 c2 (by omega) (by omega) HiW.out ?_
            rintro w3 ⟨q1, rfl⟩
            go_wp2_with fail
            refine row_any w.heap.size C (.slice none 0 0) W N i _ _ c1 c2 (by omega) (by omega) HiW2.out ?_
            rintro w3 ⟨q2, rfl⟩
            go_wp2_with fail
            have hx : ∃ x : Nat, at0 zs i = x ∧ 1 ≤ x := by
              have := Hz.out i (by omega)
              exact ⟨(at0 zs i).toNat, by omega, by omega⟩
            obtain ⟨x, hx, hx1⟩ := hx
            have Hx := Lib.hid hx
            obtain ⟨b, o, rfl, hblt, hcell⟩ := hc.ints (by omega)
            have hbi := hcell i (by omega)
            rw [hx] at hbi
            clear hx hcell
            go_loopw [73] (fun v wr => ∃ n : Nat, n ≤ W ∧ v = .int .i64 n ∧ RowInv joinF nn dd (some ⟨b, o, none⟩) zs c W N C w i n wr) (fun v _ => W - (intOf v).toNat)
            case atStart => exact ⟨0, Nat.zero_le _, rfl, cells, HF.out.drewN (q1 + q2), TabRow_start HT.out⟩
            case round =>
              obtain ⟨n, hn, rfl, cells2, hF2, hTab2⟩ := hrel
              by_cases hnW : n < W
              · have hNN : (i + 1) * W + W ≤ N := by have := HiW.out; rw [Nat.succ_mul] at this; exact this
                have hNN2 : i * W + W ≤ N := by have := HiW2.out; rw [Nat.succ_mul] at this; exact this
                have hbi' := (hF2.2.2.2.cell (p := ⟨b, o + i, none⟩) hblt).trans hbi
                have r1 := hF2.2.1.cell32 (j := (i + 1) * W + n) (by rw [hF2.2.2.1]; omega)
                have r2 := hF2.2.1.cell32 (j := i * W + n) (by rw [hF2.2.2.1]; omega)
                have r3 := hF2.2.1.frozen (i * W + n)
                by_cases g : x ≤ n
                · have r4 := hF2.2.1.cell32 (j := (i + 1) * W + (n - x)) (by rw [hF2.2.2.1]; omega)
                  have HF2 := Lib.hid hF2
                  have HT2 := Lib.hid hTab2
                  clear hF2 hTab2
                  go_wp2_with fail
                  refine joinF_any _ _ _ _ ?_
                  go_wp2_with fail
                  refine ⟨⟨n + 1, by omega, by go_num, _, FillW.set HF2.out (by omega) _ _, ?_⟩, by simp [intOf]; omega⟩
                  have h := TabRow_step HT2.out (by omega) hnW HN.out.symm HF2.out.2.2.1 Hx.out
                  rw [if_pos g] at h
                  exact h
                · have HF2 := Lib.hid hF2
                  have HT2 := Lib.hid hTab2
                  clear hF2 hTab2
                  go_wp2_with fail
                  refine joinF_any _ _ _ _ ?_
                  go_wp2_with fail
                  refine ⟨⟨n + 1, by omega, by go_num, _, FillW.set HF2.out (by omega) _ _, ?_⟩, by simp [intOf]; omega⟩
                  have h := TabRow_step HT2.out (by omega) hnW HN.out.symm HF2.out.2.2.1 Hx.out
                  rw [if_neg g] at h
                  exact h
              · obtain rfl : n = W := by omega
                have HF2 := Lib.hid hF2
                have HT2 := Lib.hid hTab2
                clear hF2 hTab2
                go_wp2_with fail
                exact ⟨⟨i, by omega, rfl, cells2, HF2.out, TabRow_end HT2.out⟩, by simp [intOf]⟩
end Go.Proofs.YteoniejpfmeibaaDoor
