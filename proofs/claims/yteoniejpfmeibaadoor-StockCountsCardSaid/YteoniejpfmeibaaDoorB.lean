/- The walks of the table of package blocks: its rows, its closures, slices.Repeat. -/
import Derived.Test.YteoniejpfmeibaaDoorRows
import Derived.Test.YteoniejpfmeibaaDoorSpec
import Derived.Test.YteoniejpfmeibaaDoorShelf
import Derived.Laws.CopyOwn
namespace Go.Proofs.YteoniejpfmeibaaDoor
open Go.RowKit


set_option maxHeartbeats 400000 in
theorem joinF_any (a b : Int) (w : World) (R : Ending → World → Prop) (hR : R (.returned (.int .i32 (joinF a b))) w) :
    Calls Tryd.prog 85 #[.int .i32 a, .int .i32 b] w R := by
  go_enter Tryd.func85, Tryd.ntmps85
  go_wp2_with fail
  all_goals exact ret_eq hR (by simp [joinF] <;> first | rfl | (simp only [Int.min_def] at *; repeat' split at * <;> omega) | (simp only [Int.min_def]; repeat' split <;> omega))

set_option maxHeartbeats 400000 in
theorem row_any (T C : Nat) (_sv : Value) (W N i : Nat) (w : World) (R : Ending → World → Prop)
    (h1 : w.cell? ⟨T, 1, none⟩ = some (.int .i64 W)) (h2 : w.cell? ⟨T, 2, none⟩ = some (.slice (some ⟨C, 0, none⟩) N N))
    (hW : 0 < W) (hN : N ≤ 1000000000000) (hi : (i + 1) * W ≤ N)
    (hR : ∀ w', Drew w w' → R (.returned (.slice (some ⟨C, i * W, none⟩) W W)) w') :
    Calls Tryd.prog 74 #[.pointer (some ⟨T, 0, none⟩), .int .i64 i] w R := by
  go_enter Tryd.func74, Tryd.ntmps74
  obtain ⟨m, hm⟩ : ∃ m, m = i * W := ⟨_, rfl⟩
  have hm2 : (i + 1) * W = m + W := by rw [Nat.succ_mul, hm]
  have e1 : IntKind.i64.wrap ((i : Int) * W) = m := by rw [← Int.natCast_mul, ← hm]; exact IntWalk.i64_in _ (by omega)
  have e2 : IntKind.i64.wrap ((i : Int) + 1) = (i : Int) + 1 := IntWalk.i64_in _ (by have := Nat.le_mul_of_pos_right (i + 1) hW; omega)
  have e3 : IntKind.i64.wrap (((i : Int) + 1) * W) = (m : Int) + W := by
    have : ((i : Int) + 1) * W = ((i + 1) * W : Nat) := by simp
    rw [this, hm2]; exact IntWalk.i64_in _ (by omega)
  have h5 : (m : Int) + W ≤ N := by omega
  have h6 : 0 ≤ (m : Int) + W := by omega
  have h7 : ((m : Int) + W).toNat = m + W := by omega
  rw [← hm] at hR
  have h8 : ¬ W = 0 := by omega
  have HR := Lib.hid (hR)
  clear hR
  have Hm2 := Lib.hid (hm2)
  have Hm := Lib.hid (hm)
  have Hi := Lib.hid (hi)
  clear hm2 hm hi
  go_wp2_with fail
  go_quiet (fail)
  go_wp2_with fail
  exact ret_eq (HR.out _ (by repeat first | exact Drew.refl _ | apply Drew.drewN)) rfl

theorem mul_any (N : Nat) (hN : N < 18446744073709551616) (w : World) (R : Ending → World → Prop) (hR : R (.returned (.tuple #[.int .u64 0, .int .u64 N])) w) :
    Calls Tryd.prog 94 #[.int .u64 1, .int .u64 N] w R := by
  refine (Tryd.bits_Mul 1 N (by omega) hN w).mono ?_
  rintro e w' ⟨rfl, rfl⟩
  rw [show 1 * N / 18446744073709551616 = 0 from by omega, show 1 * N % 18446744073709551616 = N from by omega]
  exact hR

theorem Tryd.info21 : (Tryd.prog.info? 21).map (fun i => (i.zero, i.size, i.bytes)) = some (some (.int .i32 0), 1, 4) := by kernel_rfl

set_option maxRecDepth 100000 in
set_option maxHeartbeats 400000 in
theorem repeat_any (B : Nat) (x : Int) (N : Nat) (w : World) (R : Ending → World → Prop) (hN0 : 1 ≤ N) (hN : N ≤ 1000000000) (hb : w.cell? ⟨B, 0, none⟩ = some (.int .i32 x))
    (hR : ∀ C w', w.heap.size ≤ C → Below w.heap.size w w' → Blk w' C 21 (I32s (reps N x)) → R (.returned (.slice (some ⟨C, 0, none⟩) N N)) w') :
    Calls Tryd.prog 90 #[.slice (some ⟨B, 0, none⟩) 1 1, .int .i64 N] w R := by
  have hc1 : ¬ (N : Int) < 0 := by omega
  have hmk := fun w => make_row (P := Tryd.prog) Tryd.underlying119 Tryd.info21 rfl N (by omega) (by omega) w
  have HR := Lib.hid (hR)
  clear hR
  go_enter Tryd.func90, Tryd.ntmps90
  go_wp2_with fail
  refine mul_any _ (by omega) _ _ ?_
  go_wp2_with ((with_reducible show wpList _ _ _ _ _ _); refine wpList_copy_splice rfl (.tmp 31) (.tmp 32) 119 119 rfl 21 Tryd.underlying119 (by kernel_rfl) _ _ _ _ _ _ rfl rfl w.heap.size 0 (reps N (.int .i32 0)) 21 (Blk.new w (reps N (.int .i32 0)) 21) [.int .i32 x] ?_ ?_ ?_ ?_ w.heap.size w ((Below.refl _ _).alloc (Nat.le_refl _) _) (Nat.le_refl _) ?_)
  case refine_1 => simp [hN0]
  case refine_2 =>
    intro j v hj
    match j, hj with
    | 0, hj => simp at hj; subst hj; exact (World.cell?_alloc_lt _ _ _ (lt_of_cell hb)).trans hb
  case refine_3 => simp [reps]; omega
  case refine_4 => simp [Value.oneCell']
  rw [fillR_one]
  intro w1 hB1 hb1
  go_wp2_with fail
  go_loopw [8] (fun v wr => ∃ m : Nat, 1 ≤ m ∧ m ≤ N ∧ v = .int .i64 m ∧ Hid (Blk wr w.heap.size 21 (fillR m N (.int .i32 x) (.int .i32 0))) ∧ Below w.heap.size w wr) (fun v _ => N - (intOf v).toNat)
  case atStart => exact ⟨1, by omega, by omega, rfl, hB1, hb1⟩
  case round =>
    obtain ⟨m, hm1, hm2, rfl, hblk, hbel⟩ := hrel
    by_cases hlt : m < N
    · obtain ⟨k, hk⟩ : ∃ k, k = min m (N - m) := ⟨_, rfl⟩
      have hk1 : 1 ≤ k := by omega
      have hk2 : m + k ≤ N := by omega
      have hk3 : k ≤ m := by omega
      have hk4 : Hid (k = Nat.min m (N - m)) := by unfold Hid; rw [hk]
      clear hk
      have e1 : IntKind.i64.wrap ((m : Int) + k) = (m : Int) + k := IntWalk.i64_in _ (by omega)
      have e2 : ¬ N = m := by omega
      have e3 : ¬ m = N := by omega
      have hn : Hid ((reps k (Value.int .i32 x)).length = Nat.min m (N - m)) := by unfold Hid; rw [reps_length]; exact hk4.out
      have hsrc : Hid (∀ j v, (reps k (Value.int .i32 x))[j]? = some v → wr.drew.cell? ((⟨w.heap.size, 0, none⟩ : Addr).add j) = some v) := by
        intro j v hj
        have hjk : j < k := by
          by_cases h : j < k
          · exact h
          · rw [List.getElem?_eq_none (by rw [reps_length]; omega)] at hj; cases hj
        have e : v = .int .i32 x := by simpa [reps, List.getElem?_replicate, hjk] using hj.symm
        subst e
        have h := hblk.out.cell (j := j) (by rw [fillR_length hm2]; omega)
        have ea : (⟨w.heap.size, 0, none⟩ : Addr).add j = ⟨w.heap.size, j, none⟩ := by unfold Addr.add; split <;> simp_all
        rw [ea]
        have h' := fillR_get (N := N) (x := .int .i32 x) (z := .int .i32 0) (show j < m from by omega)
        rw [List.getD_eq_getElem?_getD, h'] at h
        exact h
      have hfit : Hid (m + (reps k (Value.int .i32 x)).length ≤ (fillR m N (.int .i32 x) (.int .i32 0)).length) := by unfold Hid; rw [fillR_length hm2, reps_length]; omega
      have hone : Hid (∀ v ∈ reps k (Value.int .i32 x), v.oneCell' = true) := by unfold Hid; intro v hv; simp [reps] at hv; rw [hv.2]; rfl
      have hblk' : Hid (wr.drew.heap[w.heap.size]? = some (.cells (fillR m N (.int .i32 x) (.int .i32 0)).toArray 21 (0, 0))) := hblk
      have hb' : Hid (Below w.heap.size w wr.drew) := hbel.drew
      clear hblk hbel
      go_wp2_with fail
      go_region_law (refine step_copy_splice rfl (.tmp 41) (.tmp 44) 119 119 rfl 21 Tryd.underlying119 (by kernel_rfl) (some ⟨w.heap.size, m, none⟩) (some ⟨w.heap.size, 0, none⟩) (N - m) (N - m) m N (by simp [Act.eval, Act.put]) (by simp [Act.eval, Act.put]) w.heap.size m (fillR m N (.int .i32 x) (.int .i32 0)) 21 hblk'.out (reps k (.int .i32 x)) hn.out (fun _ => ⟨rfl, ⟨w.heap.size, 0, none⟩, rfl, hsrc.out⟩) hfit.out hone.out w.heap.size w hb'.out (Nat.le_refl _) ?_; intro w5 hB5 hb5)
      have hkl : (reps k (Value.int .i32 x)).length = k := reps_length _ _
      go_simp
      go_wp2_with fail
      refine ⟨⟨m + k, by omega, hk2, by go_num, ?_, hb5⟩, by simp [intOf]; omega⟩
      have h := hB5.out
      rw [fillR_splice] at h
      exact h
    · go_wp2_with fail
      obtain rfl : m = N := by omega
      rw [fillR_full] at hblk
      refine ret_eq (HR.out _ _ (Nat.le_refl _) hbel (by simpa [I32s, reps] using hblk.out)) rfl
end Go.Proofs.YteoniejpfmeibaaDoor
