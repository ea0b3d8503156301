/- The iterator of package blocks: steps, and the loop over it. -/
import Derived.RangeFuncNested
import Derived.RangeFuncBound
import Derived.RangeFuncCalls
import Derived.RangeFuncLeaves
import Derived.RangeFuncBox
import Derived.Shelf.Abstract
import Derived.Shelf.RegionOpen
import Derived.OwnWalkIn
import Derived.TacticsInMore
import Derived.LoopNIn
import Derived.LoopIn
import Derived.Maps.AppendAt
import Derived.Test.YtdmolmdenfepkaaL
namespace Go.Proofs.Ytdmolmdenfepkaa
open Go.RowKit Go.Shelf

attribute [local go_sem] Oper.semAt_some

/-- What a round over 'steps' keeps: the three boxes. -/
def Keep3 (lo : Nat) (W W' : World) : Prop := ∀ k, lo ≤ k → k < lo + 3 → W'.heap[k]? = W.heap[k]?
theorem Keep3.refl (lo : Nat) (W : World) : Keep3 lo W W := fun _ _ _ => rfl
theorem Keep3.trans {lo : Nat} {A B C : World} (h : Keep3 lo A B) (k : Keep3 lo B C) : Keep3 lo A C := fun i h1 h2 => (k i h1 h2).trans (h i h1 h2)
theorem Keep3.cell {lo : Nat} {A B : World} (h : Keep3 lo A B) {k o : Nat} (h1 : lo ≤ k) (h2 : k < lo + 3) : B.cell? ⟨k, o, none⟩ = A.cell? ⟨k, o, none⟩ := World.cell?_of_block (w := A) (h k h1 h2)
theorem keep3_b {lo : Nat} {w : World} (hn : lo + 3 ≤ w.heap.size) (W : World) (l : Nat) (o o' : Obj) (hl : w.heap.size ≤ l) (_h : W.heap[l]? = some o) (_ : o.isCells = false) (_ : o.isWalk = false) : Keep3 lo W (W.putObj l o') :=
  fun k _ h2 => World.putObj_heap_other (fun e => by omega)

/-- What 'steps' yields. -/
def stepNums (low step : Int) (cnt : Nat) : List Int := (List.range cnt).map fun (k : Nat) => low + k * step
theorem stepNums_length (low step : Int) (cnt : Nat) : (stepNums low step cnt).length = cnt := by simp [stepNums]
theorem stepNums_succ (low step : Int) (k : Nat) : stepNums low step (k + 1) = stepNums low step k ++ [low + k * step] := by simp [stepNums, List.range_succ]
theorem stepNums_prefix (low step : Int) {k cnt : Nat} (h : k ≤ cnt) : stepNums low step k <+: stepNums low step cnt := by
  induction cnt with
  | zero => obtain rfl : k = 0 := by omega
            exact List.prefix_refl _
  | succ c ih =>
    by_cases e : k = c + 1
    · subst e; exact List.prefix_refl _
    · rw [stepNums_succ]; exact (ih (by omega)).trans (List.prefix_append _ _)

set_option maxHeartbeats 1000000 in
theorem stepsIt_in (F : Fence) (n : Nat) (h6 : F.fn 60) (hro : F.round = none) (hn : 1 ≤ n) (l lo : Nat) (low high step : Int) (cnt : Nat) (J Jx : List Int → World → Prop)
    (h0 : 0 ≤ low ∧ low ≤ 200000) (hs : 1 ≤ step ∧ step ≤ 200000) (hcn : cnt ≤ 1000) (hh : ∀ k : Nat, k < cnt → low + k * step ≤ high) (hh2 : high < low + cnt * step)
    (hY : ∀ pre x W, J pre W → pre.length < cnt → YieldAt F (n - 1) Try.prog l #[.int .i64 x] W fun e W' =>
      (e = .returned (.bool true) ∧ J (pre ++ [x]) W' ∧ Keep3 lo W W') ∨ (e = .returned (.bool false) ∧ Jx (pre ++ [x]) W'))
    (W : World) (hb0 : W.cell? ⟨lo, 0, none⟩ = some (.int .i64 low)) (hb1 : W.cell? ⟨lo + 1, 0, none⟩ = some (.int .i64 high)) (hb2 : W.cell? ⟨lo + 2, 0, none⟩ = some (.int .i64 step)) (hJ0 : J [] W) :
    CallsIn F n Try.prog 60 #[.func (.yield l) #[] #[], .pointer (some ⟨lo, 0, none⟩), .pointer (some ⟨lo + 1, 0, none⟩), .pointer (some ⟨lo + 2, 0, none⟩)] W fun e W' => (∃ v, e = .returned v) ∧
      ((∃ ys, ys = stepNums low step cnt ∧ J ys W') ∨ (∃ pre, pre <+: stepNums low step cnt ∧ Jx pre W')) := by
  have HY := Lib.hid hY
  have Hh := Lib.hid hh
  have Hh2 := Lib.hid hh2
  clear hY hh hh2
  refine callsIn_of_wp Try.func60 rfl h6 ?_ hro
  simp only [Try.ntmps60, List.size_toArray, List.length_cons, List.length_nil, Nat.reduceAdd, Nat.reduceSub, Array.replicate_succ, Array.replicate_zero, List.push_toArray, List.append_toArray, List.nil_append, List.cons_append]
  gi_wp2
  gi_loopw [5] (fun p wr => ∃ k : Nat, k ≤ cnt ∧ p = .int .i64 (low + k * step) ∧ J (stepNums low step k) wr ∧ Keep3 lo W wr) (fun p _ => (high + 1 - intOf p).toNat)
  case atStart => exact ⟨0, Nat.zero_le _, by simp, hJ0, Keep3.refl _ _⟩
  case round =>
    obtain ⟨k, hk, rfl, hJ, hK⟩ := hrel
    have hbd : 0 ≤ (k : Int) * step ∧ (k : Int) * step ≤ 1000 * 200000 := ⟨Int.mul_nonneg (by omega) (by omega), Int.mul_le_mul (by omega) hs.2 (by omega) (by omega)⟩
    obtain ⟨x, hx⟩ : ∃ x : Int, low + k * step = x := ⟨_, rfl⟩
    obtain ⟨ks, hks⟩ : ∃ ks : Int, (k : Int) * step = ks := ⟨_, rfl⟩
    rw [hks] at hbd
    have hx2 : 0 ≤ x ∧ x ≤ 200400000 := by rw [← hx, hks]; omega
    have d1 := (hK.cell (k := lo + 1) (o := 0) (by omega) (by omega)).trans hb1
    by_cases hlt : k < cnt
    · have g := Hh.out k hlt
      rw [hx] at g ⊢
      obtain ⟨fn, tmps, assign, body, hy, hR⟩ := HY.out (stepNums low step k) x wr hJ (by rw [stepNums_length]; exact hlt)
      have HX := Lib.hid hx
      have HK := Lib.hid hK
      clear hx hks hK hJ
      gi_wp2
      refine hR.mono ?_
      rintro e W3 (⟨rfl, hJ3, hk3⟩ | ⟨rfl, hJx3⟩)
      · have d2 := ((HK.out.trans hk3).cell (k := lo + 2) (o := 0) (by omega) (by omega)).trans hb2
        have HK3 := Lib.hid hk3
        clear hk3
        gi_wp2
        go_roundw
        case rel =>
          refine ⟨k + 1, by omega, ?_, by rw [stepNums_succ, HX.out]; exact hJ3, HK.out.trans HK3.out⟩
          rw [← HX.out, Int.natCast_succ, Int.add_mul]; congr 1; omega
        case measure => simp [intOf]; omega
      · gi_wp2
        refine bodyPost_ret (results_none rfl _ _ _) rfl ?_
        refine ⟨⟨_, rfl⟩, .inr ⟨stepNums low step k ++ [x], ?_, hJx3⟩⟩
        have := stepNums_prefix low step (show k + 1 ≤ cnt from hlt)
        rwa [stepNums_succ, HX.out] at this
    · obtain rfl : k = cnt := by omega
      have g := Hh2.out
      rw [hx] at g ⊢
      clear hx hks
      gi_wp2
      go_end0
      exact ⟨⟨_, rfl⟩, .inl ⟨_, rfl, hJ⟩⟩
end Go.Proofs.Ytdmolmdenfepkaa
