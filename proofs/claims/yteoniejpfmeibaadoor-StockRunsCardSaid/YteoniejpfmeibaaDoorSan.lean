/- The walks of events, of FewEvents. -/
import Derived.Test.YteoniejpfmeibaaDoorSaj
import Derived.Test.YteoniejpfmeibaaDoorSo
import Derived.Test.YteoniejpfmeibaaDoorSs
namespace Go.Proofs.YteoniejpfmeibaaDoor
open Go.RowKit Go.Shelf

/-- FewEvents. -/
def fvB (n : Nat) : Bool := decide (n ≤ 24) || (decide (4096 < n) && decide (n ≤ 8192))
set_option maxHeartbeats 1000000 in
theorem fewEvents_any (ao : Option Addr) (n c : Nat) (w : World) (R : Ending → World → Prop)
   (hR : R (.returned (.bool (fvB n))) w) :
    Calls Tryd.prog 38 #[.slice ao n c] w R := by
  have HR := Lib.hid hR
  clear hR
  have E : Hid (fvB n = (decide (n ≤ 24) || (decide (4096 < n) && decide (n ≤ 8192)))) := rfl
  by_cases h8 : n ≤ 24
  · go_enter Tryd.func38, Tryd.ntmps38
    go_wp2_with fail
    exact ret_b HR.out rfl (by rw [E.out]; simp [h8] <;> omega)
  · by_cases h256 : 4096 < n
    · by_cases h512 : n ≤ 8192
      all_goals
        go_enter Tryd.func38, Tryd.ntmps38
        go_wp2_with fail
        exact ret_b HR.out rfl (by rw [E.out]; simp [h8, h256, h512] <;> omega)
    · go_enter Tryd.func38, Tryd.ntmps38
      go_wp2_with fail
      exact ret_b HR.out rfl (by rw [E.out]; simp [h8, h256] <;> omega)

theorem vAt_lt {vs : List V5} {i : Nat} (h : i < vs.length) : vAt vs i = vs[i] := by unfold vAt; rw [List.getD_eq_getElem?_getD, List.getElem?_eq_getElem h]; rfl
theorem take_succV {vs : List V5} {k : Nat} (h : k < vs.length) : vs.take (k + 1) = vs.take k ++ [vAt vs k] := by
  rw [List.take_succ_eq_append_getElem h, vAt_lt h]
theorem vC_append (a b : List V5) : vC (a ++ b) = vC a ++ vC b := by unfold vC; rw [List.flatMap_append]
theorem Tryd.infoREv : (Tryd.prog.info? 107).map (fun i => (i.zero, i.size, i.bytes)) = some (some (.agg #[.int .i64 0, .string ⟨#[]⟩, .int .i64 0, .int .i64 0]), 4, 40) := by kernel_rfl
set_option maxHeartbeats 2000000 in
theorem events_any (ao : Option Addr) (vs : List V5) (c : Nat) (w : World) (R : Ending → World → Prop) (hl : vs.length * 40 ≤ 140737488355328) (hc : CellsAt w ao (vC vs))
   (hR : ∀ a' c' w', Below w.heap.size w w' → CellsAt w' a' (vC vs) → R (.returned (.slice a' vs.length c')) w') :
    Calls Tryd.prog 39 #[.slice ao vs.length c] w R := by
  have HR := Lib.hid hR
  have HC := Lib.hid hc
  clear hR hc
  go_enter Tryd.func39, Tryd.ntmps39
  go_wp2_with fail
  go_loopw [8, 3] (fun i v wr => ∃ (k : Nat), k ≤ vs.length ∧ i = .int .i64 k ∧ Hid (Below w.heap.size w wr) ∧ Hid (wr.ownsRow w.heap.size 107 4 v k (vC (vs.take k)))) (fun i _ _ => vs.length - (intOf i).toNat)
  case atStart => exact ⟨0, Nat.zero_le _, rfl, Below.refl _ _, World.ownsRow_nil _ _ _ _⟩
  case round =>
    obtain ⟨k, hk, rfl, HB, HO⟩ := hrel
    have sB := HB.out.size
    by_cases hlt : k < vs.length
    · obtain ⟨b, o, rfl, _, hcell⟩ := (HC.out.below HB.out).evs (by omega)
      obtain ⟨c1, c2, c3, c4⟩ := hcell k hlt
      clear hcell
      obtain ⟨w4, E4', HB4, s4, X4⟩ := box_ex wr #[.int .i64 (vAt vs k).k, .string (vAt vs k).who, .int .i64 (vAt vs k).l, .int .i64 (vAt vs k).x] 106
      have E4 := Lib.hid E4'
      have HO4 : Hid ((wr.alloc (.cells #[.int .i64 (vAt vs k).k, .string (vAt vs k).who, .int .i64 (vAt vs k).l, .int .i64 (vAt vs k).x] 106)).ownsRow w.heap.size 107 4 u3 k (vC (vs.take k))) := by unfold Hid; rw [E4.out]; exact ownsRow_below HO.out HB4.out
      clear E4'
      go_wp2_with (at_builtin; refine wp_appendT rfl (.tmp 12) (.tmp 14) 71 rfl w.heap.size 107 Tryd.underlying71 Tryd.infoREv rfl (by decide) u3 k (vC (vs.take k)) rfl (ownsRow_below HO4.out ((Below.refl _ _).alloc (Nat.le_refl _) _)) ⟨wr.heap.size + 1, 0, none⟩ 1 1 [.int .i64 (vAt vs k).k, .string (vAt vs k).who, .int .i64 (vAt vs k).l, .int .i64 (vAt vs k).x] rfl rfl (by have h := cells4 (wr.alloc (.cells #[.int .i64 (vAt vs k).k, .string (vAt vs k).who, .int .i64 (vAt vs k).l, .int .i64 (vAt vs k).x] 106)) (.int .i64 (vAt vs k).k) (.string (vAt vs k).who) (.int .i64 (vAt vs k).l) (.int .i64 (vAt vs k).x) 107; simpa using h) (by intro u hu; simp at hu; rcases hu with rfl | rfl | rfl | rfl <;> rfl) (by omega) (by omega) (by simp; omega) ?_; intro v1 w5 hown1 hgrow1 hn1; have Hg1 : Hid (Below w.heap.size wr w5) := (Below.grown (((Below.refl _ wr).alloc sB _).alloc (by simp; omega) _) hgrow1 (by simp; omega) (fun j e => (HO.out.lt j e).1)); have H1 := Lib.hid hown1; clear hown1 hgrow1 hn1)
      exact ⟨⟨k + 1, by omega, by go_num, HB.out.trans Hg1.out, by unfold Hid; rw [take_succV hlt, vC_append]; exact H1.out⟩, by simp [intOf]; omega⟩
    · obtain rfl : k = vs.length := by omega
      rw [List.take_length] at HO
      obtain ⟨a', c', rfl, q1, _⟩ := ownsRow_read HO.out
      have HQ := Lib.hid q1
      clear q1
      go_wp2_with fail
      exact HR.out a' c' _ HB.out HQ.out
end Go.Proofs.YteoniejpfmeibaaDoor
