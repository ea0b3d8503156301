/- Wide numbers in memory; trimmed, beyond. (Printed by gen_wide.py.) beyond: wide numbers compared. carry: a multiple of a wide number is added to another one. (Printed by gen_carry.py.) -/
import Derived.Test.YtcmhompbdanpdaaGreatDoorProg
import Derived.Test.YtcmhompbdanpdaaGreatDoorSa
import Derived.Test.YtcmhompbdanpdaaGreatDoorDyq
import Derived.Test.YtcmhompbdanpdaaGreatDoorWi
namespace Go.Proofs.YtcmhompbdanpdaaGreatDoor
open Go.RowKit

/-- Only block b has changed. -/
def Chg (b : Nat) (w w' : World) : Prop := Below b w w' ∧ w'.heap.size = w.heap.size ∧ ∀ j, j ≠ b → w'.heap[j]? = w.heap[j]?
theorem Chg.refl (b : Nat) (w : World) : Chg b w w := ⟨Below.refl _ _, rfl, fun _ _ => rfl⟩
theorem Chg.trans {b : Nat} {w w' w'' : World} (h : Chg b w w') (h' : Chg b w' w'') : Chg b w w'' := ⟨h.1.trans h'.1, h'.2.1.trans h.2.1, fun j hj => (h'.2.2 j hj).trans (h.2.2 j hj)⟩
theorem Chg.drew {b : Nat} {w w' : World} (h : Chg b w w') : Chg b w w'.drew := ⟨h.1.drew, h.2.1, h.2.2⟩
theorem Chg.setCell {b : Nat} {w w' : World} (h : Chg b w w') (q : Nat) (v : Value) : Chg b w (w'.setCell ⟨b, q, none⟩ v) :=
  ⟨h.1.setCell (p := ⟨b, q, none⟩) (Nat.le_refl _) v, by rw [← h.2.1]; simp [World.setCell], fun j hj => (Below.heap_setCell w' ⟨b, q, none⟩ v j hj).trans (h.2.2 j hj)⟩
theorem Chg.of_drewN {b : Nat} {w w' : World} (h : Chg b w w') (q : Nat) : Chg b w (w'.drewN q) := ⟨h.1.trans ⟨rfl, rfl, rfl, Nat.le_refl _, fun _ _ => rfl⟩, h.2.1, h.2.2⟩
theorem set_cells {w : World} {b : Nat} {cs : Array Value} {T : TypeId} (h : w.heap[b]? = some (.cells cs T (0, 0))) (i : Nat) (u : Value) (cs' : Array Value) (hc : cs.setIfInBounds i u = cs') : (w.setCell ⟨b, i, none⟩ u).heap[b]? = some (.cells cs' T (0, 0)) := by
  rw [← hc]; exact heap_setCell_same w b i cs T u h
/-- A wide number in block b. -/
def Wide (w : World) (b : Nat) (s : Bool) (v : Nat) : Prop := w.heap[b]? = some (.cells (wdC s v) 184 (0, 0))
def WideM (w : World) (b : Nat) (s : Bool) (n : Nat) (f : Nat → Nat) : Prop := w.heap[b]? = some (.cells (wdM s n f) 184 (0, 0))
theorem Wide.chg {w w' : World} {b c : Nat} {s : Bool} {v : Nat} (h : Wide w b s v) (hc : Chg c w w') (hb : b ≠ c) : Wide w' b s v := (hc.2.2 b hb).trans h
theorem Wide.below {w w' : World} {b : Nat} {s : Bool} {v : Nat} (h : Wide w b s v) (hb : Below w.heap.size w w') : Wide w' b s v := (hb.block _ (lt_of_block h)).trans h
section
variable {w : World} {b n : Nat} {s : Bool} {f : Nat → Nat} (h : WideM w b s n f)
include h
theorem WideM.c0 : w.cell? ⟨b, 0, none⟩ = some (.bool s) := cell_at h (wdM_0 _ _ _)
theorem WideM.c1 : w.cell? ⟨b, 1, none⟩ = some (.int .i64 n) := cell_at h (wdM_1 _ _ _)
theorem WideM.cw {i : Nat} (hi : i < 232) : w.cell? ⟨b, 2 + i, none⟩ = some (.int .i64 (f i)) := cell_at h (wdM_w _ _ _ hi)
theorem WideM.setN (m : Nat) : WideM (w.setCell ⟨b, 1, none⟩ (.int .i64 m)) b s m f := set_cells h 1 _ _ (wdM_set1 _ _ _ _)
theorem WideM.setW {i : Nat} (hi : i < 232) (x : Nat) : WideM (w.setCell ⟨b, 2 + i, none⟩ (.int .i64 x)) b s n (fun j => if j = i then x else f j) := set_cells h (2 + i) _ _ (wdM_setw _ _ _ hi _)
theorem WideM.frozen (j : Nat) : w.frozen? ⟨b, j, none⟩ = false := frozen_at h j
end
theorem Wide.m {w : World} {b : Nat} {s : Bool} {v : Nat} (h : Wide w b s v) : WideM w b s (nw v) (wd v) := h
/-- How many words a block says that it has. -/
def nOf (b : Nat) (w : World) : Nat := match w.heap[b]? with
  | some (.cells cs _ _) => (intOf (cs.getD 1 undef)).toNat
  | _ => 0
theorem nOf_eq {w : World} {b n : Nat} {s : Bool} {f : Nat → Nat} (h : WideM w b s n f) : nOf b w = n := by
  unfold nOf
  unfold WideM at h
  rw [h]
  show (intOf ((wdM s n f).getD 1 undef)).toNat = n
  have e : (wdM s n f).getD 1 undef = .int .i64 n := by
    rw [Array.getD_eq_getD_getElem?, wdM_1]; rfl
  rw [e]; simp [intOf]
set_option maxRecDepth 100000 in
set_option maxHeartbeats 4000000 in
theorem trimmed_any (b v n : Nat) (s : Bool) (f : Nat → Nat) (w : World) (R : Ending → World → Prop) (hx : WideM w b s n f) (hn : n ≤ 232) (hv : nw v ≤ n) (hf : ∀ i, i < 232 → f i = wd v i)
   (hR : ∀ w', Chg b w w' → Wide w' b s v → R (.returned (.pointer (some ⟨b, 0, none⟩))) w') :
    Calls Tryz.prog 168 #[.pointer (some ⟨b, 0, none⟩)] w R := by
  have HR := Lib.hid hR
  have HX0 := Lib.hid hx
  have HV := Lib.hid hv
  have HF := Lib.hid hf
  clear hR hx hv hf
  go_enter Tryz.func168, Tryz.ntmps168
  go_wp2_with fail
  go_loopw [] (fun wr => ∃ m : Nat, Hid (nw v ≤ m) ∧ m ≤ n ∧ Hid (Chg b w wr) ∧ Hid (WideM wr b s m f)) (fun wr => nOf b wr)
  case atStart => exact ⟨n, HV, Nat.le_refl _, Chg.refl _ _, HX0⟩
  case round =>
    obtain ⟨m, h1, h2, HB, HX⟩ := hrel
    have hno : nOf b wr = m := nOf_eq HX.out
    have HNO := Lib.hid hno
    clear hno
    have BD : Hid (Chg b w wr.drew) := HB.out.drew
    cases m with
    | zero =>
      have hz : nw v = 0 := by have := h1.out; omega
      have HW : Hid (Wide wr.drew b s v) := by unfold Hid Wide; rw [← wdC_of (n := 0) hz HF.out]; exact HX.out
      have p1 : wr.drew.cell? ⟨b, 1, none⟩ = some (.int .i64 0) := HX.out.c1
      clear hz
      go_wp2_with fail
      refine regionQ (fun w' => w'.cell? ⟨b, 1, none⟩ = some (.int .i64 0) ∧ True) (by kernel_rfl) (⟨p1, trivial⟩) (fun Qn hPQ hQn hS0 => ?_)
      refine takeQ (i := 0) (d := some 3) (v := ?_) rfl rfl (by kernel_rfl) (by kernel_rfl) (by kernel_rfl) hPQ hS0 (by kernel_rfl) ?_ ?_
      rotate_left
      · (intro w hSw; (try dsimp only at hSw); obtain ⟨k0, _⟩ := hSw; go_simp; (try with_reducible rfl))
      (try simp only [Act.put, List.setIfInBounds_toArray, List.set_cons_zero, List.set_cons_succ])
      refine takeQ (i := 1) (d := some 4) (v := ?_) rfl rfl (by kernel_rfl) (by kernel_rfl) (by kernel_rfl) hPQ hS0 (by kernel_rfl) ?_ ?_
      rotate_left
      · (intro w hSw; (try dsimp only at hSw); obtain ⟨k0, _⟩ := hSw; go_simp; (try with_reducible rfl))
      (try simp only [Act.put, List.setIfInBounds_toArray, List.set_cons_zero, List.set_cons_succ])
      refine takeQ (i := 2) (d := some 5) (v := ?_) rfl rfl (by kernel_rfl) (by kernel_rfl) (by kernel_rfl) hPQ hS0 (by kernel_rfl) ?_ ?_
      rotate_left
      · (intro w hSw; (try dsimp only at hSw); obtain ⟨k0, _⟩ := hSw; go_simp; (try with_reducible rfl))
      (try simp only [Act.put, List.setIfInBounds_toArray, List.set_cons_zero, List.set_cons_succ])
      refine takeQ (i := 3) (d := some 6) (v := ?_) rfl rfl (by kernel_rfl) (by kernel_rfl) (by kernel_rfl) hPQ hS0 (by kernel_rfl) ?_ ?_
      rotate_left
      · (intro w hSw; (try dsimp only at hSw); obtain ⟨k0, _⟩ := hSw; go_simp; (try with_reducible rfl))
      (try simp only [Act.put, List.setIfInBounds_toArray, List.set_cons_zero, List.set_cons_succ])
      refine takeQ (i := 4) (d := some 7) (v := ?_) rfl rfl (by kernel_rfl) (by kernel_rfl) (by kernel_rfl) hPQ hS0 (by kernel_rfl) ?_ ?_
      rotate_left
      · (intro w hSw; (try dsimp only at hSw); obtain ⟨k0, _⟩ := hSw; go_simp; (try with_reducible rfl))
      (try simp only [Act.put, List.setIfInBounds_toArray, List.set_cons_zero, List.set_cons_succ])
      refine takeQ (i := 5) (d := some 8) (v := ?_) rfl rfl (by kernel_rfl) (by kernel_rfl) (by kernel_rfl) hPQ hS0 (by kernel_rfl) ?_ ?_
      rotate_left
      · (intro w hSw; (try dsimp only at hSw); obtain ⟨k0, _⟩ := hSw; go_simp; (try with_reducible rfl))
      (try simp only [Act.put, List.setIfInBounds_toArray, List.set_cons_zero, List.set_cons_succ])
      refine skipQ (i := 6) (d := some 9) rfl rfl (by kernel_rfl) (by kernel_rfl) (by kernel_rfl) hPQ hS0 (by kernel_rfl) ?_
      (try simp only [Act.put, List.setIfInBounds_toArray, List.set_cons_zero, List.set_cons_succ])
      refine skipQ (i := 7) (d := some 10) rfl rfl (by kernel_rfl) (by kernel_rfl) (by kernel_rfl) hPQ hS0 (by kernel_rfl) ?_
      (try simp only [Act.put, List.setIfInBounds_toArray, List.set_cons_zero, List.set_cons_succ])
      refine skipQ (i := 8) (d := some 11) rfl rfl (by kernel_rfl) (by kernel_rfl) (by kernel_rfl) hPQ hS0 (by kernel_rfl) ?_
      (try simp only [Act.put, List.setIfInBounds_toArray, List.set_cons_zero, List.set_cons_succ])
      refine skipQ (i := 9) (d := some 12) rfl rfl (by kernel_rfl) (by kernel_rfl) (by kernel_rfl) hPQ hS0 (by kernel_rfl) ?_
      (try simp only [Act.put, List.setIfInBounds_toArray, List.set_cons_zero, List.set_cons_succ])
      refine skipQ (i := 10) (d := some 13) rfl rfl (by kernel_rfl) (by kernel_rfl) (by kernel_rfl) hPQ hS0 (by kernel_rfl) ?_
      (try simp only [Act.put, List.setIfInBounds_toArray, List.set_cons_zero, List.set_cons_succ])
      refine skipQ (i := 11) (d := some 14) rfl rfl (by kernel_rfl) (by kernel_rfl) (by kernel_rfl) hPQ hS0 (by kernel_rfl) ?_
      (try simp only [Act.put, List.setIfInBounds_toArray, List.set_cons_zero, List.set_cons_succ])
      refine skipQ (i := 12) (d := some 15) rfl rfl (by kernel_rfl) (by kernel_rfl) (by kernel_rfl) hPQ hS0 (by kernel_rfl) ?_
      (try simp only [Act.put, List.setIfInBounds_toArray, List.set_cons_zero, List.set_cons_succ])
      refine skipQ (i := 13) (d := some 16) rfl rfl (by kernel_rfl) (by kernel_rfl) (by kernel_rfl) hPQ hS0 (by kernel_rfl) ?_
      (try simp only [Act.put, List.setIfInBounds_toArray, List.set_cons_zero, List.set_cons_succ])
      refine skipQ (i := 14) (d := some 17) rfl rfl (by kernel_rfl) (by kernel_rfl) (by kernel_rfl) hPQ hS0 (by kernel_rfl) ?_
      (try simp only [Act.put, List.setIfInBounds_toArray, List.set_cons_zero, List.set_cons_succ])
      refine skipQ (i := 15) (d := some 18) rfl rfl (by kernel_rfl) (by kernel_rfl) (by kernel_rfl) hPQ hS0 (by kernel_rfl) ?_
      (try simp only [Act.put, List.setIfInBounds_toArray, List.set_cons_zero, List.set_cons_succ])
      refine skipQ (i := 16) (d := some 19) rfl rfl (by kernel_rfl) (by kernel_rfl) (by kernel_rfl) hPQ hS0 (by kernel_rfl) ?_
      (try simp only [Act.put, List.setIfInBounds_toArray, List.set_cons_zero, List.set_cons_succ])
      refine takeQ (i := 17) (d := some 20) (v := ?_) rfl rfl (by kernel_rfl) (by kernel_rfl) (by kernel_rfl) hPQ hS0 (by kernel_rfl) ?_ ?_
      rotate_left
      · (intro w hSw; (try dsimp only at hSw); obtain ⟨k0, _⟩ := hSw; go_simp; (try with_reducible rfl))
      (try simp only [Act.put, List.setIfInBounds_toArray, List.set_cons_zero, List.set_cons_succ])
      refine wpAnyH_done (by kernel_rfl) (hQn.out _ _ ?_) _
      clear hS0 hPQ hQn Qn
      go_wp2_with fail
      exact HR.out _ BD.out HW.out
    | succ k =>
      have hk : k < 232 := by omega
      have p1 : wr.drew.cell? ⟨b, 1, none⟩ = some (.int .i64 ((k + 1 : Nat) : Int)) := HX.out.c1
      obtain ⟨x, hxx⟩ : ∃ x, f k = x := ⟨_, rfl⟩
      have p2 : wr.drew.cell? ⟨b, 2 + k, none⟩ = some (.int .i64 x) := by rw [← hxx]; exact HX.out.cw hk
      have HXX := Lib.hid hxx
      clear hxx
      have KW : IntKind.i64.wrap (k : Int) = k := by rw [IntKind.wrap_i64]; omega
      have K1 : (0 < (k : Int) + 1) = True := eq_true (by omega)
      have K2 : ((k : Int) < 232) = True := eq_true (by omega)
      by_cases hx0 : x = 0
      · subst hx0
        have q1 : wr.cell? ⟨b, 1, none⟩ = some (.int .i64 ((k + 1 : Nat) : Int)) := p1
        have fz := HX.out.frozen 1
        have h3 : Hid (nw v ≤ k) := by
          unfold Hid
          apply Classical.byContradiction
          intro hn2
          have h4 : nw v = k + 1 := by have := h1.out; omega
          have h5 := wd_top (v := v) (fun e => by rw [e, nw_zero] at h4; omega)
          rw [h4, Nat.add_sub_cancel, ← HF.out k hk] at h5
          exact h5 HXX.out
        have HX3 : Hid (WideM (wr.setCell ⟨b, 1, none⟩ (.int .i64 k)) b s k f) := HX.out.setN k
        have HB3 : Hid (Chg b w (wr.setCell ⟨b, 1, none⟩ (.int .i64 k))) := HB.out.setCell 1 _
        go_wp2_with fail
        refine regionQ (fun w' => w'.cell? ⟨b, 1, none⟩ = some (.int .i64 ((k + 1 : Nat) : Int)) ∧ w'.cell? ⟨b, 2 + k, none⟩ = some (.int .i64 (0 : Nat))) (by kernel_rfl) (⟨p1, p2⟩) (fun Qn hPQ hQn hS0 => ?_)
        refine takeQ (i := 0) (d := some 3) (v := ?_) rfl rfl (by kernel_rfl) (by kernel_rfl) (by kernel_rfl) hPQ hS0 (by kernel_rfl) ?_ ?_
        rotate_left
        · (intro w hSw; (try dsimp only at hSw); obtain ⟨k0, k1⟩ := hSw; go_simp; (try with_reducible rfl))
        (try simp only [Act.put, List.setIfInBounds_toArray, List.set_cons_zero, List.set_cons_succ])
        refine takeQ (i := 1) (d := some 4) (v := ?_) rfl rfl (by kernel_rfl) (by kernel_rfl) (by kernel_rfl) hPQ hS0 (by kernel_rfl) ?_ ?_
        rotate_left
        · (intro w hSw; (try dsimp only at hSw); obtain ⟨k0, k1⟩ := hSw; go_simp; (try with_reducible rfl))
        (try simp only [Act.put, List.setIfInBounds_toArray, List.set_cons_zero, List.set_cons_succ])
        refine takeQ (i := 2) (d := some 5) (v := ?_) rfl rfl (by kernel_rfl) (by kernel_rfl) (by kernel_rfl) hPQ hS0 (by kernel_rfl) ?_ ?_
        rotate_left
        · (intro w hSw; (try dsimp only at hSw); obtain ⟨k0, k1⟩ := hSw; go_simp; (try with_reducible rfl))
        (try simp only [Act.put, List.setIfInBounds_toArray, List.set_cons_zero, List.set_cons_succ])
        refine takeQ (i := 3) (d := some 6) (v := ?_) rfl rfl (by kernel_rfl) (by kernel_rfl) (by kernel_rfl) hPQ hS0 (by kernel_rfl) ?_ ?_
        rotate_left
        · (intro w hSw; (try dsimp only at hSw); obtain ⟨k0, k1⟩ := hSw; go_simp; (try with_reducible rfl))
        (try simp only [Act.put, List.setIfInBounds_toArray, List.set_cons_zero, List.set_cons_succ])
        refine takeQ (i := 4) (d := some 7) (v := ?_) rfl rfl (by kernel_rfl) (by kernel_rfl) (by kernel_rfl) hPQ hS0 (by kernel_rfl) ?_ ?_
        rotate_left
        · (intro w hSw; (try dsimp only at hSw); obtain ⟨k0, k1⟩ := hSw; go_simp; (try with_reducible rfl))
        (try simp only [Act.put, List.setIfInBounds_toArray, List.set_cons_zero, List.set_cons_succ])
        refine takeQ (i := 5) (d := some 8) (v := ?_) rfl rfl (by kernel_rfl) (by kernel_rfl) (by kernel_rfl) hPQ hS0 (by kernel_rfl) ?_ ?_
        rotate_left
        · (intro w hSw; (try dsimp only at hSw); obtain ⟨k0, k1⟩ := hSw; go_simp; (try with_reducible rfl))
        (try simp only [Act.put, List.setIfInBounds_toArray, List.set_cons_zero, List.set_cons_succ])
        refine takeQ (i := 6) (d := some 9) (v := ?_) rfl rfl (by kernel_rfl) (by kernel_rfl) (by kernel_rfl) hPQ hS0 (by kernel_rfl) ?_ ?_
        rotate_left
        · (intro w hSw; (try dsimp only at hSw); obtain ⟨k0, k1⟩ := hSw; go_simp; (try with_reducible rfl))
        (try simp only [Act.put, List.setIfInBounds_toArray, List.set_cons_zero, List.set_cons_succ])
        refine takeQ (i := 7) (d := some 10) (v := ?_) rfl rfl (by kernel_rfl) (by kernel_rfl) (by kernel_rfl) hPQ hS0 (by kernel_rfl) ?_ ?_
        rotate_left
        · (intro w hSw; (try dsimp only at hSw); obtain ⟨k0, k1⟩ := hSw; go_simp; (try with_reducible rfl))
        (try simp only [Act.put, List.setIfInBounds_toArray, List.set_cons_zero, List.set_cons_succ])
        refine takeQ (i := 8) (d := some 11) (v := ?_) rfl rfl (by kernel_rfl) (by kernel_rfl) (by kernel_rfl) hPQ hS0 (by kernel_rfl) ?_ ?_
        rotate_left
        · (intro w hSw; (try dsimp only at hSw); obtain ⟨k0, k1⟩ := hSw; go_simp; (try with_reducible rfl))
        (try simp only [Act.put, List.setIfInBounds_toArray, List.set_cons_zero, List.set_cons_succ])
        refine takeQ (i := 9) (d := some 12) (v := ?_) rfl rfl (by kernel_rfl) (by kernel_rfl) (by kernel_rfl) hPQ hS0 (by kernel_rfl) ?_ ?_
        rotate_left
        · (intro w hSw; (try dsimp only at hSw); obtain ⟨k0, k1⟩ := hSw; go_simp; (try with_reducible rfl))
        (try simp only [Act.put, List.setIfInBounds_toArray, List.set_cons_zero, List.set_cons_succ])
        refine takeQ (i := 10) (d := some 13) (v := ?_) rfl rfl (by kernel_rfl) (by kernel_rfl) (by kernel_rfl) hPQ hS0 (by kernel_rfl) ?_ ?_
        rotate_left
        · (intro w hSw; (try dsimp only at hSw); obtain ⟨k0, k1⟩ := hSw; go_simp; (try with_reducible rfl))
        (try simp only [Act.put, List.setIfInBounds_toArray, List.set_cons_zero, List.set_cons_succ])
        refine takeQ (i := 11) (d := some 14) (v := ?_) rfl rfl (by kernel_rfl) (by kernel_rfl) (by kernel_rfl) hPQ hS0 (by kernel_rfl) ?_ ?_
        rotate_left
        · (intro w hSw; (try dsimp only at hSw); obtain ⟨k0, k1⟩ := hSw; go_simp; (try with_reducible rfl))
        (try simp only [Act.put, List.setIfInBounds_toArray, List.set_cons_zero, List.set_cons_succ])
        refine takeQ (i := 12) (d := some 15) (v := ?_) rfl rfl (by kernel_rfl) (by kernel_rfl) (by kernel_rfl) hPQ hS0 (by kernel_rfl) ?_ ?_
        rotate_left
        · (intro w hSw; (try dsimp only at hSw); obtain ⟨k0, k1⟩ := hSw; go_simp; (try with_reducible rfl))
        (try simp only [Act.put, List.setIfInBounds_toArray, List.set_cons_zero, List.set_cons_succ])
        refine takeQ (i := 13) (d := some 16) (v := ?_) rfl rfl (by kernel_rfl) (by kernel_rfl) (by kernel_rfl) hPQ hS0 (by kernel_rfl) ?_ ?_
        rotate_left
        · (intro w hSw; (try dsimp only at hSw); obtain ⟨k0, k1⟩ := hSw; go_simp; (try with_reducible rfl))
        (try simp only [Act.put, List.setIfInBounds_toArray, List.set_cons_zero, List.set_cons_succ])
        refine takeQ (i := 14) (d := some 17) (v := ?_) rfl rfl (by kernel_rfl) (by kernel_rfl) (by kernel_rfl) hPQ hS0 (by kernel_rfl) ?_ ?_
        rotate_left
        · (intro w hSw; (try dsimp only at hSw); obtain ⟨k0, k1⟩ := hSw; go_simp; (try with_reducible rfl))
        (try simp only [Act.put, List.setIfInBounds_toArray, List.set_cons_zero, List.set_cons_succ])
        refine takeQ (i := 15) (d := some 18) (v := ?_) rfl rfl (by kernel_rfl) (by kernel_rfl) (by kernel_rfl) hPQ hS0 (by kernel_rfl) ?_ ?_
        rotate_left
        · (intro w hSw; (try dsimp only at hSw); obtain ⟨k0, k1⟩ := hSw; go_simp; (try with_reducible rfl))
        (try simp only [Act.put, List.setIfInBounds_toArray, List.set_cons_zero, List.set_cons_succ])
        refine takeQ (i := 16) (d := some 19) (v := ?_) rfl rfl (by kernel_rfl) (by kernel_rfl) (by kernel_rfl) hPQ hS0 (by kernel_rfl) ?_ ?_
        rotate_left
        · (intro w hSw; (try dsimp only at hSw); obtain ⟨k0, k1⟩ := hSw; go_simp; (try with_reducible rfl))
        (try simp only [Act.put, List.setIfInBounds_toArray, List.set_cons_zero, List.set_cons_succ])
        refine takeQ (i := 17) (d := some 20) (v := ?_) rfl rfl (by kernel_rfl) (by kernel_rfl) (by kernel_rfl) hPQ hS0 (by kernel_rfl) ?_ ?_
        rotate_left
        · (intro w hSw; (try dsimp only at hSw); obtain ⟨k0, k1⟩ := hSw; go_simp; (try with_reducible rfl))
        (try simp only [Act.put, List.setIfInBounds_toArray, List.set_cons_zero, List.set_cons_succ])
        refine wpAnyH_done (by kernel_rfl) (hQn.out _ _ ?_) _
        clear hS0 hPQ hQn Qn
        go_wp2_with fail
        exact ⟨⟨k, h3, by omega, HB3.out.drew, HX3⟩, by rw [HNO.out]; have h6 : nOf b (wr.setCell ⟨b, 1, none⟩ (.int .i64 k)).drew = k := nOf_eq HX3.out; omega⟩
      · have K3 : (x == 0) = false := by simpa using hx0
        have h4 : nw v = k + 1 := by
          have h5 := h1.out
          apply Classical.byContradiction
          intro hne
          have h6 : wd v k = 0 := wd_high (by omega)
          rw [← HF.out k hk, HXX.out] at h6
          exact hx0 h6
        have HW : Hid (Wide wr.drew b s v) := by unfold Hid Wide; rw [← wdC_of (n := k + 1) h4 HF.out]; exact HX.out
        clear h4 hx0
        go_wp2_with fail
        refine regionQ (fun w' => w'.cell? ⟨b, 1, none⟩ = some (.int .i64 ((k + 1 : Nat) : Int)) ∧ w'.cell? ⟨b, 2 + k, none⟩ = some (.int .i64 x)) (by kernel_rfl) (⟨p1, p2⟩) (fun Qn hPQ hQn hS0 => ?_)
        refine takeQ (i := 0) (d := some 3) (v := ?_) rfl rfl (by kernel_rfl) (by kernel_rfl) (by kernel_rfl) hPQ hS0 (by kernel_rfl) ?_ ?_
        rotate_left
        · (intro w hSw; (try dsimp only at hSw); obtain ⟨k0, k1⟩ := hSw; go_simp; (try with_reducible rfl))
        (try simp only [Act.put, List.setIfInBounds_toArray, List.set_cons_zero, List.set_cons_succ])
        refine takeQ (i := 1) (d := some 4) (v := ?_) rfl rfl (by kernel_rfl) (by kernel_rfl) (by kernel_rfl) hPQ hS0 (by kernel_rfl) ?_ ?_
        rotate_left
        · (intro w hSw; (try dsimp only at hSw); obtain ⟨k0, k1⟩ := hSw; go_simp; (try with_reducible rfl))
        (try simp only [Act.put, List.setIfInBounds_toArray, List.set_cons_zero, List.set_cons_succ])
        refine takeQ (i := 2) (d := some 5) (v := ?_) rfl rfl (by kernel_rfl) (by kernel_rfl) (by kernel_rfl) hPQ hS0 (by kernel_rfl) ?_ ?_
        rotate_left
        · (intro w hSw; (try dsimp only at hSw); obtain ⟨k0, k1⟩ := hSw; go_simp; (try with_reducible rfl))
        (try simp only [Act.put, List.setIfInBounds_toArray, List.set_cons_zero, List.set_cons_succ])
        refine takeQ (i := 3) (d := some 6) (v := ?_) rfl rfl (by kernel_rfl) (by kernel_rfl) (by kernel_rfl) hPQ hS0 (by kernel_rfl) ?_ ?_
        rotate_left
        · (intro w hSw; (try dsimp only at hSw); obtain ⟨k0, k1⟩ := hSw; go_simp; (try with_reducible rfl))
        (try simp only [Act.put, List.setIfInBounds_toArray, List.set_cons_zero, List.set_cons_succ])
        refine takeQ (i := 4) (d := some 7) (v := ?_) rfl rfl (by kernel_rfl) (by kernel_rfl) (by kernel_rfl) hPQ hS0 (by kernel_rfl) ?_ ?_
        rotate_left
        · (intro w hSw; (try dsimp only at hSw); obtain ⟨k0, k1⟩ := hSw; go_simp; (try with_reducible rfl))
        (try simp only [Act.put, List.setIfInBounds_toArray, List.set_cons_zero, List.set_cons_succ])
        refine takeQ (i := 5) (d := some 8) (v := ?_) rfl rfl (by kernel_rfl) (by kernel_rfl) (by kernel_rfl) hPQ hS0 (by kernel_rfl) ?_ ?_
        rotate_left
        · (intro w hSw; (try dsimp only at hSw); obtain ⟨k0, k1⟩ := hSw; go_simp; (try with_reducible rfl))
        (try simp only [Act.put, List.setIfInBounds_toArray, List.set_cons_zero, List.set_cons_succ])
        refine takeQ (i := 6) (d := some 9) (v := ?_) rfl rfl (by kernel_rfl) (by kernel_rfl) (by kernel_rfl) hPQ hS0 (by kernel_rfl) ?_ ?_
        rotate_left
        · (intro w hSw; (try dsimp only at hSw); obtain ⟨k0, k1⟩ := hSw; go_simp; (try with_reducible rfl))
        (try simp only [Act.put, List.setIfInBounds_toArray, List.set_cons_zero, List.set_cons_succ])
        refine takeQ (i := 7) (d := some 10) (v := ?_) rfl rfl (by kernel_rfl) (by kernel_rfl) (by kernel_rfl) hPQ hS0 (by kernel_rfl) ?_ ?_
        rotate_left
        · (intro w hSw; (try dsimp only at hSw); obtain ⟨k0, k1⟩ := hSw; go_simp; (try with_reducible rfl))
        (try simp only [Act.put, List.setIfInBounds_toArray, List.set_cons_zero, List.set_cons_succ])
        refine takeQ (i := 8) (d := some 11) (v := ?_) rfl rfl (by kernel_rfl) (by kernel_rfl) (by kernel_rfl) hPQ hS0 (by kernel_rfl) ?_ ?_
        rotate_left
        · (intro w hSw; (try dsimp only at hSw); obtain ⟨k0, k1⟩ := hSw; go_simp; (try with_reducible rfl))
        (try simp only [Act.put, List.setIfInBounds_toArray, List.set_cons_zero, List.set_cons_succ])
        refine takeQ (i := 9) (d := some 12) (v := ?_) rfl rfl (by kernel_rfl) (by kernel_rfl) (by kernel_rfl) hPQ hS0 (by kernel_rfl) ?_ ?_
        rotate_left
        · (intro w hSw; (try dsimp only at hSw); obtain ⟨k0, k1⟩ := hSw; go_simp; (try with_reducible rfl))
        (try simp only [Act.put, List.setIfInBounds_toArray, List.set_cons_zero, List.set_cons_succ])
        refine takeQ (i := 10) (d := some 13) (v := ?_) rfl rfl (by kernel_rfl) (by kernel_rfl) (by kernel_rfl) hPQ hS0 (by kernel_rfl) ?_ ?_
        rotate_left
        · (intro w hSw; (try dsimp only at hSw); obtain ⟨k0, k1⟩ := hSw; go_simp; (try with_reducible rfl))
        (try simp only [Act.put, List.setIfInBounds_toArray, List.set_cons_zero, List.set_cons_succ])
        refine takeQ (i := 11) (d := some 14) (v := ?_) rfl rfl (by kernel_rfl) (by kernel_rfl) (by kernel_rfl) hPQ hS0 (by kernel_rfl) ?_ ?_
        rotate_left
        · (intro w hSw; (try dsimp only at hSw); obtain ⟨k0, k1⟩ := hSw; go_simp; (try with_reducible rfl))
        (try simp only [Act.put, List.setIfInBounds_toArray, List.set_cons_zero, List.set_cons_succ])
        refine takeQ (i := 12) (d := some 15) (v := ?_) rfl rfl (by kernel_rfl) (by kernel_rfl) (by kernel_rfl) hPQ hS0 (by kernel_rfl) ?_ ?_
        rotate_left
        · (intro w hSw; (try dsimp only at hSw); obtain ⟨k0, k1⟩ := hSw; go_simp; (try with_reducible rfl))
        (try simp only [Act.put, List.setIfInBounds_toArray, List.set_cons_zero, List.set_cons_succ])
        refine takeQ (i := 13) (d := some 16) (v := ?_) rfl rfl (by kernel_rfl) (by kernel_rfl) (by kernel_rfl) hPQ hS0 (by kernel_rfl) ?_ ?_
        rotate_left
        · (intro w hSw; (try dsimp only at hSw); obtain ⟨k0, k1⟩ := hSw; go_simp; (try with_reducible rfl))
        (try simp only [Act.put, List.setIfInBounds_toArray, List.set_cons_zero, List.set_cons_succ])
        refine takeQ (i := 14) (d := some 17) (v := ?_) rfl rfl (by kernel_rfl) (by kernel_rfl) (by kernel_rfl) hPQ hS0 (by kernel_rfl) ?_ ?_
        rotate_left
        · (intro w hSw; (try dsimp only at hSw); obtain ⟨k0, k1⟩ := hSw; go_simp; (try with_reducible rfl))
        (try simp only [Act.put, List.setIfInBounds_toArray, List.set_cons_zero, List.set_cons_succ])
        refine takeQ (i := 15) (d := some 18) (v := ?_) rfl rfl (by kernel_rfl) (by kernel_rfl) (by kernel_rfl) hPQ hS0 (by kernel_rfl) ?_ ?_
        rotate_left
        · (intro w hSw; (try dsimp only at hSw); obtain ⟨k0, k1⟩ := hSw; go_simp; (try with_reducible rfl))
        (try simp only [Act.put, List.setIfInBounds_toArray, List.set_cons_zero, List.set_cons_succ])
        refine takeQ (i := 16) (d := some 19) (v := ?_) rfl rfl (by kernel_rfl) (by kernel_rfl) (by kernel_rfl) hPQ hS0 (by kernel_rfl) ?_ ?_
        rotate_left
        · (intro w hSw; (try dsimp only at hSw); obtain ⟨k0, k1⟩ := hSw; go_simp; (try with_reducible rfl))
        (try simp only [Act.put, List.setIfInBounds_toArray, List.set_cons_zero, List.set_cons_succ])
        refine takeQ (i := 17) (d := some 20) (v := ?_) rfl rfl (by kernel_rfl) (by kernel_rfl) (by kernel_rfl) hPQ hS0 (by kernel_rfl) ?_ ?_
        rotate_left
        · (intro w hSw; (try dsimp only at hSw); obtain ⟨k0, k1⟩ := hSw; go_simp; (try with_reducible rfl))
        (try simp only [Act.put, List.setIfInBounds_toArray, List.set_cons_zero, List.set_cons_succ])
        refine wpAnyH_done (by kernel_rfl) (hQn.out _ _ ?_) _
        clear hS0 hPQ hQn Qn
        go_wp2_with fail
        exact HR.out _ BD.out HW.out
end Go.Proofs.YtcmhompbdanpdaaGreatDoor
namespace Go.Proofs.YtcmhompbdanpdaaGreatDoor
open Go.RowKit

theorem Wide.drewN {w : World} {b : Nat} {s : Bool} {v : Nat} (h : Wide w b s v) (q : Nat) : Wide (w.drewN q) b s v := h
set_option maxRecDepth 100000 in
set_option maxHeartbeats 4000000 in
theorem beyond_any (bx by_ vx vy : Nat) (sx sy : Bool) (w : World) (R : Ending → World → Prop) (hx : Wide w bx sx vx) (hy : Wide w by_ sy vy) (nx : nw vx ≤ 232) (ny : nw vy ≤ 232)
   (hR : ∀ (r : Int) w', Drew w w' → (0 ≤ r ↔ vy ≤ vx) → R (.returned (.int .i64 r)) w') :
    Calls Tryz.prog 245 #[.pointer (some ⟨bx, 0, none⟩), .pointer (some ⟨by_, 0, none⟩)] w R := by
  have HR := Lib.hid hR
  have HX := Lib.hid hx
  have HY := Lib.hid hy
  have p1 := hx.m.c1
  have q1 := hy.m.c1
  obtain ⟨n, hn⟩ : ∃ n, nw vx = n := ⟨_, rfl⟩
  obtain ⟨m, hm⟩ : ∃ m, nw vy = m := ⟨_, rfl⟩
  have HN := Lib.hid hn
  have HM := Lib.hid hm
  rw [hn] at nx p1
  rw [hm] at ny q1
  clear hR hx hy hn hm
  by_cases hne : n = m
  · subst hne
    have hT : Hid (vx / bB ^ n = vy / bB ^ n) := by
      have := top_eq (HN.out.trans HM.out.symm)
      rwa [HN.out] at this
    go_enter Tryz.func245, Tryz.ntmps245
    go_wp2_with fail
    go_quiet (fail)
    go_wp2_with fail
    go_loopw [5] (fun i wr => ∃ (z : Int), i = .int .i64 z ∧ -1 ≤ z ∧ z < n ∧ Drew w wr ∧ Hid (vx / bB ^ (z + 1).toNat = vy / bB ^ (z + 1).toNat)) (fun i _ => (intOf i + 1).toNat)
    case atStart => exact ⟨(n : Int) - 1, by go_num, by omega, by omega, (by repeat first | exact Drew.refl _ | apply Drew.drewN), by rw [show ((n : Int) - 1 + 1).toNat = n from by omega]; exact hT⟩
    case round =>
      obtain ⟨z, rfl, z0, z1, ⟨q, rfl⟩, hz⟩ := hrel
      by_cases h0 : 0 ≤ z
      · obtain ⟨k, rfl⟩ := Int.eq_ofNat_of_zero_le h0
        have hk : k < 232 := by omega
        rw [show ((k : Int) + 1).toNat = k + 1 from by omega] at hz
        have K1 : ((k : Int) < 232) = True := eq_true (by omega)
        have c1 := HX.out.m.cw hk
        have c2 := HY.out.m.cw hk
        have b1 := wd_lt vx k
        have b2 := wd_lt vy k
        unfold bB at b1 b2
        have hwe := fun h => word_eq hz.out h
        have hlt := fun h => word_order hz.out h
        have hgt := fun h => word_order hz.out.symm h
        obtain ⟨x, hxx⟩ : ∃ x, wd vx k = x := ⟨_, rfl⟩
        obtain ⟨y, hyy⟩ : ∃ x, wd vy k = x := ⟨_, rfl⟩
        rw [hxx] at c1 b1 hwe hlt hgt
        rw [hyy] at c2 b2 hwe hlt hgt
        clear hxx hyy
        by_cases he : x = y
        · have K2 : ((x : Int) == (y : Int)) = true := by rw [he]; simp
          have hz2 : Hid (vx / bB ^ k = vy / bB ^ k) := hwe he
          clear hwe hlt hgt
          go_wp2_with fail
          go_quiet (fail)
          go_wp2_with fail
          exact ⟨⟨(k : Int) - 1, by go_num, by omega, by omega, (by repeat first | exact Drew.refl _ | apply Drew.drewN), by rw [show ((k : Int) - 1 + 1).toNat = k from by omega]; exact hz2⟩, by simp [intOf]⟩
        · have K2 : ((x : Int) == (y : Int)) = false := by simpa using (by omega : ¬ (x : Int) = y)
          have hs : Hid (0 ≤ (x : Int) - y ↔ vy ≤ vx) := by
            unfold Hid
            rcases Nat.lt_or_gt_of_ne he with h | h
            · have := hlt h; omega
            · have := hgt h; omega
          have KW : IntKind.i64.wrap ((x : Int) - y) = (x : Int) - y := by rw [IntKind.wrap_i64]; omega
          clear hwe hlt hgt
          go_wp2_with fail
          go_quiet (fail)
          go_wp2_with fail
          go_quiet (fail)
          go_wp2_with fail
          exact ret_i (HR.out _ _ (by repeat first | exact Drew.refl _ | apply Drew.drewN) hs.out) rfl rfl
      · obtain rfl : z = -1 := by omega
        have he : Hid (vy ≤ vx) := by
          have h := hz.out
          simp at h
          unfold Hid; omega
        go_wp2_with fail
        exact ret_i (HR.out 0 _ (by repeat first | exact Drew.refl _ | apply Drew.drewN) ⟨fun _ => he.out, fun _ => by omega⟩) rfl rfl
  · have K2 : ((n : Int) == (m : Int)) = false := by simpa using (by omega : ¬ (n : Int) = m)
    have hs : Hid (0 ≤ (n : Int) - m ↔ vy ≤ vx) := by
      unfold Hid
      rcases Nat.lt_or_gt_of_ne hne with h | h
      · have := nw_order (x := vx) (y := vy) (by rw [HN.out, HM.out]; exact h); omega
      · have := nw_order (x := vy) (y := vx) (by rw [HN.out, HM.out]; exact h); omega
    have KW : IntKind.i64.wrap ((n : Int) - m) = (n : Int) - m := by rw [IntKind.wrap_i64]; omega
    go_enter Tryz.func245, Tryz.ntmps245
    go_wp2_with fail
    go_quiet (fail)
    go_wp2_with fail
    go_quiet (fail)
    go_wp2_with fail
    exact ret_i (HR.out _ _ (by repeat first | exact Drew.refl _ | apply Drew.drewN) hs.out) rfl rfl
end Go.Proofs.YtcmhompbdanpdaaGreatDoor
namespace Go.Proofs.YtcmhompbdanpdaaGreatDoor
open Go.RowKit

theorem Wide.chg' {w w' : World} {b c : Nat} {s : Bool} {v : Nat} (h : Wide w b s v) (hc : Chg c w w') (hb : b ≠ c) : Wide w' b s v := h.chg hc hb
/-- Quotient and rest of an int by the base, as the code makes them. -/
theorem tdiv_low {S : Int} (h : 0 ≤ S ∨ S % 1000000000 = 0) : S.tdiv 1000000000 = S / 1000000000 := by
  rcases h with h | h
  · exact Int.tdiv_eq_ediv_of_nonneg h
  · obtain ⟨q, hq⟩ : ∃ q, S / 1000000000 = q := ⟨_, rfl⟩
    have e : S = q * 1000000000 := by omega
    rw [hq, e, Int.mul_tdiv_cancel _ (by decide)]
theorem tdiv_high {S : Int} (h : S < 0) (h2 : S % 1000000000 ≠ 0) : S.tdiv 1000000000 = S / 1000000000 + 1 := by
  have e : S.tdiv 1000000000 = -((-S) / 1000000000) := by
    rw [← Int.tdiv_eq_ediv_of_nonneg (by omega), Int.neg_tdiv, Int.neg_neg]
  rw [e]; omega
/-- What the code makes of a round's sum. -/
theorem quo_facts {S q t m : Int} {d : Nat} (hb : -999999999000000000 ≤ S ∧ S ≤ 999999999999999999) (hd : S % 1000000000 = d) (hq : S / 1000000000 = q) (ht : S.tdiv 1000000000 = t) (hm : t * 1000000000 = m) :
    (wrap64 t = t ∧ wrap64 m = m ∧ wrap64 (d : Int) = d ∧ wrap64 q = q) ∧ ((S - m < 0 ∧ wrap64 (S - m) = S - m ∧ S - m + 1000000000 = d ∧ t - 1 = q) ∨ (S - m = d ∧ t = q)) := by
  have key : t = q ∧ (0 ≤ S ∨ d = 0) ∨ t = q + 1 ∧ S < 0 ∧ d ≠ 0 := by
    by_cases h : 0 ≤ S ∨ d = 0
    · left
      refine ⟨?_, h⟩
      rw [← ht, ← hq]
      exact tdiv_low (h.imp id fun h => by rw [hd, h]; rfl)
    · right
      have h1 : S < 0 := by
        apply Classical.byContradiction
        intro h2
        exact h (.inl (by omega))
      have h2 : d ≠ 0 := fun e => h (.inr e)
      refine ⟨?_, h1, h2⟩
      rw [← ht, ← hq]
      exact tdiv_high h1 (by rw [hd]; omega)
  clear ht
  unfold wrap64
  rcases key with ⟨rfl, h1⟩ | ⟨rfl, h1, h2⟩
  · refine ⟨⟨by omega, by omega, by omega, by omega⟩, .inr ⟨by omega, rfl⟩⟩
  · refine ⟨⟨by omega, by omega, by omega, by omega⟩, .inl ⟨by omega, by omega, by omega, by omega⟩⟩
/-- What a carry's loop leaves: words below are those of A, words above those of vx. -/
def CarF (vx : Nat) (p A : Nat) (f : Nat → Nat) : Prop := ∀ j, j < 232 → f j = if j < p then wd A j else wd vx j
theorem CarF.step {vx p A d : Nat} {f : Nat → Nat} (h : CarF vx p A f) (hA : A < bB ^ p) (hd : d < bB) : CarF vx (p + 1) (A + d * bB ^ p) (fun j => if j = p then d else f j) := by
  intro j hj
  rw [CarI.word hA hd]
  show (if j = p then d else f j) = _
  by_cases e : j = p
  · subst e; rw [if_pos rfl, if_pos (by omega), if_neg (by omega), if_pos rfl]
  · rw [if_neg e, h j hj]
    by_cases e2 : j < p
    · rw [if_pos e2, if_pos (by omega), if_pos e2]
    · rw [if_neg e2, if_neg (by omega)]
def ZerF (n : Nat) (f : Nat → Nat) : Prop := ∀ j, n ≤ j → j < 232 → f j = 0
theorem ZerF.step {n p d : Nat} {f : Nat → Nat} (h : ZerF n f) : ZerF (max n (p + 1)) (fun j => if j = p then d else f j) := by
  intro j hj h2
  show (if j = p then d else f j) = 0
  rw [if_neg (by omega)]
  exact h j (by omega) h2
set_option maxRecDepth 100000 in
set_option maxHeartbeats 16000000 in
theorem carry_any (bx by_ vx vy v up : Nat) (k : Int) (sx sy : Bool) (w : World) (R : Ending → World → Prop) (hx : Wide w bx sx vx) (hy : Wide w by_ sy vy) (hne : by_ ≠ bx) (hk : -999999999 ≤ k ∧ k ≤ 999999999)
   (hup : nw vy + up ≤ 232) (nx : nw vx ≤ 232) (hv : (v : Int) = (vx : Int) + k * (bB ^ up : Nat) * (vy : Int)) (nv : nw v ≤ 232) (hR : ∀ w', Chg bx w w' → Wide w' bx sx v → R (.returned (.tuple #[])) w') :
    Calls Tryz.prog 169 #[.pointer (some ⟨bx, 0, none⟩), .pointer (some ⟨by_, 0, none⟩), .int .i64 k, .int .i64 up] w R := by
  have HR := Lib.hid hR
  have HY := Lib.hid hy
  have HV := Lib.hid hv
  have HK := Lib.hid hk
  have HX0 : Hid (WideM w bx sx (nw vx) (wd vx)) := hx
  obtain ⟨ny, hny⟩ : ∃ n, nw vy = n := ⟨_, rfl⟩
  have HNY := Lib.hid hny
  rw [hny] at hup
  have HNV := Lib.hid nv
  have HNX := Lib.hid nx
  have T0 : Hid (0 ≤ (vx : Int) + k * (bB ^ up : Nat) * (vy : Int)) := by unfold Hid; rw [← hv]; omega
  have T1 : Hid ((vx : Int) + k * (bB ^ up : Nat) * (vy : Int) < (bB ^ 232 : Nat)) := by unfold Hid; rw [← hv]; exact_mod_cast (nw_le _ _).1 nv
  have F0 : Hid (CarF vx up (vx % bB ^ up) (wd vx)) := fun j hj => by
    by_cases e : j < up
    · rw [if_pos e, wd_mod e]
    · rw [if_neg e]
  have Z0 : Hid (ZerF (nw vx) (wd vx)) := fun j hj _ => wd_high hj
  clear hR hx hy hv hk hny nv
  go_enter Tryz.func169, Tryz.ntmps169
  go_wp2_with fail
  go_loopw [8, 9] (fun r i wr => ∃ (i' : Nat) (rest : Int) (A n : Nat) (f : Nat → Nat), i = .int .i64 i' ∧ r = .int .i64 rest ∧ i' + up ≤ 232 ∧ n ≤ 232 ∧ Hid (CarI vx vy k up i' A rest) ∧ Hid (Chg bx w wr) ∧ Hid (WideM wr bx sx n f) ∧ Hid (CarF vx (i' + up) A f) ∧ Hid (ZerF n f)) (fun _ i _ => 232 - (intOf i).toNat)
  case atStart => exact ⟨0, 0, _, nw vx, wd vx, rfl, rfl, by omega, nx, CarI.start _ _ _ _, Chg.refl _ _, HX0, by rw [Nat.zero_add]; exact F0, Z0⟩
  case round =>
    obtain ⟨i, rest, A, n, f, rfl, rfl, hip, hn, HC, HB, HX, HF, HZ⟩ := hrel
    have HYr := Lib.hid (HY.out.chg HB.out hne)
    have y1 := HYr.out.m.c1
    rw [HNY.out] at y1
    have r1 := HC.out.lo
    have r2 := HC.out.hi
    by_cases hgo : i < ny ∨ rest ≠ 0
    · have hp232 : i + up < 232 := by
        apply Classical.byContradiction
        intro hn2
        have hpp : i + up = 232 := by omega
        have h0 := HC.out.over (by rw [hpp]; exact (nw_le _ _).1 HNX.out) ((nw_le _ _).1 (by rw [HNY.out]; omega)) T0.out (by rw [hpp]; exact T1.out)
        rcases hgo with h | h
        · omega
        · exact h h0
      obtain ⟨p, hp⟩ : ∃ p, i + up = p := ⟨_, rfl⟩
      have hpi : (i : Int) + (up : Int) = (p : Int) := by omega
      have x0 := HX.out.cw hp232
      have xn := HX.out.c1
      have hfp := HF.out (i + up) hp232
      rw [if_neg (by omega)] at hfp
      have hst := fun S h => HC.out.step (s := S) HK.out h
      have hab := carS_abs HC.out HK.out
      have hlow := HC.out.low
      unfold carS at hst hab
      rw [hp] at x0 hfp hst hab hlow HF
      obtain ⟨a, ha⟩ : ∃ a, wd vx p = a := ⟨_, rfl⟩
      rw [ha] at hfp hst hab
      rw [hfp] at x0
      have hab0 : a < 1000000000 := by rw [← ha]; exact wd_lt _ _
      have KP : ((p : Int) < 232) = True := eq_true (by omega)
      have fz1 := HX.out.frozen 1
      have fzp := HX.out.frozen (2 + p)
      have hpw : p < 232 := by omega
      have HLOW := Lib.hid hlow
      clear hfp ha hlow
      by_cases hiy : i < ny
      · have y2 := HYr.out.m.cw (i := i) (by omega)
        obtain ⟨b, hb⟩ : ∃ b, wd vy i = b := ⟨_, rfl⟩
        have hbB : b < 1000000000 := by rw [← hb]; exact wd_lt _ _
        rw [hb] at y2 hst hab
        obtain ⟨pr, hpr⟩ : ∃ z, k * (b : Int) = z := ⟨_, rfl⟩
        rw [hpr] at hst hab
        obtain ⟨S, hS⟩ : ∃ z, (a : Int) + rest + pr = z := ⟨_, rfl⟩
        rw [hS] at hab
        have hst := hst S hS
        have KI : ((i : Int) < 232) = True := eq_true (by omega)
        have KA : wrap64 ((a : Int) + rest) = (a : Int) + rest := by unfold wrap64; omega
        have KB : wrap64 pr = pr := by unfold wrap64; omega
        have KC : wrap64 S = S := by unfold wrap64; omega
        have KD : (i < ny) = True := eq_true hiy
        have hd0 : 0 ≤ S % 1000000000 ∧ S % 1000000000 < 1000000000 := by omega
        obtain ⟨d, hd⟩ : ∃ d : Nat, S % 1000000000 = d := ⟨(S % 1000000000).toNat, by omega⟩
        obtain ⟨q, hq⟩ : ∃ q, S / 1000000000 = q := ⟨_, rfl⟩
        rw [hd, hq, Int.toNat_natCast] at hst
        have hSq : S = q * 1000000000 + d := by omega
        have hdB : d < 1000000000 := by omega
        have HST : Hid (CarI vx vy k up (i + 1) (A + d * bB ^ p) q) := hst
        have HF2 : Hid (CarF vx (i + 1 + up) (A + d * bB ^ p) (fun j => if j = p then d else f j)) := by
          unfold Hid
          rw [show i + 1 + up = p + 1 from by omega]
          exact HF.out.step HLOW.out hdB
        have HZ2 : Hid (ZerF (max n (p + 1)) (fun j => if j = p then d else f j)) := HZ.out.step
        have ql := HST.out.lo
        have qh := HST.out.hi
        have HX2 : Hid (WideM (wr.setCell ⟨bx, 2 + p, none⟩ (.int .i64 d)) bx sx n (fun j => if j = p then d else f j)) := HX.out.setW hpw d
        have HX3 : Hid (WideM ((wr.setCell ⟨bx, 2 + p, none⟩ (.int .i64 d)).setCell ⟨bx, 1, none⟩ (.int .i64 (max n (p + 1) : Nat))) bx sx (max n (p + 1)) (fun j => if j = p then d else f j)) := HX2.out.setN _
        have HB3 : Hid (Chg bx w ((wr.setCell ⟨bx, 2 + p, none⟩ (.int .i64 d)).setCell ⟨bx, 1, none⟩ (.int .i64 (max n (p + 1) : Nat)))) := (HB.out.setCell _ _).setCell _ _
        have xn2 := HX2.out.c1
        have fz2 := HX2.out.frozen 1
        have KMX : (if (n : Int) < (p : Int) + 1 then (p : Int) + 1 else (n : Int)) = ((max n (p + 1) : Nat) : Int) := by split <;> omega
        have HSB := Lib.hid hab
        have N1 : i + 1 + up ≤ 232 := by omega
        have N2 : max n (p + 1) ≤ 232 := by omega
        have N3 : 232 - (i + 1) < 232 - i := by omega
        clear hst hab HX2 hd0
        obtain ⟨t, ht⟩ : ∃ t, S.tdiv 1000000000 = t := ⟨_, rfl⟩
        obtain ⟨m, hm⟩ : ∃ m, t * 1000000000 = m := ⟨_, rfl⟩
        obtain ⟨⟨KT, KM, K8, K7⟩, hcase⟩ := quo_facts HSB.out hd hq ht hm
        have KMH := Lib.hid KMX
        clear hSq hd hq KMX KT KM K8 K7
        rcases hcase with ⟨h1, KF, K5, K6⟩ | ⟨he, htq⟩
        · obtain ⟨e, he⟩ : ∃ e, S - m = e := ⟨_, rfl⟩
          rw [he] at h1 KF K5
          have K4 : (e < 0) = True := eq_true h1
          clear h1 KF
          go_wp2_with fail
          clear ht hm he
          simp only [KMH.out]
          refine ⟨⟨i + 1, q, A + d * bB ^ p, max n (p + 1), (fun j => if j = p then d else f j), ?_, ?_, N1, N2, HST, ?_, ?_, HF2, HZ2⟩, ?_⟩
          · go_num
          · with_reducible rfl
          · with_reducible exact HB3
          · with_reducible exact HX3
          · exact N3
        · subst htq
          have K4 : ((d : Int) < 0) = False := eq_false (Int.not_lt.2 (Int.natCast_nonneg d))
          go_wp2_with fail
          clear ht hm he
          simp only [KMH.out]
          refine ⟨⟨i + 1, t, A + d * bB ^ p, max n (p + 1), (fun j => if j = p then d else f j), ?_, ?_, N1, N2, HST, ?_, ?_, HF2, HZ2⟩, ?_⟩
          · go_num
          · with_reducible rfl
          · with_reducible exact HB3
          · with_reducible exact HX3
          · exact N3
      · have hr0 : rest ≠ 0 := by omega
        have hb0 : wd vy i = 0 := wd_high (by rw [HNY.out]; omega)
        rw [hb0, Int.natCast_zero, Int.mul_zero, Int.add_zero] at hst hab
        obtain ⟨S, hS⟩ : ∃ z, (a : Int) + rest = z := ⟨_, rfl⟩
        rw [hS] at hab
        have hst := hst S hS
        have KA : wrap64 S = S := by unfold wrap64; omega
        have KD : (i < ny) = False := eq_false hiy
        have KE : (rest == 0) = false := by simpa using hr0
        have hd0 : 0 ≤ S % 1000000000 ∧ S % 1000000000 < 1000000000 := by omega
        obtain ⟨d, hd⟩ : ∃ d : Nat, S % 1000000000 = d := ⟨(S % 1000000000).toNat, by omega⟩
        obtain ⟨q, hq⟩ : ∃ q, S / 1000000000 = q := ⟨_, rfl⟩
        rw [hd, hq, Int.toNat_natCast] at hst
        have hSq : S = q * 1000000000 + d := by omega
        have hdB : d < 1000000000 := by omega
        have HST : Hid (CarI vx vy k up (i + 1) (A + d * bB ^ p) q) := hst
        have HF2 : Hid (CarF vx (i + 1 + up) (A + d * bB ^ p) (fun j => if j = p then d else f j)) := by
          unfold Hid
          rw [show i + 1 + up = p + 1 from by omega]
          exact HF.out.step HLOW.out hdB
        have HZ2 : Hid (ZerF (max n (p + 1)) (fun j => if j = p then d else f j)) := HZ.out.step
        have ql := HST.out.lo
        have qh := HST.out.hi
        have HX2 : Hid (WideM (wr.setCell ⟨bx, 2 + p, none⟩ (.int .i64 d)) bx sx n (fun j => if j = p then d else f j)) := HX.out.setW hpw d
        have HX3 : Hid (WideM ((wr.setCell ⟨bx, 2 + p, none⟩ (.int .i64 d)).setCell ⟨bx, 1, none⟩ (.int .i64 (max n (p + 1) : Nat))) bx sx (max n (p + 1)) (fun j => if j = p then d else f j)) := HX2.out.setN _
        have HB3 : Hid (Chg bx w ((wr.setCell ⟨bx, 2 + p, none⟩ (.int .i64 d)).setCell ⟨bx, 1, none⟩ (.int .i64 (max n (p + 1) : Nat)))) := (HB.out.setCell _ _).setCell _ _
        have xn2 := HX2.out.c1
        have fz2 := HX2.out.frozen 1
        have KMX : (if (n : Int) < (p : Int) + 1 then (p : Int) + 1 else (n : Int)) = ((max n (p + 1) : Nat) : Int) := by split <;> omega
        have HSB := Lib.hid hab
        have N1 : i + 1 + up ≤ 232 := by omega
        have N2 : max n (p + 1) ≤ 232 := by omega
        have N3 : 232 - (i + 1) < 232 - i := by omega
        clear hst hab HX2 hd0
        obtain ⟨t, ht⟩ : ∃ t, S.tdiv 1000000000 = t := ⟨_, rfl⟩
        obtain ⟨m, hm⟩ : ∃ m, t * 1000000000 = m := ⟨_, rfl⟩
        obtain ⟨⟨KT, KM, K8, K7⟩, hcase⟩ := quo_facts HSB.out hd hq ht hm
        have KMH := Lib.hid KMX
        clear hSq hd hq KMX KT KM K8 K7
        rcases hcase with ⟨h1, KF, K5, K6⟩ | ⟨he, htq⟩
        · obtain ⟨e, he⟩ : ∃ e, S - m = e := ⟨_, rfl⟩
          rw [he] at h1 KF K5
          have K4 : (e < 0) = True := eq_true h1
          clear h1 KF
          go_wp2_with fail
          clear ht hm he
          simp only [KMH.out]
          refine ⟨⟨i + 1, q, A + d * bB ^ p, max n (p + 1), (fun j => if j = p then d else f j), ?_, ?_, N1, N2, HST, ?_, ?_, HF2, HZ2⟩, ?_⟩
          · go_num
          · with_reducible rfl
          · with_reducible exact HB3
          · with_reducible exact HX3
          · exact N3
        · subst htq
          have K4 : ((d : Int) < 0) = False := eq_false (Int.not_lt.2 (Int.natCast_nonneg d))
          go_wp2_with fail
          clear ht hm he
          simp only [KMH.out]
          refine ⟨⟨i + 1, t, A + d * bB ^ p, max n (p + 1), (fun j => if j = p then d else f j), ?_, ?_, N1, N2, HST, ?_, ?_, HF2, HZ2⟩, ?_⟩
          · go_num
          · with_reducible rfl
          · with_reducible exact HB3
          · with_reducible exact HX3
          · exact N3
    · have hr0 : rest = 0 := by omega
      subst hr0
      have hiy : ¬ i < ny := by omega
      have KD : (i < ny) = False := eq_false hiy
      obtain ⟨_, hw⟩ := HC.out.done (by rw [HNY.out]; omega) HV.out
      have hfv : ∀ j, j < 232 → f j = wd v j := fun j hj => by rw [hw j, HF.out j hj]
      have hnv : nw v ≤ n := nw_of_zeros fun j hj h2 => by rw [← hfv j (by have := HNV.out; omega)]; exact HZ.out j hj (by have := HNV.out; omega)
      have HFV := Lib.hid hfv
      have HN2 := Lib.hid hnv
      clear hw hfv hnv
      go_wp2_with fail
      refine trimmed_any bx v n sx f _ _ HX.out hn HN2.out HFV.out fun w2 hc hw2 => ?_
      have HB2 : Hid (Chg bx w w2) := HB.out.trans hc
      have HW2 := Lib.hid hw2
      clear hc hw2
      go_wp2_with fail
      go_end0
      exact HR.out _ HB2.out HW2.out
end Go.Proofs.YtcmhompbdanpdaaGreatDoor
