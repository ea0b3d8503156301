/- awake of the law of layer 19. (Printed by gen_awake19.py.) The walk of awake of the law of layer 19. (Printed by gen_awake19b.py.) Features and frames that came in, and the library's variables, as the rows of layer 19 read them. -/
import Derived.Maps.RangeWalk
import Derived.Test.YtciokmjhdbcmpaaGreatDoorMfq
import Derived.Test.YtciokmjhdbcmpaaGreatDoorFzc
import Derived.Test.YtciokmjhdbcmpaaGreatDoorMfv
import Derived.Deep.Slices
import Derived.Deep.Fields
import Derived.ChangeSame
import Derived.Lib.SmallJoins
import Derived.ProofKit
import Derived.Stop.LaidErr
import Derived.Lib.LaidTab
import Derived.Handed
import Derived.MakeChecks
import Derived.Test.YtciokmjhdbcmpaaGreatDoorRows
namespace Go.Proofs.YtciokmjhdbcmpaaGreatDoor
open Go.RowKit Go.Maps

theorem wp_mapInsert {P : Program} (w : World) {ops : Array Oper} {rest : List Oper} {o : Oper} {a : Act} {Q : Exit → Act → World → Prop}
    (hg : o.guard = none) (m x v : Operand) (t : TypeId) (hop : o.op = Op.insert t m x v) (k e : TypeId) (hk : P.underlying k = some .string) (ht : P.underlying t = some (.map k e)) (b n : Nat) (f : SMap)
    (hm : a.eval m = .map (some b)) (h : MapIs P k w b n f) (hn : n < maxLen) (s : ByteArray) (val : Value) (hx : a.eval x = .string s) (hv : a.eval v = val) (hs : s.size ≤ maxLen)
    (hK : ∀ w', MapIs P k w' b (n + 1) (f.put s val) → w.grownBy w' (some b) → wpList P ops Q rest (a.put o.dst undef) w') :
    wpList P ops Q (o :: rest) a w := by
  refine wpList_plain hg fun K' hK' => ?_
  obtain ⟨w', hrun, h3, h4⟩ := h.store hk ht hn hs val
  unfold Oper.wp
  simp [execOp, hop, hm, hx, hv, hrun, Result.andThen]
  exact hK' _ _ (hK w' h3 h4)

def holeF : Ft := ⟨⟨#[72]⟩, 1, 2, 5000, 0, 0, 1000, 1011, []⟩
def pinF : Ft := ⟨⟨#[72]⟩, 2, 2, 5000, 0, 0, 1000, 1011, []⟩
def planeF : Ft := ⟨⟨#[80]⟩, 0, 0, 0, 0, 0, 0, 0, []⟩
theorem FtOk.bare (w : World) (f : Ft) (hf : f.fs = []) (hn : f.n.size ≤ 100) : FtOk w f none 0 := by
  refine ⟨fun h => ?_, by omega, by rw [hf]; simp⟩
  rw [hf] at h
  exact absurd h (by simp)
def fmA : Fm := ⟨8, true, 50, 1, [⟨⟨#[65]⟩, 0⟩, ⟨⟨#[66]⟩, 1⟩]⟩
def fm0 : Fm := ⟨1, false, 30, 0, []⟩
def fm1 : Fm := ⟨1, true, 30, 0, []⟩
def fm2 : Fm := ⟨8, false, 0, 0, []⟩
def fm3 : Fm := ⟨8, false, 0, 1, [⟨⟨#[65]⟩, 0⟩]⟩
def fm4 : Fm := ⟨3, false, 20, 0, []⟩
def fm5 : Fm := ⟨7, false, 20, 0, [⟨⟨#[65]⟩, 0⟩, ⟨⟨#[66]⟩, 0⟩]⟩
theorem pa_A : paX (⟨#[112, 111, 115, 105, 116, 105, 111, 110, 32, 100, 105, 115, 99, 32, 53, 48, 40, 77, 41, 32, 65, 32, 66, 40, 77, 41]⟩ : ByteArray).data.toList = fmA ∧ paE (⟨#[112, 111, 115, 105, 116, 105, 111, 110, 32, 100, 105, 115, 99, 32, 53, 48, 40, 77, 41, 32, 65, 32, 66, 40, 77, 41]⟩ : ByteArray).data.toList = 0 := pa_found (by decide +kernel) (by decide +kernel)
theorem pa_0 : paX (⟨#[102, 108, 97, 116, 32, 51, 48]⟩ : ByteArray).data.toList = fm0 ∧ paE (⟨#[102, 108, 97, 116, 32, 51, 48]⟩ : ByteArray).data.toList = 0 := pa_found (by decide +kernel) (by decide +kernel)
theorem pa_1 : paX (⟨#[102, 108, 97, 116, 32, 100, 105, 115, 99, 32, 51, 48]⟩ : ByteArray).data.toList = fm1 ∧ paE (⟨#[102, 108, 97, 116, 32, 100, 105, 115, 99, 32, 51, 48]⟩ : ByteArray).data.toList = 0 := pa_found (by decide +kernel) (by decide +kernel)
theorem pa_2 : paX (⟨#[112, 111, 115, 105, 116, 105, 111, 110, 32, 48]⟩ : ByteArray).data.toList = fm2 ∧ paE (⟨#[112, 111, 115, 105, 116, 105, 111, 110, 32, 48]⟩ : ByteArray).data.toList = 0 := pa_found (by decide +kernel) (by decide +kernel)
theorem pa_3 : paX (⟨#[112, 111, 115, 105, 116, 105, 111, 110, 32, 48, 40, 77, 41, 32, 65]⟩ : ByteArray).data.toList = fm3 ∧ paE (⟨#[112, 111, 115, 105, 116, 105, 111, 110, 32, 48, 40, 77, 41, 32, 65]⟩ : ByteArray).data.toList = 0 := pa_found (by decide +kernel) (by decide +kernel)
theorem pa_4 : paX (⟨#[115, 113, 117, 97, 114, 101, 32, 50, 48]⟩ : ByteArray).data.toList = fm4 ∧ paE (⟨#[115, 113, 117, 97, 114, 101, 32, 50, 48]⟩ : ByteArray).data.toList = 0 := pa_found (by decide +kernel) (by decide +kernel)
theorem pa_5 : paX (⟨#[114, 117, 110, 111, 117, 116, 32, 50, 48, 32, 65, 32, 66]⟩ : ByteArray).data.toList = fm5 ∧ paE (⟨#[114, 117, 110, 111, 117, 116, 32, 50, 48, 32, 65, 32, 66]⟩ : ByteArray).data.toList = 0 := pa_found (by decide +kernel) (by decide +kernel)
theorem fc_0 : fcE holeF fm0 = 14 := by decide +kernel
theorem fc_1 : fcE holeF fm1 = 14 := by decide +kernel
theorem fc_2 : fcE holeF fm2 = 10 := by decide +kernel
theorem fc_3 : fcE holeF fm3 = 0 := by decide +kernel
theorem fc_4 : fcE holeF fm4 = 13 := by decide +kernel
theorem fc_5 : fcE holeF fm5 = 5 := by decide +kernel
theorem fc_p0 : fcE planeF fm0 = 0 := by decide +kernel
theorem fc_p1 : fcE planeF fm1 = 3 := by decide +kernel
theorem vi_h : viX holeF fmA = (950, 0) := by decide +kernel
theorem vi_p : viX pinF fmA = (1061, 0) := by decide +kernel
theorem bo_h : boX holeF fmA 1004 = (4, 0) := by decide +kernel
theorem bo_p : boX pinF fmA 1004 = (7, 0) := by decide +kernel
/-- The map of the law. -/
def awM : SMap := SMap.put (SMap.put (SMap.put (SMap.put (SMap.put (SMap.put ((fun _ => none)) ⟨#[102, 108, 97, 116, 32, 51, 48]⟩ (.int .i64 14)) ⟨#[102, 108, 97, 116, 32, 100, 105, 115, 99, 32, 51, 48]⟩ (.int .i64 14)) ⟨#[112, 111, 115, 105, 116, 105, 111, 110, 32, 48]⟩ (.int .i64 10)) ⟨#[112, 111, 115, 105, 116, 105, 111, 110, 32, 48, 40, 77, 41, 32, 65]⟩ (.int .i64 0)) ⟨#[115, 113, 117, 97, 114, 101, 32, 50, 48]⟩ (.int .i64 13)) ⟨#[114, 117, 110, 111, 117, 116, 32, 50, 48, 32, 65, 32, 66]⟩ (.int .i64 5)
theorem awM_cases {x : ByteArray} {c : Value} (h : awM x = some c) : ∃ y e, c = .int .i64 e ∧ paX x.data.toList = y ∧ paE x.data.toList = 0 ∧ fcE holeF y = e ∧ x.size ≤ 300 := by
  unfold awM SMap.put at h
  split at h
  · rename_i hx
    subst hx
    cases h
    exact ⟨fm5, _, rfl, pa_5.1, pa_5.2, fc_5, by decide⟩
  split at h
  · rename_i hx
    subst hx
    cases h
    exact ⟨fm4, _, rfl, pa_4.1, pa_4.2, fc_4, by decide⟩
  split at h
  · rename_i hx
    subst hx
    cases h
    exact ⟨fm3, _, rfl, pa_3.1, pa_3.2, fc_3, by decide⟩
  split at h
  · rename_i hx
    subst hx
    cases h
    exact ⟨fm2, _, rfl, pa_2.1, pa_2.2, fc_2, by decide⟩
  split at h
  · rename_i hx
    subst hx
    cases h
    exact ⟨fm1, _, rfl, pa_1.1, pa_1.2, fc_1, by decide⟩
  split at h
  · rename_i hx
    subst hx
    cases h
    exact ⟨fm0, _, rfl, pa_0.1, pa_0.2, fc_0, by decide⟩
  exact absurd h (by simp)
theorem set_step {w : World} {b : Nat} {cs : Array Value} {T : TypeId} (h : w.heap[b]? = some (.cells cs T (0, 0))) (i : Nat) (u : Value) (cs' : Array Value) (hc : cs.setIfInBounds i u = cs') : (w.setCell ⟨b, i, none⟩ u).heap[b]? = some (.cells cs' T (0, 0)) := by
  rw [← hc]; exact heap_setCell_same w b i cs T u h
theorem set9 (w : World) (b : Nat) (z0 z1 z2 z3 z4 z5 z6 z7 z8 x0 x1 x2 x3 x4 x5 x6 x7 x8 : Value) (T : TypeId) (h : w.heap[b]? = some (.cells #[z0, z1, z2, z3, z4, z5, z6, z7, z8] T (0, 0))) :
    ∃ w', (((((((((w.setCell ⟨b, 0, none⟩ x0).setCell ⟨b, 1, none⟩ x1).setCell ⟨b, 2, none⟩ x2).setCell ⟨b, 3, none⟩ x3).setCell ⟨b, 4, none⟩ x4).setCell ⟨b, 5, none⟩ x5).setCell ⟨b, 6, none⟩ x6).setCell ⟨b, 7, none⟩ x7).setCell ⟨b, 8, none⟩ x8) = w' ∧ Hid (Below b w w') ∧ Hid (∀ j, j ≠ b → w'.heap[j]? = w.heap[j]?) ∧ Hid (w'.heap[b]? = some (.cells #[x0, x1, x2, x3, x4, x5, x6, x7, x8] T (0, 0))) := by
  obtain ⟨v0, e0⟩ : ∃ v, w.setCell ⟨b, 0, none⟩ x0 = v := ⟨_, rfl⟩
  have w0 := set_step h 0 x0 #[x0, z1, z2, z3, z4, z5, z6, z7, z8] rfl
  have b0 := (Below.refl b w).setCell (p := ⟨b, 0, none⟩) (Nat.le_refl _) x0
  have k0 : ∀ j, j ≠ b → (w.setCell ⟨b, 0, none⟩ x0).heap[j]? = w.heap[j]? := fun j hj => (Below.heap_setCell w ⟨b, 0, none⟩ x0 j hj)
  rw [e0] at w0 b0 k0
  obtain ⟨v1, e1⟩ : ∃ v, v0.setCell ⟨b, 1, none⟩ x1 = v := ⟨_, rfl⟩
  have w1 := set_step w0 1 x1 #[x0, x1, z2, z3, z4, z5, z6, z7, z8] rfl
  have b1 := b0.setCell (p := ⟨b, 1, none⟩) (Nat.le_refl _) x1
  have k1 : ∀ j, j ≠ b → (v0.setCell ⟨b, 1, none⟩ x1).heap[j]? = w.heap[j]? := fun j hj => (Below.heap_setCell v0 ⟨b, 1, none⟩ x1 j hj).trans (k0 j hj)
  rw [e1] at w1 b1 k1
  obtain ⟨v2, e2⟩ : ∃ v, v1.setCell ⟨b, 2, none⟩ x2 = v := ⟨_, rfl⟩
  have w2 := set_step w1 2 x2 #[x0, x1, x2, z3, z4, z5, z6, z7, z8] rfl
  have b2 := b1.setCell (p := ⟨b, 2, none⟩) (Nat.le_refl _) x2
  have k2 : ∀ j, j ≠ b → (v1.setCell ⟨b, 2, none⟩ x2).heap[j]? = w.heap[j]? := fun j hj => (Below.heap_setCell v1 ⟨b, 2, none⟩ x2 j hj).trans (k1 j hj)
  rw [e2] at w2 b2 k2
  obtain ⟨v3, e3⟩ : ∃ v, v2.setCell ⟨b, 3, none⟩ x3 = v := ⟨_, rfl⟩
  have w3 := set_step w2 3 x3 #[x0, x1, x2, x3, z4, z5, z6, z7, z8] rfl
  have b3 := b2.setCell (p := ⟨b, 3, none⟩) (Nat.le_refl _) x3
  have k3 : ∀ j, j ≠ b → (v2.setCell ⟨b, 3, none⟩ x3).heap[j]? = w.heap[j]? := fun j hj => (Below.heap_setCell v2 ⟨b, 3, none⟩ x3 j hj).trans (k2 j hj)
  rw [e3] at w3 b3 k3
  obtain ⟨v4, e4⟩ : ∃ v, v3.setCell ⟨b, 4, none⟩ x4 = v := ⟨_, rfl⟩
  have w4 := set_step w3 4 x4 #[x0, x1, x2, x3, x4, z5, z6, z7, z8] rfl
  have b4 := b3.setCell (p := ⟨b, 4, none⟩) (Nat.le_refl _) x4
  have k4 : ∀ j, j ≠ b → (v3.setCell ⟨b, 4, none⟩ x4).heap[j]? = w.heap[j]? := fun j hj => (Below.heap_setCell v3 ⟨b, 4, none⟩ x4 j hj).trans (k3 j hj)
  rw [e4] at w4 b4 k4
  obtain ⟨v5, e5⟩ : ∃ v, v4.setCell ⟨b, 5, none⟩ x5 = v := ⟨_, rfl⟩
  have w5 := set_step w4 5 x5 #[x0, x1, x2, x3, x4, x5, z6, z7, z8] rfl
  have b5 := b4.setCell (p := ⟨b, 5, none⟩) (Nat.le_refl _) x5
  have k5 : ∀ j, j ≠ b → (v4.setCell ⟨b, 5, none⟩ x5).heap[j]? = w.heap[j]? := fun j hj => (Below.heap_setCell v4 ⟨b, 5, none⟩ x5 j hj).trans (k4 j hj)
  rw [e5] at w5 b5 k5
  obtain ⟨v6, e6⟩ : ∃ v, v5.setCell ⟨b, 6, none⟩ x6 = v := ⟨_, rfl⟩
  have w6 := set_step w5 6 x6 #[x0, x1, x2, x3, x4, x5, x6, z7, z8] rfl
  have b6 := b5.setCell (p := ⟨b, 6, none⟩) (Nat.le_refl _) x6
  have k6 : ∀ j, j ≠ b → (v5.setCell ⟨b, 6, none⟩ x6).heap[j]? = w.heap[j]? := fun j hj => (Below.heap_setCell v5 ⟨b, 6, none⟩ x6 j hj).trans (k5 j hj)
  rw [e6] at w6 b6 k6
  obtain ⟨v7, e7⟩ : ∃ v, v6.setCell ⟨b, 7, none⟩ x7 = v := ⟨_, rfl⟩
  have w7 := set_step w6 7 x7 #[x0, x1, x2, x3, x4, x5, x6, x7, z8] rfl
  have b7 := b6.setCell (p := ⟨b, 7, none⟩) (Nat.le_refl _) x7
  have k7 : ∀ j, j ≠ b → (v6.setCell ⟨b, 7, none⟩ x7).heap[j]? = w.heap[j]? := fun j hj => (Below.heap_setCell v6 ⟨b, 7, none⟩ x7 j hj).trans (k6 j hj)
  rw [e7] at w7 b7 k7
  obtain ⟨v8, e8⟩ : ∃ v, v7.setCell ⟨b, 8, none⟩ x8 = v := ⟨_, rfl⟩
  have w8 := set_step w7 8 x8 #[x0, x1, x2, x3, x4, x5, x6, x7, x8] rfl
  have b8 := b7.setCell (p := ⟨b, 8, none⟩) (Nat.le_refl _) x8
  have k8 : ∀ j, j ≠ b → (v7.setCell ⟨b, 8, none⟩ x8).heap[j]? = w.heap[j]? := fun j hj => (Below.heap_setCell v7 ⟨b, 8, none⟩ x8 j hj).trans (k7 j hj)
  rw [e8] at w8 b8 k8
  refine ⟨v8, ?_, b8, k8, w8⟩
  rw [e0, e1, e2, e3, e4, e5, e6, e7, e8]
set_option maxRecDepth 100000 in
set_option maxHeartbeats 4000000 in
theorem hole_any (w : World) (R : Ending → World → Prop) (hR : ∀ w', Below w.heap.size w w' → R (.returned (ftV holeF none 0)) w') :
    Calls Tryz.prog 38 #[] w R := by
  have HR := Lib.hid hR
  clear hR
  obtain ⟨w1, E1, HB1, s1, X1⟩ := box_ex w #[.string ⟨#[]⟩, .int .i64 0, .int .i64 0, .int .i64 0, .int .i64 0, .int .i64 0, .int .i64 0, .int .i64 0, .slice none 0 0] 28
  obtain ⟨w2, E2, HB2, K2, X2⟩ := set9 w1 w.heap.size _ _ _ _ _ _ _ _ _ (.string ⟨#[72]⟩) (.int .i64 1) (.int .i64 2) (.int .i64 5000) (.int .i64 0) (.int .i64 0) (.int .i64 1000) (.int .i64 1011) (.slice none 0 0) _ X1.out
  have z0 := cell_at X1.out (j := 0) (v := .string ⟨#[]⟩) rfl
  have f0 := frozen_at X1.out 0
  have v0 := cell_at X2.out (j := 0) (v := .string ⟨#[72]⟩) rfl
  have z1 := cell_at X1.out (j := 1) (v := .int .i64 0) rfl
  have f1 := frozen_at X1.out 1
  have v1 := cell_at X2.out (j := 1) (v := .int .i64 1) rfl
  have z2 := cell_at X1.out (j := 2) (v := .int .i64 0) rfl
  have f2 := frozen_at X1.out 2
  have v2 := cell_at X2.out (j := 2) (v := .int .i64 2) rfl
  have z3 := cell_at X1.out (j := 3) (v := .int .i64 0) rfl
  have f3 := frozen_at X1.out 3
  have v3 := cell_at X2.out (j := 3) (v := .int .i64 5000) rfl
  have z4 := cell_at X1.out (j := 4) (v := .int .i64 0) rfl
  have f4 := frozen_at X1.out 4
  have v4 := cell_at X2.out (j := 4) (v := .int .i64 0) rfl
  have z5 := cell_at X1.out (j := 5) (v := .int .i64 0) rfl
  have f5 := frozen_at X1.out 5
  have v5 := cell_at X2.out (j := 5) (v := .int .i64 0) rfl
  have z6 := cell_at X1.out (j := 6) (v := .int .i64 0) rfl
  have f6 := frozen_at X1.out 6
  have v6 := cell_at X2.out (j := 6) (v := .int .i64 1000) rfl
  have z7 := cell_at X1.out (j := 7) (v := .int .i64 0) rfl
  have f7 := frozen_at X1.out 7
  have v7 := cell_at X2.out (j := 7) (v := .int .i64 1011) rfl
  have z8 := cell_at X1.out (j := 8) (v := .slice none 0 0) rfl
  have f8 := frozen_at X1.out 8
  have v8 := cell_at X2.out (j := 8) (v := .slice none 0 0) rfl
  have B2 : Hid (Below w.heap.size w w2) := HB1.out.trans HB2.out
  go_enter Tryz.func38, Tryz.ntmps38
  go_wp2_with (first | rw [E1] | rw [E2])
  refine bodyPost_ret (v := ftV holeF none 0) (by simp [results, Tryz.results38, go_sem, v0, v1, v2, v3, v4, v5, v6, v7, v8, ftV, holeF]) rfl ?_
  exact HR.out _ B2.out
end Go.Proofs.YtciokmjhdbcmpaaGreatDoor
namespace Go.Proofs.YtciokmjhdbcmpaaGreatDoor
open Go.RowKit Go.Maps

theorem key_inv {P : Program} {k : TypeId} (hk : P.underlying k = some .string) {key : Value} {kl : Lit} (h : keyOf P k key = some kl) : ∃ s : ByteArray, key = .string s ∧ kl = keyL s := by
  cases key <;> simp [keyOf, hk, mapKey] at h
  rename_i s
  exact ⟨s, rfl, h.2.symm⟩
set_option maxRecDepth 100000 in
set_option maxHeartbeats 16000000 in
theorem awake19_any (w : World) (R : Ending → World → Prop) (hE : Env w) (hR : ∀ w', Below w.heap.size w w' → R (.returned (.bool true)) w') :
    Calls Tryz.prog 12 #[] w R := by
  have HR := Lib.hid hR
  have HEV := Lib.hid hE
  clear hR hE
  have hmm := @run_makeMap Tryz.prog
  have HFH : ftV holeF none 0 = .agg #[.string ⟨#[72]⟩, .int .i64 1, .int .i64 2, .int .i64 5000, .int .i64 0, .int .i64 0, .int .i64 1000, .int .i64 1011, .slice none 0 0] := rfl
  have HFP : ftV pinF none 0 = .agg #[.string ⟨#[72]⟩, .int .i64 2, .int .i64 2, .int .i64 5000, .int .i64 0, .int .i64 0, .int .i64 1000, .int .i64 1011, .slice none 0 0] := rfl
  have HFL : ftV planeF none 0 = .agg #[.string ⟨#[80]⟩, .int .i64 0, .int .i64 0, .int .i64 0, .int .i64 0, .int .i64 0, .int .i64 0, .int .i64 0, .slice none 0 0] := rfl
  have HFHh := Lib.hid HFH
  have HFPh := Lib.hid HFP
  have HFLh := Lib.hid HFL
  clear HFH HFP HFL
  go_enter Tryz.func12, Tryz.ntmps12
  go_wp2_with fail
  refine hole_any _ _ fun w1 hb => ?_
  have B1 := Lib.hid hb
  clear hb
  rw [HFHh.out]
  go_wp2_with fail
  refine hole_any _ _ fun w2 hb => ?_
  have B2 : Hid (Below w.heap.size w w2) := B1.out.trans (hb.mono B1.out.size)
  clear hb
  rw [HFHh.out]
  obtain ⟨wa, Ea, HBa, sa, Xa⟩ := box_ex w2 #[.string ⟨#[]⟩, .int .i64 0, .int .i64 0, .int .i64 0, .int .i64 0, .int .i64 0, .int .i64 0, .int .i64 0, .slice none 0 0] 28
  obtain ⟨wb, Eb, HBb, sb, Xb⟩ := box_ex wa #[.string ⟨#[]⟩, .int .i64 0, .int .i64 0, .int .i64 0, .int .i64 0, .int .i64 0, .int .i64 0, .int .i64 0, .slice none 0 0] 28
  have Xab := Lib.hid ((HBb.out.block _ sa).trans Xa.out)
  obtain ⟨wc, Ec, HBc, Kc, Xc⟩ := set9 wb w2.heap.size _ _ _ _ _ _ _ _ _ (.string ⟨#[72]⟩) (.int .i64 1) (.int .i64 2) (.int .i64 5000) (.int .i64 0) (.int .i64 0) (.int .i64 1000) (.int .i64 1011) (.slice none 0 0) _ Xab.out
  have Xbc := Lib.hid ((Kc.out wa.heap.size (by omega)).trans Xb.out)
  obtain ⟨wd, Ed, HBd, Kd, Xd⟩ := set9 wc wa.heap.size _ _ _ _ _ _ _ _ _ (.string ⟨#[72]⟩) (.int .i64 1) (.int .i64 2) (.int .i64 5000) (.int .i64 0) (.int .i64 0) (.int .i64 1000) (.int .i64 1011) (.slice none 0 0) _ Xbc.out
  have Xcd := Lib.hid ((Kd.out w2.heap.size (by omega)).trans Xc.out)
  obtain ⟨we, Ee⟩ : ∃ v, wd.setCell ⟨wa.heap.size, 1, none⟩ (.int .i64 2) = v := ⟨_, rfl⟩
  have Xpin : Hid (we.heap[wa.heap.size]? = some (.cells #[.string ⟨#[72]⟩, .int .i64 2, .int .i64 2, .int .i64 5000, .int .i64 0, .int .i64 0, .int .i64 1000, .int .i64 1011, .slice none 0 0] 28 (0, 0))) := by unfold Hid; rw [← Ee]; exact set_step Xd.out 1 _ _ rfl
  have Xhole : Hid (we.heap[w2.heap.size]? = some (.cells #[.string ⟨#[72]⟩, .int .i64 1, .int .i64 2, .int .i64 5000, .int .i64 0, .int .i64 0, .int .i64 1000, .int .i64 1011, .slice none 0 0] 28 (0, 0))) := by unfold Hid; rw [← Ee]; exact (Below.heap_setCell wd ⟨wa.heap.size, 1, none⟩ _ w2.heap.size (Nat.ne_of_lt sa)).trans Xcd.out
  have Be : Hid (Below w.heap.size w we) := by
    have h1 : Below w.heap.size w wb := (B2.out.trans (HBa.out.mono B2.out.size)).trans (HBb.out.mono (Nat.le_trans B2.out.size (Nat.le_of_lt sa)))
    have h2 := (h1.trans (HBc.out.mono B2.out.size)).trans (HBd.out.mono (Nat.le_trans B2.out.size (Nat.le_of_lt sa)))
    unfold Hid
    rw [← Ee]
    exact h2.setCell (p := ⟨wa.heap.size, 1, none⟩) (Nat.le_trans B2.out.size (Nat.le_of_lt sa)) _
  have hs2 : w.heap.size ≤ w2.heap.size := B2.out.size
  have za0 := cell_at Xab.out (j := 0) (v := .string ⟨#[]⟩) rfl
  have fa0 := frozen_at Xab.out 0
  have zb0 := cell_at Xbc.out (j := 0) (v := .string ⟨#[]⟩) rfl
  have fb0 := frozen_at Xbc.out 0
  have za1 := cell_at Xab.out (j := 1) (v := .int .i64 0) rfl
  have fa1 := frozen_at Xab.out 1
  have zb1 := cell_at Xbc.out (j := 1) (v := .int .i64 0) rfl
  have fb1 := frozen_at Xbc.out 1
  have za2 := cell_at Xab.out (j := 2) (v := .int .i64 0) rfl
  have fa2 := frozen_at Xab.out 2
  have zb2 := cell_at Xbc.out (j := 2) (v := .int .i64 0) rfl
  have fb2 := frozen_at Xbc.out 2
  have za3 := cell_at Xab.out (j := 3) (v := .int .i64 0) rfl
  have fa3 := frozen_at Xab.out 3
  have zb3 := cell_at Xbc.out (j := 3) (v := .int .i64 0) rfl
  have fb3 := frozen_at Xbc.out 3
  have za4 := cell_at Xab.out (j := 4) (v := .int .i64 0) rfl
  have fa4 := frozen_at Xab.out 4
  have zb4 := cell_at Xbc.out (j := 4) (v := .int .i64 0) rfl
  have fb4 := frozen_at Xbc.out 4
  have za5 := cell_at Xab.out (j := 5) (v := .int .i64 0) rfl
  have fa5 := frozen_at Xab.out 5
  have zb5 := cell_at Xbc.out (j := 5) (v := .int .i64 0) rfl
  have fb5 := frozen_at Xbc.out 5
  have za6 := cell_at Xab.out (j := 6) (v := .int .i64 0) rfl
  have fa6 := frozen_at Xab.out 6
  have zb6 := cell_at Xbc.out (j := 6) (v := .int .i64 0) rfl
  have fb6 := frozen_at Xbc.out 6
  have za7 := cell_at Xab.out (j := 7) (v := .int .i64 0) rfl
  have fa7 := frozen_at Xab.out 7
  have zb7 := cell_at Xbc.out (j := 7) (v := .int .i64 0) rfl
  have fb7 := frozen_at Xbc.out 7
  have za8 := cell_at Xab.out (j := 8) (v := .slice none 0 0) rfl
  have fa8 := frozen_at Xab.out 8
  have zb8 := cell_at Xbc.out (j := 8) (v := .slice none 0 0) rfl
  have fb8 := frozen_at Xbc.out 8
  have zd1 := cell_at Xd.out (j := 1) (v := .int .i64 1) rfl
  have fd1 := frozen_at Xd.out 1
  go_wp2_with (first | rw [Ea] | rw [Eb] | rw [Ec] | rw [Ed] | rw [Ee])
  have hlt12 : w2.heap.size < wa.heap.size := sa
  obtain ⟨A1, hA1⟩ : ∃ A, w2.heap.size = A := ⟨_, rfl⟩
  obtain ⟨A2, hA2⟩ : ∃ A, wa.heap.size = A := ⟨_, rfl⟩
  rw [hA1] at Xhole hlt12 hs2 ⊢
  rw [hA2] at Xpin hlt12 ⊢
  clear hA1 hA2 Ea Eb Ec Ed Ee za0 fa0 zb0 fb0 za1 fa1 zb1 fb1 za2 fa2 zb2 fb2 za3 fa3 zb3 fb3 za4 fa4 zb4 fb4 za5 fa5 zb5 fb5 za6 fa6 zb6 fb6 za7 fa7 zb7 fb7 za8 fa8 zb8 fb8 zd1 fd1 Xd Xcd Xbc Xab Xa Xb Xc HBa HBb HBc HBd Kc Kd sa sb
  have Hwe := Xhole
  have Qwe := Xpin
  have Bwe := Be
  clear Xhole Xpin Be
  refine fparse_any ⟨#[112, 111, 115, 105, 116, 105, 111, 110, 32, 100, 105, 115, 99, 32, 53, 48, 40, 77, 41, 32, 65, 32, 66, 40, 77, 41]⟩ _ _ (by decide) (HEV.out.below Bwe.out) fun daw4 dcw4 pw4 hb hok => ?_
  rw [pa_A.1] at hok
  rw [pa_A.1, pa_A.2]
  have BPw4 : Hid (Below w.heap.size w pw4) := Bwe.out.trans (hb.mono Bwe.out.size)
  have HVw4 : Hid (fmV fmA daw4 dcw4 = .agg #[.int .i64 8, .bool true, .int .i64 50, .int .i64 1, .slice daw4 2 dcw4]) := rfl
  rw [HVw4.out]
  obtain ⟨w4, Ew4, HBw4, sw4, Xw4⟩ := box_ex pw4 #[.int .i64 8, .bool true, .int .i64 50, .int .i64 1, .slice daw4 2 dcw4] 31
  have Bw4 : Hid (Below w.heap.size w w4) := BPw4.out.trans (HBw4.out.mono BPw4.out.size)
  have BBw4 : Hid (Below we.heap.size we w4) := hb.trans (HBw4.out.mono hb.size)
  have Fw4 := Lib.hid (hok.below HBw4.out)
  have Hw4 := Lib.hid ((BBw4.out.block _ (lt_of_block Hwe.out)).trans Hwe.out)
  have Qw4 := Lib.hid ((BBw4.out.block _ (lt_of_block Qwe.out)).trans Qwe.out)
  clear hb hok
  obtain ⟨bd, od, eda, hbd, hdc⟩ := Fw4.out.cells.dts (by decide)
  subst eda
  obtain ⟨g0, g1⟩ := hdc 1 (by decide)
  have g0 : w4.cell? ⟨bd, od + 2, none⟩ = some (.string ⟨#[66]⟩) := g0
  have g1 : w4.cell? ⟨bd, od + 2 + 1, none⟩ = some (.int .i64 1) := g1
  clear hdc
  have h0 := cell_at Hw4.out (j := 0) (v := .string ⟨#[72]⟩) rfl
  have h1 := cell_at Hw4.out (j := 1) (v := .int .i64 1) rfl
  have h2 := cell_at Hw4.out (j := 2) (v := .int .i64 2) rfl
  have h3 := cell_at Hw4.out (j := 3) (v := .int .i64 5000) rfl
  have h4 := cell_at Hw4.out (j := 4) (v := .int .i64 0) rfl
  have h5 := cell_at Hw4.out (j := 5) (v := .int .i64 0) rfl
  have h6 := cell_at Hw4.out (j := 6) (v := .int .i64 1000) rfl
  have h7 := cell_at Hw4.out (j := 7) (v := .int .i64 1011) rfl
  have h8 := cell_at Hw4.out (j := 8) (v := .slice none 0 0) rfl
  have x0 := cell_at Xw4.out (j := 0) (v := .int .i64 8) rfl
  have x1 := cell_at Xw4.out (j := 1) (v := .bool true) rfl
  have x2 := cell_at Xw4.out (j := 2) (v := .int .i64 50) rfl
  have x3 := cell_at Xw4.out (j := 3) (v := .int .i64 1) rfl
  have x4 := cell_at Xw4.out (j := 4) (v := .slice (some ⟨bd, od, none⟩) 2 dcw4) rfl
  go_wp2_with (first | (refine wp_storeNew _ 31 (.tmp 3) (.tmp 25) _ #[.int .i64 8, .bool true, .int .i64 50, .int .i64 1, .slice daw4 2 dcw4] rfl rfl rfl rfl (by kernel_rfl) (by kernel_rfl) (by rfl) ?_; rw [Ew4]) | fail)
  rw [← HFHh.out, ← HVw4.out]
  refine virtual_any holeF none 0 fmA (some ⟨bd, od, none⟩) dcw4 _ _ (FtOk.bare _ _ rfl (by decide)) Fw4.out fun w5 hb => ?_
  rw [vi_h]
  have Bw5 : Hid (Below w.heap.size w w5) := Bw4.out.trans (hb.mono Bw4.out.size)
  have Hw5 := Lib.hid ((hb.block _ (lt_of_block Hw4.out)).trans Hw4.out)
  have Qw5 := Lib.hid ((hb.block _ (lt_of_block Qw4.out)).trans Qw4.out)
  have Xw5 := Lib.hid ((hb.block _ (lt_of_block Xw4.out)).trans Xw4.out)
  have Fw5 := Lib.hid (Fw4.out.below hb)
  have i0 := cellB hb g0 (lt_of_cell g0)
  have i1 := cellB hb g1 (lt_of_cell g1)
  clear hb g0 g1 h0 h1 h2 h3 h4 h5 h6 h7 h8 x0 x1 x2 x3 x4
  have g0 := i0
  have g1 := i1
  clear i0 i1
  have h0 := cell_at Qw5.out (j := 0) (v := .string ⟨#[72]⟩) rfl
  have h1 := cell_at Qw5.out (j := 1) (v := .int .i64 2) rfl
  have h2 := cell_at Qw5.out (j := 2) (v := .int .i64 2) rfl
  have h3 := cell_at Qw5.out (j := 3) (v := .int .i64 5000) rfl
  have h4 := cell_at Qw5.out (j := 4) (v := .int .i64 0) rfl
  have h5 := cell_at Qw5.out (j := 5) (v := .int .i64 0) rfl
  have h6 := cell_at Qw5.out (j := 6) (v := .int .i64 1000) rfl
  have h7 := cell_at Qw5.out (j := 7) (v := .int .i64 1011) rfl
  have h8 := cell_at Qw5.out (j := 8) (v := .slice none 0 0) rfl
  have x0 := cell_at Xw5.out (j := 0) (v := .int .i64 8) rfl
  have x1 := cell_at Xw5.out (j := 1) (v := .bool true) rfl
  have x2 := cell_at Xw5.out (j := 2) (v := .int .i64 50) rfl
  have x3 := cell_at Xw5.out (j := 3) (v := .int .i64 1) rfl
  have x4 := cell_at Xw5.out (j := 4) (v := .slice (some ⟨bd, od, none⟩) 2 dcw4) rfl
  go_wp2_with fail
  rw [← HFPh.out, ← HVw4.out]
  refine virtual_any pinF none 0 fmA (some ⟨bd, od, none⟩) dcw4 _ _ (FtOk.bare _ _ rfl (by decide)) Fw5.out fun w6 hb => ?_
  rw [vi_p]
  have Bw6 : Hid (Below w.heap.size w w6) := Bw5.out.trans (hb.mono Bw5.out.size)
  have Hw6 := Lib.hid ((hb.block _ (lt_of_block Hw5.out)).trans Hw5.out)
  have Qw6 := Lib.hid ((hb.block _ (lt_of_block Qw5.out)).trans Qw5.out)
  have Xw6 := Lib.hid ((hb.block _ (lt_of_block Xw5.out)).trans Xw5.out)
  have Fw6 := Lib.hid (Fw5.out.below hb)
  have i0 := cellB hb g0 (lt_of_cell g0)
  have i1 := cellB hb g1 (lt_of_cell g1)
  clear hb g0 g1 h0 h1 h2 h3 h4 h5 h6 h7 h8 x0 x1 x2 x3 x4
  have g0 := i0
  have g1 := i1
  clear i0 i1
  have h0 := cell_at Hw6.out (j := 0) (v := .string ⟨#[72]⟩) rfl
  have h1 := cell_at Hw6.out (j := 1) (v := .int .i64 1) rfl
  have h2 := cell_at Hw6.out (j := 2) (v := .int .i64 2) rfl
  have h3 := cell_at Hw6.out (j := 3) (v := .int .i64 5000) rfl
  have h4 := cell_at Hw6.out (j := 4) (v := .int .i64 0) rfl
  have h5 := cell_at Hw6.out (j := 5) (v := .int .i64 0) rfl
  have h6 := cell_at Hw6.out (j := 6) (v := .int .i64 1000) rfl
  have h7 := cell_at Hw6.out (j := 7) (v := .int .i64 1011) rfl
  have h8 := cell_at Hw6.out (j := 8) (v := .slice none 0 0) rfl
  have x0 := cell_at Xw6.out (j := 0) (v := .int .i64 8) rfl
  have x1 := cell_at Xw6.out (j := 1) (v := .bool true) rfl
  have x2 := cell_at Xw6.out (j := 2) (v := .int .i64 50) rfl
  have x3 := cell_at Xw6.out (j := 3) (v := .int .i64 1) rfl
  have x4 := cell_at Xw6.out (j := 4) (v := .slice (some ⟨bd, od, none⟩) 2 dcw4) rfl
  go_wp2_with fail
  rw [← HFHh.out, ← HVw4.out]
  refine bonus_any holeF none 0 fmA (some ⟨bd, od, none⟩) dcw4 1004 _ _ (FtOk.bare _ _ rfl (by decide)) Fw6.out fun w7 hb => ?_
  rw [bo_h]
  have Bw7 : Hid (Below w.heap.size w w7) := Bw6.out.trans (hb.mono Bw6.out.size)
  have Hw7 := Lib.hid ((hb.block _ (lt_of_block Hw6.out)).trans Hw6.out)
  have Qw7 := Lib.hid ((hb.block _ (lt_of_block Qw6.out)).trans Qw6.out)
  have Xw7 := Lib.hid ((hb.block _ (lt_of_block Xw6.out)).trans Xw6.out)
  have Fw7 := Lib.hid (Fw6.out.below hb)
  have i0 := cellB hb g0 (lt_of_cell g0)
  have i1 := cellB hb g1 (lt_of_cell g1)
  clear hb g0 g1 h0 h1 h2 h3 h4 h5 h6 h7 h8 x0 x1 x2 x3 x4
  have g0 := i0
  have g1 := i1
  clear i0 i1
  have h0 := cell_at Qw7.out (j := 0) (v := .string ⟨#[72]⟩) rfl
  have h1 := cell_at Qw7.out (j := 1) (v := .int .i64 2) rfl
  have h2 := cell_at Qw7.out (j := 2) (v := .int .i64 2) rfl
  have h3 := cell_at Qw7.out (j := 3) (v := .int .i64 5000) rfl
  have h4 := cell_at Qw7.out (j := 4) (v := .int .i64 0) rfl
  have h5 := cell_at Qw7.out (j := 5) (v := .int .i64 0) rfl
  have h6 := cell_at Qw7.out (j := 6) (v := .int .i64 1000) rfl
  have h7 := cell_at Qw7.out (j := 7) (v := .int .i64 1011) rfl
  have h8 := cell_at Qw7.out (j := 8) (v := .slice none 0 0) rfl
  have x0 := cell_at Xw7.out (j := 0) (v := .int .i64 8) rfl
  have x1 := cell_at Xw7.out (j := 1) (v := .bool true) rfl
  have x2 := cell_at Xw7.out (j := 2) (v := .int .i64 50) rfl
  have x3 := cell_at Xw7.out (j := 3) (v := .int .i64 1) rfl
  have x4 := cell_at Xw7.out (j := 4) (v := .slice (some ⟨bd, od, none⟩) 2 dcw4) rfl
  go_wp2_with fail
  rw [← HFPh.out, ← HVw4.out]
  refine bonus_any pinF none 0 fmA (some ⟨bd, od, none⟩) dcw4 1004 _ _ (FtOk.bare _ _ rfl (by decide)) Fw7.out fun w8 hb => ?_
  rw [bo_p]
  have Bw8 : Hid (Below w.heap.size w w8) := Bw7.out.trans (hb.mono Bw7.out.size)
  have Hw8 := Lib.hid ((hb.block _ (lt_of_block Hw7.out)).trans Hw7.out)
  have Qw8 := Lib.hid ((hb.block _ (lt_of_block Qw7.out)).trans Qw7.out)
  have Xw8 := Lib.hid ((hb.block _ (lt_of_block Xw7.out)).trans Xw7.out)
  have Fw8 := Lib.hid (Fw7.out.below hb)
  have i0 := cellB hb g0 (lt_of_cell g0)
  have i1 := cellB hb g1 (lt_of_cell g1)
  clear hb g0 g1 h0 h1 h2 h3 h4 h5 h6 h7 h8 x0 x1 x2 x3 x4
  have g0 := i0
  have g1 := i1
  clear i0 i1
  have x0 := cell_at Xw8.out (j := 0) (v := .int .i64 8) rfl
  have x1 := cell_at Xw8.out (j := 1) (v := .bool true) rfl
  have x2 := cell_at Xw8.out (j := 2) (v := .int .i64 50) rfl
  have x3 := cell_at Xw8.out (j := 3) (v := .int .i64 1) rfl
  have x4 := cell_at Xw8.out (j := 4) (v := .slice (some ⟨bd, od, none⟩) 2 dcw4) rfl
  have M0 : Hid (MapIs Tryz.prog 9 (w8.alloc (.map #[] 0)) w8.heap.size 0 (fun _ => none)) := mapIs_made w8
  have G0 : Hid (Below w8.heap.size w8 (w8.alloc (.map #[] 0))) := (Below.refl _ _).alloc (Nat.le_refl _) _
  go_wp2_with (first | (refine wp_mapInsert _ rfl _ _ _ 78 rfl 9 35 Tryz.underlying9 Tryz.underlying78 w8.heap.size 0 _ rfl M0.out (by decide) ⟨#[102, 108, 97, 116, 32, 51, 48]⟩ (.int .i64 14) rfl rfl (by decide) ?_; intro m1 hm hg; have M1 := Lib.hid hm; have G1 : Hid (Below w8.heap.size w8 m1) := G0.out.grown hg G0.out.size (fun j e => by cases e; exact Nat.le_refl _); clear hm hg M0) | (refine wp_mapInsert _ rfl _ _ _ 78 rfl 9 35 Tryz.underlying9 Tryz.underlying78 w8.heap.size 1 _ rfl M1.out (by decide) ⟨#[102, 108, 97, 116, 32, 100, 105, 115, 99, 32, 51, 48]⟩ (.int .i64 14) rfl rfl (by decide) ?_; intro m2 hm hg; have M2 := Lib.hid hm; have G2 : Hid (Below w8.heap.size w8 m2) := G1.out.grown hg G1.out.size (fun j e => by cases e; exact Nat.le_refl _); clear hm hg M1) | (refine wp_mapInsert _ rfl _ _ _ 78 rfl 9 35 Tryz.underlying9 Tryz.underlying78 w8.heap.size 2 _ rfl M2.out (by decide) ⟨#[112, 111, 115, 105, 116, 105, 111, 110, 32, 48]⟩ (.int .i64 10) rfl rfl (by decide) ?_; intro m3 hm hg; have M3 := Lib.hid hm; have G3 : Hid (Below w8.heap.size w8 m3) := G2.out.grown hg G2.out.size (fun j e => by cases e; exact Nat.le_refl _); clear hm hg M2) | (refine wp_mapInsert _ rfl _ _ _ 78 rfl 9 35 Tryz.underlying9 Tryz.underlying78 w8.heap.size 3 _ rfl M3.out (by decide) ⟨#[112, 111, 115, 105, 116, 105, 111, 110, 32, 48, 40, 77, 41, 32, 65]⟩ (.int .i64 0) rfl rfl (by decide) ?_; intro m4 hm hg; have M4 := Lib.hid hm; have G4 : Hid (Below w8.heap.size w8 m4) := G3.out.grown hg G3.out.size (fun j e => by cases e; exact Nat.le_refl _); clear hm hg M3) | (refine wp_mapInsert _ rfl _ _ _ 78 rfl 9 35 Tryz.underlying9 Tryz.underlying78 w8.heap.size 4 _ rfl M4.out (by decide) ⟨#[115, 113, 117, 97, 114, 101, 32, 50, 48]⟩ (.int .i64 13) rfl rfl (by decide) ?_; intro m5 hm hg; have M5 := Lib.hid hm; have G5 : Hid (Below w8.heap.size w8 m5) := G4.out.grown hg G4.out.size (fun j e => by cases e; exact Nat.le_refl _); clear hm hg M4) | (refine wp_mapInsert _ rfl _ _ _ 78 rfl 9 35 Tryz.underlying9 Tryz.underlying78 w8.heap.size 5 _ rfl M5.out (by decide) ⟨#[114, 117, 110, 111, 117, 116, 32, 50, 48, 32, 65, 32, 66]⟩ (.int .i64 5) rfl rfl (by decide) ?_; intro m6 hm hg; have M6 := Lib.hid hm; have G6 : Hid (Below w8.heap.size w8 m6) := G5.out.grown hg G5.out.size (fun j e => by cases e; exact Nat.le_refl _); have hMx : MapIs Tryz.prog 9 m6 w8.heap.size 6 awM := hm; obtain ⟨D, hown, hview⟩ := hMx; have HVIEW := Lib.hid hview; clear hview; clear hm hg M5) | (at_range; refine wpList_range_own _ rfl _ 78 rfl 9 35 (string_keyed Tryz.underlying9) Tryz.underlying78 _ w8.heap.size 6 D rfl hown ?_; intro w0 hrg0 hg0 hs0))
  go_frame
  have Hm6 := Lib.hid ((G6.out.block _ (lt_of_block Hw8.out)).trans Hw8.out)
  have Hw0 := Lib.hid ((hg0.block _ (lt_of_block Hm6.out) (by simp)).trans Hm6.out)
  have Bm6 : Hid (Below w.heap.size w m6) := Bw8.out.trans (G6.out.mono Bw8.out.size)
  have Bw0 : Hid (Below w.heap.size w w0) := Bm6.out.trans ⟨hg0.os, hg0.tape, hg0.output, hg0.size, fun i hi => hg0.block i (Nat.lt_of_lt_of_le hi Bm6.out.size) (by simp)⟩
  have hsz0 : m6.heap.size ≤ w0.heap.size := hg0.size
  have hA1m := lt_of_block Hm6.out
  clear hown hg0 hs0 g0 g1 x0 x1 x2 x3 x4
  go_loopw [] (fun wr => ∃ left cnt, wr.ranges Tryz.prog 9 heldR w8.heap.size m6.heap.size 6 D left cnt ∧ Hid (Below m6.heap.size w0 wr)) (fun wr => wr.rangeLeft w8.heap.size m6.heap.size)
  case atStart => exact ⟨_, _, hrg0, Below.refl _ _⟩
  case round =>
    clear hrg0
    obtain ⟨left, cnt, hrg, HB⟩ := hrel
    have Hwr := Lib.hid ((HB.out.block _ hA1m).trans Hw0.out)
    have Bwr : Hid (Below w.heap.size w wr) := Bw0.out.trans (HB.out.mono Bm6.out.size)
    have HRG := Lib.hid hrg
    go_wp2_with (first | (at_next; refine wpList_next_ranges _ rfl _ rfl 9 (string_keyed Tryz.underlying9) heldR Value.string (fun v : Value => v) (fun key kl hk => by obtain ⟨s, e, _⟩ := key_inv Tryz.underlying9 hk; exact ⟨s, e⟩) (fun v y _ => ⟨v, rfl⟩) w8.heap.size m6.heap.size 6 D _ _ rfl HRG.out ?_ ?_) | fail)
    · intro hc0 hl0
      clear hrg hc0 hl0 HRG
      obtain ⟨wx, Ex, HBx, sx, Xx⟩ := box_ex wr #[.string ⟨#[]⟩, .int .i64 0, .int .i64 0, .int .i64 0, .int .i64 0, .int .i64 0, .int .i64 0, .int .i64 0, .slice none 0 0] 28
      obtain ⟨wl, El, HBl, Kl, Lwl⟩ := set9 wx wr.heap.size _ _ _ _ _ _ _ _ _ (.string ⟨#[80]⟩) (.int .i64 0) (.int .i64 0) (.int .i64 0) (.int .i64 0) (.int .i64 0) (.int .i64 0) (.int .i64 0) (.slice none 0 0) _ Xx.out
      have Bwl : Hid (Below w.heap.size w wl) := Bwr.out.trans ((HBx.out.trans HBl.out).mono Bwr.out.size)
      have zx0 := cell_at Xx.out (j := 0) (v := .string ⟨#[]⟩) rfl
      have fx0 := frozen_at Xx.out 0
      have zx1 := cell_at Xx.out (j := 1) (v := .int .i64 0) rfl
      have fx1 := frozen_at Xx.out 1
      have zx2 := cell_at Xx.out (j := 2) (v := .int .i64 0) rfl
      have fx2 := frozen_at Xx.out 2
      have zx3 := cell_at Xx.out (j := 3) (v := .int .i64 0) rfl
      have fx3 := frozen_at Xx.out 3
      have zx4 := cell_at Xx.out (j := 4) (v := .int .i64 0) rfl
      have fx4 := frozen_at Xx.out 4
      have zx5 := cell_at Xx.out (j := 5) (v := .int .i64 0) rfl
      have fx5 := frozen_at Xx.out 5
      have zx6 := cell_at Xx.out (j := 6) (v := .int .i64 0) rfl
      have fx6 := frozen_at Xx.out 6
      have zx7 := cell_at Xx.out (j := 7) (v := .int .i64 0) rfl
      have fx7 := frozen_at Xx.out 7
      have zx8 := cell_at Xx.out (j := 8) (v := .slice none 0 0) rfl
      have fx8 := frozen_at Xx.out 8
      go_wp2_with (first | rw [Ex] | rw [El])
      clear Ex El zx0 fx0 zx1 fx1 zx2 fx2 zx3 fx3 zx4 fx4 zx5 fx5 zx6 fx6 zx7 fx7 zx8 fx8
      refine fparse_any ⟨#[102, 108, 97, 116, 32, 51, 48]⟩ _ _ (by decide) (HEV.out.below Bwl.out) fun daw21 dcw21 pw21 hb hok => ?_
      rw [pa_0.1] at hok
      rw [pa_0.1, pa_0.2]
      have BPw21 : Hid (Below w.heap.size w pw21) := Bwl.out.trans (hb.mono Bwl.out.size)
      have HVw21 : Hid (fmV fm0 daw21 dcw21 = .agg #[.int .i64 1, .bool false, .int .i64 30, .int .i64 0, .slice daw21 0 dcw21]) := rfl
      rw [HVw21.out]
      obtain ⟨w21, Ew21, HBw21, sw21, Xw21⟩ := box_ex pw21 #[.int .i64 1, .bool false, .int .i64 30, .int .i64 0, .slice daw21 0 dcw21] 31
      have Bw21 : Hid (Below w.heap.size w w21) := BPw21.out.trans (HBw21.out.mono BPw21.out.size)
      have BBw21 : Hid (Below wl.heap.size wl w21) := hb.trans (HBw21.out.mono hb.size)
      have Fw21 := Lib.hid (hok.below HBw21.out)
      have Lw21 := Lib.hid ((BBw21.out.block _ (lt_of_block Lwl.out)).trans Lwl.out)
      clear hb hok
      have Yw21 := Xw21
      go_wp2_with (first | (refine wp_storeNew _ 31 (.tmp 18) (.tmp 121) _ #[.int .i64 1, .bool false, .int .i64 30, .int .i64 0, .slice daw21 0 dcw21] rfl rfl rfl rfl (by kernel_rfl) (by kernel_rfl) (by rfl) ?_; rw [Ew21]) | fail)
      refine fparse_any ⟨#[102, 108, 97, 116, 32, 100, 105, 115, 99, 32, 51, 48]⟩ _ _ (by decide) (HEV.out.below Bw21.out) fun daw22 dcw22 pw22 hb hok => ?_
      rw [pa_1.1] at hok
      rw [pa_1.1, pa_1.2]
      have BPw22 : Hid (Below w.heap.size w pw22) := Bw21.out.trans (hb.mono Bw21.out.size)
      have HVw22 : Hid (fmV fm1 daw22 dcw22 = .agg #[.int .i64 1, .bool true, .int .i64 30, .int .i64 0, .slice daw22 0 dcw22]) := rfl
      rw [HVw22.out]
      obtain ⟨w22, Ew22, HBw22, sw22, Xw22⟩ := box_ex pw22 #[.int .i64 1, .bool true, .int .i64 30, .int .i64 0, .slice daw22 0 dcw22] 31
      have Bw22 : Hid (Below w.heap.size w w22) := BPw22.out.trans (HBw22.out.mono BPw22.out.size)
      have BBw22 : Hid (Below w21.heap.size w21 w22) := hb.trans (HBw22.out.mono hb.size)
      have Fw22 := Lib.hid (hok.below HBw22.out)
      have Lw22 := Lib.hid ((BBw22.out.block _ (lt_of_block Lw21.out)).trans Lw21.out)
      have Yw22 := Lib.hid ((BBw22.out.block _ (lt_of_block Yw21.out)).trans Yw21.out)
      clear hb hok
      have Fy22 := Lib.hid (Fw21.out.below BBw22.out)
      have l0 := cell_at Lw22.out (j := 0) (v := .string ⟨#[80]⟩) rfl
      have l1 := cell_at Lw22.out (j := 1) (v := .int .i64 0) rfl
      have l2 := cell_at Lw22.out (j := 2) (v := .int .i64 0) rfl
      have l3 := cell_at Lw22.out (j := 3) (v := .int .i64 0) rfl
      have l4 := cell_at Lw22.out (j := 4) (v := .int .i64 0) rfl
      have l5 := cell_at Lw22.out (j := 5) (v := .int .i64 0) rfl
      have l6 := cell_at Lw22.out (j := 6) (v := .int .i64 0) rfl
      have l7 := cell_at Lw22.out (j := 7) (v := .int .i64 0) rfl
      have l8 := cell_at Lw22.out (j := 8) (v := .slice none 0 0) rfl
      have y0 := cell_at Yw22.out (j := 0) (v := .int .i64 1) rfl
      have y1 := cell_at Yw22.out (j := 1) (v := .bool false) rfl
      have y2 := cell_at Yw22.out (j := 2) (v := .int .i64 30) rfl
      have y3 := cell_at Yw22.out (j := 3) (v := .int .i64 0) rfl
      have y4 := cell_at Yw22.out (j := 4) (v := .slice daw21 0 dcw21) rfl
      have x0 := cell_at Xw22.out (j := 0) (v := .int .i64 1) rfl
      have x1 := cell_at Xw22.out (j := 1) (v := .bool true) rfl
      have x2 := cell_at Xw22.out (j := 2) (v := .int .i64 30) rfl
      have x3 := cell_at Xw22.out (j := 3) (v := .int .i64 0) rfl
      have x4 := cell_at Xw22.out (j := 4) (v := .slice daw22 0 dcw22) rfl
      go_wp2_with (first | (refine wp_storeNew _ 31 (.tmp 19) (.tmp 125) _ #[.int .i64 1, .bool true, .int .i64 30, .int .i64 0, .slice daw22 0 dcw22] rfl rfl rfl rfl (by kernel_rfl) (by kernel_rfl) (by rfl) ?_; rw [Ew22]) | fail)
      rw [← HFLh.out, ← HVw21.out]
      refine fcheck_any planeF none 0 fm0 daw21 dcw21 _ _ (FtOk.bare _ _ rfl (by decide)) Fy22.out fun w23 hb => ?_
      rw [fc_p0]
      have Bw23 : Hid (Below w.heap.size w w23) := Bw22.out.trans (hb.mono Bw22.out.size)
      have Lw23 := Lib.hid ((hb.block _ (lt_of_block Lw22.out)).trans Lw22.out)
      have Xw23 := Lib.hid ((hb.block _ (lt_of_block Xw22.out)).trans Xw22.out)
      have Fw23 := Lib.hid (Fw22.out.below hb)
      clear hb l0 l1 l2 l3 l4 l5 l6 l7 l8 y0 y1 y2 y3 y4 x0 x1 x2 x3 x4
      have l0 := cell_at Lw23.out (j := 0) (v := .string ⟨#[80]⟩) rfl
      have l1 := cell_at Lw23.out (j := 1) (v := .int .i64 0) rfl
      have l2 := cell_at Lw23.out (j := 2) (v := .int .i64 0) rfl
      have l3 := cell_at Lw23.out (j := 3) (v := .int .i64 0) rfl
      have l4 := cell_at Lw23.out (j := 4) (v := .int .i64 0) rfl
      have l5 := cell_at Lw23.out (j := 5) (v := .int .i64 0) rfl
      have l6 := cell_at Lw23.out (j := 6) (v := .int .i64 0) rfl
      have l7 := cell_at Lw23.out (j := 7) (v := .int .i64 0) rfl
      have l8 := cell_at Lw23.out (j := 8) (v := .slice none 0 0) rfl
      have x0 := cell_at Xw23.out (j := 0) (v := .int .i64 1) rfl
      have x1 := cell_at Xw23.out (j := 1) (v := .bool true) rfl
      have x2 := cell_at Xw23.out (j := 2) (v := .int .i64 30) rfl
      have x3 := cell_at Xw23.out (j := 3) (v := .int .i64 0) rfl
      have x4 := cell_at Xw23.out (j := 4) (v := .slice daw22 0 dcw22) rfl
      go_wp2_with fail
      rw [← HFLh.out, ← HVw22.out]
      refine fcheck_any planeF none 0 fm1 daw22 dcw22 _ _ (FtOk.bare _ _ rfl (by decide)) Fw23.out fun w24 hb => ?_
      rw [fc_p1]
      have Bw24 : Hid (Below w.heap.size w w24) := Bw23.out.trans (hb.mono Bw23.out.size)
      clear hb l0 l1 l2 l3 l4 l5 l6 l7 l8 x0 x1 x2 x3 x4
      go_wp2_with fail
      exact HR.out _ Bw24.out
    · intro x c kl ya yb w9 cnt9 hkey hlk hv hat hrg1 hlt hg1 hs1 hen
      obtain ⟨xs, exs, ekl⟩ := key_inv Tryz.underlying9 hkey
      cases exs
      subst ekl
      have hya : ya = .held c := by
        unfold heldR at hv
        have h := Option.some.inj hv
        exact (congrArg Prod.fst h).symm
      have hfx : awM x = some c := by
        have h1 := HVIEW.out x (.held .nilIface)
        have h2 := HVIEW.out x (.held (.bool true))
        rw [hat, hya] at h1 h2
        cases hx : awM x with
        | some v => rw [hx] at h1; simp only [DataW.held.injEq] at h1; rw [h1]
        | none => rw [hx] at h1 h2; simp only [DataW.held.injEq] at h1 h2; rw [h1] at h2; cases h2
      obtain ⟨yf, e, rfl, hpx, hpe, hfc, hsz⟩ := awM_cases hfx
      have HPX := Lib.hid hpx
      have HPE := Lib.hid hpe
      have HFC := Lib.hid hfc
      have HRG1 := Lib.hid hrg1
      have HLT : Hid (cnt9 < cnt) := hlt
      have hA1r : A1 < m6.heap.size := hA1m
      have Hw9 := Lib.hid ((hg1.block _ (lt_of_block Hwr.out) (by simp; omega)).trans Hwr.out)
      have hszw : m6.heap.size ≤ wr.heap.size := Nat.le_of_lt hrg.lt
      have Bw9r : Hid (Below m6.heap.size wr w9) := ⟨hg1.os, hg1.tape, hg1.output, hg1.size, fun i hi => hg1.block i (Nat.lt_of_lt_of_le hi hszw) (by simp; omega)⟩
      have Bw9 : Hid (Below w.heap.size w w9) := Bwr.out.trans (Bw9r.out.mono Bm6.out.size)
      have hsz9 : m6.heap.size ≤ w9.heap.size := Nat.le_trans hszw hg1.size
      clear hkey hlk hv hat hrg1 hlt hg1 hs1 hya hfx hpx hpe hfc hrg
      go_wp2_with fail
      refine fparse_any x _ _ (by omega) (HEV.out.below Bw9.out) fun daw31 dcw31 pw31 hb hok => ?_
      rw [HPX.out] at hok
      rw [HPX.out, HPE.out]
      have BPw31 : Hid (Below w.heap.size w pw31) := Bw9.out.trans (hb.mono Bw9.out.size)
      have HVw31 : Hid (fmV yf daw31 dcw31 = .agg #[.int .i64 yf.k, .bool yf.d, .int .i64 yf.t, .int .i64 yf.m, .slice daw31 yf.ds.length dcw31]) := rfl
      rw [HVw31.out]
      obtain ⟨w31, Ew31, HBw31, sw31, Xw31⟩ := box_ex pw31 #[.int .i64 yf.k, .bool yf.d, .int .i64 yf.t, .int .i64 yf.m, .slice daw31 yf.ds.length dcw31] 31
      have Bw31 : Hid (Below w.heap.size w w31) := BPw31.out.trans (HBw31.out.mono BPw31.out.size)
      have BBw31 : Hid (Below w9.heap.size w9 w31) := hb.trans (HBw31.out.mono hb.size)
      have Fw31 := Lib.hid (hok.below HBw31.out)
      have Hw31 := Lib.hid ((BBw31.out.block _ (lt_of_block Hw9.out)).trans Hw9.out)
      clear hb hok
      clear hen
      have h0 := cell_at Hw31.out (j := 0) (v := .string ⟨#[72]⟩) rfl
      have h1 := cell_at Hw31.out (j := 1) (v := .int .i64 1) rfl
      have h2 := cell_at Hw31.out (j := 2) (v := .int .i64 2) rfl
      have h3 := cell_at Hw31.out (j := 3) (v := .int .i64 5000) rfl
      have h4 := cell_at Hw31.out (j := 4) (v := .int .i64 0) rfl
      have h5 := cell_at Hw31.out (j := 5) (v := .int .i64 0) rfl
      have h6 := cell_at Hw31.out (j := 6) (v := .int .i64 1000) rfl
      have h7 := cell_at Hw31.out (j := 7) (v := .int .i64 1011) rfl
      have h8 := cell_at Hw31.out (j := 8) (v := .slice none 0 0) rfl
      have x0 := cell_at Xw31.out (j := 0) (v := .int .i64 yf.k) rfl
      have x1 := cell_at Xw31.out (j := 1) (v := .bool yf.d) rfl
      have x2 := cell_at Xw31.out (j := 2) (v := .int .i64 yf.t) rfl
      have x3 := cell_at Xw31.out (j := 3) (v := .int .i64 yf.m) rfl
      have x4 := cell_at Xw31.out (j := 4) (v := .slice daw31 yf.ds.length dcw31) rfl
      go_wp2_with (first | (refine wp_storeNew _ 31 (.tmp 15) (.tmp 107) _ #[.int .i64 yf.k, .bool yf.d, .int .i64 yf.t, .int .i64 yf.m, .slice daw31 yf.ds.length dcw31] rfl rfl rfl rfl (by kernel_rfl) (by kernel_rfl) (by rfl) ?_; rw [Ew31]) | fail)
      rw [← HFHh.out, ← HVw31.out]
      refine fcheck_any holeF none 0 yf daw31 dcw31 _ _ (FtOk.bare _ _ rfl (by decide)) Fw31.out fun w32 hb => ?_
      rw [HFC.out]
      have BB32 : Hid (Below w9.heap.size w9 w32) := BBw31.out.trans (hb.mono BBw31.out.size)
      clear hb h0 h1 h2 h3 h4 h5 h6 h7 h8 x0 x1 x2 x3 x4
      go_wp2_with fail
      have hrgN : w32.ranges Tryz.prog 9 heldR w8.heap.size m6.heap.size 6 D (fun z => left z && !z.sameKey (keyL x)) cnt9 := HRG1.out.kept (row := none) ⟨BB32.out.os, BB32.out.tape, BB32.out.output, BB32.out.size, fun i hi _ => BB32.out.block i hi⟩ (by simp) (by simp)
      exact ⟨⟨_, _, hrgN, (HB.out.trans Bw9r.out).trans (BB32.out.mono hsz9)⟩, by rw [hrgN.left_eq, HRG.out.left_eq]; exact HLT.out⟩
end Go.Proofs.YtciokmjhdbcmpaaGreatDoor
namespace Go.Proofs.YtciokmjhdbcmpaaGreatDoor
open Go.RowKit Go.Joins Go.ChangeShapes Go.WideShapes Go.Deep

theorem spot_none {w : World} {x : Addr} {v : Value} (h : w.cell? x = some v) : ∃ b o, x = ⟨b, o, none⟩ ∧ b < w.heap.size := by
  obtain ⟨b, o, sp⟩ := x
  have hs : sp = none := by
    unfold World.cell? at h
    split at h
    · split at h
      · cases h
      · rename_i h2; simpa using h2
    · cases h
  subst hs
  exact ⟨b, o, rfl, lt_of_cell h⟩
theorem list_ex {α : Type} (z : α) {Q : Nat → α → Prop} : ∀ n : Nat, (∀ i, i < n → ∃ b, Q i b) → ∃ vs : List α, vs.length = n ∧ ∀ i, i < n → Q i (vs.getD i z)
  | 0, _ => ⟨[], rfl, fun i h => absurd h (by omega)⟩
  | n + 1, h => by
    obtain ⟨bs, h1, h2⟩ := list_ex z n fun i hi => h i (by omega)
    obtain ⟨b, hb⟩ := h n (by omega)
    refine ⟨bs ++ [b], by simp [h1], fun i hi => ?_⟩
    by_cases e : i = n
    · subst e
      have : (bs ++ [b]).getD i z = b := by rw [List.getD_eq_getElem?_getD, List.getElem?_append_right (by omega), h1]; simp
      rw [this]; exact hb
    · have : (bs ++ [b]).getD i z = bs.getD i z := by rw [List.getD_eq_getElem?_getD, List.getElem?_append_left (by omega), List.getD_eq_getElem?_getD]
      rw [this]; exact h2 i (by omega)
theorem cells_of_rows {w : World} {a : Addr} {n k : Nat} (L : List Value) (hl : L.length = n * k) (hk : 0 < k) (h : ∀ i r, i < n → r < k → ∃ v, L[i * k + r]? = some v ∧ w.cell? (a.add (i * k + r)) = some v) : CellsAt w (some a) L := by
  intro h0
  have hn : 0 < n := by
    rcases Nat.eq_zero_or_pos n with e | e
    · subst e; rw [Nat.zero_mul] at hl; omega
    · exact e
  obtain ⟨v, _, hq⟩ := h 0 0 hn hk
  obtain ⟨b, o, e, hlt⟩ := spot_none hq
  have ha : a = ⟨b, o, none⟩ := by
    rw [Nat.zero_mul] at e
    unfold Addr.add at e; simpa using e
  subst ha
  refine ⟨b, o, rfl, hlt, fun j hj => ?_⟩
  rw [hl] at hj
  have had : ∀ k, Addr.add ⟨b, o, none⟩ k = ⟨b, o + k, none⟩ := fun k => by unfold Addr.add; split <;> simp_all
  have h1 : j / k < n := (Nat.div_lt_iff_lt_mul hk).2 hj
  have h2 : j % k < k := Nat.mod_lt _ hk
  obtain ⟨v, h3, h4⟩ := h (j / k) (j % k) h1 h2
  have h5 : j / k * k + j % k = j := by rw [Nat.mul_comm]; exact Nat.div_add_mod j k
  rw [h5] at h3 h4
  rw [had] at h4
  rw [h4, List.getD_eq_getElem?_getD, h3]; rfl
theorem some_of {α : Type} {l : List α} {o : Option α} {i : Nat} (h : o = l[i]?) (hi : i < l.length) : o = some l[i] := h.trans (List.getElem?_eq_getElem hi)
section
variable {H : Type} {enc : TypeId × Value → H} {w : World} {base : Nat} {spare : Nat → Bool} {held : Bool}
set_option maxRecDepth 100000 in
theorem open_datums {fuel : Nat} {v : Value} {x : DataW H × List MemPlace} (h1 : DataW.trod enc Tryz.prog w base spare held fuel 29 [v] = some x) :
    ∃ (ae : Option Addr) (vs : List Dt) (c : Nat), v = .slice ae vs.length c ∧ CellsAt w ae (dtC vs) ∧ DtsOk vs ∧ vs.length ≤ 9223372036854775807 ∧ vs.length ≤ c ∧ (ae = none → vs.length = 0 ∧ c = 0) := by
  have hC : Tryz.prog.cellsOf 76 = 2 := by kernel_rfl
  have c1 : Tryz.prog.cellsOf 9 = 1 := by kernel_rfl
  have c2 : Tryz.prog.cellsOf 3 = 1 := by kernel_rfl
  have hm9 : maxLen ≤ 9223372036854775807 := by decide
  rcases open_slice Tryz.underlying29 h1 with ⟨hc1, _⟩ | ⟨a, n, cap, mm, k, D, Pl, hc1, _, hl, hm, hmm, hx, hi⟩
  · cases hc1
    exact ⟨none, [], 0, rfl, CellsAt.nil _ _, fun i h => absurd h (by simp), by simp, Nat.le_refl _, fun _ => ⟨rfl, rfl⟩⟩
  · cases hc1
    have hlm : n ≤ mm := by rw [hmm]; split <;> omega
    have hex : ∀ i, i < n → ∃ b : Dt, w.cell? (a.add (i * 2)) = some (.string b.n) ∧ w.cell? (a.add (i * 2 + 1)) = some (.int .i64 b.m) ∧ b.n.size ≤ maxLen := by
      intro i hil
      obtain ⟨cs', hcs, ht'⟩ := hi i (by omega)
      rw [hC] at hcs
      obtain ⟨ys, n', _, _, _, hyl, hf⟩ := DataW.trod_struct Tryz.underlying76 ht'
      obtain ⟨_, hcl, hat⟩ := World.cells?_some hcs
      have hy5 : ys.length = 2 := hyl
      obtain ⟨v0, v1, rfl⟩ : ∃ v0 v1, cs' = [v0, v1] := by
        match cs', hcl with
        | [v0, v1], _ => exact ⟨v0, v1, rfl⟩
      have t0 : DataW.trod enc Tryz.prog w base spare held n' 9 (([v0, v1].drop 0).take (Tryz.prog.cellsOf 9)) = ys[0]? := hf 0 _ rfl
      have t1 : DataW.trod enc Tryz.prog w base spare held n' 3 (([v0, v1].drop 1).take (Tryz.prog.cellsOf 3)) = ys[1]? := hf 1 _ rfl
      rw [c1] at t0
      rw [c2] at t1
      have t0 := some_of t0 (by omega)
      have t1 := some_of t1 (by omega)
      obtain ⟨s0, e0, _, hs0⟩ := DataW.trod_string Tryz.underlying9 (w := w) (cs := [v0]) t0
      obtain ⟨x1, e1, _, _⟩ := DataW.trod_int Tryz.underlying3 (w := w) (cs := [v1]) t1
      cases e0; cases e1
      have had : ∀ r, a.add (i * 2 + r) = (a.add (i * 2)).add r := fun r => (Go.Deep.add_add _ _ _).symm
      refine ⟨⟨s0, x1⟩, ?_, ?_, hs0⟩
      · have h := hat 0 (by decide)
        rw [← had] at h; exact h
      · have h := hat 1 (by decide)
        rw [← had] at h; exact h
    obtain ⟨vs, hbl, hb⟩ := list_ex Dt.zero n hex
    subst hbl
    refine ⟨some a, vs, cap, rfl, cells_of_rows (k := 2) _ (dtC_length vs) (by decide) fun i r hil hr => ?_, fun i hil => ?_, by omega, hl, fun e => by cases e⟩
    · obtain ⟨q0, q1, _⟩ := hb i hil
      obtain ⟨g0, g1⟩ := dtC_get vs i hil
      match r, hr with
      | 0, _ => exact ⟨_, g0, q0⟩
      | 1, _ => exact ⟨_, g1, q1⟩
    · exact Nat.le_trans (hb i hil).2.2 hm9
set_option maxRecDepth 100000 in
/-- The cells of a frame. -/
theorem open_frame_cells {fuel : Nat} {cs : List Value} {x : DataW H × List MemPlace} (hl : cs.length = 5) (h1 : DataW.trod enc Tryz.prog w base spare held fuel 31 cs = some x) :
    ∃ (f : Fm) (da : Option Addr) (dc : Nat), cs = [.int .i64 f.k, .bool f.d, .int .i64 f.t, .int .i64 f.m, .slice da f.ds.length dc] ∧ FmOk w f da dc := by
  have c1 : Tryz.prog.cellsOf 4 = 1 := by kernel_rfl
  have c2 : Tryz.prog.cellsOf 3 = 1 := by kernel_rfl
  have c3 : Tryz.prog.cellsOf 29 = 1 := by kernel_rfl
  obtain ⟨ys, n', _, _, _, hyl, hf⟩ := DataW.trod_struct Tryz.underlying31 h1
  have hy5 : ys.length = 5 := hyl
  obtain ⟨v0, v1, v2, v3, v4, rfl⟩ : ∃ v0 v1 v2 v3 v4, cs = [v0, v1, v2, v3, v4] := by
    match cs, hl with
    | [v0, v1, v2, v3, v4], _ => exact ⟨v0, v1, v2, v3, v4, rfl⟩
  have t0 : DataW.trod enc Tryz.prog w base spare held n' 3 (([v0, v1, v2, v3, v4].drop 0).take (Tryz.prog.cellsOf 3)) = ys[0]? := hf 0 _ rfl
  have t1 : DataW.trod enc Tryz.prog w base spare held n' 4 (([v0, v1, v2, v3, v4].drop 1).take (Tryz.prog.cellsOf 4)) = ys[1]? := hf 1 _ rfl
  have t2 : DataW.trod enc Tryz.prog w base spare held n' 3 (([v0, v1, v2, v3, v4].drop 2).take (Tryz.prog.cellsOf 3)) = ys[2]? := hf 2 _ rfl
  have t3 : DataW.trod enc Tryz.prog w base spare held n' 3 (([v0, v1, v2, v3, v4].drop 3).take (Tryz.prog.cellsOf 3)) = ys[3]? := hf 3 _ rfl
  have t4 : DataW.trod enc Tryz.prog w base spare held n' 29 (([v0, v1, v2, v3, v4].drop 4).take (Tryz.prog.cellsOf 29)) = ys[4]? := hf 4 _ rfl
  rw [c2] at t0 t2 t3
  rw [c1] at t1
  rw [c3] at t4
  have t0 := some_of t0 (by omega)
  have t1 := some_of t1 (by omega)
  have t2 := some_of t2 (by omega)
  have t3 := some_of t3 (by omega)
  have t4 := some_of t4 (by omega)
  obtain ⟨x0, e0, _, _⟩ := DataW.trod_int Tryz.underlying3 (w := w) (cs := [v0]) t0
  obtain ⟨b1, e1, _⟩ := DataW.trod_bool Tryz.underlying4 (w := w) (cs := [v1]) t1
  obtain ⟨x2, e2, _, _⟩ := DataW.trod_int Tryz.underlying3 (w := w) (cs := [v2]) t2
  obtain ⟨x3, e3, _, _⟩ := DataW.trod_int Tryz.underlying3 (w := w) (cs := [v3]) t3
  obtain ⟨ae, vs, c, rfl, q1, q2, q3, q4, q5⟩ := open_datums (v := v4) t4
  cases e0; cases e1; cases e2; cases e3
  exact ⟨⟨x0, b1, x2, x3, vs⟩, ae, c, rfl, ⟨q1, q2, q3, q5, q4⟩⟩
set_option maxRecDepth 100000 in
theorem open_frame {r : Reach} {b0 : Nat} {v : Value} {d : DataW H} {p : List MemPlace} (hv : Value.okWide Tryz.prog w r b0 31 v) (h : DataW.Trod enc Tryz.prog w base spare held 31 v d p) :
    ∃ (f : Fm) (da : Option Addr) (dc : Nat), v = fmV f da dc ∧ FmOk w f da dc := by
  have hC : Tryz.prog.cellsOf 31 = 5 := by kernel_rfl
  obtain ⟨cs, rfl, hsz⟩ := okWide_struct Tryz.underlying31 hv
  obtain ⟨fuel, hf⟩ := h
  obtain ⟨f, da, dc, e, hok⟩ := open_frame_cells (cs := cs.toList) (by rw [Array.length_toList, hsz, hC]) hf
  refine ⟨f, da, dc, ?_, hok⟩
  unfold fmV
  congr 1
  exact Array.toList_inj.1 e
set_option maxRecDepth 100000 in
theorem open_frames {fuel : Nat} {v : Value} {x : DataW H × List MemPlace} (h1 : DataW.trod enc Tryz.prog w base spare held fuel 26 [v] = some x) :
    ∃ (ae : Option Addr) (fs : List Fm) (c : Nat), v = .slice ae fs.length c ∧ FmsAt w ae fs ∧ fs.length ≤ 9223372036854775807 := by
  have hC : Tryz.prog.cellsOf 31 = 5 := by kernel_rfl
  have hm9 : maxLen ≤ 9223372036854775807 := by decide
  rcases open_slice Tryz.underlying26 h1 with ⟨hc1, _⟩ | ⟨a, n, cap, mm, k, D, Pl, hc1, _, hl, hm, hmm, hx, hi⟩
  · cases hc1
    exact ⟨none, [], 0, rfl, fun h => absurd h (by simp), by simp⟩
  · cases hc1
    have hlm : n ≤ mm := by rw [hmm]; split <;> omega
    have hex : ∀ i, i < n → ∃ b : Fm, ∃ da dc, FmOk w b da dc ∧ w.cell? (a.add (i * 5)) = some (.int .i64 b.k) ∧ w.cell? (a.add (i * 5 + 1)) = some (.bool b.d) ∧ w.cell? (a.add (i * 5 + 2)) = some (.int .i64 b.t) ∧ w.cell? (a.add (i * 5 + 3)) = some (.int .i64 b.m) ∧ w.cell? (a.add (i * 5 + 4)) = some (.slice da b.ds.length dc) := by
      intro i hil
      obtain ⟨cs', hcs, ht'⟩ := hi i (by omega)
      rw [hC] at hcs
      obtain ⟨_, hcl, hat⟩ := World.cells?_some hcs
      obtain ⟨f, da, dc, rfl, hok⟩ := open_frame_cells hcl ht'
      have had : ∀ r, a.add (i * 5 + r) = (a.add (i * 5)).add r := fun r => (Go.Deep.add_add _ _ _).symm
      refine ⟨f, da, dc, hok, ?_, ?_, ?_, ?_, ?_⟩
      · have h := hat 0 (by decide)
        rw [← had] at h; exact h
      · have h := hat 1 (by decide)
        rw [← had] at h; exact h
      · have h := hat 2 (by decide)
        rw [← had] at h; exact h
      · have h := hat 3 (by decide)
        rw [← had] at h; exact h
      · have h := hat 4 (by decide)
        rw [← had] at h; exact h
    obtain ⟨fs, hbl, hb⟩ := list_ex Fm.zero n hex
    subst hbl
    refine ⟨some a, fs, cap, rfl, fun h0 => ?_, by omega⟩
    obtain ⟨_, _, _, q0, _⟩ := hb 0 h0
    obtain ⟨b, o, e, hlt⟩ := spot_none q0
    have ha : a = ⟨b, o, none⟩ := by
      rw [Nat.zero_mul] at e
      unfold Addr.add at e; simpa using e
    subst ha
    have had : ∀ k, Addr.add ⟨b, o, none⟩ k = ⟨b, o + k, none⟩ := fun k => by unfold Addr.add; split <;> simp_all
    refine ⟨b, o, rfl, hlt, fun i hil => ?_⟩
    obtain ⟨da, dc, hok, q0, q1, q2, q3, q4⟩ := hb i hil
    rw [had] at q0 q1 q2 q3 q4
    exact ⟨da, dc, hok, q0, q1, q2, q3, q4⟩
set_option maxRecDepth 100000 in
theorem open_feature {r : Reach} {b0 : Nat} {v : Value} {d : DataW H} {p : List MemPlace} (hv : Value.okWide Tryz.prog w r b0 28 v) (h : DataW.Trod enc Tryz.prog w base spare held 28 v d p) :
    ∃ (f : Ft) (fo : Option Addr) (fc : Nat), v = ftV f fo fc ∧ FtOk w f fo fc := by
  have hC : Tryz.prog.cellsOf 28 = 9 := by kernel_rfl
  have c1 : Tryz.prog.cellsOf 9 = 1 := by kernel_rfl
  have c2 : Tryz.prog.cellsOf 3 = 1 := by kernel_rfl
  have c3 : Tryz.prog.cellsOf 23 = 3 := by kernel_rfl
  have c4 : Tryz.prog.cellsOf 25 = 2 := by kernel_rfl
  have c5 : Tryz.prog.cellsOf 26 = 1 := by kernel_rfl
  have hm9 : maxLen ≤ 9223372036854775807 := by decide
  obtain ⟨cs, rfl, hsz⟩ := okWide_struct Tryz.underlying28 hv
  obtain ⟨fuel, hf0⟩ := h
  obtain ⟨ys, n', _, _, _, hyl, hf⟩ := DataW.trod_struct Tryz.underlying28 hf0
  have hy5 : ys.length = 6 := hyl
  have hcl : cs.toList.length = 9 := by rw [Array.length_toList, hsz, hC]
  obtain ⟨v0, v1, v2, v3, v4, v5, v6, v7, v8, e⟩ : ∃ v0 v1 v2 v3 v4 v5 v6 v7 v8, cs.toList = [v0, v1, v2, v3, v4, v5, v6, v7, v8] := by
    match hh : cs.toList, hcl with
    | [v0, v1, v2, v3, v4, v5, v6, v7, v8], _ => exact ⟨v0, v1, v2, v3, v4, v5, v6, v7, v8, rfl⟩
  obtain rfl : cs = #[v0, v1, v2, v3, v4, v5, v6, v7, v8] := Array.toList_inj.1 e
  have t0 : DataW.trod enc Tryz.prog w base spare held n' 9 (([v0, v1, v2, v3, v4, v5, v6, v7, v8].drop 0).take (Tryz.prog.cellsOf 9)) = ys[0]? := hf 0 _ rfl
  have t1 : DataW.trod enc Tryz.prog w base spare held n' 3 (([v0, v1, v2, v3, v4, v5, v6, v7, v8].drop 1).take (Tryz.prog.cellsOf 3)) = ys[1]? := hf 1 _ rfl
  have t2 : DataW.trod enc Tryz.prog w base spare held n' 3 (([v0, v1, v2, v3, v4, v5, v6, v7, v8].drop 2).take (Tryz.prog.cellsOf 3)) = ys[2]? := hf 2 _ rfl
  have t3 : DataW.trod enc Tryz.prog w base spare held n' 23 (([v0, v1, v2, v3, v4, v5, v6, v7, v8].drop 3).take (Tryz.prog.cellsOf 23)) = ys[3]? := hf 3 _ rfl
  have t4 : DataW.trod enc Tryz.prog w base spare held n' 25 (([v0, v1, v2, v3, v4, v5, v6, v7, v8].drop 6).take (Tryz.prog.cellsOf 25)) = ys[4]? := hf 4 _ rfl
  have t5 : DataW.trod enc Tryz.prog w base spare held n' 26 (([v0, v1, v2, v3, v4, v5, v6, v7, v8].drop 8).take (Tryz.prog.cellsOf 26)) = ys[5]? := hf 5 _ rfl
  rw [c1] at t0
  rw [c2] at t1 t2
  rw [c3] at t3
  rw [c4] at t4
  rw [c5] at t5
  have t0 := some_of t0 (by omega)
  have t1 := some_of t1 (by omega)
  have t2 := some_of t2 (by omega)
  have t3 := some_of t3 (by omega)
  have t4 := some_of t4 (by omega)
  have t5 := some_of t5 (by omega)
  obtain ⟨zs, n2, _, _, _, hzl, hg⟩ := DataW.trod_struct Tryz.underlying23 t3
  have hz3 : zs.length = 3 := hzl
  have u0 : DataW.trod enc Tryz.prog w base spare held n2 3 (((([v0, v1, v2, v3, v4, v5, v6, v7, v8].drop 3).take 3).drop 0).take (Tryz.prog.cellsOf 3)) = zs[0]? := hg 0 _ rfl
  have u1 : DataW.trod enc Tryz.prog w base spare held n2 3 (((([v0, v1, v2, v3, v4, v5, v6, v7, v8].drop 3).take 3).drop 1).take (Tryz.prog.cellsOf 3)) = zs[1]? := hg 1 _ rfl
  have u2 : DataW.trod enc Tryz.prog w base spare held n2 3 (((([v0, v1, v2, v3, v4, v5, v6, v7, v8].drop 3).take 3).drop 2).take (Tryz.prog.cellsOf 3)) = zs[2]? := hg 2 _ rfl
  obtain ⟨qs, n3, _, _, _, hql, hh⟩ := DataW.trod_struct Tryz.underlying25 t4
  have hq2 : qs.length = 2 := hql
  have w0 : DataW.trod enc Tryz.prog w base spare held n3 3 (((([v0, v1, v2, v3, v4, v5, v6, v7, v8].drop 6).take 2).drop 0).take (Tryz.prog.cellsOf 3)) = qs[0]? := hh 0 _ rfl
  have w1 : DataW.trod enc Tryz.prog w base spare held n3 3 (((([v0, v1, v2, v3, v4, v5, v6, v7, v8].drop 6).take 2).drop 1).take (Tryz.prog.cellsOf 3)) = qs[1]? := hh 1 _ rfl
  rw [c2] at u0 u1 u2 w0 w1
  have u0 := some_of u0 (by omega)
  have u1 := some_of u1 (by omega)
  have u2 := some_of u2 (by omega)
  have w0 := some_of w0 (by omega)
  have w1 := some_of w1 (by omega)
  obtain ⟨s0, e0, _, hs0⟩ := DataW.trod_string Tryz.underlying9 (w := w) (cs := [v0]) t0
  obtain ⟨x1, e1, _, _⟩ := DataW.trod_int Tryz.underlying3 (w := w) (cs := [v1]) t1
  obtain ⟨x2, e2, _, _⟩ := DataW.trod_int Tryz.underlying3 (w := w) (cs := [v2]) t2
  obtain ⟨x3, e3, _, _⟩ := DataW.trod_int Tryz.underlying3 (w := w) (cs := [v3]) u0
  obtain ⟨x4, e4, _, _⟩ := DataW.trod_int Tryz.underlying3 (w := w) (cs := [v4]) u1
  obtain ⟨x5, e5, _, _⟩ := DataW.trod_int Tryz.underlying3 (w := w) (cs := [v5]) u2
  obtain ⟨x6, e6, _, _⟩ := DataW.trod_int Tryz.underlying3 (w := w) (cs := [v6]) w0
  obtain ⟨x7, e7, _, _⟩ := DataW.trod_int Tryz.underlying3 (w := w) (cs := [v7]) w1
  obtain ⟨ae, fs, c, rfl, k1, k2⟩ := open_frames (v := v8) t5
  cases e0; cases e1; cases e2; cases e3; cases e4; cases e5; cases e6; cases e7
  exact ⟨⟨s0, x1, x2, x3, x4, x5, x6, x7, fs⟩, ae, c, rfl, ⟨k1, Nat.le_trans hs0 hm9, k2⟩⟩
end
/-! ### the library's variables -/
theorem star19 : "*" ++ "errors.errorString" = "*errors.errorString" := by decide
theorem rowErr (u : TypeId) (h : Tryz.prog.typeName? 3 u = some "*errors.errorString") : u = 195 :=
  typeName_ptr_named (nm := "errors.errorString") (by rw [star19]; kernel_rfl) (by kernel_rfl) (by decide) u (by rw [star19]; exact h)
theorem cellsErr : Tryz.prog.cellsOf 197 = 1 := by kernel_rfl
theorem cellsStr : Tryz.prog.cellsOf 9 = 1 := by kernel_rfl
set_option maxRecDepth 100000 in
theorem env_of {W : World} {r : List (String × DataW Unit)} (h : laidMet Tryz.prog (("math/bits.deBruijn32tab", Rows.laid_math_bits_deBruijn32tab) :: ("math/bits.deBruijn64tab", Rows.laid_math_bits_deBruijn64tab) :: ("internal/strconv.uint64pow10", Rows.laid_internal_strconv_uint64pow10) :: ("unicode/utf8.acceptRanges", Rows.laid_unicode_utf8_acceptRanges) :: ("strconv.ErrRange", Rows.laid_strconv_ErrRange) :: ("strconv.ErrSyntax", Rows.laid_strconv_ErrSyntax) :: r) W)
   (hsh : W.ShapedOpen Tryz.prog) : Env W := by
  have h1 := h.tail.tail
  have h2 := h1.tail.tail
  have h3 := h2.tail
  refine ⟨Tryz.laysM146.s1_3 W hsh, ?_, ?_, ?_⟩
  · exact Lib.tabIs_of_head (k := .u64) (zs := Lib.pow10Tab) (g := 3) (t := 192) (e := 169) (n := 20) (by kernel_rfl) (by kernel_rfl) (by kernel_rfl) (by kernel_rfl) (by kernel_rfl) (by kernel_rfl) h1
  · obtain ⟨a, _, hv, _⟩ := laid_sentinel (g := 1) (ti := 104) h3 (by kernel_rfl) (by kernel_rfl) Tryz.underlying104 rowErr Tryz.underlying195 Tryz.underlying197 rfl rfl Tryz.underlying9 cellsErr cellsStr
    exact ⟨_, _, hv⟩
  · obtain ⟨a, _, hv, _⟩ := laid_sentinel (g := 2) (ti := 104) h2 (by kernel_rfl) (by kernel_rfl) Tryz.underlying104 rowErr Tryz.underlying195 Tryz.underlying197 rfl rfl Tryz.underlying9 cellsErr cellsStr
    exact ⟨_, _, hv⟩
section
variable {H : Type} {enc : TypeId × Value → H}
/-- As the kit's builder, with the shape of the first world handed on. -/
theorem returns_laid {a : Assume} {C : Checked} {os : Os} {f : FuncId} {fn : Func} {s : ChangeSpec} {conds : List PathCond} {apart fresh handsOn again : Bool} {X : World → Array Value → Prop}
    (hX : ∀ (w w' : World) (args : Array Value), w.heap = w'.heap → X w args → X w' args)
    (own : ownKnob C.prog.godebug = none) (started : os.Started) (noInit : C.prog.inits.idxOf? f = none) (hfn : C.prog.funcs[f]? = some fn)
    (witness : ∃ (w : World) (tape : Tape) (i : Input), w.os = os ∧ (w.forCall tape i).Shaped C.prog ∧ i.vars = [] ∧ Input.okWide C.prog (w.forCall tape i) .any w.heap.size f i ∧
      ((s.pre enc C.prog fn conds apart (w.forCall tape i).memory i.args ∧ X (w.forCall tape i).memory i.args) ∧ sizedMet enc C.prog fn (OpenSpec.ofChange s) apart (w.forCall tape i).memory i.args) ∧ a.holds C.prog (lone (Frame.enter C.prog f i.args .normal) [] (w.forCall tape i)))
    (contract : ∀ (W : World) (base : Nat) (args : Array Value) (ds gs : List (DataW H)) (before : List MemPlace),
      (∀ (j : Nat) t v, fn.params[j]? = some t → args[j]? = some v → Value.okWide C.prog W .any base t v) →
      DataW.Whole enc C.prog fn.params.toList s.vars apart W args.toList ds gs before →
      conds.all (PathCond.test C.prog ⟨fn.params.toList, ds, s.plain.varTypes C.prog, gs⟩) = true →
      (DataW.weightsEach C.prog (fn.params.toList ++ s.plain.varTypes C.prog) (ds ++ gs)).all (· ≤ reachBytes) = true → X W args → W.ShapedOpen C.prog →
      a.holds C.prog (lone (Frame.enter C.prog f args .normal) [] W) →
      Calls C.prog f args W fun e W' => ∃ v, e = .returned v ∧ s.post enc C.prog fn apart fresh handsOn again W args v W') :
    ReturnsInHanded a C os f .any (fun w args => (s.pre enc C.prog fn conds apart w args ∧ X w args) ∧ sizedMet enc C.prog fn (OpenSpec.ofChange s) apart w args) (s.post enc C.prog fn apart fresh handsOn again) := by
  refine returnsInHanded_of_calls own started noInit witness ?_
  intro w tape i _ hsh _ hok hpre hholds
  obtain ⟨_, _, _, fn', hfn', _, _, _, _, hval⟩ := hok
  have e : fn' = fn := Option.some.inj (hfn'.symm.trans hfn)
  subst e
  obtain ⟨⟨⟨ds, gs, before, hw, hc⟩, hx⟩, hz⟩ := hpre
  have hw' := DataW.Whole.of_heap (w' := w.forCall tape i) (by rfl) hw
  refine (contract (w.forCall tape i) w.heap.size i.args ds gs before hval hw' hc (hz.weights hw) (hX _ _ _ (by rfl) hx) hsh hholds).mono fun e W' ⟨v, he, hp⟩ => ?_
  subst he
  exact ChangeSpec.post_blind hp
end
end Go.Proofs.YtciokmjhdbcmpaaGreatDoor
