/- divided: quotient and rest of magnitudes. (Printed by gen_div.py.) -/
import Derived.Laws.IdiomCopy
import Derived.Test.YtcmhompbdanpdaaGreatDoorWw
namespace Go.Proofs.YtcmhompbdanpdaaGreatDoor
open Go.RowKit

theorem WideM.chg {w w' : World} {b c n : Nat} {s : Bool} {f : Nat → Nat} (h : WideM w b s n f) (hc : Chg c w w') (hb : b ≠ c) : WideM w' b s n f := (hc.2.2 b hb).trans h
theorem WideM.congr {w : World} {b n : Nat} {s : Bool} {f g : Nat → Nat} (h : WideM w b s n f) (hf : ∀ i, i < 232 → f i = g i) : WideM w b s n g := by
  unfold WideM at h ⊢; rw [← wdM_congr hf]; exact h
def wV (x : Nat) : Value := .int .i64 (x : Int)
theorem copy_cells (b _o : Nat) (s : Bool) (n : Nat) : ∀ (l : List Nat) (o : Nat) (f : Nat → Nat) (w : World), WideM w b s n f → o + l.length ≤ 232 →
    Chg b w (w.setCells b (2 + o) (l.map wV)) ∧ WideM (w.setCells b (2 + o) (l.map wV)) b s n (fun j => if o ≤ j ∧ j < o + l.length then l.getD (j - o) 0 else f j) := by
  intro l
  induction l with
  | nil =>
    intro o f w h _
    exact ⟨Chg.refl _ _, h.congr fun i _ => by rw [if_neg (by simp)]⟩
  | cons x l ih =>
    intro o f w h hl
    simp only [List.length_cons] at hl
    have h1 : WideM (w.setCell ⟨b, 2 + o, none⟩ (.int .i64 (x : Int))) b s n (fun j => if j = o then x else f j) := h.setW (by omega) x
    have h2 := ih (o + 1) _ _ h1 (by omega)
    have e : w.setCells b (2 + o) ((x :: l).map wV) = (w.setCell ⟨b, 2 + o, none⟩ (.int .i64 (x : Int))).setCells b (2 + (o + 1)) (l.map wV) := by
      rw [List.map_cons, World.setCells]; rfl
    rw [e]
    refine ⟨((Chg.refl b w).setCell (2 + o) _).trans h2.1, h2.2.congr fun i _ => ?_⟩
    by_cases hi : i = o
    · subst hi
      rw [if_neg (by omega), if_pos rfl, if_pos (by simp), Nat.sub_self]; rfl
    · by_cases h3 : o + 1 ≤ i ∧ i < o + 1 + l.length
      · rw [if_pos h3, if_pos (by simp; omega), show i - o = (i - (o + 1)) + 1 from by omega]; rfl
      · rw [if_neg h3, if_neg hi, if_neg (by simp; omega)]
/-- The first n words are moved up by one. -/
theorem copy_up {w : World} {b n m : Nat} {s : Bool} {f : Nat → Nat} (h : WideM w b s n f) (hm : m ≤ 231) : ∃ w', (Builtin.copy_ #[23, 23] 3 #[.slice (some ⟨b, 3, none⟩) 231 231, .slice (some ⟨b, 2, none⟩) m 232]).run Tryz.prog w = .ok (goInt m) w' ∧ Chg b w w' ∧ WideM w' b s n (fun j => if 1 ≤ j ∧ j < 1 + m then f (j - 1) else f j) := by
  have hl : ((List.range m).map f).length = m := by simp
  have hc := copy_cells b 1 s n ((List.range m).map f) 1 f w h (by rw [hl]; omega)
  have hv : ∀ j (v : Value), (((List.range m).map f).map wV)[j]? = some v → j < m ∧ v = .int .i64 (f j) := fun j v hv => by
    simp only [List.map_map, List.getElem?_map] at hv
    by_cases hj : j < m
    · rw [List.getElem?_range hj] at hv
      exact ⟨hj, (by simpa using hv.symm : v = wV (f j))⟩
    · rw [List.getElem?_eq_none (by simp; omega)] at hv; cases hv
  have hlen : (((List.range m).map f).map wV).length = m := by simp
  refine ⟨_, ?_, hc.1, hc.2.congr fun i _ => ?_⟩
  · have := run_copy_cells (P := Tryz.prog) w 23 23 3 3 b 3 231 231 ⟨b, 2, none⟩ m 232 (((List.range m).map f).map wV) Tryz.underlying23 (by kernel_rfl)
      (by rw [hlen]; exact (Nat.min_eq_left hm).symm)
      (fun j v hj => by obtain ⟨h1, rfl⟩ := hv j v hj; rw [Addr.add_mid]; exact h.cw (by omega))
      (fun j hj => by rw [hlen] at hj; rw [show 3 + j = 2 + (1 + j) from by omega, h.cw (by omega)]; rfl)
      (fun j _ => h.frozen _)
      (fun v hv2 => by obtain ⟨j, hj⟩ := List.getElem?_of_mem hv2; obtain ⟨_, rfl⟩ := hv j v hj; rfl)
    rw [hlen] at this
    exact this
  · rw [hl]
    by_cases h3 : 1 ≤ i ∧ i < 1 + m
    · rw [if_pos h3, if_pos h3, List.getD_eq_getElem?_getD, List.getElem?_map, List.getElem?_range (by omega)]; rfl
    · rw [if_neg h3, if_neg h3]
theorem shift_fun {r x nr : Nat} (hx : x < bB) (hn : nw r = nr) : ∀ i, i < 232 → (if i = 0 then x else if 1 ≤ i ∧ i < 1 + nr then wd r (i - 1) else wd r i) = wd (r * bB + x) i := fun i _ => by
  rw [shift_word hx]
  by_cases e : i = 0
  · rw [if_pos e, if_pos e]
  · rw [if_neg e, if_neg e]
    by_cases h : 1 ≤ i ∧ i < 1 + nr
    · rw [if_pos h]
    · rw [if_neg h, wd_high (by omega), wd_high (by omega)]
theorem digit_lt {v d y x0 : Nat} (h : v + d * y = x0) (hx : x0 < y * bB) : d < 1000000000 := by
  have h1 : d * y < bB * y := by rw [Nat.mul_comm bB]; omega
  exact Nat.lt_of_mul_lt_mul_right h1
theorem rest_nw {v d y x0 : Nat} (h : v + d * y = x0) (hx : x0 < y * bB) : nw v ≤ nw y + 1 := by
  refine (nw_le _ _).2 ?_
  rw [Nat.pow_succ]
  have := lt_nw y
  have h2 := Nat.mul_lt_mul_of_pos_right this (show 0 < bB by decide)
  omega
theorem rest_step {v d y x0 e : Nat} (h : v + d * y = x0) (he : e * y ≤ v) : (v - e * y) + (d + e) * y = x0 := by
  rw [Nat.add_mul]; omega
theorem sub_int {v e y : Nat} (he : e * y ≤ v) : ((v - e * y : Nat) : Int) = (v : Int) + (-(e : Int)) * (bB ^ 0 : Nat) * (y : Int) := by
  rw [Nat.pow_zero, Int.ofNat_sub he]
  push_cast
  rw [Int.mul_one, Int.neg_mul]; rfl
def QF (q j : Nat) (f : Nat → Nat) : Prop := ∀ k, k < 232 → f k = if k < j then 0 else wd q k
theorem QF.step {q j : Nat} {f : Nat → Nat} (h : QF q (j + 1) f) : QF q j (fun k => if k = j then wd q j else f k) := fun k hk => by
  show (if k = j then _ else _) = _
  by_cases e : k = j
  · subst e; rw [if_pos rfl, if_neg (by omega)]
  · rw [if_neg e, h k hk]
    by_cases e2 : k < j
    · rw [if_pos e2, if_pos (by omega)]
    · rw [if_neg e2, if_neg (by omega)]

set_option maxRecDepth 100000 in
set_option maxHeartbeats 8000000 in
theorem divided_any (bx by_ vx vy : Nat) (sx sy : Bool) (w : World) (R : Ending → World → Prop) (hx : Wide w bx sx vx) (hy : Wide w by_ sy vy) (nx : nw vx ≤ 231) (ny : nw vy ≤ 230) (h0 : vy ≠ 0)
   (hR : ∀ w', Below w.heap.size w w' → Wide w' w.heap.size false (vx / vy) → Wide w' (w.heap.size + 1) false (vx % vy) → w.heap.size + 1 < w'.heap.size → R (.returned (.tuple #[.pointer (some ⟨w.heap.size, 0, none⟩), .pointer (some ⟨w.heap.size + 1, 0, none⟩)])) w') :
    Calls Tryz.prog 232 #[.pointer (some ⟨bx, 0, none⟩), .pointer (some ⟨by_, 0, none⟩)] w R := by
  have HR := Lib.hid hR
  have HX := Lib.hid hx
  have HY := Lib.hid hy
  have NX := Lib.hid nx
  have NY := Lib.hid ny
  have H0 := Lib.hid h0
  obtain ⟨bq, hbq⟩ : ∃ b, w.heap.size = b := ⟨_, rfl⟩
  obtain ⟨w1, E1, HB1, s1, X1⟩ := box_ex w Tryz.zeroCells184 184
  obtain ⟨w2, E2, HB2, s2, X2⟩ := box_ex w1 Tryz.zeroCells184 184
  have z1 : w1.heap.size = w.heap.size + 1 := by rw [← E1]; simp
  have z2 : Hid (w2.heap.size = w.heap.size + 2) := by unfold Hid; rw [← E2]; simp [z1]
  have BX : Hid (bx < w.heap.size) := lt_of_block hx
  have BY : Hid (by_ < w.heap.size) := lt_of_block hy
  have WQ0 : Hid (Wide w2 w.heap.size false 0) := (zero_wide X1.out).below HB2.out
  have WR0 : Hid (Wide w2 (w.heap.size + 1) false 0) := by have := zero_wide X2.out; rwa [z1] at this
  have BW : Hid (Below w.heap.size w w2) := HB1.out.trans (HB2.out.mono (by omega))
  have HX2 : Hid (Wide w2 bx sx vx) := HX.out.below BW.out
  have x1 := HX2.out.m.c1
  obtain ⟨n, hn⟩ : ∃ n, nw vx = n := ⟨_, rfl⟩
  have HN := Lib.hid hn
  rw [hn] at x1 nx
  have Z1 := Lib.hid z1
  clear hR hx hy ny h0 hn s1 s2 z1
  rw [hbq] at HR Z1 z2 BX BY WQ0 WR0 BW
  have HBQ := Lib.hid hbq
  have hbr : w1.heap.size = bq + 1 := Z1.out
  go_enter Tryz.func232, Tryz.ntmps232
  go_wp2_with (first | (rw [E1]) | (rw [E2]))
  clear hbq hbr
  go_loopw [8] (fun i wr => ∃ (z : Int) (j m : Nat) (f : Nat → Nat), i = .int .i64 z ∧ z + 1 = j ∧ j ≤ n ∧ m ≤ 232 ∧ (j < n → n ≤ m) ∧ Hid (Below bq w wr) ∧ Hid (WideM wr bq false m f) ∧ Hid (QF (vx / vy) j f) ∧ Hid (Wide wr (bq + 1) false (vx / bB ^ j % vy)) ∧ Hid (bq + 1 < wr.heap.size)) (fun i _ => (intOf i + 1).toNat)
  case atStart =>
    refine ⟨(n : Int) - 1, n, 0, (fun _ => 0), by go_num, by omega, Nat.le_refl _, by omega, fun h => absurd h (Nat.lt_irrefl _), BW, ?_, ?_, ?_, ?_⟩
    · have := WQ0.out; unfold Wide at this; rw [wdC_zero] at this; exact this
    · intro k hk
      by_cases e : k < n
      · rw [if_pos e]
      · rw [if_neg e, wd_high (Nat.le_trans (nw_mono (Nat.div_le_self _ _)) (by rw [HN.out]; omega))]
    · rw [← HN.out, Nat.div_eq_of_lt (lt_nw vx), Nat.zero_mod]; exact WR0
    · have := z2.out; unfold Hid; omega
  case round =>
    obtain ⟨z, j, m, f, rfl, hz, hj, hm, hmn, HB, HQ, HF, HW, HS⟩ := hrel
    have HM := Lib.hid hm
    have HMN := Lib.hid hmn
    clear hmn
    cases j with
    | zero =>
      have hz1 : z = -1 := by omega
      subst hz1
      have hqn : Hid (nw (vx / vy) ≤ m) := by
        unfold Hid
        refine Nat.le_trans (nw_mono (Nat.div_le_self _ _)) ?_
        rw [HN.out]
        rcases Nat.eq_zero_or_pos n with h | h
        · omega
        · exact HMN.out h
      have hfv : Hid (∀ i, i < 232 → f i = wd (vx / vy) i) := fun i hi => by rw [HF.out i hi, if_neg (by omega)]
      have HW2 : Hid (Wide wr (bq + 1) false (vx % vy)) := by have := HW.out; rw [Nat.pow_zero, Nat.div_one] at this; exact this
      go_wp2_with fail
      with_reducible refine trimmed_any bq (vx / vy) m false f _ _ HQ.out HM.out hqn.out hfv.out fun w3 hc hw => ?_
      have HB3 : Hid (Below bq w w3) := HB.out.trans hc.1
      have HQ3 := Lib.hid hw
      have HR3 : Hid (Wide w3 (bq + 1) false (vx % vy)) := HW2.out.chg hc (by omega)
      have HS3 : Hid (bq + 1 < w3.heap.size) := by unfold Hid; rw [hc.2.1]; exact HS.out
      clear hc hw
      go_wp2_with fail
      exact HR.out _ HB3.out HQ3.out HR3.out HS3.out
    | succ k =>
      have hz1 : z = (k : Int) := by omega
      subst hz1
      clear hz
      have hrk := Nat.mod_lt (vx / bB ^ (k + 1)) (Nat.pos_of_ne_zero H0.out)
      obtain ⟨r, hr⟩ : ∃ r, vx / bB ^ (k + 1) % vy = r := ⟨_, rfl⟩
      obtain ⟨d1, d2, d3⟩ := div_word (v := vx) (j := k) H0.out
      rw [hr] at HW hrk d1 d2 d3
      have D1 := Lib.hid d1
      have D2 := Lib.hid d2
      have D3 := Lib.hid d3
      have HRK := Lib.hid hrk
      clear d1 d2 d3 hrk hr
      obtain ⟨nr, hnr⟩ : ∃ n, nw r = n := ⟨_, rfl⟩
      have HNR := Lib.hid hnr
      have hnr1 : nr ≤ 230 := by rw [← hnr]; exact Nat.le_trans (nw_mono (Nat.le_of_lt HRK.out)) NY.out
      have HXr := Lib.hid (HX.out.below (HB.out.mono (by rw [HBQ.out]; exact Nat.le_refl _)))
      have HYr := Lib.hid (HY.out.below (HB.out.mono (by rw [HBQ.out]; exact Nat.le_refl _)))
      have rn : wr.drew.cell? ⟨bq + 1, 1, none⟩ = some (.int .i64 (nr : Int)) := by have := HW.out.m.c1; rw [HNR.out] at this; exact this
      obtain ⟨w3, hcp, hc3, hw3⟩ := copy_up (w := wr.drew) (b := bq + 1) (m := nr) HW.out.m (by omega)
      have HX3 : Hid (Wide w3 bx sx vx) := (show Wide wr.drew bx sx vx from HXr.out).chg hc3 (by have := BX.out; omega)
      have HY3 : Hid (Wide w3 by_ sy vy) := (show Wide wr.drew by_ sy vy from HYr.out).chg hc3 (by have := BY.out; omega)
      have HQ3 : Hid (WideM w3 bq false m f) := (show WideM wr.drew bq false m f from HQ.out).chg hc3 (by omega)
      have HB3 : Hid (Below bq w w3) := HB.out.trans ((Below.refl _ _).drew.trans (hc3.1.mono (by omega)))
      have HS3 : Hid (bq + 1 < w3.heap.size) := by unfold Hid; rw [hc3.2.1]; exact HS.out
      have hk232 : k < 232 := by have := NX.out; have := HN.out; omega
      obtain ⟨x, hx0⟩ : ∃ x, wd vx k = x := ⟨_, rfl⟩
      have c3 : w3.drew.cell? ⟨bx, 2 + k, none⟩ = some (.int .i64 x) := by have := HX3.out.m.cw hk232; rw [hx0] at this; exact this
      have HXX := Lib.hid hx0
      have fz3 := hw3.frozen 2
      have o3 : w3.drew.cell? ⟨bq + 1, 2, none⟩ = some (.int .i64 ((if 1 ≤ 0 ∧ 0 < 1 + nr then wd r (0 - 1) else wd r 0 : Nat) : Int)) := hw3.cw (i := 0) (by decide)
      have KK : ((k : Int) < 232) = True := eq_true (by omega)
      obtain ⟨w4, E4⟩ : ∃ w4, w3.setCell ⟨bq + 1, 2, none⟩ (.int .i64 (x : Int)) = w4 := ⟨_, rfl⟩
      obtain ⟨w5, E5⟩ : ∃ w5, w4.setCell ⟨bq + 1, 1, none⟩ (.int .i64 ((nr : Int) + 1)) = w5 := ⟨_, rfl⟩
      have HW4 : Hid (WideM w4 (bq + 1) false (nw r) (fun i => if i = 0 then x else if 1 ≤ i ∧ i < 1 + nr then wd r (i - 1) else wd r i)) := by rw [← E4]; exact hw3.setW (by decide : 0 < 232) x
      have HW5 : Hid (WideM w5.drew (bq + 1) false (nr + 1) (fun i => if i = 0 then x else if 1 ≤ i ∧ i < 1 + nr then wd r (i - 1) else wd r i)) := by rw [← E5]; exact HW4.out.setN (nr + 1)
      have HC4 : Hid (Chg (bq + 1) w3 w4) := by rw [← E4]; exact (Chg.refl _ _).setCell _ _
      have HC5 : Hid (Chg (bq + 1) w3 w5.drew) := by rw [← E5]; exact (HC4.out.setCell _ _).drew
      have c4 : w4.drew.cell? ⟨bx, 2 + k, none⟩ = some (.int .i64 x) := by have := (HX3.out.chg HC4.out (by have := BX.out; omega)).m.cw hk232; rw [hx0] at this; exact this
      have n4 : w4.cell? ⟨bq + 1, 1, none⟩ = some (.int .i64 (nr : Int)) := by have := HW4.out.c1; rw [hnr] at this; exact this
      have fz4 := HW4.out.frozen 1
      clear hx0
      have KN1 : ((nr : Int) ≤ 232) = True := eq_true (by omega)
      go_wp2_with fail
      refine regionL [0, 1, 2, 3, 4, 5, 6, 7, 8, 9, 10, 11] (fun w' => w'.cell? ⟨bq + 1, 1, none⟩ = some (.int .i64 (nr : Int)) ∧ True) (by kernel_rfl) (⟨rn, trivial⟩) (fun Qn hPQ hQn hS0 => ?_)
      iterate 12 (refine takeL (v := ?_) rfl rfl (by kernel_rfl) (by kernel_rfl) (by kernel_rfl) hPQ hS0 (by kernel_rfl) ?_ ?_; rotate_left; (focus (intro w hSw; (try dsimp only at hSw); obtain ⟨k0, _⟩ := hSw; go_simp; (try with_reducible rfl))); (try simp only [Act.put, List.setIfInBounds_toArray, List.set_cons_zero, List.set_cons_succ]))
      refine ofL (wpAnyH_ready (rs := [12]) (by kernel_rfl) (by simp) ?_)
      refine AllReadyH.cons (o := _) rfl (fun K hK => ?_) AllReadyH.nil
      go_simp
      have rn3 : w3.cell? ⟨bq + 1, 1, none⟩ = some (.int .i64 (nr : Int)) := by have := hw3.c1; rw [hnr] at this; exact this
      refine hK.out _ _ (⟨rn3, trivial⟩) (fun hS1 => toL [] ?_)
      clear hK K hS0
      (try simp only [Act.put, List.setIfInBounds_toArray, List.set_cons_zero, List.set_cons_succ])
      refine ofL (wpAnyH_done (by kernel_rfl) (hQn.out _ _ ?_) _)
      clear hS1 hPQ hQn Qn
      go_wp2_with fail
      refine regionL [0, 1, 2, 3, 4, 5, 6, 7, 8, 9] (fun w' => w'.cell? ⟨bx, 2 + k, none⟩ = some (.int .i64 x) ∧ True) (by kernel_rfl) (⟨c3, trivial⟩) (fun Qn hPQ hQn hS0 => ?_)
      iterate 10 (refine takeL (v := ?_) rfl rfl (by kernel_rfl) (by kernel_rfl) (by kernel_rfl) hPQ hS0 (by kernel_rfl) ?_ ?_; rotate_left; (focus (intro w hSw; (try dsimp only at hSw); obtain ⟨k0, _⟩ := hSw; go_simp; (try with_reducible rfl))); (try simp only [Act.put, List.setIfInBounds_toArray, List.set_cons_zero, List.set_cons_succ]))
      refine ofL (wpAnyH_ready (rs := [10]) (by kernel_rfl) (by simp) ?_)
      refine AllReadyH.cons (o := _) rfl (fun K hK => ?_) AllReadyH.nil
      go_simp
      (try rw [E4])
      refine hK.out _ _ (⟨c4, trivial⟩) (fun hS1 => toL [] ?_)
      clear hK K hS0
      (try simp only [Act.put, List.setIfInBounds_toArray, List.set_cons_zero, List.set_cons_succ])
      refine ofL (wpAnyH_done (by kernel_rfl) (hQn.out _ _ ?_) _)
      clear hS1 hPQ hQn Qn
      go_wp2_with (rw [E5])
      have hnv : Hid (nw (r * bB + x) ≤ nr + 1) := by unfold Hid; rw [← HNR.out]; exact nw_shift (by rw [← HXX.out]; exact wd_lt _ _)
      with_reducible refine trimmed_any (bq + 1) (r * bB + x) (nr + 1) false _ _ _ HW5.out (by omega) hnv.out (shift_fun (by rw [← HXX.out]; exact wd_lt _ _) HNR.out) fun w6 hc6 hw6 => ?_
      have HC6 : Hid (Chg (bq + 1) w3 w6) := HC5.out.trans hc6
      have HW6 := Lib.hid hw6
      clear hc6 hw6
      have D3' : Hid (r * bB + x < vy * bB) := by have := D3.out; rw [HXX.out] at this; exact this
      go_wp2_with fail
      go_loopw [9] (fun dg wq => ∃ (d v : Nat), dg = .int .i64 d ∧ Hid (v + d * vy = r * bB + x) ∧ Hid (Chg (bq + 1) w3 wq) ∧ Hid (Wide wq (bq + 1) false v)) (fun dg _ => 1000000000 - (intOf dg).toNat)
      case atStart => exact ⟨0, r * bB + x, rfl, by unfold Hid; omega, HC6, HW6⟩
      case round =>
        obtain ⟨d, v, rfl, HV, HC, HWv⟩ := hrel
        have hd9 := digit_lt HV.out D3'.out
        have HNV : Hid (nw v ≤ 231) := by have := rest_nw HV.out D3'.out; have := NY.out; unfold Hid; omega
        have HYq : Hid (Wide wr by_ sy vy) := HY3.out.chg HC.out (by have := BY.out; omega)
        go_wp2_with fail
        with_reducible refine beyond_any (bq + 1) by_ v vy false sy _ _ HWv.out HYq.out (by have := HNV.out; omega) (by have := NY.out; omega) fun rr w7 hd7 hr7 => ?_
        obtain ⟨qq, hqq⟩ := hd7
        have HW7 : Hid (Wide w7 (bq + 1) false v) := by rw [hqq]; exact HWv.out
        have HY7 : Hid (Wide w7 by_ sy vy) := by rw [hqq]; exact HYq.out
        have HC7 : Hid (Chg (bq + 1) w3 w7) := by rw [hqq]; exact HC.out.of_drewN qq
        clear hqq
        by_cases hle : vy ≤ v
        · have KR : (0 ≤ rr) = True := eq_true (hr7.2 hle)
          have hvlt : v < vy * bB := by have := HV.out; have := D3'.out; omega
          obtain ⟨e1, e2, e3⟩ := est_ok H0.out hle hvlt
          obtain ⟨e, he⟩ : ∃ e, estK v vy = e := ⟨_, rfl⟩
          rw [he] at e1 e2 e3
          have HE := Lib.hid he
          have E3 := Lib.hid e3
          have HLE := Lib.hid hle
          clear hr7 hle hvlt he e3
          go_wp2_with fail
          with_reducible refine estimate_any (bq + 1) by_ v vy false sy _ _ HW7.out HY7.out (by have := HNV.out; omega) (by have := NY.out; omega) H0.out fun w8 hd8 => ?_
          rw [HE.out]
          obtain ⟨q8, hq8⟩ := hd8
          have HW8 : Hid (Wide w8 (bq + 1) false v) := by rw [hq8]; exact HW7.out
          have HY8 : Hid (Wide w8 by_ sy vy) := by rw [hq8]; exact HY7.out
          have HC8 : Hid (Chg (bq + 1) w3 w8) := by rw [hq8]; exact HC7.out.of_drewN q8
          clear hq8
          go_wp2_with fail
          with_reducible refine carry_z (bq + 1) by_ v vy (v - e * vy) 0 (-(e : Int)) 0 rfl false sy _ _ HW8.out HY8.out (by have := BY.out; omega) ⟨by omega, by omega⟩ (by have := NY.out; omega) (by have := HNV.out; omega) (sub_int E3.out) (Nat.le_trans (nw_mono (Nat.sub_le _ _)) (by have := HNV.out; omega)) fun w9 hc9 hw9 => ?_
          have HC9 : Hid (Chg (bq + 1) w3 w9) := HC8.out.trans hc9
          have HW9 := Lib.hid hw9
          have HV9 : Hid (v - e * vy + (d + e) * vy = r * bB + x) := rest_step HV.out E3.out
          have hd10 := digit_lt HV9.out D3'.out
          clear hc9 hw9
          go_wp2_with fail
          refine ⟨⟨d + e, v - e * vy, ?_, HV9, HC9, HW9⟩, ?_⟩
          · go_num
          · simp [intOf]; omega
        · have KR : (0 ≤ rr) = False := eq_false (fun h => hle (hr7.1 h))
          obtain ⟨f1, f2⟩ := div_sub H0.out HV.out (Nat.lt_of_not_le hle)
          have F1 : Hid (wd (vx / vy) k = d) := by unfold Hid; rw [D1.out, f1, HXX.out]
          have F2 : Hid (vx / bB ^ k % vy = v) := by unfold Hid; rw [D2.out, f2, HXX.out]
          have HQ7 : Hid (WideM w7 bq false m f) := HQ3.out.chg HC7.out (by omega)
          have HB7 : Hid (Below bq w w7) := HB3.out.trans (HC7.out.1.mono (by omega))
          have HS7 : Hid (bq + 1 < w7.heap.size) := by unfold Hid; rw [HC7.out.2.1]; exact HS3.out
          have g0 := HQ7.out.cw hk232
          have fz0 := HQ7.out.frozen (2 + k)
          have fz1 := HQ7.out.frozen 1
          have HQ8 : Hid (WideM (w7.setCell ⟨bq, 2 + k, none⟩ (.int .i64 (d : Int))) bq false m (fun i => if i = k then d else f i)) := HQ7.out.setW hk232 d
          have g1 := HQ8.out.c1
          have fz2 := HQ8.out.frozen 1
          have hmx : (if (m : Int) < (k : Int) + 1 then (k : Int) + 1 else (m : Int)) = ((max m (k + 1) : Nat) : Int) := by split <;> omega
          have KMX := Lib.hid hmx
          have HQ9 : Hid (WideM ((w7.setCell ⟨bq, 2 + k, none⟩ (.int .i64 (d : Int))).setCell ⟨bq, 1, none⟩ (.int .i64 (max m (k + 1) : Nat))) bq false (max m (k + 1)) (fun i => if i = k then d else f i)) := HQ8.out.setN _
          have CQ : Hid (Chg bq w7 ((w7.setCell ⟨bq, 2 + k, none⟩ (.int .i64 (d : Int))).setCell ⟨bq, 1, none⟩ (.int .i64 (max m (k + 1) : Nat)))) := ((Chg.refl bq w7).setCell _ _).setCell _ _
          have HW9 : Hid (Wide ((w7.setCell ⟨bq, 2 + k, none⟩ (.int .i64 (d : Int))).setCell ⟨bq, 1, none⟩ (.int .i64 (max m (k + 1) : Nat))) (bq + 1) false (vx / bB ^ k % vy)) := by
            unfold Hid; rw [F2.out]; exact HW7.out.chg CQ.out (by omega)
          have HB9 : Hid (Below bq w ((w7.setCell ⟨bq, 2 + k, none⟩ (.int .i64 (d : Int))).setCell ⟨bq, 1, none⟩ (.int .i64 (max m (k + 1) : Nat)))) := HB7.out.trans CQ.out.1
          have HS9 : Hid (bq + 1 < ((w7.setCell ⟨bq, 2 + k, none⟩ (.int .i64 (d : Int))).setCell ⟨bq, 1, none⟩ (.int .i64 (max m (k + 1) : Nat))).heap.size) := by unfold Hid; rw [CQ.out.2.1]; exact HS7.out
          have HF9 : Hid (QF (vx / vy) k (fun i => if i = k then d else f i)) := by
            have := HF.out.step
            rw [F1.out] at this; exact this
          have N1 : max m (k + 1) ≤ 232 := Nat.max_le.2 ⟨HM.out, by omega⟩
          have N2 : k < n → n ≤ max m (k + 1) := fun _ => by
            rcases Nat.lt_or_ge (k + 1) n with h | h
            · exact Nat.le_trans (HMN.out h) (Nat.le_max_left _ _)
            · exact Nat.le_trans h (Nat.le_max_right _ _)
          have N3 := Lib.hid N2
          have N4 := Lib.hid N1
          clear hr7 hle f1 f2 hmx N2 N1
          go_wp2_with fail
          simp only [KMX.out]
          refine ⟨⟨(k : Int) - 1, k, max m (k + 1), (fun i => if i = k then d else f i), ?_, by omega, by omega, N4.out, N3.out, ?_, ?_, HF9, ?_, ?_⟩, ?_⟩
          · go_num
          · with_reducible exact HB9
          · with_reducible exact HQ9
          · with_reducible exact HW9
          · with_reducible exact HS9
          · simp [intOf]
end Go.Proofs.YtcmhompbdanpdaaGreatDoor
