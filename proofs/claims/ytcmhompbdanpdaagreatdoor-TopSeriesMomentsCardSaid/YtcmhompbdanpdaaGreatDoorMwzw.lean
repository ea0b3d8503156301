/- crossed, Minus, Plus, Times, By, Order of reference 02. (Printed by gen_ratops.py.) Series: Few, Check, sums, means of capability and of reference 57. Sums and means of series, in capability and in reference 57. Histograms and runs, step by step: what the walks need. No program in sight. -/
import Derived.Test.YtcmhompbdanpdaaGreatDoorMwzo
import Derived.Test.YtcmhompbdanpdaaGreatDoorMve
namespace Go.Proofs.YtcmhompbdanpdaaGreatDoor
open Go.RowKit

set_option exponentiation.threshold 4000 in
theorem len_mul {m n : Int} (hm : lenI m ≤ 500) (hn : lenI n ≤ 500) : lenI (m * n) ≤ 1000 := by
  rw [lenI_le (by decide)] at *
  rw [Int.natAbs_mul, show (10 : Nat) ^ 1000 = 10 ^ 500 * 10 ^ 500 from by rw [← Nat.pow_add]]
  exact Nat.mul_lt_mul'' hm hn
set_option exponentiation.threshold 4000 in
theorem len_add {m n : Int} (hm : lenI m ≤ 1000) (hn : lenI n ≤ 1000) : lenI (m + n) ≤ 1400 ∧ lenI (m - n) ≤ 1400 := by
  rw [lenI_le (by decide)] at hm hn
  have e : (10 : Nat) ^ 1400 = 10 ^ 400 * 10 ^ 1000 := by rw [← Nat.pow_add]
  have e2 : 2 ≤ (10 : Nat) ^ 400 := by
    have : (10 : Nat) ^ 1 ≤ 10 ^ 400 := Nat.pow_le_pow_right (by decide) (by decide)
    omega
  have h3 : 2 * 10 ^ 1000 ≤ (10 : Nat) ^ 400 * 10 ^ 1000 := Nat.mul_le_mul_right _ e2
  constructor <;> rw [lenI_le (by decide), e] <;> omega
/-- The products crosswise, as they lie in a block. -/
structure Crs (w : World) (b : Nat) (p q : Rat) (r0 r1 r2 r3 r4 : ByteArray) : Prop where
  blk : w.heap[b]? = some (.cells #[.string r0, .string r1, .string r2, .string r3, .string r4] 61 (0, 0))
  t0 : Txt r0 (p.num * (q.den : Int))
  t1 : Txt r1 (q.num * (p.den : Int))
  t2 : Txt r2 ((p.den : Int) * (q.den : Int))
  t3 : Txt r3 (p.num * q.num)
  t4 : Txt r4 ((p.den : Int) * q.num)
set_option maxHeartbeats 4000000 in
theorem ycrossed_any (a b : ByteArray) (p q : Rat) (ha : TxR a p) (hb : TxR b q) (hp : SmR 500 p) (hq : SmR 500 q) (w : World) (R : Ending → World → Prop)
   (hR : ∀ bk r0 r1 r2 r3 r4 w', Below w.heap.size w w' → Crs w' bk p q r0 r1 r2 r3 r4 → R (.returned (.slice (some ⟨bk, 0, none⟩) 5 5)) w') :
    Calls Tryz.prog 134 #[.string a, .string b] w R := by
  have HR := Lib.hid hR
  have pn : Hid (lenI p.num ≤ 1500) := Nat.le_trans hp.len.1 (by decide)
  have pd : Hid (lenI (p.den : Int) ≤ 1500) := Nat.le_trans hp.len.2 (by decide)
  have qn : Hid (lenI q.num ≤ 1500) := Nat.le_trans hq.len.1 (by decide)
  have qd : Hid (lenI (q.den : Int) ≤ 1500) := Nat.le_trans hq.len.2 (by decide)
  have HP := Lib.hid hp
  have HQ := Lib.hid hq
  have HA := Lib.hid ha
  have HB := Lib.hid hb
  clear hR ha hb hp hq
  go_enter Tryz.func134, Tryz.ntmps134
  go_wp2_with fail
  with_reducible refine ysplit_any a p HA.out HP.out _ _ fun n d w1 hb1 hn hd => ?_
  have B1 := Lib.hid hb1
  have TN := Lib.hid hn
  have TD := Lib.hid hd
  clear hb1 hn hd
  go_wp2_with fail
  with_reducible refine ysplit_any b q HB.out HQ.out _ _ fun m e w2 hb2 hn hd => ?_
  have B2 : Hid (Below w.heap.size w w2) := B1.out.trans (hb2.mono B1.out.size)
  have TM := Lib.hid hn
  have TE := Lib.hid hd
  clear hb2 hn hd
  go_wp2_with fail
  with_reducible refine xtimes_any n e p.num (q.den : Int) TN.out TE.out pn.out qd.out _ _ fun r0 w3 hb hr => ?_
  have B3 : Hid (Below w.heap.size w w3) := B2.out.trans (hb.mono B2.out.size)
  have T0 := Lib.hid hr
  clear hb hr
  go_wp2_with fail
  with_reducible refine xtimes_any m d q.num (p.den : Int) TM.out TD.out qn.out pd.out _ _ fun r1 w4 hb hr => ?_
  have B4 : Hid (Below w.heap.size w w4) := B3.out.trans (hb.mono B3.out.size)
  have T1 := Lib.hid hr
  clear hb hr
  go_wp2_with fail
  with_reducible refine xtimes_any d e (p.den : Int) (q.den : Int) TD.out TE.out pd.out qd.out _ _ fun r2 w5 hb hr => ?_
  have B5 : Hid (Below w.heap.size w w5) := B4.out.trans (hb.mono B4.out.size)
  have T2 := Lib.hid hr
  clear hb hr
  go_wp2_with fail
  with_reducible refine xtimes_any n m p.num q.num TN.out TM.out pn.out qn.out _ _ fun r3 w6 hb hr => ?_
  have B6 : Hid (Below w.heap.size w w6) := B5.out.trans (hb.mono B5.out.size)
  have T3 := Lib.hid hr
  clear hb hr
  go_wp2_with fail
  with_reducible refine xtimes_any d m (p.den : Int) q.num TD.out TM.out pd.out qn.out _ _ fun r4 w7 hb hr => ?_
  have B7 : Hid (Below w.heap.size w w7) := B6.out.trans (hb.mono B6.out.size)
  have T4 := Lib.hid hr
  clear hb hr
  obtain ⟨w8, E8, HB8, s8, X8⟩ := box_ex w7 #[.string r0, .string r1, .string r2, .string r3, .string r4] 61
  have B8 : Hid (Below w.heap.size w w8) := B7.out.trans (HB8.out.mono B7.out.size)
  have HC : Hid (Crs w8 w7.heap.size p q r0 r1 r2 r3 r4) := ⟨X8.out, T0.out, T1.out, T2.out, T3.out, T4.out⟩
  go_wp2_with (rw [E8])
  exact HR.out _ _ _ _ _ _ _ B8.out HC.out
set_option maxRecDepth 100000 in
set_option maxHeartbeats 4000000 in
theorem yminus_any (a b : ByteArray) (p q : Rat) (ha : TxR a p) (hb : TxR b q) (hp : SmR 500 p) (hq : SmR 500 q) (w : World) (R : Ending → World → Prop) (hR : ∀ r w', Below w.heap.size w w' → TxR r (p - q) → R (.returned (.string r)) w') :
    Calls Tryz.prog 63 #[.string a, .string b] w R := by
  have HR := Lib.hid hR
  have hval := Lib.hid (rat_sub p q)
  have hpl := hp.len
  have hql := hq.len
  have hdn : Hid ((p.den : Int) * (q.den : Int) ≠ 0) := by
    have h1 := p.den_pos
    have h2 := q.den_pos
    unfold Hid
    exact Int.mul_ne_zero (by omega) (by omega)
  have l1 : Hid (lenI (p.num * (q.den : Int)) ≤ 1500) := Nat.le_trans (len_mul hpl.1 hql.2) (by decide)
  have l2 : Hid (lenI (q.num * (p.den : Int)) ≤ 1500) := Nat.le_trans (len_mul hql.1 hpl.2) (by decide)
  have l3 : Hid (lenI (p.num * (q.den : Int) - q.num * (p.den : Int)) ≤ 1400) := (len_add (len_mul hpl.1 hql.2) (len_mul hql.1 hpl.2)).2
  have l4 : Hid (lenI ((p.den : Int) * (q.den : Int)) ≤ 1400) := Nat.le_trans (len_mul hpl.2 hql.2) (by decide)
  clear hR hpl hql
  go_enter Tryz.func63, Tryz.ntmps63
  go_wp2_with fail
  with_reducible refine ycrossed_any a b p q ha hb hp hq _ _ fun bk r0 r1 r2 r3 r4 w1 hb1 hc => ?_
  have B1 : Hid (Below w.heap.size w w1.drew) := hb1.drew
  have HC := Lib.hid hc
  have c0 : w1.drew.cell? ⟨bk, 0, none⟩ = some (.string r0) := cell_at hc.blk (j := 0) (v := .string r0) rfl
  have c1 : w1.drew.cell? ⟨bk, 1, none⟩ = some (.string r1) := cell_at hc.blk (j := 1) (v := .string r1) rfl
  have c2 : w1.drew.cell? ⟨bk, 2, none⟩ = some (.string r2) := cell_at hc.blk (j := 2) (v := .string r2) rfl
  clear hb1 hc ha hb hp hq
  go_wp2_with fail
  refine regionL [0, 1, 2, 3, 4, 5, 7, 8, 9] (fun w' => w'.cell? ⟨bk, 0, none⟩ = some (.string r0) ∧ w'.cell? ⟨bk, 1, none⟩ = some (.string r1) ∧ w'.cell? ⟨bk, 2, none⟩ = some (.string r2)) (by kernel_rfl) (⟨c0, c1, c2⟩) (fun Qn hPQ hQn hS0 => ?_)
  iterate 9 (refine takeL (v := ?_) rfl rfl (by kernel_rfl) (by kernel_rfl) (by kernel_rfl) hPQ hS0 (by kernel_rfl) ?_ ?_; rotate_left; (focus (intro w hSw; (try dsimp only at hSw); obtain ⟨k0, k1, k2⟩ := hSw; go_simp; (try with_reducible rfl))); (try simp only [Act.put, List.setIfInBounds_toArray, List.set_cons_zero, List.set_cons_succ]))
  refine ofL (wpAnyH_ready (rs := [6]) (by kernel_rfl) (by simp) ?_)
  refine AllReadyH.cons (o := _) rfl (fun K hK => ?_) AllReadyH.nil
  go_simp
  with_reducible refine xminus_any r0 r1 _ _ HC.out.t0 HC.out.t1 l1.out l2.out _ _ fun s w2 hb2 hs => ?_
  have B2 : Hid (Below w.heap.size w w2) := B1.out.trans (hb2.mono B1.out.size)
  have d0 : w2.cell? ⟨bk, 0, none⟩ = some (.string r0) := cellB hb2 c0 (lt_of_cell' c0)
  have d1 : w2.cell? ⟨bk, 1, none⟩ = some (.string r1) := cellB hb2 c1 (lt_of_cell' c1)
  have d2 : w2.cell? ⟨bk, 2, none⟩ = some (.string r2) := cellB hb2 c2 (lt_of_cell' c2)
  have TS := Lib.hid hs
  clear hb2 hs
  refine hK.out _ _ (⟨d0, d1, d2⟩) (fun hS1 => toL [] ?_)
  clear hK K hS0
  (try simp only [Act.put, List.setIfInBounds_toArray, List.set_cons_zero, List.set_cons_succ])
  refine ofL (wpAnyH_ready (rs := [10]) (by kernel_rfl) (by simp) ?_)
  refine AllReadyH.cons (o := _) rfl (fun K hK => ?_) AllReadyH.nil
  go_simp
  with_reducible refine ylowest_any s r2 _ _ TS.out HC.out.t2 l3.out l4.out hdn.out _ _ fun r w3 hb3 hr => ?_
  have B3 : Hid (Below w.heap.size w w3) := B2.out.trans (hb3.mono B2.out.size)
  have e0 : w3.cell? ⟨bk, 0, none⟩ = some (.string r0) := cellB hb3 d0 (lt_of_cell' d0)
  have e1 : w3.cell? ⟨bk, 1, none⟩ = some (.string r1) := cellB hb3 d1 (lt_of_cell' d1)
  have e2 : w3.cell? ⟨bk, 2, none⟩ = some (.string r2) := cellB hb3 d2 (lt_of_cell' d2)
  rw [hval.out] at hr
  have TR := Lib.hid hr
  clear hb3 hr
  refine hK.out _ _ (⟨e0, e1, e2⟩) (fun hS2 => toL [11] ?_)
  clear hK K hS1
  (try simp only [Act.put, List.setIfInBounds_toArray, List.set_cons_zero, List.set_cons_succ])
  iterate 1 (refine takeL (v := ?_) rfl rfl (by kernel_rfl) (by kernel_rfl) (by kernel_rfl) hPQ hS2 (by kernel_rfl) ?_ ?_; rotate_left; (focus (intro w hSw; (try dsimp only at hSw); obtain ⟨k0, k1, k2⟩ := hSw; go_simp; (try with_reducible rfl))); (try simp only [Act.put, List.setIfInBounds_toArray, List.set_cons_zero, List.set_cons_succ]))
  refine ofL (wpAnyH_done (by kernel_rfl) (hQn.out _ _ ?_) _)
  clear hS2 hPQ hQn Qn
  go_wp2_with fail
  exact ret_str (HR.out r _ B3.out TR.out) rfl
set_option maxRecDepth 100000 in
set_option maxHeartbeats 4000000 in
theorem yplus_any (a b : ByteArray) (p q : Rat) (ha : TxR a p) (hb : TxR b q) (hp : SmR 500 p) (hq : SmR 500 q) (w : World) (R : Ending → World → Prop) (hR : ∀ r w', Below w.heap.size w w' → TxR r (p + q) → R (.returned (.string r)) w') :
    Calls Tryz.prog 87 #[.string a, .string b] w R := by
  have HR := Lib.hid hR
  have hval := Lib.hid (rat_add p q)
  have hpl := hp.len
  have hql := hq.len
  have hdn : Hid ((p.den : Int) * (q.den : Int) ≠ 0) := by
    have h1 := p.den_pos
    have h2 := q.den_pos
    unfold Hid
    exact Int.mul_ne_zero (by omega) (by omega)
  have l1 : Hid (lenI (p.num * (q.den : Int)) ≤ 1500) := Nat.le_trans (len_mul hpl.1 hql.2) (by decide)
  have l2 : Hid (lenI (q.num * (p.den : Int)) ≤ 1500) := Nat.le_trans (len_mul hql.1 hpl.2) (by decide)
  have l3 : Hid (lenI (p.num * (q.den : Int) + q.num * (p.den : Int)) ≤ 1400) := (len_add (len_mul hpl.1 hql.2) (len_mul hql.1 hpl.2)).1
  have l4 : Hid (lenI ((p.den : Int) * (q.den : Int)) ≤ 1400) := Nat.le_trans (len_mul hpl.2 hql.2) (by decide)
  clear hR hpl hql
  go_enter Tryz.func87, Tryz.ntmps87
  go_wp2_with fail
  with_reducible refine ycrossed_any a b p q ha hb hp hq _ _ fun bk r0 r1 r2 r3 r4 w1 hb1 hc => ?_
  have B1 : Hid (Below w.heap.size w w1.drew) := hb1.drew
  have HC := Lib.hid hc
  have c0 : w1.drew.cell? ⟨bk, 0, none⟩ = some (.string r0) := cell_at hc.blk (j := 0) (v := .string r0) rfl
  have c1 : w1.drew.cell? ⟨bk, 1, none⟩ = some (.string r1) := cell_at hc.blk (j := 1) (v := .string r1) rfl
  have c2 : w1.drew.cell? ⟨bk, 2, none⟩ = some (.string r2) := cell_at hc.blk (j := 2) (v := .string r2) rfl
  clear hb1 hc ha hb hp hq
  go_wp2_with fail
  refine regionL [0, 1, 2, 3, 4, 5, 7, 8, 9] (fun w' => w'.cell? ⟨bk, 0, none⟩ = some (.string r0) ∧ w'.cell? ⟨bk, 1, none⟩ = some (.string r1) ∧ w'.cell? ⟨bk, 2, none⟩ = some (.string r2)) (by kernel_rfl) (⟨c0, c1, c2⟩) (fun Qn hPQ hQn hS0 => ?_)
  iterate 9 (refine takeL (v := ?_) rfl rfl (by kernel_rfl) (by kernel_rfl) (by kernel_rfl) hPQ hS0 (by kernel_rfl) ?_ ?_; rotate_left; (focus (intro w hSw; (try dsimp only at hSw); obtain ⟨k0, k1, k2⟩ := hSw; go_simp; (try with_reducible rfl))); (try simp only [Act.put, List.setIfInBounds_toArray, List.set_cons_zero, List.set_cons_succ]))
  refine ofL (wpAnyH_ready (rs := [6]) (by kernel_rfl) (by simp) ?_)
  refine AllReadyH.cons (o := _) rfl (fun K hK => ?_) AllReadyH.nil
  go_simp
  with_reducible refine xplus_any r0 r1 _ _ HC.out.t0 HC.out.t1 l1.out l2.out _ _ fun s w2 hb2 hs => ?_
  have B2 : Hid (Below w.heap.size w w2) := B1.out.trans (hb2.mono B1.out.size)
  have d0 : w2.cell? ⟨bk, 0, none⟩ = some (.string r0) := cellB hb2 c0 (lt_of_cell' c0)
  have d1 : w2.cell? ⟨bk, 1, none⟩ = some (.string r1) := cellB hb2 c1 (lt_of_cell' c1)
  have d2 : w2.cell? ⟨bk, 2, none⟩ = some (.string r2) := cellB hb2 c2 (lt_of_cell' c2)
  have TS := Lib.hid hs
  clear hb2 hs
  refine hK.out _ _ (⟨d0, d1, d2⟩) (fun hS1 => toL [] ?_)
  clear hK K hS0
  (try simp only [Act.put, List.setIfInBounds_toArray, List.set_cons_zero, List.set_cons_succ])
  refine ofL (wpAnyH_ready (rs := [10]) (by kernel_rfl) (by simp) ?_)
  refine AllReadyH.cons (o := _) rfl (fun K hK => ?_) AllReadyH.nil
  go_simp
  with_reducible refine ylowest_any s r2 _ _ TS.out HC.out.t2 l3.out l4.out hdn.out _ _ fun r w3 hb3 hr => ?_
  have B3 : Hid (Below w.heap.size w w3) := B2.out.trans (hb3.mono B2.out.size)
  have e0 : w3.cell? ⟨bk, 0, none⟩ = some (.string r0) := cellB hb3 d0 (lt_of_cell' d0)
  have e1 : w3.cell? ⟨bk, 1, none⟩ = some (.string r1) := cellB hb3 d1 (lt_of_cell' d1)
  have e2 : w3.cell? ⟨bk, 2, none⟩ = some (.string r2) := cellB hb3 d2 (lt_of_cell' d2)
  rw [hval.out] at hr
  have TR := Lib.hid hr
  clear hb3 hr
  refine hK.out _ _ (⟨e0, e1, e2⟩) (fun hS2 => toL [11] ?_)
  clear hK K hS1
  (try simp only [Act.put, List.setIfInBounds_toArray, List.set_cons_zero, List.set_cons_succ])
  iterate 1 (refine takeL (v := ?_) rfl rfl (by kernel_rfl) (by kernel_rfl) (by kernel_rfl) hPQ hS2 (by kernel_rfl) ?_ ?_; rotate_left; (focus (intro w hSw; (try dsimp only at hSw); obtain ⟨k0, k1, k2⟩ := hSw; go_simp; (try with_reducible rfl))); (try simp only [Act.put, List.setIfInBounds_toArray, List.set_cons_zero, List.set_cons_succ]))
  refine ofL (wpAnyH_done (by kernel_rfl) (hQn.out _ _ ?_) _)
  clear hS2 hPQ hQn Qn
  go_wp2_with fail
  exact ret_str (HR.out r _ B3.out TR.out) rfl
set_option maxRecDepth 100000 in
set_option maxHeartbeats 4000000 in
theorem ytimes_any (a b : ByteArray) (p q : Rat) (ha : TxR a p) (hb : TxR b q) (hp : SmR 500 p) (hq : SmR 500 q) (w : World) (R : Ending → World → Prop) (hR : ∀ r w', Below w.heap.size w w' → TxR r (p * q) → R (.returned (.string r)) w') :
    Calls Tryz.prog 65 #[.string a, .string b] w R := by
  have HR := Lib.hid hR
  have hval := Lib.hid (rat_mul p q)
  have hpl := hp.len
  have hql := hq.len
  have hdn : Hid ((p.den : Int) * (q.den : Int) ≠ 0) := by
    have h1 := p.den_pos
    have h2 := q.den_pos
    unfold Hid
    exact Int.mul_ne_zero (by omega) (by omega)
  have l3 : Hid (lenI (p.num * q.num) ≤ 1400) := Nat.le_trans (len_mul hpl.1 hql.1) (by decide)
  have l4 : Hid (lenI ((p.den : Int) * (q.den : Int)) ≤ 1400) := Nat.le_trans (len_mul hpl.2 hql.2) (by decide)
  clear hR hpl hql
  go_enter Tryz.func65, Tryz.ntmps65
  go_wp2_with fail
  with_reducible refine ycrossed_any a b p q ha hb hp hq _ _ fun bk r0 r1 r2 r3 r4 w1 hb1 hc => ?_
  have B1 : Hid (Below w.heap.size w w1.drew) := hb1.drew
  have HC := Lib.hid hc
  have c2 : w1.drew.cell? ⟨bk, 2, none⟩ = some (.string r2) := cell_at hc.blk (j := 2) (v := .string r2) rfl
  have c3 : w1.drew.cell? ⟨bk, 3, none⟩ = some (.string r3) := cell_at hc.blk (j := 3) (v := .string r3) rfl
  clear hb1 hc ha hb hp hq
  go_wp2_with fail
  refine regionL [0, 1, 2, 3, 4, 5] (fun w' => w'.cell? ⟨bk, 2, none⟩ = some (.string r2) ∧ w'.cell? ⟨bk, 3, none⟩ = some (.string r3)) (by kernel_rfl) (⟨c2, c3⟩) (fun Qn hPQ hQn hS0 => ?_)
  iterate 6 (refine takeL (v := ?_) rfl rfl (by kernel_rfl) (by kernel_rfl) (by kernel_rfl) hPQ hS0 (by kernel_rfl) ?_ ?_; rotate_left; (focus (intro w hSw; (try dsimp only at hSw); obtain ⟨k2, k3⟩ := hSw; go_simp; (try with_reducible rfl))); (try simp only [Act.put, List.setIfInBounds_toArray, List.set_cons_zero, List.set_cons_succ]))
  refine ofL (wpAnyH_ready (rs := [6]) (by kernel_rfl) (by simp) ?_)
  refine AllReadyH.cons (o := _) rfl (fun K hK => ?_) AllReadyH.nil
  go_simp
  with_reducible refine ylowest_any r3 r2 _ _ HC.out.t3 HC.out.t2 l3.out l4.out hdn.out _ _ fun r w3 hb3 hr => ?_
  have B3 : Hid (Below w.heap.size w w3) := B1.out.trans (hb3.mono B1.out.size)
  have e2 : w3.cell? ⟨bk, 2, none⟩ = some (.string r2) := cellB hb3 c2 (lt_of_cell' c2)
  have e3 : w3.cell? ⟨bk, 3, none⟩ = some (.string r3) := cellB hb3 c3 (lt_of_cell' c3)
  rw [hval.out] at hr
  have TR := Lib.hid hr
  clear hb3 hr
  refine hK.out _ _ (⟨e2, e3⟩) (fun hS1 => toL [7] ?_)
  clear hK K hS0
  (try simp only [Act.put, List.setIfInBounds_toArray, List.set_cons_zero, List.set_cons_succ])
  iterate 1 (refine takeL (v := ?_) rfl rfl (by kernel_rfl) (by kernel_rfl) (by kernel_rfl) hPQ hS1 (by kernel_rfl) ?_ ?_; rotate_left; (focus (intro w hSw; (try dsimp only at hSw); obtain ⟨k2, k3⟩ := hSw; go_simp; (try with_reducible rfl))); (try simp only [Act.put, List.setIfInBounds_toArray, List.set_cons_zero, List.set_cons_succ]))
  refine ofL (wpAnyH_done (by kernel_rfl) (hQn.out _ _ ?_) _)
  clear hS1 hPQ hQn Qn
  go_wp2_with fail
  exact ret_str (HR.out r _ B3.out TR.out) rfl
set_option maxRecDepth 100000 in
set_option maxHeartbeats 4000000 in
theorem yorder_any (a b : ByteArray) (p q : Rat) (ha : TxR a p) (hb : TxR b q) (hp : SmR 500 p) (hq : SmR 500 q) (w : World) (R : Ending → World → Prop) (hR : ∀ w', Below w.heap.size w w' → R (.returned (.int .i64 (cmpR p q))) w') :
    Calls Tryz.prog 62 #[.string a, .string b] w R := by
  have HR := Lib.hid hR
  have hcm := Lib.hid (cmpR_eq p q)
  have hpl := hp.len
  have hql := hq.len
  have l1 : Hid (lenI (p.num * (q.den : Int)) ≤ 1500) := Nat.le_trans (len_mul hpl.1 hql.2) (by decide)
  have l2 : Hid (lenI (q.num * (p.den : Int)) ≤ 1500) := Nat.le_trans (len_mul hql.1 hpl.2) (by decide)
  clear hR hpl hql
  go_enter Tryz.func62, Tryz.ntmps62
  go_wp2_with fail
  with_reducible refine ycrossed_any a b p q ha hb hp hq _ _ fun bk r0 r1 r2 r3 r4 w1 hb1 hc => ?_
  have B1 : Hid (Below w.heap.size w w1.drew) := hb1.drew
  have HC := Lib.hid hc
  have c0 : w1.drew.cell? ⟨bk, 0, none⟩ = some (.string r0) := cell_at hc.blk (j := 0) (v := .string r0) rfl
  have c1 : w1.drew.cell? ⟨bk, 1, none⟩ = some (.string r1) := cell_at hc.blk (j := 1) (v := .string r1) rfl
  clear hb1 hc ha hb hp hq
  go_wp2_with fail
  refine regionL [0, 1, 2, 3, 4, 5] (fun w' => w'.cell? ⟨bk, 0, none⟩ = some (.string r0) ∧ w'.cell? ⟨bk, 1, none⟩ = some (.string r1)) (by kernel_rfl) (⟨c0, c1⟩) (fun Qn hPQ hQn hS0 => ?_)
  iterate 6 (refine takeL (v := ?_) rfl rfl (by kernel_rfl) (by kernel_rfl) (by kernel_rfl) hPQ hS0 (by kernel_rfl) ?_ ?_; rotate_left; (focus (intro w hSw; (try dsimp only at hSw); obtain ⟨k0, k1⟩ := hSw; go_simp; (try with_reducible rfl))); (try simp only [Act.put, List.setIfInBounds_toArray, List.set_cons_zero, List.set_cons_succ]))
  refine ofL (wpAnyH_ready (rs := [6]) (by kernel_rfl) (by simp) ?_)
  refine AllReadyH.cons (o := _) rfl (fun K hK => ?_) AllReadyH.nil
  go_simp
  with_reducible refine xorder_any r0 r1 _ _ HC.out.t0 HC.out.t1 l1.out l2.out _ _ fun w2 hb2 => ?_
  have B2 : Hid (Below w.heap.size w w2) := B1.out.trans (hb2.mono B1.out.size)
  have d0 : w2.cell? ⟨bk, 0, none⟩ = some (.string r0) := cellB hb2 c0 (lt_of_cell' c0)
  have d1 : w2.cell? ⟨bk, 1, none⟩ = some (.string r1) := cellB hb2 c1 (lt_of_cell' c1)
  rw [hcm.out]
  clear hb2
  refine hK.out _ _ (⟨d0, d1⟩) (fun hS1 => toL [7] ?_)
  clear hK K hS0
  (try simp only [Act.put, List.setIfInBounds_toArray, List.set_cons_zero, List.set_cons_succ])
  iterate 1 (refine takeL (v := ?_) rfl rfl (by kernel_rfl) (by kernel_rfl) (by kernel_rfl) hPQ hS1 (by kernel_rfl) ?_ ?_; rotate_left; (focus (intro w hSw; (try dsimp only at hSw); obtain ⟨k0, k1⟩ := hSw; go_simp; (try with_reducible rfl))); (try simp only [Act.put, List.setIfInBounds_toArray, List.set_cons_zero, List.set_cons_succ]))
  refine ofL (wpAnyH_done (by kernel_rfl) (hQn.out _ _ ?_) _)
  clear hS1 hPQ hQn Qn
  go_wp2_with fail
  exact ret_i (HR.out _ B2.out) rfl rfl
end Go.Proofs.YtcmhompbdanpdaaGreatDoor
namespace Go.Proofs.YtcmhompbdanpdaaGreatDoor
open Go.RowKit

def fwS (l : List Int) : Bool := decide (l.length ≤ 20) || (decide (4096 < l.length) && decide (l.length < 8192))
theorem at0_get {l : List Int} {k : Nat} (h : k < l.length) : at0 l k = l[k] := by simp [at0, List.getD, h]
set_option maxHeartbeats 1000000 in
theorem zin_any (n : Int) (w : World) (R : Ending → World → Prop) (hR : R (.returned (.bool (inT n))) w) :
    Calls Tryz.prog 141 #[.int .i64 n] w R := by
  go_enter Tryz.func141, Tryz.ntmps141
  go_wp2
  all_goals exact ret_eq hR (by simp [inT, *] <;> omega)
set_option maxHeartbeats 1000000 in
theorem zvalue_any (n : Int) (w : World) (R : Ending → World → Prop) (hR : R (.returned (.bool (inT n))) w) :
    Calls Tryz.prog 82 #[.int .i64 n] w R := by
  go_enter Tryz.func82, Tryz.ntmps82
  go_wp2
  all_goals exact ret_eq hR (by simp [inT, *] <;> omega)
set_option maxHeartbeats 1000000 in
theorem zcheck1_any (n : Int) (w : World) (R : Ending → World → Prop) (hR : R (.returned (.bool (!inT n))) w) :
    Calls Tryz.prog 185 #[.int .i64 n] w R := by
  have HR := Lib.hid hR
  clear hR
  go_enter Tryz.func185, Tryz.ntmps185
  go_wp2_with fail
  with_reducible refine zin_any n _ _ ?_
  go_wp2_with fail
  exact ret_b HR.out rfl rfl
theorem any_step {p : Int → Bool} {l : List Int} {k : Nat} (h : (l.take k).any p = false) (hk : k < l.length) (h2 : p (at0 l k) = false) : (l.take (k + 1)).any p = false := by
  rw [List.take_succ_eq_append_getElem hk, List.any_append, h, ← at0_get hk]
  simp [h2]
theorem any_hit {p : Int → Bool} {l : List Int} {k : Nat} (hk : k < l.length) (h2 : p (at0 l k) = true) : l.any p = true := List.any_eq_true.2 ⟨l[k], List.getElem_mem hk, by rw [← at0_get hk]; exact h2⟩
set_option maxHeartbeats 2000000 in
theorem zindex_any (g : FuncId) (p : Int → Bool) (ao : Option Addr) (l : List Int) (c : Nat) (w : World) (R : Ending → World → Prop) (eg : ∀ args w, (callFunc g args).run Tryz.prog w = .ok (.enter g args) w)
   (hl : l.length ≤ 1000000000) (hc : CellsAt w ao (I64s l)) (hp : ∀ n w R, R (.returned (.bool (p n))) w → Calls Tryz.prog g #[.int .i64 n] w R) (hR : ∀ z, (0 ≤ z ↔ l.any p = true) → R (.returned (.int .i64 z)) w) :
    Calls Tryz.prog 178 #[.slice ao l.length c, .func (.func g) #[] #[]] w R := by
  have HR := Lib.hid hR
  have HC := Lib.hid hc
  have HP := Lib.hid hp
  clear hR hc hp
  go_enter Tryz.func178, Tryz.ntmps178
  go_wp2_with fail
  go_loopw [8] (fun j wr => ∃ i : Nat, i ≤ l.length ∧ j = .int .i64 i ∧ Hid (wr = w) ∧ Hid ((l.take i).any p = false)) (fun j _ => l.length - (intOf j).toNat)
  case atStart => exact ⟨0, Nat.zero_le _, rfl, rfl, rfl⟩
  case round =>
    obtain ⟨i, hi, rfl, HW, HA⟩ := hrel
    by_cases hlt : i < l.length
    · obtain ⟨bd, od, rfl, hbd, hdc⟩ := HC.out.ints (by omega)
      have g0 := hdc i hlt
      rw [← HW.out] at g0
      obtain ⟨b, hb⟩ : ∃ b, p (at0 l i) = b := ⟨_, rfl⟩
      have HBb := Lib.hid hb
      clear hdc hb
      go_wp2_with fail
      refine HP.out (at0 l i) wr _ ?_
      rw [HBb.out]
      cases b with
      | true =>
        go_wp2_with fail
        have e := HW.out
        subst e
        exact HR.out _ ⟨fun _ => any_hit hlt HBb.out, fun _ => Int.natCast_nonneg i⟩
      | false =>
        go_wp2_with fail
        exact ⟨⟨i + 1, by omega, by go_num, HW, any_step HA.out hlt HBb.out⟩, by simp [intOf]; omega⟩
    · obtain rfl : i = l.length := by omega
      go_wp2_with fail
      have e := HW.out
      subst e
      exact HR.out _ ⟨fun h => absurd h (by omega), fun h => by have h2 := HA.out; rw [List.take_length] at h2; rw [h2] at h; cases h⟩
set_option maxHeartbeats 1000000 in
theorem zcontains_any (g : FuncId) (p : Int → Bool) (ao : Option Addr) (l : List Int) (c : Nat) (w : World) (R : Ending → World → Prop) (eg : ∀ args w, (callFunc g args).run Tryz.prog w = .ok (.enter g args) w)
   (hl : l.length ≤ 1000000000) (hc : CellsAt w ao (I64s l)) (hp : ∀ n w R, R (.returned (.bool (p n))) w → Calls Tryz.prog g #[.int .i64 n] w R) (hR : R (.returned (.bool (l.any p))) w) :
    Calls Tryz.prog 120 #[.slice ao l.length c, .func (.func g) #[] #[]] w R := by
  have HR := Lib.hid hR
  clear hR
  go_enter Tryz.func120, Tryz.ntmps120
  go_wp2_with fail
  refine zindex_any g p ao l c _ _ eg hl hc hp fun z hz => ?_
  obtain ⟨b, hb⟩ : ∃ b, l.any p = b := ⟨_, rfl⟩
  rw [hb] at hz HR
  clear eg hc hp hb
  cases b with
  | true =>
    have K : (0 ≤ z) = True := eq_true (hz.2 rfl)
    clear hz
    go_wp2_with fail
    exact ret_b HR.out rfl rfl
  | false =>
    have K : (0 ≤ z) = False := eq_false (fun h => by cases hz.1 h)
    clear hz
    go_wp2_with fail
    exact ret_b HR.out rfl rfl
set_option maxHeartbeats 1000000 in
theorem zcheck_any (ao : Option Addr) (l : List Int) (c : Nat) (w : World) (R : Ending → World → Prop) (hl : l.length ≤ 1000000000) (hc : CellsAt w ao (I64s l)) (hR : R (.returned (.int .i64 (ckSr l))) w) :
    Calls Tryz.prog 128 #[.slice ao l.length c] w R := by
  have HR := Lib.hid hR
  have HK : Hid (ckSr l = if l.length = 0 then 13 else if 4096 < l.length then 5 else if l.any (fun n => !inT n) = true then 2 else 0) := rfl
  have HC := Lib.hid hc
  have HL := Lib.hid hl
  clear hR hc
  by_cases h0 : l.length = 0
  · have K0 : ((l.length : Int) == 0) = true := by simp [h0]
    have e : Hid (ckSr l = 13) := by unfold Hid; rw [HK.out, if_pos h0]
    clear h0
    go_enter Tryz.func128, Tryz.ntmps128
    go_wp2_with fail
    exact ret_i HR.out rfl e.out
  · have K0 : ((l.length : Int) == 0) = false := by simpa using (by omega : ¬ (l.length : Int) = 0)
    by_cases h1 : 4096 < l.length
    · have K1 : ((4096 : Int) < (l.length : Int)) = True := eq_true (by omega)
      have e : Hid (ckSr l = 5) := by unfold Hid; rw [HK.out, if_neg h0, if_pos h1]
      clear h0 h1
      go_enter Tryz.func128, Tryz.ntmps128
      go_wp2_with fail
      exact ret_i HR.out rfl e.out
    · have K1 : ((4096 : Int) < (l.length : Int)) = False := eq_false (by omega)
      have e : Hid (ckSr l = if l.any (fun n => !inT n) = true then 2 else 0) := by unfold Hid; rw [HK.out, if_neg h0, if_neg h1]
      clear h0 h1
      go_enter Tryz.func128, Tryz.ntmps128
      go_wp2_with fail
      refine zcontains_any _ (fun n => !inT n) ao l c _ _ (enters_of Tryz.func185 (by kernel_rfl) rfl) HL.out HC.out (fun n w R h => zcheck1_any n w R h) ?_
      cases hb : l.any (fun n => !inT n) with
      | true =>
        rw [hb] at e
        have e2 : Hid (ckSr l = 2) := e
        clear hb e
        go_wp2_with fail
        exact ret_i HR.out rfl e2.out
      | false =>
        rw [hb] at e
        have e2 : Hid (ckSr l = 0) := e
        clear hb e
        go_wp2_with fail
        exact ret_i HR.out rfl e2.out
end Go.Proofs.YtcmhompbdanpdaaGreatDoor
namespace Go.Proofs.YtcmhompbdanpdaaGreatDoor
open Go.RowKit

theorem Srs.at {l : List Int} (h : Srs l) {k : Nat} (hk : k < l.length) : -1048576 ≤ at0 l k ∧ at0 l k ≤ 1048576 := by
  rw [at0_get hk]; exact ⟨h.lo _ (List.getElem_mem hk), h.hi _ (List.getElem_mem hk)⟩
theorem Srs.sumB {l : List Int} (h : Srs l) (k : Nat) : -4294967296 ≤ sumI (l.take k) ∧ sumI (l.take k) ≤ 4294967296 := by
  have := (h.sums k).1; omega
theorem Srs.sumA {l : List Int} (h : Srs l) : -4294967296 ≤ sumI l ∧ sumI l ≤ 4294967296 := by
  have := h.sum.1; omega
theorem sum_at (l : List Int) (k : Nat) (h : k < l.length) : sumI (l.take (k + 1)) = sumI (l.take k) + at0 l k := by rw [sum_take l k h, at0_get h]
set_option maxHeartbeats 1000000 in
theorem zsum1_any (n : Int) (w : World) (R : Ending → World → Prop) (hR : R (.returned (.int .i64 n)) w) :
    Calls Tryz.prog 181 #[.int .i64 n] w R := by
  have HR := Lib.hid hR
  clear hR
  go_enter Tryz.func181, Tryz.ntmps181
  go_wp2_with fail
  exact ret_i HR.out rfl rfl
set_option maxHeartbeats 1000000 in
theorem zsum2_any (m n : Int) (h0 : -9000000000 ≤ m) (h1 : m ≤ 9000000000) (h2 : -9000000000 ≤ n) (h3 : n ≤ 9000000000) (w : World) (R : Ending → World → Prop) (hR : R (.returned (.int .i64 (m + n))) w) :
    Calls Tryz.prog 182 #[.int .i64 m, .int .i64 n] w R := by
  have HR := Lib.hid hR
  clear hR
  go_enter Tryz.func182, Tryz.ntmps182
  go_wp2_with fail
  exact ret_i HR.out rfl (by go_num)
set_option maxHeartbeats 2000000 in
theorem ztotal_any (ao : Option Addr) (l : List Int) (c : Nat) (w : World) (R : Ending → World → Prop) (h : Srs l) (hc : CellsAt w ao (I64s l)) (hR : R (.returned (.int .i64 (sumI l))) w) :
    Calls Tryz.prog 180 #[.slice ao l.length c, .func (.func 181) #[] #[], .func (.func 182) #[] #[]] w R := by
  have HR := Lib.hid hR
  have HC := Lib.hid hc
  have HS := Lib.hid h
  have hl : Hid (l.length ≤ 4096) := h.few
  clear hR hc h
  go_enter Tryz.func180, Tryz.ntmps180
  go_wp2_with fail
  go_loopw [13, 7] (fun j s wr => ∃ i : Nat, i ≤ l.length ∧ j = .int .i64 i ∧ Hid (wr = w) ∧ (∃ t : Int, s = .int .i64 t ∧ Hid (t = sumI (l.take i)))) (fun j _ _ => l.length - (intOf j).toNat)
  case atStart => exact ⟨0, Nat.zero_le _, rfl, rfl, 0, rfl, rfl⟩
  case round =>
    obtain ⟨i, hi, rfl, HW, t, rfl, HT⟩ := hrel
    by_cases hlt : i < l.length
    · have K2 : ((i : Int) < (l.length : Int)) = True := eq_true (by omega)
      obtain ⟨bd, od, rfl, hbd, hdc⟩ := HC.out.ints (by have := hl.out; omega)
      have g0 := hdc i hlt
      rw [← HW.out] at g0
      have hx := HS.out.at hlt
      obtain ⟨x, hx0⟩ : ∃ x, at0 l i = x := ⟨_, rfl⟩
      have HX := Lib.hid hx0
      have hb : -4294967296 ≤ t ∧ t ≤ 4294967296 := by rw [HT.out]; exact HS.out.sumB i
      obtain ⟨ht1, ht2⟩ := hb
      rw [hx0] at hx g0
      have e2 : Hid (sumI (l.take (i + 1)) = t + x) := by unfold Hid; rw [sum_at l i hlt, HT.out, hx0]
      have hl2 := hl.out
      obtain ⟨hx1, hx2⟩ := hx
      clear hdc hx0
      by_cases hz : i = 0
      · have K3 : ((i : Int) == 0) = true := by simp [hz]
        have e3 : Hid (t = 0) := by unfold Hid; rw [HT.out, hz]; rfl
        clear hz
        go_wp2_with fail
        with_reducible refine zsum1_any _ _ _ ?_
        go_wp2_with fail
        exact ⟨⟨i + 1, by omega, by go_num, HW, x, rfl, by unfold Hid; rw [e2.out, e3.out]; omega⟩, by simp [intOf]; omega⟩
      · have K3 : ((i : Int) == 0) = false := by simpa using hz
        go_wp2_with fail
        with_reducible refine zsum1_any _ _ _ ?_
        go_wp2_with fail
        with_reducible refine zsum2_any _ _ (by omega) (by omega) (by omega) (by omega) _ _ ?_
        go_wp2_with fail
        exact ⟨⟨i + 1, by omega, by go_num, HW, t + x, rfl, by unfold Hid; rw [e2.out]⟩, by simp [intOf]; omega⟩
    · have K2 : ((i : Int) < (l.length : Int)) = False := eq_false (by omega)
      have e2 : Hid (t = sumI l) := by unfold Hid; rw [HT.out, show i = l.length from by omega, List.take_length]
      go_wp2_with fail
      have ew := HW.out
      subst ew
      exact ret_i HR.out rfl e2.out.symm
set_option maxHeartbeats 1000000 in
theorem zsum_any (ao : Option Addr) (l : List Int) (c : Nat) (w : World) (R : Ending → World → Prop) (h : Srs l) (hc : CellsAt w ao (I64s l)) (hR : R (.returned (.int .i64 (sumI l))) w) :
    Calls Tryz.prog 123 #[.slice ao l.length c] w R := by
  have HR := Lib.hid hR
  have HC := Lib.hid hc
  have HS := Lib.hid h
  clear hR hc h
  go_enter Tryz.func123, Tryz.ntmps123
  go_wp2_with fail
  refine ztotal_any ao l c _ _ HS.out HC.out ?_
  go_wp2_with fail
  exact ret_i HR.out rfl rfl
set_option maxHeartbeats 1000000 in
theorem zmean0_any (ao : Option Addr) (l : List Int) (c : Nat) (w : World) (R : Ending → World → Prop) (h : Srs l) (hc : CellsAt w ao (I64s l)) (hE : Env w) (hR : ∀ r w', Below w.heap.size w w' → TxR r (meanS l) → R (.returned (.tuple #[.string r, .int .i64 0])) w') :
    Calls Tryz.prog 129 #[.slice ao l.length c] w R := by
  have HR := Lib.hid hR
  have HC := Lib.hid hc
  have HS := Lib.hid h
  have HE := Lib.hid hE
  clear hR hc h hE
  go_enter Tryz.func129, Tryz.ntmps129
  go_wp2_with fail
  refine zsum_any ao l c _ _ HS.out HC.out ?_
  go_wp2_with fail
  have hp := HS.out.pos
  have hq := HS.out.few
  have hb := HS.out.sumA
  refine rof_any _ _ _ _ (by omega) (by omega) (by omega) (by omega) (by omega) HE.out fun r w1 HB HT => ?_
  have HB1 := Lib.hid HB
  have HT1 := Lib.hid HT
  clear HB HT hp hq hb
  go_wp2_with fail
  exact HR.out _ _ HB1.out HT1.out
/-- What a measure returns: the text of a rational, or no text and the error. -/
def RatOr (e : Int) (q : Rat) (v : Value) : Prop := ∃ r : ByteArray, v = .tuple #[.string r, .int .i64 e] ∧ (e = 0 → TxR r q) ∧ (e ≠ 0 → r = ⟨#[]⟩)
theorem RatOr.eq {e : Int} {q : Rat} {v v' : Value} (h : RatOr e q v) (h' : RatOr e q v') : v = v' := by
  obtain ⟨r, rfl, h1, h2⟩ := h
  obtain ⟨s, rfl, g1, g2⟩ := h'
  by_cases he : e = 0
  · rw [(TxR.inj (h1 he) (g1 he)).2 rfl]
  · rw [h2 he, g2 he]
set_option maxHeartbeats 1000000 in
theorem zmean_any (ao : Option Addr) (l : List Int) (c : Nat) (w : World) (R : Ending → World → Prop) (hl : l.length ≤ 1000000000) (hc : CellsAt w ao (I64s l)) (hE : Env w) (hR : ∀ r w', Below w.heap.size w w' → (ckSr l = 0 → TxR r (meanS l)) → (ckSr l ≠ 0 → r = ⟨#[]⟩) → R (.returned (.tuple #[.string r, .int .i64 (ckSr l)])) w') :
    Calls Tryz.prog 58 #[.slice ao l.length c] w R := by
  have HR := Lib.hid hR
  have HC := Lib.hid hc
  have HE := Lib.hid hE
  have HL := Lib.hid hl
  clear hR hc hE hl
  go_enter Tryz.func58, Tryz.ntmps58
  go_wp2_with fail
  refine zcheck_any ao l c _ _ HL.out HC.out ?_
  obtain ⟨e, he⟩ : ∃ e, ckSr l = e := ⟨_, rfl⟩
  rw [he]
  rw [he] at HR
  by_cases h0 : e = 0
  · subst h0
    have HS := Lib.hid (Srs.of he)
    clear he
    go_wp2_with fail
    refine zmean0_any ao l c _ _ HS.out HC.out HE.out fun r w1 HB HT => ?_
    have HB1 := Lib.hid HB
    have HT1 := Lib.hid HT
    clear HB HT
    go_wp2_with fail
    exact HR.out _ _ HB1.out (fun _ => HT1.out) (fun h => absurd rfl h)
  · have K : (e != 0) = true := by simpa using h0
    have H0 := Lib.hid h0
    clear he h0
    go_wp2_with fail
    exact HR.out _ _ (Below.refl _ _) (fun h => absurd h H0.out) (fun _ => rfl)
end Go.Proofs.YtcmhompbdanpdaaGreatDoor
namespace Go.Proofs.YtcmhompbdanpdaaGreatDoor
open Go.RowKit

/-! ### histograms -/
def hcL (low width : Int) (bins : Nat) (l : List Int) : List Nat := (List.range (bins + 2)).map (hcN low width bins l)
def hsL (low width : Int) (bins : Nat) (l : List Int) : List Nat := (List.range bins).map fun k => hcN low width bins l (k + 1)
theorem hcL_length (low width : Int) (bins : Nat) (l : List Int) : (hcL low width bins l).length = bins + 2 := by simp [hcL]
theorem hsL_length (low width : Int) (bins : Nat) (l : List Int) : (hsL low width bins l).length = bins := by simp [hsL]
theorem hcL_get {low width : Int} {bins : Nat} {l : List Int} {k : Nat} (hk : k < bins + 2) : (hcL low width bins l).getD k 0 = hcN low width bins l k := by simp [hcL, List.getD, hk]
theorem hsL_get {low width : Int} {bins : Nat} {l : List Int} {k : Nat} (hk : k < bins) : (hsL low width bins l).getD k 0 = hcN low width bins l (k + 1) := by simp [hsL, List.getD, hk]
theorem hcL_nil (low width : Int) (bins : Nat) : hcL low width bins [] = List.replicate (bins + 2) 0 := by
  unfold hcL
  refine List.ext_getElem (by simp) fun i h1 h2 => ?_
  simp [hcN_nil]
theorem hsL_nil (low width : Int) (bins : Nat) : hsL low width bins [] = List.replicate bins 0 := by
  unfold hsL
  refine List.ext_getElem (by simp) fun i h1 h2 => ?_
  simp [hcN_nil]
theorem hcN_take (low width : Int) (bins : Nat) {l : List Int} {k : Nat} (hk : k < l.length) (j : Nat) : hcN low width bins (l.take (k + 1)) j = hcN low width bins (l.take k) j + (if binO low width bins (at0 l k) = j then 1 else 0) := by
  rw [List.take_succ_eq_append_getElem hk, ← at0_get hk, hcN_snoc]
theorem hcL_take (low width : Int) (bins : Nat) {l : List Int} {k p : Nat} (hk : k < l.length) (hp : binO low width bins (at0 l k) = p) : hcL low width bins (l.take (k + 1)) = (hcL low width bins (l.take k)).set p ((hcL low width bins (l.take k)).getD p 0 + 1) := by
  have hpb : p < bins + 2 := by have := binO_le low width bins (at0 l k); omega
  rw [hcL_get hpb]
  refine List.ext_getElem (by simp [hcL]) fun i h1 h2 => ?_
  rw [List.getElem_set]
  simp only [hcL, List.getElem_map, List.getElem_range]
  rw [hcN_take low width bins hk, hp]
  by_cases h : p = i
  · rw [if_pos h, if_pos h, h]
  · rw [if_neg h, if_neg h]; rfl
theorem hsL_in (low width : Int) (bins : Nat) {l : List Int} {k p : Nat} (hk : k < l.length) (hp : binO low width bins (at0 l k) = p + 1) (hpb : p < bins) : hsL low width bins (l.take (k + 1)) = (hsL low width bins (l.take k)).set p ((hsL low width bins (l.take k)).getD p 0 + 1) := by
  rw [hsL_get hpb]
  refine List.ext_getElem (by simp [hsL]) fun i h1 h2 => ?_
  rw [List.getElem_set]
  simp only [hsL, List.getElem_map, List.getElem_range]
  rw [hcN_take low width bins hk, hp]
  by_cases h : p = i
  · rw [if_pos h, if_pos (by omega), h]
  · rw [if_neg h, if_neg (by omega)]; rfl
theorem hsL_out (low width : Int) (bins : Nat) {l : List Int} {k p : Nat} (hk : k < l.length) (hp : binO low width bins (at0 l k) = p) (hpb : p = 0 ∨ p = bins + 1) : hsL low width bins (l.take (k + 1)) = hsL low width bins (l.take k) := by
  refine List.ext_getElem (by simp [hsL]) fun i h1 h2 => ?_
  have hi : i < bins := by simpa [hsL] using h1
  simp only [hsL, List.getElem_map, List.getElem_range]
  rw [hcN_take low width bins hk, hp, if_neg (by omega)]; rfl
theorem hcL_le {low width : Int} {bins : Nat} {l : List Int} {p : Nat} (hp : p < bins + 2) (k : Nat) : (hcL low width bins (l.take k)).getD p 0 ≤ l.length := by
  rw [hcL_get hp]
  exact Nat.le_trans (hcN_le _ _ _ _ _) (by rw [List.length_take]; omega)
theorem hcN_le2 (low width : Int) (bins : Nat) (l : List Int) (k p : Nat) : hcN low width bins (l.take k) p ≤ l.length := Nat.le_trans (hcN_le _ _ _ _ _) (by rw [List.length_take]; omega)
theorem hsL_le {low width : Int} {bins : Nat} {l : List Int} {p : Nat} (hp : p < bins) (k : Nat) : (hsL low width bins (l.take k)).getD p 0 ≤ l.length := by
  rw [hsL_get hp]; exact hcN_le2 _ _ _ _ _ _
/-- The bins of a histogram lie between the first and the last count. -/
theorem hcL_mid (low width : Int) (bins : Nat) (l : List Int) (j : Nat) (hj : j < bins) : (hcL low width bins l).getD (1 + j) 0 = (hsL low width bins l).getD j 0 := by
  rw [hcL_get (by omega), hsL_get hj, Nat.add_comm]
theorem binO_lo {low width : Int} {bins : Nat} {x : Int} (h : x < low) : binO low width bins x = 0 := if_pos h
theorem binO_hi {low width : Int} {bins : Nat} {x : Int} (h : low ≤ x) (h2 : 1 ≤ width) : ∃ q : Nat, (x - low).tdiv width = (q : Int) ∧ binO low width bins x = min q bins + 1 ∧ (q : Int) ≤ x - low := by
  have h0 : 0 ≤ (x - low) / width := Int.ediv_nonneg (by omega) (by omega)
  refine ⟨((x - low) / width).toNat, ?_, ?_, ?_⟩
  · rw [Int.tdiv_eq_ediv_of_nonneg (by omega)]; omega
  · unfold binO; rw [if_neg (by omega)]
  · have := Int.ediv_le_self width (show 0 ≤ x - low by omega)
    omega
/-- The error of a histogram. -/
def hsE (l : List Int) (low width bins : Int) : Int := if ckSr l = 0 then (if inT low = true ∧ 1 ≤ width ∧ width ≤ 1048576 ∧ 1 ≤ bins ∧ bins ≤ 256 then 0 else 2) else ckSr l
theorem hsE_ok {l : List Int} {low width bins : Int} (h : hsE l low width bins = 0) : ckSr l = 0 ∧ (-1048576 ≤ low ∧ low ≤ 1048576) ∧ 1 ≤ width ∧ width ≤ 1048576 ∧ 1 ≤ bins ∧ bins ≤ 256 := by
  unfold hsE at h
  by_cases h0 : ckSr l = 0
  · rw [if_pos h0] at h
    by_cases h1 : inT low = true ∧ 1 ≤ width ∧ width ≤ 1048576 ∧ 1 ≤ bins ∧ bins ≤ 256
    · exact ⟨h0, inT_iff.1 h1.1, h1.2⟩
    · rw [if_neg h1] at h; exact absurd h (by decide)
  · rw [if_neg h0] at h; exact absurd h h0
/-! ### runs -/
theorem rn_bound (lo hi : Int) (l : List Int) : -(l.length : Int) ≤ (rnP lo hi l).2 ∧ (rnP lo hi l).2 ≤ l.length := by
  have h : ∀ r : List Int, -(r.length : Int) ≤ (rnP lo hi r.reverse).2 ∧ (rnP lo hi r.reverse).2 ≤ r.length := by
    intro r
    induction r with
    | nil => exact ⟨Int.le_refl 0, Int.le_refl 0⟩
    | cons x r ih =>
      rw [List.reverse_cons, rnP_snoc, List.length_cons]
      unfold rnFc
      rcases sdI_cases lo hi x with e | e | e <;> rw [e]
      all_goals (split <;> (simp only; omega))
  have := h l.reverse
  rwa [List.reverse_reverse, List.length_reverse] at this
theorem rn_take (lo hi : Int) {l : List Int} {k : Nat} (hk : k < l.length) : rnP lo hi (l.take (k + 1)) = rnFc lo hi (rnP lo hi (l.take k)) (at0 l k) := by
  rw [List.take_succ_eq_append_getElem hk, ← at0_get hk, rnP_snoc]
theorem rn_pre1 (lo hi : Int) (l m : List Int) : (rnP lo hi l).1 <+: (rnP lo hi (l ++ m)).1 := by
  have h : ∀ r : List Int, (rnP lo hi l).1 <+: (rnP lo hi (l ++ r.reverse)).1 := by
    intro r
    induction r with
    | nil => simp
    | cons x r ih =>
      rw [List.reverse_cons, ← List.append_assoc, rnP_snoc]
      refine ih.trans ?_
      unfold rnFc
      split
      · exact List.prefix_refl _
      · split
        · exact List.prefix_append _ _
        · exact List.prefix_refl _
  have := h m.reverse
  rwa [List.reverse_reverse] at this
theorem rn_pre2 (lo hi : Int) (l : List Int) : (rnP lo hi l).1 <+: rnL lo hi l := by
  unfold rnL rnEc
  split
  · exact List.prefix_append _ _
  · exact List.prefix_refl _
theorem rn_pre (lo hi : Int) (l : List Int) (k : Nat) : (rnP lo hi (l.take k)).1 <+: rnL lo hi l := by
  have h := rn_pre1 lo hi (l.take k) (l.drop k)
  rw [List.take_append_drop] at h
  exact h.trans (rn_pre2 lo hi l)
/-- The side of a value against the run before it. -/
theorem rn_same (lo hi : Int) {l : List Int} {k : Nat} (hk : k < l.length) (h0 : sdI lo hi (at0 l k) ≠ 0) : 0 < sdI lo hi (at0 l k) * (rnP lo hi (l.take k)).2 ↔ 0 < k ∧ sdI lo hi (at0 l (k - 1)) = sdI lo hi (at0 l k) := by
  obtain ⟨s, hs⟩ : ∃ s, sdI lo hi (at0 l k) = s := ⟨_, rfl⟩
  have hc := sdI_cases lo hi (at0 l k)
  rw [hs] at hc h0 ⊢
  obtain ⟨h1, h2⟩ := rn_side lo hi (l.take k)
  match k with
  | 0 =>
    rw [h1 (by simp)]
    simp
  | k + 1 =>
    have e : l.take (k + 1) = l.take k ++ [at0 l k] := by rw [List.take_succ_eq_append_getElem (by omega), ← at0_get (by omega)]
    obtain ⟨a, b, c⟩ := h2 _ _ e
    have hd := sdI_cases lo hi (at0 l k)
    rw [show k + 1 - 1 = k from rfl]
    obtain ⟨t, ht⟩ : ∃ t, sdI lo hi (at0 l k) = t := ⟨_, rfl⟩
    obtain ⟨r, hr⟩ : ∃ r, (rnP lo hi (l.take (k + 1))).2 = r := ⟨_, rfl⟩
    rw [ht, hr] at a b c
    rw [ht] at hd
    rw [ht, hr]
    rcases hc with e1 | e1 | e1
    · rw [e1]
      constructor
      · intro h; exact ⟨by omega, c.2 (by omega)⟩
      · intro h; have := c.1 h.2; omega
    · exact absurd e1 h0
    · rw [e1]
      constructor
      · intro h; exact ⟨by omega, b.2 (by omega)⟩
      · intro h; have := b.1 h.2; omega
theorem rnL_zero (lo hi : Int) {l : List Int} {k : Nat} (hk : k < l.length) (h0 : sdI lo hi (at0 l k) = 0) : rnL lo hi (l.take (k + 1)) = rnL lo hi (l.take k) := by
  rw [List.take_succ_eq_append_getElem hk, ← at0_get hk, rnL_snoc, if_pos h0]
theorem rnL_new (lo hi : Int) {l : List Int} {k : Nat} (hk : k < l.length) (h0 : sdI lo hi (at0 l k) ≠ 0) (h1 : ¬ (0 < k ∧ sdI lo hi (at0 l (k - 1)) = sdI lo hi (at0 l k))) : rnL lo hi (l.take (k + 1)) = rnL lo hi (l.take k) ++ [sdI lo hi (at0 l k)] := by
  have h2 : ¬ 0 < sdI lo hi (at0 l k) * (rnP lo hi (l.take k)).2 := fun h => h1 ((rn_same lo hi hk h0).1 h)
  rw [List.take_succ_eq_append_getElem hk, ← at0_get hk, rnL_snoc, if_neg h0, if_neg h2]
theorem rnL_on (lo hi : Int) {l : List Int} {k : Nat} (hk : k < l.length) (h0 : sdI lo hi (at0 l k) ≠ 0) (h1 : 0 < k ∧ sdI lo hi (at0 l (k - 1)) = sdI lo hi (at0 l k)) :
    ∃ (m : Nat) (t : Int), (rnL lo hi (l.take k)).length = m + 1 ∧ at0 (rnL lo hi (l.take k)) m = t ∧ (-(k : Int) ≤ t ∧ t ≤ k) ∧ rnL lo hi (l.take (k + 1)) = (rnL lo hi (l.take k)).set m (t + sdI lo hi (at0 l k)) := by
  have h2 : 0 < sdI lo hi (at0 l k) * (rnP lo hi (l.take k)).2 := (rn_same lo hi hk h0).2 h1
  have hb := rn_bound lo hi (l.take k)
  have hkl : (l.take k).length = k := by rw [List.length_take]; omega
  rw [hkl] at hb
  have hr : (rnP lo hi (l.take k)).2 ≠ 0 := fun e => by rw [e] at h2; simp at h2
  have e1 : rnL lo hi (l.take k) = (rnP lo hi (l.take k)).1 ++ [(rnP lo hi (l.take k)).2] := by unfold rnL rnEc; rw [if_pos hr]
  refine ⟨(rnP lo hi (l.take k)).1.length, (rnP lo hi (l.take k)).2, by rw [e1]; simp, by rw [e1]; simp [at0, List.getD], hb, ?_⟩
  rw [List.take_succ_eq_append_getElem hk, ← at0_get hk, rnL_snoc, if_neg h0, if_pos h2, e1]
  simp
theorem rnL_len (lo hi : Int) (l : List Int) : (rnL lo hi l).length ≤ l.length := by
  have h : ∀ r : List Int, (rnL lo hi r.reverse).length ≤ r.length := by
    intro r
    induction r with
    | nil => exact Nat.le_refl _
    | cons x r ih =>
      rw [List.reverse_cons, rnL_snoc, List.length_cons]
      split
      · omega
      · split
        · simp; omega
        · simp; omega
  have := h l.reverse
  rwa [List.reverse_reverse, List.length_reverse] at this
end Go.Proofs.YtcmhompbdanpdaaGreatDoor
