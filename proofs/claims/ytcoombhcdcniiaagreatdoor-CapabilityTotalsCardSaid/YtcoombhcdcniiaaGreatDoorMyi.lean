/- Histograms, both sides. (Printed by gen_hist.py.) Runs, both sides; AppendSeq and Collect of ints out of whatever iterator makes no memory. (Printed by gen_runs.py.) -/
import Derived.Test.YtcoombhcdcniiaaGreatDoorMye
import Derived.Test.YtcoombhcdcniiaaGreatDoorMwzx
namespace Go.Proofs.YtcoombhcdcniiaaGreatDoor
open Go.RowKit

theorem wV_get {l : List Nat} {i : Nat} (h : i < l.length) : (l.map wV).getD i undef = .int .i64 ((l.getD i 0 : Nat) : Int) := by
  simp [List.getD, h, wV]
theorem results_tmp4 {fn : Func} {t u v x : Tmp} (h : fn.results = #[.tmp t, .tmp u, .tmp v, .tmp x]) (tmps : Array Value) (P : Program) (w : World) :
    (results fn tmps).run P w = .ok (.tuple #[tmps.getD t undef, tmps.getD u undef, tmps.getD v undef, tmps.getD x undef]) w := by
  simp [results, h]
theorem hs_cells {w : World} {b : Nat} {low width : Int} {bins : Nat} {l : List Int} (h : IB w b (hcL low width bins l)) (hb : b < w.heap.size) : CellsAt w (some ⟨b, 1, none⟩) ((hsL low width bins l).map wV) := by
  intro _
  refine ⟨b, 1, rfl, hb, fun j hj => ?_⟩
  have hj2 : j < bins := by simpa [hsL] using hj
  rw [wV_get (by rw [hsL_length]; exact hj2), h.cell (by rw [hcL_length]; omega), hcL_mid low width bins l j hj2]
theorem ib_cells {w : World} {b : Nat} {l : List Nat} (h : IB w b l) (hb : b < w.heap.size) : CellsAt w (some ⟨b, 0, none⟩) (l.map wV) := by
  intro _
  refine ⟨b, 0, rfl, hb, fun j hj => ?_⟩
  have hj2 : j < l.length := by simpa using hj
  rw [wV_get hj2, Nat.zero_add, h.cell hj2]
set_option maxRecDepth 100000 in
set_option maxHeartbeats 4000000 in
theorem zhist_any (ao : Option Addr) (l : List Int) (c : Nat) (low width bins : Int) (w : World) (R : Ending → World → Prop) (hl : l.length ≤ 1000000000) (hc : CellsAt w ao (I64s l))
   (hR : ∀ a n c' s m w', Below w.heap.size w w' → (hsE l low width bins = 0 → n = bins.toNat ∧ CellsAt w' a ((hsL low width bins.toNat l).map wV) ∧ s = ((hcN low width bins.toNat l 0 : Nat) : Int) ∧ m = ((hcN low width bins.toNat l (bins.toNat + 1) : Nat) : Int)) → (hsE l low width bins ≠ 0 → n = 0 ∧ s = 0 ∧ m = 0) → R (.returned (.tuple #[.slice a n c', .int .i64 s, .int .i64 m, .int .i64 (hsE l low width bins)])) w') :
    Calls Tryz.prog 24 #[.slice ao l.length c, .int .i64 low, .int .i64 width, .int .i64 bins] w R := by
  have HR := Lib.hid hR
  have HC := Lib.hid hc
  have HL := Lib.hid hl
  clear hR hc hl
  go_enter Tryz.func24, Tryz.ntmps24
  go_wp2_with fail
  refine zcheck_any ao l c _ _ HL.out HC.out ?_
  obtain ⟨e, he⟩ : ∃ e, ckSr l = e := ⟨_, rfl⟩
  rw [he]
  by_cases h0 : e = 0
  · subst h0
    have HS := Lib.hid (Srs.of he)
    have HV : Hid (hsE l low width bins = if inT low = true ∧ 1 ≤ width ∧ width ≤ 1048576 ∧ 1 ≤ bins ∧ bins ≤ 256 then 0 else 2) := by unfold Hid hsE; rw [if_pos he]
    clear he
    go_wp2_with fail
    with_reducible refine zin_any low _ _ ?_
    cases i1 : inT low with
    | false =>
      have e2 : Hid (hsE l low width bins = 2) := by unfold Hid; rw [HV.out, if_neg (by rintro ⟨h, _⟩; rw [i1] at h; cases h)]
      rw [e2.out] at HR
      clear i1
      go_wp2_with fail
      (try simp only [Exit.inBlock, Exit.then])
      refine bodyPost_ret (results_tmp4 rfl _ _ _) rfl ?_
      exact HR.out none 0 0 0 0 _ (Below.refl _ _) (fun h => absurd h (by decide)) (fun _ => ⟨rfl, rfl, rfl⟩)
    | true =>
      have I1 := Lib.hid i1
      have HI := Lib.hid (inT_iff.1 i1)
      clear i1
      by_cases a1 : width < 1
      · have K1 : (width < 1) = True := eq_true a1
        have e2 : Hid (hsE l low width bins = 2) := by unfold Hid; rw [HV.out, if_neg (by omega)]
        rw [e2.out] at HR
        clear a1
        go_wp2_with fail
        (try simp only [Exit.inBlock, Exit.then])
        refine bodyPost_ret (results_tmp4 rfl _ _ _) rfl ?_
        exact HR.out none 0 0 0 0 _ (Below.refl _ _) (fun h => absurd h (by decide)) (fun _ => ⟨rfl, rfl, rfl⟩)
      · have K1 : (width < 1) = False := eq_false a1
        by_cases a2 : 1048576 < width
        · have K2 : (1048576 < width) = True := eq_true a2
          have e2 : Hid (hsE l low width bins = 2) := by unfold Hid; rw [HV.out, if_neg (by omega)]
          rw [e2.out] at HR
          clear a1 a2
          go_wp2_with fail
          (try simp only [Exit.inBlock, Exit.then])
          refine bodyPost_ret (results_tmp4 rfl _ _ _) rfl ?_
          exact HR.out none 0 0 0 0 _ (Below.refl _ _) (fun h => absurd h (by decide)) (fun _ => ⟨rfl, rfl, rfl⟩)
        · have K2 : (1048576 < width) = False := eq_false a2
          by_cases a3 : bins < 1
          · have K3 : (bins < 1) = True := eq_true a3
            have e2 : Hid (hsE l low width bins = 2) := by unfold Hid; rw [HV.out, if_neg (by omega)]
            rw [e2.out] at HR
            clear a1 a2 a3
            go_wp2_with fail
            (try simp only [Exit.inBlock, Exit.then])
            refine bodyPost_ret (results_tmp4 rfl _ _ _) rfl ?_
            exact HR.out none 0 0 0 0 _ (Below.refl _ _) (fun h => absurd h (by decide)) (fun _ => ⟨rfl, rfl, rfl⟩)
          · have K3 : (bins < 1) = False := eq_false a3
            by_cases a4 : 256 < bins
            · have K4 : (256 < bins) = True := eq_true a4
              have e2 : Hid (hsE l low width bins = 2) := by unfold Hid; rw [HV.out, if_neg (by omega)]
              rw [e2.out] at HR
              clear a1 a2 a3 a4
              go_wp2_with fail
              (try simp only [Exit.inBlock, Exit.then])
              refine bodyPost_ret (results_tmp4 rfl _ _ _) rfl ?_
              exact HR.out none 0 0 0 0 _ (Below.refl _ _) (fun h => absurd h (by decide)) (fun _ => ⟨rfl, rfl, rfl⟩)
            · have K4 : (256 < bins) = False := eq_false a4
              obtain ⟨B, rfl⟩ : ∃ B : Nat, bins = (B : Int) := ⟨bins.toNat, by omega⟩
              have e2 : Hid (hsE l low width B = 0) := by unfold Hid; rw [HV.out, if_pos ⟨I1.out, by omega, by omega, by omega, by omega⟩]
              rw [e2.out] at HR
              simp only [Int.toNat_natCast] at HR
              have hB1 : 1 ≤ B := by omega
              have hB2 : B ≤ 256 := by omega
              have hw1 : 1 ≤ width := by omega
              have hw2 : width ≤ 1048576 := by omega
              obtain ⟨n, hn⟩ : ∃ n, B + 2 = n := ⟨_, rfl⟩
              have hn3 : n ≤ 300 := by omega
              have hn2 : (B : Int) + 2 = (n : Int) := by omega
              have hmk := make_ints n (by omega) w
              obtain ⟨bc, hbc⟩ : ∃ z, w.heap.size = z := ⟨_, rfl⟩
              obtain ⟨w1, E1, HB1, s1, X1⟩ := box_ex w ((List.replicate n 0).map wV).toArray 3
              rw [E1] at hmk
              rw [hbc] at hmk HB1 X1 HR
              have S1 : Hid (bc < w1.heap.size) := by rw [← hbc]; exact s1
              have X0 : Hid (IB w1 bc (hcL low width B (l.take 0))) := by
                unfold Hid; rw [List.take_zero, hcL_nil, hn]; exact X1
              have HBC := Lib.hid hbc
              have HI1 := HI.out.1
              have HI2 := HI.out.2
              clear a1 a2 a3 a4 E1 X1 s1 e2 HI I1
              go_wp2_with fail
              clear hmk hbc hn2
              go_loopw [46] (fun j wr => ∃ i : Nat, i ≤ l.length ∧ j = .int .i64 i ∧ Hid (Below bc w wr) ∧ Hid (IB wr bc (hcL low width B (l.take i))) ∧ Hid (bc < wr.heap.size)) (fun j _ => l.length - (intOf j).toNat)
              case atStart => exact ⟨0, Nat.zero_le _, rfl, HB1, X0, S1⟩
              case round =>
                obtain ⟨i, hi, rfl, HBr, HX, HSz⟩ := hrel
                by_cases hlt : i < l.length
                · have K5 : ((i : Int) < (l.length : Int)) = True := eq_true (by omega)
                  have hfew := HS.out.few
                  obtain ⟨bd, od, rfl, hbd, hdc⟩ := HC.out.ints (by have := HL.out; omega)
                  have g0 := hdc i hlt
                  have hbd2 : bd < bc := by rw [← HBC.out]; exact hbd
                  have g1 := (HBr.out.cell (p := ⟨bd, od + i, none⟩) hbd2).trans g0
                  have hx := HS.out.at hlt
                  obtain ⟨x, hx0⟩ : ∃ x, at0 l i = x := ⟨_, rfl⟩
                  rw [hx0] at g1 hx
                  obtain ⟨hx1, hx2⟩ := hx
                  have HX0 := Lib.hid hx0
                  clear hdc hbd g0 hbd2 hx0
                  by_cases hlo : x < low
                  · have K6 : (low ≤ x) = False := eq_false (by omega)
                    have hp : binO low width B (at0 l i) = 0 := by rw [HX0.out]; exact binO_lo hlo
                    have HST := Lib.hid (hcL_take low width B hlt hp)
                    have Kn : ((0 : Int) < (n : Int)) = True := eq_true (by omega)
                    clear hlo hp
                    obtain ⟨v, hv⟩ : ∃ v, (hcL low width B (l.take i)).getD 0 0 = v := ⟨_, rfl⟩
                    have hvb : v ≤ 4096 := by rw [← hv]; exact Nat.le_trans (hcL_le (by omega) i) hfew
                    have c0 := HX.out.cell (i := 0) (by rw [hcL_length]; omega)
                    have fz := HX.out.frozen 0
                    rw [hv] at c0 HST
                    have hv2 : (v : Int) + 1 = ((v + 1 : Nat) : Int) := by push_cast; rfl
                    obtain ⟨w5, E5⟩ : ∃ z, wr.setCell ⟨bc, 0, none⟩ (.int .i64 ((v : Int) + 1)) = z := ⟨_, rfl⟩
                    have E6 := Lib.hid E5
                    have X5 : Hid (IB w5 bc (hcL low width B (l.take (i + 1)))) := by unfold Hid; rw [HST.out, ← E5, hv2]; exact HX.out.store 0 (v + 1)
                    have C5 : Hid (Chg bc wr w5) := by rw [← E5]; exact (Chg.refl _ _).setCell _ _
                    have B5 : Hid (Below bc w w5) := HBr.out.trans C5.out.1
                    have S5 : Hid (bc < w5.heap.size) := by unfold Hid; rw [C5.out.2.1]; exact HSz.out
                    have KV : IntKind.i64.wrap ((v : Int) + 1) = (v : Int) + 1 := by rw [IntKind.wrap_i64]; omega
                    clear hv E5 hv2
                    go_wp2_with fail
                    (try rw [E6.out])
                    refine ⟨⟨i + 1, by omega, by go_num, B5, X5, S5⟩, by simp [intOf]; omega⟩
                  · have K6 : (low ≤ x) = True := eq_true (by omega)
                    obtain ⟨q, hq, hp, hql⟩ := binO_hi (bins := B) (show low ≤ x by omega) hw1
                    rw [← HX0.out] at hp
                    obtain ⟨p, hpm⟩ : ∃ p, min q B = p := ⟨_, rfl⟩
                    rw [hpm] at hp
                    have hpB : p ≤ B := by omega
                    have HST := Lib.hid (hcL_take low width B hlt hp)
                    have Kp : (((p + 1 : Nat) : Int) < (n : Int)) = True := eq_true (by omega)
                    have KD : IntKind.i64.wrap (x - low) = x - low := by rw [IntKind.wrap_i64] <;> omega
                    have KQ : (x - low).tdiv width = (q : Int) := hq
                    have KQ2 : IntKind.i64.wrap (q : Int) = (q : Int) := by rw [IntKind.wrap_i64] <;> omega
                    have KM : min (q : Int) (B : Int) = (p : Int) := by omega
                    have KM2 : IntKind.i64.wrap ((p : Int) + 1) = ((p + 1 : Nat) : Int) := by rw [IntKind.wrap_i64] <;> omega
                    have KW : (width == 0) = false := by simp; omega
                    clear hlo hp hq hpm
                    obtain ⟨v, hv⟩ : ∃ v, (hcL low width B (l.take i)).getD (p + 1) 0 = v := ⟨_, rfl⟩
                    have hvb : v ≤ 4096 := by rw [← hv]; exact Nat.le_trans (hcL_le (by omega) i) hfew
                    have c0 := HX.out.cell (i := (p + 1)) (by rw [hcL_length]; omega)
                    have fz := HX.out.frozen (p + 1)
                    rw [hv] at c0 HST
                    have hv2 : (v : Int) + 1 = ((v + 1 : Nat) : Int) := by push_cast; rfl
                    obtain ⟨w5, E5⟩ : ∃ z, wr.setCell ⟨bc, (p + 1), none⟩ (.int .i64 ((v : Int) + 1)) = z := ⟨_, rfl⟩
                    have E6 := Lib.hid E5
                    have X5 : Hid (IB w5 bc (hcL low width B (l.take (i + 1)))) := by unfold Hid; rw [HST.out, ← E5, hv2]; exact HX.out.store (p + 1) (v + 1)
                    have C5 : Hid (Chg bc wr w5) := by rw [← E5]; exact (Chg.refl _ _).setCell _ _
                    have B5 : Hid (Below bc w w5) := HBr.out.trans C5.out.1
                    have S5 : Hid (bc < w5.heap.size) := by unfold Hid; rw [C5.out.2.1]; exact HSz.out
                    have KV : IntKind.i64.wrap ((v : Int) + 1) = (v : Int) + 1 := by rw [IntKind.wrap_i64]; omega
                    clear hv E5 hv2
                    go_wp2_with fail
                    (try rw [E6.out])
                    refine ⟨⟨i + 1, by omega, by go_num, B5, X5, S5⟩, by simp [intOf]; omega⟩
                · have K5 : ((i : Int) < (l.length : Int)) = False := eq_false (by omega)
                  obtain rfl : i = l.length := by omega
                  have HX2 : Hid (IB wr bc (hcL low width B l)) := by have := HX.out; rwa [List.take_length] at this
                  have c0 := HX2.out.cell (i := 0) (by rw [hcL_length]; omega)
                  have c1 := HX2.out.cell (i := B + 1) (by rw [hcL_length]; omega)
                  rw [hcL_get (by omega)] at c0 c1
                  have HCS : Hid (CellsAt wr (some ⟨bc, 1, none⟩) ((hsL low width B l).map wV)) := hs_cells HX2.out HSz.out
                  obtain ⟨s, hs⟩ : ∃ s, hcN low width B l 0 = s := ⟨_, rfl⟩
                  obtain ⟨m, hm⟩ : ∃ m, hcN low width B l (B + 1) = m := ⟨_, rfl⟩
                  rw [hs] at c0
                  rw [hm] at c1
                  have Hs := Lib.hid hs
                  have Hm := Lib.hid hm
                  have KB : IntKind.i64.wrap ((B : Int) + 1) = ((B + 1 : Nat) : Int) := by rw [IntKind.wrap_i64] <;> omega
                  have N1 : (0 ≤ (B : Int) + 1) = True := eq_true (by omega)
                  have N2 : ((B : Int) + 1 ≤ (n : Int)) = True := eq_true (by omega)
                  have N3 : (1 ≤ (B : Int) + 1) = True := eq_true (by omega)
                  have N4 : (n = 1) = False := eq_false (by omega)
                  have N5 : ((B : Int) + 1 < (n : Int)) = True := eq_true (by omega)
                  have N6 : (0 < n) = True := eq_true (by omega)
                  have N7 : (B + 1 < n) = True := eq_true (by omega)
                  clear hs hm
                  go_wp2_with fail
                  refine regionL [0, 1, 2, 3, 4, 5, 6, 7, 8, 9, 10, 11, 12, 13, 14, 15] (fun w' => w'.cell? ⟨bc, 0, none⟩ = some (.int .i64 (s : Nat)) ∧ w'.cell? ⟨bc, B + 1, none⟩ = some (.int .i64 (m : Nat))) (by kernel_rfl) (⟨c0, c1⟩) (fun Qn hPQ hQn hS0 => ?_)
                  iterate 16 (refine takeL (v := ?_) rfl rfl (by kernel_rfl) (by kernel_rfl) (by kernel_rfl) hPQ hS0 (by kernel_rfl) ?_ ?_; rotate_left; (focus (intro w hSw; (try dsimp only at hSw); obtain ⟨k0, k1⟩ := hSw; go_simp; (try with_reducible rfl))); (try simp only [Act.put, List.setIfInBounds_toArray, List.set_cons_zero, List.set_cons_succ]))
                  refine ofL (wpAnyH_done (by kernel_rfl) (hQn.out _ _ ?_) _)
                  clear hS0 hPQ hQn Qn
                  go_wp2_with fail
                  (try simp only [Exit.inBlock, Exit.then])
                  refine bodyPost_ret (results_tmp4 rfl _ _ _) rfl ?_
                  exact HR.out _ _ _ _ _ _ HBr.out.drew (fun _ => ⟨by omega, HCS.out.below (Below.refl _ _).drew, by rw [Hs.out], by rw [Hm.out]⟩) (fun h => absurd rfl h)
  · have K : (e != 0) = true := by simpa using h0
    have e2 : Hid (hsE l low width bins = e) := by unfold Hid hsE; rw [he, if_neg h0]
    rw [e2.out] at HR
    have H0 := Lib.hid h0
    clear he h0
    go_wp2_with fail
    (try simp only [Exit.inBlock, Exit.then])
    refine bodyPost_ret (results_tmp4 rfl _ _ _) rfl ?_
    exact HR.out none 0 0 0 0 _ (Below.refl _ _) (fun h => absurd h H0.out) (fun _ => ⟨rfl, rfl, rfl⟩)
set_option maxRecDepth 100000 in
set_option maxHeartbeats 4000000 in
theorem zrhist_any (ao : Option Addr) (l : List Int) (c : Nat) (low width bins : Int) (w : World) (R : Ending → World → Prop) (hl : l.length ≤ 1000000000) (hc : CellsAt w ao (I64s l))
   (hR : ∀ a n c' s m w', Below w.heap.size w w' → (hsE l low width bins = 0 → n = bins.toNat ∧ CellsAt w' a ((hsL low width bins.toNat l).map wV) ∧ s = ((hcN low width bins.toNat l 0 : Nat) : Int) ∧ m = ((hcN low width bins.toNat l (bins.toNat + 1) : Nat) : Int)) → (hsE l low width bins ≠ 0 → n = 0 ∧ s = 0 ∧ m = 0) → R (.returned (.tuple #[.slice a n c', .int .i64 s, .int .i64 m, .int .i64 (hsE l low width bins)])) w') :
    Calls Tryz.prog 25 #[.slice ao l.length c, .int .i64 low, .int .i64 width, .int .i64 bins] w R := by
  have HR := Lib.hid hR
  have HC := Lib.hid hc
  have HL := Lib.hid hl
  clear hR hc hl
  go_enter Tryz.func25, Tryz.ntmps25
  go_wp2_with fail
  refine zrcheck_any ao l c _ _ HL.out HC.out ?_
  obtain ⟨e, he⟩ : ∃ e, ckSr l = e := ⟨_, rfl⟩
  rw [he]
  by_cases h0 : e = 0
  · subst h0
    have HS := Lib.hid (Srs.of he)
    have HV : Hid (hsE l low width bins = if inT low = true ∧ 1 ≤ width ∧ width ≤ 1048576 ∧ 1 ≤ bins ∧ bins ≤ 256 then 0 else 2) := by unfold Hid hsE; rw [if_pos he]
    clear he
    go_wp2_with fail
    with_reducible refine zvalue_any low _ _ ?_
    cases i1 : inT low with
    | false =>
      have e2 : Hid (hsE l low width bins = 2) := by unfold Hid; rw [HV.out, if_neg (by rintro ⟨h, _⟩; rw [i1] at h; cases h)]
      rw [e2.out] at HR
      clear i1
      go_wp2_with fail
      (try simp only [Exit.inBlock, Exit.then])
      refine bodyPost_ret (results_tmp4 rfl _ _ _) rfl ?_
      exact HR.out none 0 0 0 0 _ (Below.refl _ _) (fun h => absurd h (by decide)) (fun _ => ⟨rfl, rfl, rfl⟩)
    | true =>
      have I1 := Lib.hid i1
      have HI := Lib.hid (inT_iff.1 i1)
      clear i1
      by_cases a1 : width < 1
      · have K1 : (width < 1) = True := eq_true a1
        have e2 : Hid (hsE l low width bins = 2) := by unfold Hid; rw [HV.out, if_neg (by omega)]
        rw [e2.out] at HR
        clear a1
        go_wp2_with fail
        (try simp only [Exit.inBlock, Exit.then])
        refine bodyPost_ret (results_tmp4 rfl _ _ _) rfl ?_
        exact HR.out none 0 0 0 0 _ (Below.refl _ _) (fun h => absurd h (by decide)) (fun _ => ⟨rfl, rfl, rfl⟩)
      · have K1 : (width < 1) = False := eq_false a1
        by_cases a2 : 1048576 < width
        · have K2 : (1048576 < width) = True := eq_true a2
          have e2 : Hid (hsE l low width bins = 2) := by unfold Hid; rw [HV.out, if_neg (by omega)]
          rw [e2.out] at HR
          clear a1 a2
          go_wp2_with fail
          (try simp only [Exit.inBlock, Exit.then])
          refine bodyPost_ret (results_tmp4 rfl _ _ _) rfl ?_
          exact HR.out none 0 0 0 0 _ (Below.refl _ _) (fun h => absurd h (by decide)) (fun _ => ⟨rfl, rfl, rfl⟩)
        · have K2 : (1048576 < width) = False := eq_false a2
          by_cases a3 : bins < 1
          · have K3 : (bins < 1) = True := eq_true a3
            have e2 : Hid (hsE l low width bins = 2) := by unfold Hid; rw [HV.out, if_neg (by omega)]
            rw [e2.out] at HR
            clear a1 a2 a3
            go_wp2_with fail
            (try simp only [Exit.inBlock, Exit.then])
            refine bodyPost_ret (results_tmp4 rfl _ _ _) rfl ?_
            exact HR.out none 0 0 0 0 _ (Below.refl _ _) (fun h => absurd h (by decide)) (fun _ => ⟨rfl, rfl, rfl⟩)
          · have K3 : (bins < 1) = False := eq_false a3
            by_cases a4 : 256 < bins
            · have K4 : (256 < bins) = True := eq_true a4
              have e2 : Hid (hsE l low width bins = 2) := by unfold Hid; rw [HV.out, if_neg (by omega)]
              rw [e2.out] at HR
              clear a1 a2 a3 a4
              go_wp2_with fail
              (try simp only [Exit.inBlock, Exit.then])
              refine bodyPost_ret (results_tmp4 rfl _ _ _) rfl ?_
              exact HR.out none 0 0 0 0 _ (Below.refl _ _) (fun h => absurd h (by decide)) (fun _ => ⟨rfl, rfl, rfl⟩)
            · have K4 : (256 < bins) = False := eq_false a4
              obtain ⟨B, rfl⟩ : ∃ B : Nat, bins = (B : Int) := ⟨bins.toNat, by omega⟩
              have e2 : Hid (hsE l low width B = 0) := by unfold Hid; rw [HV.out, if_pos ⟨I1.out, by omega, by omega, by omega, by omega⟩]
              rw [e2.out] at HR
              simp only [Int.toNat_natCast] at HR
              have hB1 : 1 ≤ B := by omega
              have hB2 : B ≤ 256 := by omega
              have hw1 : 1 ≤ width := by omega
              have hw2 : width ≤ 1048576 := by omega
              obtain ⟨n, hn⟩ : ∃ n, B = n := ⟨_, rfl⟩
              have hn3 : n ≤ 300 := by omega
              have hn2 : (B : Int) = (n : Int) := by omega
              have hmk := make_ints n (by omega) w
              obtain ⟨bc, hbc⟩ : ∃ z, w.heap.size = z := ⟨_, rfl⟩
              obtain ⟨w1, E1, HB1, s1, X1⟩ := box_ex w ((List.replicate n 0).map wV).toArray 3
              rw [E1] at hmk
              rw [hbc] at hmk HB1 X1 HR
              have S1 : Hid (bc < w1.heap.size) := by rw [← hbc]; exact s1
              have X0 : Hid (IB w1 bc (hsL low width B (l.take 0))) := by
                unfold Hid; rw [List.take_zero, hsL_nil, hn]; exact X1
              have HBC := Lib.hid hbc
              have HI1 := HI.out.1
              have HI2 := HI.out.2
              clear a1 a2 a3 a4 E1 X1 s1 e2 HI I1
              subst hn
              clear hn2
              go_wp2_with fail
              clear hmk hbc
              go_loopw [16, 14, 15] (fun j s m wr => ∃ i : Nat, i ≤ l.length ∧ j = .int .i64 i ∧ Hid (Below bc w wr) ∧ Hid (IB wr bc (hsL low width B (l.take i))) ∧ Hid (bc < wr.heap.size) ∧ s = .int .i64 ((hcN low width B (l.take i) 0 : Nat) : Int) ∧ m = .int .i64 ((hcN low width B (l.take i) (B + 1) : Nat) : Int)) (fun j _ _ _ => l.length - (intOf j).toNat)
              case atStart => exact ⟨0, Nat.zero_le _, rfl, HB1, X0, S1, rfl, rfl⟩
              case round =>
                obtain ⟨i, hi, rfl, HBr, HX, HSz, rfl, rfl⟩ := hrel
                obtain ⟨s, hs⟩ : ∃ s, hcN low width B (l.take i) 0 = s := ⟨_, rfl⟩
                obtain ⟨m, hm⟩ : ∃ m, hcN low width B (l.take i) (B + 1) = m := ⟨_, rfl⟩
                have hsb : s ≤ 4096 := by rw [← hs]; exact Nat.le_trans (hcN_le2 _ _ _ _ _ _) HS.out.few
                have hmb : m ≤ 4096 := by rw [← hm]; exact Nat.le_trans (hcN_le2 _ _ _ _ _ _) HS.out.few
                rw [hs, hm]
                by_cases hlt : i < l.length
                · have K5 : ((i : Int) < (l.length : Int)) = True := eq_true (by omega)
                  have hfew := HS.out.few
                  obtain ⟨bd, od, rfl, hbd, hdc⟩ := HC.out.ints (by have := HL.out; omega)
                  have g0 := hdc i hlt
                  have hbd2 : bd < bc := by rw [← HBC.out]; exact hbd
                  have g1 := (HBr.out.cell (p := ⟨bd, od + i, none⟩) hbd2).trans g0
                  have hx := HS.out.at hlt
                  obtain ⟨x, hx0⟩ : ∃ x, at0 l i = x := ⟨_, rfl⟩
                  rw [hx0] at g1 hx
                  obtain ⟨hx1, hx2⟩ := hx
                  have HX0 := Lib.hid hx0
                  clear hdc hbd g0 hbd2 hx0
                  by_cases hlo : x < low
                  · have K6 : (x < low) = True := eq_true hlo
                    have hp : binO low width B (at0 l i) = 0 := by rw [HX0.out]; exact binO_lo hlo
                    have X5 : Hid (IB wr bc (hsL low width B (l.take (i + 1)))) := by unfold Hid; rw [hsL_out low width B hlt hp (.inl rfl)]; exact HX.out
                    have T1 : Hid (hcN low width B (l.take (i + 1)) 0 = s + 1) := by unfold Hid; rw [hcN_take low width B hlt, hs, hp]; rfl
                    have T2 : Hid (hcN low width B (l.take (i + 1)) (B + 1) = m) := by unfold Hid; rw [hcN_take low width B hlt, hm, hp, if_neg (by omega)]; rfl
                    clear hlo hp hs hm
                    go_wp2_with fail
                    refine ⟨⟨i + 1, by omega, by go_num, HBr, X5, HSz, ?_, ?_⟩, by simp [intOf]; omega⟩
                    · rw [T1.out]; go_num
                    · rw [T2.out]
                  · have K6 : (x < low) = False := eq_false hlo
                    obtain ⟨q, hq, hp, hql⟩ := binO_hi (bins := B) (show low ≤ x by omega) hw1
                    rw [← HX0.out] at hp
                    have KD : IntKind.i64.wrap (x - low) = x - low := by rw [IntKind.wrap_i64] <;> omega
                    have KQ : (x - low).tdiv width = (q : Int) := hq
                    have KQ2 : IntKind.i64.wrap (q : Int) = (q : Int) := by rw [IntKind.wrap_i64] <;> omega
                    have KW : (width == 0) = false := by simp; omega
                    by_cases hqb : B ≤ q
                    · have K7 : ((B : Int) ≤ (q : Int)) = True := eq_true (by omega)
                      have hp2 : binO low width B (at0 l i) = B + 1 := by rw [hp]; omega
                      have X5 : Hid (IB wr bc (hsL low width B (l.take (i + 1)))) := by unfold Hid; rw [hsL_out low width B hlt hp2 (.inr rfl)]; exact HX.out
                      have T1 : Hid (hcN low width B (l.take (i + 1)) 0 = s) := by unfold Hid; rw [hcN_take low width B hlt, hs, hp2, if_neg (by omega)]; rfl
                      have T2 : Hid (hcN low width B (l.take (i + 1)) (B + 1) = m + 1) := by unfold Hid; rw [hcN_take low width B hlt, hm, hp2, if_pos rfl]
                      clear hlo hp hp2 hs hm hq hqb
                      go_wp2_with fail
                      refine ⟨⟨i + 1, by omega, by go_num, HBr, X5, HSz, ?_, ?_⟩, by simp [intOf]; omega⟩
                      · rw [T1.out]
                      · rw [T2.out]; go_num
                    · have K7 : ((B : Int) ≤ (q : Int)) = False := eq_false (by omega)
                      have hp2 : binO low width B (at0 l i) = q + 1 := by rw [hp]; omega
                      have hqB : q < B := by omega
                      have HST := Lib.hid (hsL_in low width B hlt hp2 hqB)
                      have T1 : Hid (hcN low width B (l.take (i + 1)) 0 = s) := by unfold Hid; rw [hcN_take low width B hlt, hs, hp2, if_neg (by omega)]; rfl
                      have T2 : Hid (hcN low width B (l.take (i + 1)) (B + 1) = m) := by unfold Hid; rw [hcN_take low width B hlt, hm, hp2, if_neg (by omega)]; rfl
                      have Kp : ((q : Int) < (B : Int)) = True := eq_true (by omega)
                      clear hlo hp hp2 hs hm hq hqb
                      obtain ⟨v, hv⟩ : ∃ v, (hsL low width B (l.take i)).getD q 0 = v := ⟨_, rfl⟩
                      have hvb : v ≤ 4096 := by rw [← hv]; exact Nat.le_trans (hsL_le (by omega) i) hfew
                      have c0 := HX.out.cell (i := q) (by rw [hsL_length]; omega)
                      have fz := HX.out.frozen q
                      rw [hv] at c0 HST
                      have hv2 : (v : Int) + 1 = ((v + 1 : Nat) : Int) := by push_cast; rfl
                      obtain ⟨w5, E5⟩ : ∃ z, wr.setCell ⟨bc, q, none⟩ (.int .i64 ((v : Int) + 1)) = z := ⟨_, rfl⟩
                      have E6 := Lib.hid E5
                      have X5 : Hid (IB w5 bc (hsL low width B (l.take (i + 1)))) := by unfold Hid; rw [HST.out, ← E5, hv2]; exact HX.out.store q (v + 1)
                      have C5 : Hid (Chg bc wr w5) := by rw [← E5]; exact (Chg.refl _ _).setCell _ _
                      have B5 : Hid (Below bc w w5) := HBr.out.trans C5.out.1
                      have S5 : Hid (bc < w5.heap.size) := by unfold Hid; rw [C5.out.2.1]; exact HSz.out
                      have KV : IntKind.i64.wrap ((v : Int) + 1) = (v : Int) + 1 := by rw [IntKind.wrap_i64]; omega
                      clear hv E5 hv2
                      go_wp2_with fail
                      (try rw [E6.out])
                      refine ⟨⟨i + 1, by omega, by go_num, B5, X5, S5, ?_, ?_⟩, by simp [intOf]; omega⟩
                      · rw [T1.out]
                      · rw [T2.out]
                · have K5 : ((i : Int) < (l.length : Int)) = False := eq_false (by omega)
                  obtain rfl : i = l.length := by omega
                  rw [List.take_length] at hs hm
                  have HX2 : Hid (IB wr bc (hsL low width B l)) := by have := HX.out; rwa [List.take_length] at this
                  have HCS : Hid (CellsAt wr (some ⟨bc, 0, none⟩) ((hsL low width B l).map wV)) := ib_cells HX2.out HSz.out
                  have Hs := Lib.hid hs
                  have Hm := Lib.hid hm
                  clear hs hm
                  go_wp2_with fail
                  (try simp only [Exit.inBlock, Exit.then])
                  refine bodyPost_ret (results_tmp4 rfl _ _ _) rfl ?_
                  exact HR.out _ _ _ _ _ _ HBr.out (fun _ => ⟨rfl, HCS.out, by rw [Hs.out], by rw [Hm.out]⟩) (fun h => absurd rfl h)
  · have K : (e != 0) = true := by simpa using h0
    have e2 : Hid (hsE l low width bins = e) := by unfold Hid hsE; rw [he, if_neg h0]
    rw [e2.out] at HR
    have H0 := Lib.hid h0
    clear he h0
    go_wp2_with fail
    (try simp only [Exit.inBlock, Exit.then])
    refine bodyPost_ret (results_tmp4 rfl _ _ _) rfl ?_
    exact HR.out none 0 0 0 0 _ (Below.refl _ _) (fun h => absurd h H0.out) (fun _ => ⟨rfl, rfl, rfl⟩)
end Go.Proofs.YtcoombhcdcniiaaGreatDoor
namespace Go.Proofs.YtcoombhcdcniiaaGreatDoor
open Go.RowKit Go.Shelf Go.Sort Go.Maps
attribute [local go_sem] Oper.semAt_some

set_option maxRecDepth 100000 in
set_option maxHeartbeats 4000000 in
theorem iappendSeqG_any (gf : Nat) (lb : Array Value) (bs : List Nat) (ks : List Int) (m : Nat) (w : World) (R : Ending → World → Prop) (hm : ks.length = m) (hl : m ≤ 100000) (eg : ∀ args w, (callFunc gf args).run Tryz.prog w = .ok (.enter gf args) w) (hbs : ∀ k ∈ bs, k < w.heap.size) (hseq : ∀ W0, Below w.heap.size w W0 → GivesE Fence.wide 5 Tryz.prog gf lb (inEnc ks) bs (List.range m) W0)
   (hR : ∀ v w', Below w.heap.size w w' → w'.ownsRow w.heap.size 3 1 v m (I64s ks) → R (.returned v) w') :
    Calls Tryz.prog 95 #[.slice none 0 0, .func (.func gf) #[] lb] w R := by
  have HR := Lib.hid hR
  have HQ := Lib.hid hseq
  have Hm := Lib.hid hm
  clear hR hseq hm
  have h1 : 1 ≤ 6 := by omega
  refine (callsIn_wide (n := 6)).1 ?_
  refine callsIn_of_wp_marks Tryz.func95 rfl trivial ?_ rfl
  simp only [Tryz.ntmps95, List.size_toArray, List.length_cons, List.length_nil, Nat.reduceAdd, Nat.reduceSub, Array.replicate_succ, Array.replicate_zero, List.push_toArray, List.append_toArray, List.nil_append, List.cons_append]
  gi_wp2
  have q1 : Boxed (w.alloc (.cells #[.slice none 0 0] 22)) w.heap.size 22 (.slice none 0 0) := Boxed.new w _ _
  have hb0 : Below w.heap.size w (w.alloc (.cells #[.slice none 0 0] 22)) := (Below.refl _ _).alloc (Nat.le_refl _) _
  obtain ⟨W0, hW0⟩ : ∃ W0, w.alloc (.cells #[.slice none 0 0] 22) = W0 := ⟨_, rfl⟩
  have hs0 : W0.heap.size = w.heap.size + 1 := by rw [← hW0]; simp
  rw [hW0] at q1 hb0 ⊢
  clear hW0
  have HB0 := Lib.hid hb0
  have Hbs := Lib.hid hbs
  refine wpIn_rangeFunc_e (xs := List.range m) (bs := bs) rfl h1 (gf := gf) (lb := lb) rfl trivial eg
    (HQ.out W0 hb0) (Below.refl _ _) (fun _ => rfl)
    (fun k hk => by have := hbs k hk; omega)
    (fun pre V => ∃ v, Boxed V w.heap.size 22 v ∧ V.ownsRow (w.heap.size + 1) 3 1 v pre.length (I64s (ks.take pre.length)) ∧ Below w.heap.size w V)
    ?stable ?put ⟨_, q1, by have h := World.ownsRow_nil W0 (w.heap.size + 1) 3 1; simpa [I64s] using h, hb0⟩
    (fun x a' V => a' = { tmps := #[.slice none 0 0, .func (.func gf) #[] lb, .pointer (some ⟨w.heap.size, 0, none⟩), undef, .slice none 0 0, .int .i64 (at0 ks x), .func (.func gf) #[] lb, .int .i64 (at0 ks x), undef, undef, undef, undef, undef], defers := [] })
    (by rintro x a' V l' r o _ h; exact h) ?assign ?body ?done
  case stable =>
    rintro s A B ⟨v, h1, h2, h3⟩ hAB
    exact ⟨v, (hAB.block _ h1.lt).trans h1, ownsRow_below h2 hAB, h3.trans (hAB.mono h3.size)⟩
  case put =>
    rintro s A L r o hge hL ⟨v, h1, h2, h3⟩
    have hne : w.heap.size ≠ L := by rintro rfl; rw [h1] at hL; cases hL
    exact ⟨v, (World.putObj_heap_other hne).trans h1, irow_not_obj h2 (fun cs t f e => by rw [hL] at e; cases e) o, h3.trans ⟨rfl, rfl, rfl, by simp, fun k hk => World.putObj_heap_other (by omega)⟩⟩
  case assign =>
    rintro l' pre x V K hi hsz hpre hK
    unfold inEnc
    gi_wp2
    exact hK _ _ (Below.refl _ _) rfl
  case done =>
    rintro D V hD ⟨v, h1, h2, h3⟩ hK
    rw [List.length_range, List.take_of_length_le (by rw [Hm.out]; exact Nat.le_refl _)] at h2
    have hcl := h1.cell
    have H2 := Lib.hid h2
    have H3 := Lib.hid h3
    clear h1 h2 h3
    gi_wp2
    refine endM (v := v) hK (res1 (t := 4) rfl rfl) (fun hp => HR.out v _ (H3.out.trans (hp.mono (by omega))) (irow_not_obj (ownsRow_mono H2.out (by omega)) (fun cs t f e => by rw [hK] at e; cases e) _))
  case body =>
    rintro l' pre x a' V ⟨v, hb, ho, hB3⟩ rfl hsz hpre
    obtain ⟨hlt, _, hxe⟩ := range_pre hpre
    subst hxe
    obtain ⟨k, hk⟩ : ∃ k, pre.length = k := ⟨_, rfl⟩
    have hpl : Hid ((pre ++ [pre.length]).length = k + 1) := by unfold Hid; rw [List.length_append, hk]; rfl
    rw [hk] at ho hlt
    rw [hk] at hpl ⊢
    have htk : Hid (I64s (ks.take (k + 1)) = I64s (ks.take k) ++ [.int .i64 (at0 ks k)]) := by
      have hk' : k < ks.length := by rw [Hm.out]; exact hlt
      unfold Hid
      rw [List.take_succ_eq_append_getElem hk', I64s_append]
      congr 1
      unfold at0
      rw [List.getD_eq_getElem?_getD, List.getElem?_eq_getElem hk']; rfl
    obtain ⟨nm, hnm⟩ : ∃ nm, at0 ks k = nm := ⟨_, rfl⟩
    obtain ⟨L, hL⟩ : ∃ L, I64s (ks.take k) = L := ⟨_, rfl⟩
    rw [hnm, hL] at htk
    rw [hL] at ho
    rw [hnm]
    have hcl := hb.cell
    have hfr := hb.frozen
    have hbl := hb.lt
    have HOa : Hid ((V.alloc (.cells #[.int .i64 nm] 3)).ownsRow (w.heap.size + 1) 3 1 v k L) := ownsRow_below ho ((Below.refl _ _).alloc (Nat.le_refl _) _)
    have HBa := Lib.hid (hb.alloc (.cells #[.int .i64 nm] 3))
    have Hb := Lib.hid hb
    have Ho := Lib.hid ho
    have H3 := Lib.hid hB3
    have hs3 := hB3.size
    clear hb ho hB3 hk hnm hL hpre
    gi_wp2_with (gi_at_builtin; refine wpIn_appendT rfl (.tmp 8) (.tmp 10) 22 rfl (w.heap.size + 1) 3 Tryz.underlying22 Tryz.infoInts rfl (by decide) v k L rfl HOa.out ⟨V.heap.size, 0, none⟩ 1 1 [.int .i64 nm] rfl rfl (by have h := cells_one V (.int .i64 nm) 3; simpa using h) (one1 _ rfl) (by omega) (by omega) (by simp; omega) ?_; intro v5 w5 hown hgrow _; obtain ⟨a5, c5, rfl, _, _⟩ := ownsRow_read hown; have O5 := Lib.hid hown; have G5 := Lib.hid hgrow; have B5 := Lib.hid (HBa.out.kept hgrow (Boxed.not_row HBa.out (by decide) HOa.out)); have b5c := B5.out.cell; have b5f := B5.out.frozen; clear hown hgrow)
    have hown : ∀ g, v.ownBlock = some g → w.heap.size + 1 ≤ g := fun g e => by
      rcases Ho.out.2 with ⟨rfl, _⟩ | ⟨g', cap, cur, rfl, h2, _⟩
      · simp [Value.ownBlock] at e
      · simp [Value.ownBlock] at e; omega
    have hkeep : ∀ q, q < V.heap.size → q ≠ w.heap.size → (∀ g, v.ownBlock = some g → q ≠ g) → (w5.setCell ⟨w.heap.size, 0, none⟩ (.slice a5 (k + 1) c5)).heap[q]? = V.heap[q]? := fun q hq hne hng => by
      rw [Below.heap_setCell _ _ _ _ hne, G5.out.block q (by simp; omega) (fun e => hng q e.symm rfl)]
      exact Below.heap_alloc _ _ _ hq
    refine ⟨⟨?_, fun q hq => ?_⟩, fun q hq => ?_, _, B5.out.set _, ?_, ?_⟩
    · have h := G5.out.size
      have h2 := (Below.setCell (Below.refl w.heap.size w5) (p := ⟨w.heap.size, 0, none⟩) (Nat.le_refl _) (.slice a5 (k + 1) c5)).size
      simp at h
      omega
    · have hql : q < V.heap.size := by
        rcases hq with ⟨_, h⟩ | ⟨_, h⟩ <;> exact lt_of_block h
      refine hkeep q hql ?_ ?_
      · rintro rfl
        have h2 : V.heap[w.heap.size]? = _ := Hb.out
        rcases hq with ⟨_, h⟩ | ⟨_, h⟩ <;> (rw [h2] at h; cases h)
      · intro g e hqg
        subst hqg
        rcases Ho.out.2 with ⟨rfl, _⟩ | ⟨g', cap, cur, rfl, h2, h3, _⟩
        · simp [Value.ownBlock] at e
        · simp [Value.ownBlock] at e
          subst e
          rcases hq with ⟨_, h⟩ | ⟨_, h⟩ <;> (rw [h3] at h; cases h)
    · have h := Hbs.out q hq
      exact hkeep q (by omega) (by omega) (fun g e => by have := hown g e; omega)
    · rw [hpl.out, htk.out]
      refine ⟨O5.out.1, ?_⟩
      rcases O5.out.2 with h | ⟨g, cap, cur, h1, h2, h3, h4⟩
      · exact .inl h
      · exact .inr ⟨g, cap, cur, h1, h2, (Below.heap_setCell _ _ _ _ (show g ≠ w.heap.size by omega)).trans h3, h4⟩
    · have hA : Below w.heap.size w (V.alloc (.cells #[.int .i64 nm] 3)) := H3.out.alloc hs3 _
      exact (hA.grown G5.out (by simp; omega) (fun j e => by have := hown j e; omega)).setCell (p := ⟨w.heap.size, 0, none⟩) (Nat.le_refl _) _

set_option maxRecDepth 100000 in
set_option maxHeartbeats 2000000 in
theorem icollectG_any (gf : Nat) (lb : Array Value) (bs : List Nat) (ks : List Int) (m : Nat) (w : World) (R : Ending → World → Prop) (hm : ks.length = m) (hl : m ≤ 100000) (eg : ∀ args w, (callFunc gf args).run Tryz.prog w = .ok (.enter gf args) w) (hbs : ∀ k ∈ bs, k < w.heap.size) (hseq : ∀ W0, Below w.heap.size w W0 → GivesE Fence.wide 5 Tryz.prog gf lb (inEnc ks) bs (List.range m) W0)
   (hR : ∀ v w', Below w.heap.size w w' → w'.ownsRow w.heap.size 3 1 v m (I64s ks) → R (.returned v) w') :
    Calls Tryz.prog 62 #[.func (.func gf) #[] lb] w R := by
  have HR := Lib.hid hR
  have HQ := Lib.hid hseq
  clear hR hseq
  go_enter Tryz.func62, Tryz.ntmps62
  go_wp2_with fail
  refine iappendSeqG_any gf lb bs ks m _ _ hm hl eg hbs HQ.out ?_
  intro v w1 hb ho
  have B1 := Lib.hid hb
  have O1 := Lib.hid ho
  clear hb ho
  go_wp2_with fail
  exact HR.out _ _ B1.out O1.out

/-! ### what a step of runs does (plain) -/
theorem rn_on (lo hi : Int) {l : List Int} {k : Nat} (hk : k < l.length) (h : 0 < sdI lo hi (at0 l k) * (rnP lo hi (l.take k)).2) : (rnP lo hi (l.take (k + 1))).1 = (rnP lo hi (l.take k)).1 ∧ (rnP lo hi (l.take (k + 1))).2 = (rnP lo hi (l.take k)).2 + sdI lo hi (at0 l k) := by
  rw [rn_take lo hi hk]; unfold rnFc; rw [if_pos h]; exact ⟨rfl, rfl⟩
theorem rn_cut (lo hi : Int) {l : List Int} {k : Nat} (hk : k < l.length) (h : ¬ 0 < sdI lo hi (at0 l k) * (rnP lo hi (l.take k)).2) (h0 : (rnP lo hi (l.take k)).2 ≠ 0) :
    (rnP lo hi (l.take (k + 1))).2 = sdI lo hi (at0 l k) ∧ (rnP lo hi (l.take (k + 1))).1.length = (rnP lo hi (l.take k)).1.length + 1 ∧ (rnP lo hi (l.take k)).1.length < (rnL lo hi l).length ∧ at0 (rnL lo hi l) (rnP lo hi (l.take k)).1.length = (rnP lo hi (l.take k)).2 := by
  have e : rnP lo hi (l.take (k + 1)) = ((rnP lo hi (l.take k)).1 ++ [(rnP lo hi (l.take k)).2], sdI lo hi (at0 l k)) := by
    rw [rn_take lo hi hk]; unfold rnFc; rw [if_neg h, if_pos h0]
  obtain ⟨t, ht⟩ := rn_pre lo hi l (k + 1)
  rw [e] at ht ⊢
  refine ⟨rfl, by simp, ?_, ?_⟩
  · rw [← ht]; simp
  · rw [← ht]; simp [at0, List.getD]
theorem rn_skip (lo hi : Int) {l : List Int} {k : Nat} (hk : k < l.length) (h0 : (rnP lo hi (l.take k)).2 = 0) : (rnP lo hi (l.take (k + 1))).1 = (rnP lo hi (l.take k)).1 ∧ (rnP lo hi (l.take (k + 1))).2 = sdI lo hi (at0 l k) := by
  rw [rn_take lo hi hk]; unfold rnFc; rw [h0, if_neg (by simp), if_neg (by simp)]; exact ⟨rfl, rfl⟩
theorem rn_last (lo hi : Int) (l : List Int) : ((rnP lo hi l).2 = 0 → (rnL lo hi l).length = (rnP lo hi l).1.length) ∧ ((rnP lo hi l).2 ≠ 0 → (rnL lo hi l).length = (rnP lo hi l).1.length + 1 ∧ at0 (rnL lo hi l) (rnP lo hi l).1.length = (rnP lo hi l).2) := by
  unfold rnL rnEc
  constructor
  · intro h; rw [if_neg (by simp [h])]
  · intro h; rw [if_pos h]; simp [at0, List.getD]
theorem cmpI_sd (lo hi x : Int) : cmpI (2 * x) (lo + hi) = sdI lo hi x := rfl
theorem range_pre' {k m : Nat} (h : k < m) : (List.range k ++ [k]) <+: List.range m := by
  rw [← List.range_succ]
  refine List.prefix_iff_eq_take.2 ?_
  rw [List.length_range, List.take_range, Nat.min_eq_left (by omega)]
set_option maxHeartbeats 2000000 in
theorem zside_any (n lo hi : Int) (hn : -1048576 ≤ n ∧ n ≤ 1048576) (h4 : -1048576 ≤ lo ∧ lo ≤ 1048576) (h5 : -1048576 ≤ hi ∧ hi ≤ 1048576) (w : World) (R : Ending → World → Prop) (hR : ∀ w', Below w.heap.size w w' → R (.returned (.int .i64 (sdI lo hi n))) w') :
    Calls Tryz.prog 64 #[.int .i64 n, .agg #[.int .i64 lo, .int .i64 hi]] w R := by
  have HR := Lib.hid hR
  obtain ⟨w1, E1, HB1, s1, b0, b1⟩ := box2 w (.int .i64 lo) (.int .i64 hi) 34
  have K1 : IntKind.i64.wrap (2 * n) = 2 * n := by rw [IntKind.wrap_i64] <;> omega
  have K2 : IntKind.i64.wrap (lo + hi) = lo + hi := by rw [IntKind.wrap_i64] <;> omega
  clear hR hn h4 h5
  by_cases c1 : 2 * n < lo + hi
  · have C1 : (2 * n < lo + hi) = True := eq_true c1
    have e : Hid (sdI lo hi n = -1) := if_pos c1
    clear c1
    go_enter Tryz.func64, Tryz.ntmps64
    go_wp2_with (rw [E1.out])
    exact ret_i (HR.out _ HB1.out) rfl e.out
  · have C1 : (2 * n < lo + hi) = False := eq_false c1
    by_cases c2 : lo + hi < 2 * n
    · have C2 : (lo + hi < 2 * n) = True := eq_true c2
      have e : Hid (sdI lo hi n = 1) := by unfold Hid sdI; rw [if_neg c1, if_pos c2]
      clear c1 c2
      go_enter Tryz.func64, Tryz.ntmps64
      go_wp2_with (rw [E1.out])
      exact ret_i (HR.out _ HB1.out) rfl e.out
    · have C2 : (lo + hi < 2 * n) = False := eq_false c2
      have e : Hid (sdI lo hi n = 0) := by unfold Hid sdI; rw [if_neg c1, if_neg c2]
      clear c1 c2
      go_enter Tryz.func64, Tryz.ntmps64
      go_wp2_with (rw [E1.out])
      exact ret_i (HR.out _ HB1.out) rfl e.out
theorem zruns0_any (ao : Option Addr) (m c : Nat) (lo hi : Int) (w : World) (R : Ending → World → Prop)
   (hR : ∀ w', Below w.heap.size w w' → w.heap.size + 1 < w'.heap.size → w'.cell? ⟨w.heap.size, 0, none⟩ = some (.slice ao m c) → w'.cell? ⟨w.heap.size + 1, 0, none⟩ = some (.int .i64 lo) → w'.cell? ⟨w.heap.size + 1, 1, none⟩ = some (.int .i64 hi) →
     R (.returned (.func (.func 96) #[] #[.pointer (some ⟨w.heap.size, 0, none⟩), .pointer (some ⟨w.heap.size + 1, 0, none⟩)])) w') :
    Calls Tryz.prog 63 #[.slice ao m c, .agg #[.int .i64 lo, .int .i64 hi]] w R := by
  have HR := Lib.hid hR
  clear hR
  have hb0 : Below w.heap.size w (w.alloc (.cells #[.slice ao m c] 22)) := (Below.refl _ _).alloc (Nat.le_refl _) _
  have cB : (w.alloc (.cells #[.slice ao m c] 22)).cell? ⟨w.heap.size, 0, none⟩ = some (.slice ao m c) := by simp
  have hsz : (w.alloc (.cells #[.slice ao m c] 22)).heap.size = w.heap.size + 1 := by simp
  obtain ⟨wa, EA⟩ : ∃ wa, Hid (w.alloc (.cells #[.slice ao m c] 22) = wa) := ⟨_, rfl⟩
  rw [EA.out] at hb0 cB hsz
  obtain ⟨w1, E1, HB1, s1, b0, b1⟩ := box2 wa (.int .i64 lo) (.int .i64 hi) 34
  rw [hsz] at b0 b1 s1
  have c1 := cellB HB1.out cB (by omega)
  have hb1 := hb0.trans (HB1.out.mono (by omega))
  have F : Hid (R (.returned (.func (.func 96) #[] #[.pointer (some ⟨w.heap.size, 0, none⟩), .pointer (some ⟨w.heap.size + 1, 0, none⟩)])) w1) := HR.out _ hb1 s1 c1 b0 b1
  clear HR hb0 cB hsz HB1 s1 b0 b1 c1 hb1
  go_enter Tryz.func63, Tryz.ntmps63
  go_wp2_with fail
  rw [EA.out, E1.out]
  exact F.out
set_option maxRecDepth 100000 in
set_option maxHeartbeats 4000000 in
theorem runs1_gives (n : Nat) (_hn : 1 ≤ n) (Bn : Nat) (bd od : Nat) (l : List Int) (m0 c : Nat) (lo hi : Int) (m : Nat) (w0 : World) (hS : Srs l) (h4 : -1048576 ≤ lo ∧ lo ≤ 1048576) (h5 : -1048576 ≤ hi ∧ hi ≤ 1048576)
    (hm0 : l.length = m0) (hm : (rnL lo hi l).length = m) (hB : w0.cell? ⟨Bn, 0, none⟩ = some (.slice (some ⟨bd, od, none⟩) m0 c)) (hL0 : w0.cell? ⟨Bn + 1, 0, none⟩ = some (.int .i64 lo)) (hL1 : w0.cell? ⟨Bn + 1, 1, none⟩ = some (.int .i64 hi)) (hBl : Bn + 1 < w0.heap.size) (hbl : bd < w0.heap.size) (hc : CellsAt w0 (some ⟨bd, od, none⟩) (I64s l)) :
    GivesE Fence.wide n Tryz.prog 96 #[.pointer (some ⟨Bn, 0, none⟩), .pointer (some ⟨Bn + 1, 0, none⟩)] (inEnc (rnL lo hi l)) [Bn, Bn + 1, bd] (List.range m) w0 := by
  intro lp J W hW hY hJ0
  have HY := Lib.hid hY
  have HC := Lib.hid hc
  have HW := Lib.hid hW
  have HS := Lib.hid hS
  have HBc := Lib.hid ((hW.cell (p := ⟨Bn, 0, none⟩) (by show Bn < _; omega)).trans hB)
  have HL0 := Lib.hid ((hW.cell (p := ⟨Bn + 1, 0, none⟩) hBl).trans hL0)
  have HL1 := Lib.hid ((hW.cell (p := ⟨Bn + 1, 1, none⟩) hBl).trans hL1)
  have Hm := Lib.hid hm
  have Hm0 := Lib.hid hm0
  have Hbl := Lib.hid hbl
  have H4 := Lib.hid h4
  have H5 := Lib.hid h5
  have KL : IntKind.i64.wrap (lo + hi) = lo + hi := by rw [IntKind.wrap_i64] <;> omega
  clear hY hc hW hB hm hm0 hS hL0 hL1 hbl h4 h5 hBl
  refine callsIn_of_wp Tryz.func96 rfl trivial ?_ rfl
  simp only [Tryz.ntmps96, List.size_toArray, List.length_cons, List.length_nil, Nat.reduceAdd, Nat.reduceSub, Array.replicate_succ, Array.replicate_zero, List.push_toArray, List.append_toArray, List.nil_append, List.cons_append]
  have hb0 := HBc.out
  gi_wp2
  clear hb0
  gi_loopw [10, 4] (fun p s wr => ∃ (k : Nat) (r : Int), k ≤ m0 ∧ p = .int .i64 k ∧ s = .int .i64 r ∧ Hid ((rnP lo hi (l.take k)).2 = r) ∧ Hid (J (List.range (rnP lo hi (l.take k)).1.length) wr) ∧ Hid (KeepsBs [Bn, Bn + 1, bd] W wr)) (fun p _ _ => m0 - (intOf p).toNat)
  case atStart => exact ⟨0, 0, Nat.zero_le _, rfl, rfl, rfl, hJ0, fun _ _ => rfl⟩
  case round =>
    obtain ⟨k, r, hk, rfl, rfl, Hr, HJ, HK⟩ := hrel
    obtain ⟨e, he⟩ : ∃ e, (rnP lo hi (l.take k)).1.length = e := ⟨_, rfl⟩
    rw [he] at HJ
    by_cases hlt : k < m0
    · have hltl : k < l.length := by rw [Hm0.out]; exact hlt
      have K0 : ((k : Int) < (m0 : Int)) = True := eq_true (by omega)
      have a0 := HC.out.get rfl (I64s_get hltl)
      have hbk : wr.heap[bd]? = w0.heap[bd]? := (HK.out bd (by simp)).trans (HW.out.block bd Hbl.out)
      have d0 := (World.cell?_of_block (a := ⟨bd, od + k, none⟩) hbk).trans a0
      have g0 := (World.cell?_of_block (a := ⟨Bn + 1, 0, none⟩) (HK.out (Bn + 1) (by simp))).trans HL0.out
      have g1 := (World.cell?_of_block (a := ⟨Bn + 1, 1, none⟩) (HK.out (Bn + 1) (by simp))).trans HL1.out
      have hx := HS.out.at hltl
      have hrb := rn_bound lo hi (l.take k)
      have hkl : (l.take k).length = k := by rw [List.length_take]; omega
      rw [hkl, Hr.out] at hrb
      have hfew := HS.out.few
      rw [Hm0.out] at hfew
      obtain ⟨hrb1, hrb2⟩ := hrb
      obtain ⟨x, hx0⟩ : ∃ x, at0 l k = x := ⟨_, rfl⟩
      have HX := Lib.hid hx0
      rw [hx0] at hx d0
      obtain ⟨hx1, hx2⟩ := hx
      have KX : IntKind.i64.wrap (2 * x) = 2 * x := by rw [IntKind.wrap_i64] <;> omega
      have hsc := sdI_cases lo hi x
      obtain ⟨s, hs⟩ : ∃ s, sdI lo hi x = s := ⟨_, rfl⟩
      have HSd : Hid (sdI lo hi (at0 l k) = s) := by unfold Hid; rw [HX.out]; exact hs
      rw [hs] at hsc
      have hs1 : -1 ≤ s := by omega
      have hs2 : s ≤ 1 := by omega
      have hsr : s * r = 0 ∨ s * r = r ∨ s * r = -r := by rcases hsc with e | e | e <;> rw [e] <;> simp
      obtain ⟨y, hy⟩ : ∃ y, s * r = y := ⟨_, rfl⟩
      rw [hy] at hsr
      have KY : IntKind.i64.wrap y = y := by rw [IntKind.wrap_i64]; omega
      have KR : IntKind.i64.wrap (r + s) = r + s := by rw [IntKind.wrap_i64] <;> omega
      have Hy := Lib.hid hy
      have Hs := Lib.hid hs
      have HE := Lib.hid he
      clear hx0 hbk a0 hkl hs hsc hsr he
      by_cases hon : 0 < y
      · have K1 : (0 < y) = True := eq_true hon
        have T := rn_on lo hi hltl (by rw [HSd.out, Hr.out, Hy.out]; exact hon)
        have T1 : Hid ((rnP lo hi (l.take (k + 1))).1.length = e) := by unfold Hid; rw [T.1, HE.out]
        have T2 : Hid ((rnP lo hi (l.take (k + 1))).2 = r + s) := by unfold Hid; rw [T.2, Hr.out, HSd.out]
        clear hon T
        gi_wp2_with (refine ⟨trivial, ?_⟩; gi_at_call 58; refine callsIn_wide.2 (zcompare_any _ _ _ _ ?_); rw [cmpI_sd, Hs.out])
        exact ⟨⟨k + 1, r + s, by omega, by go_num, rfl, T2, by unfold Hid; rw [T1.out]; exact HJ.out, HK⟩, by simp [intOf]; omega⟩
      · have K1 : (0 < y) = False := eq_false hon
        by_cases hr0 : r = 0
        · have K2 : (r != 0) = false := by simp [hr0]
          have T := rn_skip lo hi hltl (by rw [Hr.out]; exact hr0)
          have T1 : Hid ((rnP lo hi (l.take (k + 1))).1.length = e) := by unfold Hid; rw [T.1, HE.out]
          have T2 : Hid ((rnP lo hi (l.take (k + 1))).2 = s) := by unfold Hid; rw [T.2, HSd.out]
          clear hon T hr0
          gi_wp2_with (first | (refine ⟨trivial, ?_⟩; gi_at_call 58; refine callsIn_wide.2 (zcompare_any _ _ _ _ ?_); rw [cmpI_sd, Hs.out]) | (simp only [reduceCtorEq, false_implies, implies_true, true_and]) | fail)
          exact ⟨⟨k + 1, s, by omega, by go_num, rfl, T2, by unfold Hid; rw [T1.out]; exact HJ.out, HK⟩, by simp [intOf]; omega⟩
        · have K2 : (r != 0) = true := by simpa using hr0
          have T := rn_cut lo hi hltl (by rw [HSd.out, Hr.out, Hy.out]; exact hon) (by rw [Hr.out]; exact hr0)
          rw [HE.out, HSd.out, Hr.out] at T
          obtain ⟨t1, t2, t3, t4⟩ := T
          rw [Hm.out] at t3
          have T1 := Lib.hid t2
          have T2 := Lib.hid t1
          have T4 := Lib.hid t4
          have hpre := range_pre' t3
          clear hon hr0 t1 t2 t3 t4
          obtain ⟨fn, tmps, assign, body, hy, hR⟩ := HY.out (List.range e) e wr HJ.out hpre
          unfold inEnc at hy
          rw [T4.out] at hy
          clear hpre
          gi_wp2_with (refine ⟨trivial, ?_⟩; gi_at_call 58; refine callsIn_wide.2 (zcompare_any _ _ _ _ ?_); rw [cmpI_sd, Hs.out])
          refine hR.mono ?_
          rintro e3 W3 ⟨rfl, hJ3, hb3⟩
          have HK3 : Hid (KeepsBs [Bn, Bn + 1, bd] W W3) := fun q hq => (hb3 q hq).trans (HK.out q hq)
          have HJ3 : Hid (J (List.range (e + 1)) W3) := by unfold Hid; rw [List.range_succ]; exact hJ3
          clear hJ3 hb3 d0 g0 g1
          gi_wp2
          exact ⟨⟨k + 1, s, by omega, by go_num, rfl, T2, by unfold Hid; rw [T1.out]; exact HJ3.out, HK3⟩, by simp [intOf]; omega⟩
    · obtain rfl : k = m0 := by omega
      have e0 : l.take k = l := by rw [← Hm0.out, List.take_length]
      rw [e0] at Hr he
      have K0 : ((k : Int) < (k : Int)) = False := eq_false (by omega)
      by_cases hr0 : r = 0
      · have K2 : (r != 0) = false := by simp [hr0]
        have hme : Hid (m = e) := by unfold Hid; rw [← Hm.out, ← he]; exact (rn_last lo hi l).1 (by rw [Hr.out]; exact hr0)
        clear e0 he hr0
        gi_wp2
        go_end0
        exact ⟨⟨_, rfl⟩, by rw [hme.out]; exact HJ.out⟩
      · have hme := (rn_last lo hi l).2 (by rw [Hr.out]; exact hr0)
        rw [he, Hm.out, Hr.out] at hme
        obtain ⟨hme, T4⟩ := hme
        have K2 : (r != 0) = true := by simpa using hr0
        obtain ⟨fn, tmps, assign, body, hy, hR⟩ := HY.out (List.range e) e wr HJ.out (range_pre' (by omega))
        unfold inEnc at hy
        rw [T4] at hy
        have Hme := Lib.hid hme
        clear e0 he hme T4 hr0
        gi_wp2
        refine hR.mono ?_
        rintro e3 W3 ⟨rfl, hJ3, hb3⟩
        have HJ3 : Hid (J (List.range m) W3) := by unfold Hid; rw [Hme.out, List.range_succ]; exact hJ3
        clear hJ3 hb3
        gi_wp2
        go_end0
        exact ⟨⟨_, rfl⟩, HJ3.out⟩

set_option maxRecDepth 100000 in
set_option maxHeartbeats 4000000 in
theorem zruns_any (ao : Option Addr) (l : List Int) (c : Nat) (lo hi : Int) (w : World) (R : Ending → World → Prop) (hl : l.length ≤ 1000000000) (hc : CellsAt w ao (I64s l))
   (hR : ∀ a n c' w', Below w.heap.size w w' → (gvS l lo hi = 0 → n = (rnL lo hi l).length ∧ CellsAt w' a (I64s (rnL lo hi l))) → (gvS l lo hi ≠ 0 → n = 0) → R (.returned (.tuple #[.slice a n c', .int .i64 (gvS l lo hi)])) w') :
    Calls Tryz.prog 27 #[.slice ao l.length c, .agg #[.int .i64 lo, .int .i64 hi]] w R := by
  have HR := Lib.hid hR
  have HC := Lib.hid hc
  have HL := Lib.hid hl
  obtain ⟨w1, E1, HB1, s1, b0, b1⟩ := box2 w (.int .i64 lo) (.int .i64 hi) 34
  have HC1 := Lib.hid (HC.out.below HB1.out)
  clear hR hc hl
  go_enter Tryz.func27, Tryz.ntmps27
  go_wp2_with (rw [E1.out])
  refine zboth_any ao l c lo hi _ _ HL.out HC1.out fun w2 HB => ?_
  have HB2 := Lib.hid (bstep HB1.out HB)
  have HC2 := Lib.hid (HC1.out.below HB)
  have d0 := cellB HB b0 (lt_of_cell' b0)
  have d1 := cellB HB b1 (lt_of_cell' b1)
  clear HB b0 b1
  obtain ⟨e, he⟩ : ∃ e, gvS l lo hi = e := ⟨_, rfl⟩
  rw [he] at HR ⊢
  by_cases h0 : e = 0
  · subst h0
    obtain ⟨h1, h4, h5, h6⟩ := gvS_ok he
    have HS := Lib.hid (Srs.of h1)
    have H4 := Lib.hid h4
    have H5 := Lib.hid h5
    clear he h1 h4 h5 h6
    go_wp2_with fail
    refine zruns0_any ao l.length c lo hi _ _ fun w3 hb hs q0 q1 q2 => ?_
    have B3 := Lib.hid (bstep HB2.out hb)
    have C3 := Lib.hid (HC2.out.below hb)
    obtain ⟨bd, od, rfl, hbd, _⟩ := C3.out.ints (by have := HS.out.pos; omega)
    have hbs : ∀ k ∈ [w2.heap.size, w2.heap.size + 1, bd], k < w3.heap.size := fun k hk => by
      simp only [List.mem_cons, List.not_mem_nil, or_false] at hk
      rcases hk with rfl | rfl | rfl <;> omega
    have hseq : ∀ W0, Below w3.heap.size w3 W0 → GivesE Fence.wide 5 Tryz.prog 96 #[.pointer (some ⟨w2.heap.size, 0, none⟩), .pointer (some ⟨w2.heap.size + 1, 0, none⟩)] (inEnc (rnL lo hi l)) [w2.heap.size, w2.heap.size + 1, bd] (List.range (rnL lo hi l).length) W0 := fun W0 hW =>
      runs1_gives 5 (by omega) w2.heap.size bd od l l.length c lo hi _ W0 HS.out H4.out H5.out rfl rfl ((hW.cell (p := ⟨w2.heap.size, 0, none⟩) (by show w2.heap.size < _; omega)).trans q0) ((hW.cell (p := ⟨w2.heap.size + 1, 0, none⟩) hs).trans q1) ((hW.cell (p := ⟨w2.heap.size + 1, 1, none⟩) hs).trans q2) (by have := hW.size; omega) (by have := hW.size; omega) (C3.out.below hW)
    have HQ := Lib.hid hseq
    have HBS := Lib.hid hbs
    have hlen : Hid ((rnL lo hi l).length ≤ 100000) := by have h1 := rnL_len lo hi l; have h2 := HS.out.few; unfold Hid; omega
    clear hb hs q0 q1 q2 hbd hbs hseq
    go_wp2_with fail
    refine icollectG_any 96 _ [w2.heap.size, w2.heap.size + 1, bd] (rnL lo hi l) _ _ _ rfl hlen.out (enters_of Tryz.func96 (by kernel_rfl) rfl) HBS.out HQ.out fun v w4 hb ho => ?_
    obtain ⟨a, c2, rfl, hcc, _⟩ := ownsRow_read ho
    have B4 := Lib.hid (bstep B3.out hb)
    have H := Lib.hid hcc
    clear hb ho hcc
    go_wp2_with fail
    exact HR.out _ _ _ _ B4.out (fun _ => ⟨rfl, H.out⟩) (fun h => absurd rfl h)
  · have K : (e != 0) = true := by simpa using h0
    have H0 := Lib.hid h0
    clear he h0
    go_wp2_with fail
    exact HR.out none 0 0 _ HB2.out (fun h => absurd h H0.out) (fun _ => rfl)
set_option maxRecDepth 100000 in
set_option maxHeartbeats 4000000 in
theorem zrruns_any (ao : Option Addr) (l : List Int) (c : Nat) (lo hi : Int) (w : World) (R : Ending → World → Prop) (hl : l.length ≤ 1000000000) (hc : CellsAt w ao (I64s l))
   (hR : ∀ a n c' w', Below w.heap.size w w' → (gvS l lo hi = 0 → n = (rnL lo hi l).length ∧ CellsAt w' a (I64s (rnL lo hi l))) → (gvS l lo hi ≠ 0 → n = 0) → R (.returned (.tuple #[.slice a n c', .int .i64 (gvS l lo hi)])) w') :
    Calls Tryz.prog 28 #[.slice ao l.length c, .agg #[.int .i64 lo, .int .i64 hi]] w R := by
  have HR := Lib.hid hR
  have HC := Lib.hid hc
  have HL := Lib.hid hl
  obtain ⟨w1, E1, HB1, s1, b0, b1⟩ := box2 w (.int .i64 lo) (.int .i64 hi) 34
  have HC1 := Lib.hid (HC.out.below HB1.out)
  clear hR hc hl
  go_enter Tryz.func28, Tryz.ntmps28
  go_wp2_with (rw [E1.out])
  refine zgiven_any ao l c lo hi _ _ HL.out HC1.out fun w2 HB => ?_
  have HB2 := Lib.hid (bstep HB1.out HB)
  have HC2 := Lib.hid (HC1.out.below HB)
  have d0 := cellB HB b0 (lt_of_cell' b0)
  have d1 := cellB HB b1 (lt_of_cell' b1)
  clear HB b0 b1
  obtain ⟨e, he⟩ : ∃ e, gvS l lo hi = e := ⟨_, rfl⟩
  rw [he] at HR ⊢
  by_cases h0 : e = 0
  · subst h0
    obtain ⟨h1, h4, h5, h6⟩ := gvS_ok he
    have HS := Lib.hid (Srs.of h1)
    have H4 := Lib.hid h4
    have H5 := Lib.hid h5
    clear he h1 h4 h5 h6
    go_wp2_with fail
    go_loopw [8, 7] (fun j s wr => ∃ i : Nat, i ≤ l.length ∧ j = .int .i64 i ∧ Hid (Below w2.heap.size w2 wr) ∧ ∃ X : List Int, Hid (X = rnL lo hi (l.take i)) ∧ Hid (OwnL wr w2.heap.size 3 1 s X.length (I64s X))) (fun j _ _ => l.length - (intOf j).toNat)
    case atStart =>
      refine ⟨0, Nat.zero_le _, rfl, Below.refl _ _, [], rfl, ?_⟩
      exact OwnL.nil _ _ _ _
    case round =>
      obtain ⟨i, hil, rfl, HW, X, HX, HO⟩ := hrel
      by_cases hlt : i < l.length
      · have K5 : ((i : Int) < (l.length : Int)) = True := eq_true (by omega)
        have hcr := HC2.out.below HW.out
        obtain ⟨bd, od, rfl, hbd, hdc⟩ := hcr.ints (by omega)
        have g0 := hdc i hlt
        have e0 := cellB HW.out d0 (lt_of_cell' d0)
        have e1 := cellB HW.out d1 (lt_of_cell' d1)
        have hx := HS.out.at hlt
        obtain ⟨x, hx0⟩ : ∃ x, at0 l i = x := ⟨_, rfl⟩
        rw [hx0] at g0 hx
        have HXb := Lib.hid hx
        obtain ⟨s, hs⟩ : ∃ s, sdI lo hi x = s := ⟨_, rfl⟩
        have Hs := Lib.hid hs
        have HSd : Hid (sdI lo hi (at0 l i) = s) := by unfold Hid; rw [hx0]; exact hs
        have hXl : X.length ≤ 4096 := by
          have h1 := rnL_len lo hi (l.take i)
          have h2 := HS.out.few
          rw [← HX.out, List.length_take] at h1
          omega
        have hsb : -1 ≤ s ∧ s ≤ 1 := by rcases sdI_cases lo hi x with e | e | e <;> omega
        obtain ⟨hsb1, hsb2⟩ := hsb
        have Hdc := Lib.hid hdc
        have Hcr := Lib.hid hcr
        have hfew := HS.out.few
        have HBd : Hid (Below w2.heap.size w2 wr.drew) := HW.out.drew
        clear hx hx0 hs hdc hcr hbd
        go_wp2_with fail
        have HOd : Hid (OwnL wr.drew w2.heap.size 3 1 u7 X.length (I64s X)) := HO.out.below (Below.refl _ _).drew
        refine regionL [0, 1, 2, 3, 4] (fun w' => w'.cell? ⟨bd, od + i, none⟩ = some (.int .i64 x) ∧ w'.cell? ⟨w.heap.size, 0, none⟩ = some (.int .i64 lo) ∧ w'.cell? ⟨w.heap.size, 1, none⟩ = some (.int .i64 hi)) (by kernel_rfl) (⟨g0, e0, e1⟩) (fun Qn hPQ hQn hS0 => ?_)
        iterate 5 (refine takeL (v := ?_) rfl rfl (by kernel_rfl) (by kernel_rfl) (by kernel_rfl) hPQ hS0 (by kernel_rfl) ?_ ?_; rotate_left; (focus (intro w hSw; (try dsimp only at hSw); obtain ⟨k0, k1, k2⟩ := hSw; go_simp; (try with_reducible rfl))); (try simp only [Act.put, List.setIfInBounds_toArray, List.set_cons_zero, List.set_cons_succ]))
        refine ofL (wpAnyH_ready (rs := [5]) (by kernel_rfl) (by simp) ?_)
        refine AllReadyH.cons (o := _) rfl (fun K hK => ?_) AllReadyH.nil
        go_simp
        refine zside_any x lo hi HXb.out H4.out H5.out _ _ fun w3 hb => ?_
        have B3 := Lib.hid (bstep HBd.out hb)
        have g3 := cellB hb g0 (lt_of_cell' g0)
        have p3 := cellB hb e0 (lt_of_cell' e0)
        have q3 := cellB hb e1 (lt_of_cell' e1)
        have O3 := Lib.hid (HOd.out.below hb)
        have Bw := Lib.hid (bstep (Below.refl wr.heap.size wr).drew hb)
        clear hb
        rw [Hs.out]
        refine hK.out _ _ (⟨g3, p3, q3⟩) (fun hS1 => toL [6] ?_)
        clear hK K hS0
        (try simp only [Act.put, List.setIfInBounds_toArray, List.set_cons_zero, List.set_cons_succ])
        iterate 1 (refine takeL (v := ?_) rfl rfl (by kernel_rfl) (by kernel_rfl) (by kernel_rfl) hPQ hS1 (by kernel_rfl) ?_ ?_; rotate_left; (focus (intro w hSw; (try dsimp only at hSw); obtain ⟨k0, k1, k2⟩ := hSw; go_simp; (try with_reducible rfl))); (try simp only [Act.put, List.setIfInBounds_toArray, List.set_cons_zero, List.set_cons_succ]))
        refine ofL (wpAnyH_done (by kernel_rfl) (hQn.out _ _ ?_) _)
        clear hS1 hPQ hQn Qn
        by_cases hs0 : s = 0
        · have K6 : (s == 0) = true := by simp [hs0]
          have e3 : Hid (X = rnL lo hi (l.take (i + 1))) := by unfold Hid; rw [rnL_zero lo hi hlt (by rw [HSd.out]; exact hs0)]; exact HX.out
          clear hs0
          go_wp2_with fail
          exact ⟨⟨i + 1, by omega, by go_num, B3, X, e3, O3⟩, by simp [intOf]; omega⟩
        · have K6 : (s == 0) = false := by simpa using hs0
          have HS0 := Lib.hid hs0
          clear hs0
          have B3d : Hid (Below w2.heap.size w2 w3.drew) := B3.out.drew
          have O3d : Hid (OwnL w3.drew w2.heap.size 3 1 u7 X.length (I64s X)) := O3.out.below (Below.refl _ _).drew
          by_cases hi0 : 0 < i
          · have K7 : (0 < (i : Int)) = True := eq_true (by omega)
            have K8 : (0 < i) = True := eq_true hi0
            have HI0 := Lib.hid hi0
            obtain ⟨p, hp⟩ : ∃ p, i - 1 = p := ⟨_, rfl⟩
            have hpl : p < l.length := by omega
            have KP : IntKind.i64.wrap ((i : Int) - 1) = (p : Int) := by rw [IntKind.wrap_i64] <;> omega
            have KP2 : ((p : Int) < (l.length : Int)) = True := eq_true (by omega)
            have KP3 : (p < l.length) = True := eq_true hpl
            have y0 : w3.cell? ⟨bd, od + p, none⟩ = some (.int .i64 (at0 l p)) := cellB Bw.out (Hdc.out p hpl) (lt_of_cell' (Hdc.out p hpl))
            have hy := HS.out.at hpl
            obtain ⟨y, hy0⟩ : ∃ y, at0 l p = y := ⟨_, rfl⟩
            rw [hy0] at y0 hy
            have HYb := Lib.hid hy
            obtain ⟨t, ht⟩ : ∃ t, sdI lo hi y = t := ⟨_, rfl⟩
            have Ht := Lib.hid ht
            have HTd : Hid (sdI lo hi (at0 l (i - 1)) = t) := by unfold Hid; rw [hp, hy0]; exact ht
            clear hy hy0 ht hp hi0
            go_wp2_with fail
            refine regionL [0, 1, 2, 3, 4, 5, 6, 7, 8, 10] (fun w' => w'.cell? ⟨bd, od + p, none⟩ = some (.int .i64 y) ∧ w'.cell? ⟨w.heap.size, 0, none⟩ = some (.int .i64 lo) ∧ w'.cell? ⟨w.heap.size, 1, none⟩ = some (.int .i64 hi)) (by kernel_rfl) (⟨y0, p3, q3⟩) (fun Qn hPQ hQn hS0 => ?_)
            iterate 10 (refine takeL (v := ?_) rfl rfl (by kernel_rfl) (by kernel_rfl) (by kernel_rfl) hPQ hS0 (by kernel_rfl) ?_ ?_; rotate_left; (focus (intro w hSw; (try dsimp only at hSw); obtain ⟨k0, k1, k2⟩ := hSw; go_simp; (try with_reducible rfl))); (try simp only [Act.put, List.setIfInBounds_toArray, List.set_cons_zero, List.set_cons_succ]))
            refine ofL (wpAnyH_ready (rs := [9]) (by kernel_rfl) (by simp) ?_)
            refine AllReadyH.cons (o := _) rfl (fun K hK => ?_) AllReadyH.nil
            go_simp
            refine zside_any y lo hi HYb.out H4.out H5.out _ _ fun w4 hb => ?_
            have B4 := Lib.hid (bstep B3d.out hb)
            have g4 := cellB hb y0 (lt_of_cell' y0)
            have p4 := cellB hb p3 (lt_of_cell' p3)
            have q4 := cellB hb q3 (lt_of_cell' q3)
            have O4 := Lib.hid (O3d.out.below hb)
            clear hb
            rw [Ht.out]
            refine hK.out _ _ (⟨g4, p4, q4⟩) (fun hS1 => toL [11, 12] ?_)
            clear hK K hS0
            (try simp only [Act.put, List.setIfInBounds_toArray, List.set_cons_zero, List.set_cons_succ])
            iterate 2 (refine takeL (v := ?_) rfl rfl (by kernel_rfl) (by kernel_rfl) (by kernel_rfl) hPQ hS1 (by kernel_rfl) ?_ ?_; rotate_left; (focus (intro w hSw; (try dsimp only at hSw); obtain ⟨k0, k1, k2⟩ := hSw; go_simp; (try with_reducible rfl))); (try simp only [Act.put, List.setIfInBounds_toArray, List.set_cons_zero, List.set_cons_succ]))
            refine ofL (wpAnyH_done (by kernel_rfl) (hQn.out _ _ ?_) _)
            clear hS1 hPQ hQn Qn
            by_cases hts : t = s
            · have K9 : (t == s) = true := by simp [hts]
              obtain ⟨m, t0, hm, ht0, htb, hX2⟩ := rnL_on lo hi hlt (by rw [HSd.out]; exact HS0.out) ⟨HI0.out, by rw [HTd.out, HSd.out]; exact hts⟩
              rw [← HX.out] at hm ht0 hX2
              rw [HSd.out] at hX2
              obtain ⟨g, cap, rfl⟩ : ∃ g cap, u7 = .slice (some ⟨g, 0, none⟩) X.length cap := by
                rcases O4.out.1.2 with ⟨_, h⟩ | ⟨g, cap, cur, h, _⟩
                · exact absurd h (by omega)
                · exact ⟨g, cap, h⟩
              obtain ⟨c1, f1, _, hgb⟩ := own_get O4.out.1 (i := m) (by omega)
              rw [ht0] at c1
              have Hgb := Lib.hid hgb
              have HX2 := Lib.hid hX2
              have M1 : IntKind.i64.wrap ((X.length : Int) - 1) = (m : Int) := by rw [IntKind.wrap_i64] <;> omega
              have M2 : ((m : Int) < (X.length : Int)) = True := eq_true (by omega)
              have M3 : (m < X.length) = True := eq_true (by omega)
              have M4 : IntKind.i64.wrap (t0 + s) = t0 + s := by rw [IntKind.wrap_i64] <;> omega
              have O5 : Hid (OwnL (w4.setCell ⟨g, m, none⟩ (.int .i64 (t0 + s))) w2.heap.size 3 1 (.slice (some ⟨g, 0, none⟩) X.length cap) (X.set m (t0 + s)).length (I64s (X.set m (t0 + s)))) := by
                unfold Hid
                rw [List.length_set]
                exact ⟨own_store O4.out.1 m (t0 + s), ⟨fun h => (by cases h), fun h => absurd h (by omega)⟩⟩
              have B5 : Hid (Below w2.heap.size w2 (w4.setCell ⟨g, m, none⟩ (.int .i64 (t0 + s)))) := B4.out.setCell (p := ⟨g, m, none⟩) Hgb.out _
              clear hts hm ht0 htb hX2 hgb
              go_wp2_with fail
              exact ⟨⟨i + 1, by omega, by go_num, B5, X.set m (t0 + s), HX2.out.symm, O5⟩, by simp [intOf]; omega⟩
            · have K9 : (t == s) = false := by simpa using hts
              have e3 : Hid (X ++ [s] = rnL lo hi (l.take (i + 1))) := by
                unfold Hid
                have h := rnL_new lo hi hlt (by rw [HSd.out]; exact HS0.out) (by rintro ⟨_, h⟩; rw [HTd.out, HSd.out] at h; exact hts h)
                rw [h, HSd.out, HX.out]
              go_wp2_with (at_builtin; refine wp_append1 rfl (.tmp 52) (.tmp 54) 22 rfl w2.heap.size 3 Tryz.underlying22 Tryz.infoInts rfl (by decide) (by decide) _ X.length (I64s X) rfl (O4.out.alloc _) w4.heap.size [.int .i64 s] rfl rfl (new1 _ _ _) (one1 _ rfl) (by omega) (by have := B4.out.size; simp; omega) ?_; intro v1 w9 hown1 hb1; have H1 : Hid (OwnL w9 w2.heap.size 3 1 v1 (X ++ [s]).length (I64s (X ++ [s]))) := (by unfold Hid; rw [I64s_append, List.length_append]; exact hown1); have Hb1 := Lib.hid ((B4.out.alloc B4.out.size _).trans hb1); clear hown1 hb1)
              exact ⟨⟨i + 1, by omega, by go_num, Hb1, X ++ [s], e3, H1⟩, by simp [intOf]; omega⟩
          · have K7 : (0 < (i : Int)) = False := eq_false (by omega)
            have K8 : (0 < i) = False := eq_false hi0
            have HI0 := Lib.hid hi0
            clear hi0
            go_wp2_with fail
            refine regionL [0, 1, 2, 3, 4, 5, 6, 7, 8, 9, 10, 11, 12] (fun _ => True) (by kernel_rfl) (trivial) (fun Qn hPQ hQn hS0 => ?_)
            iterate 3 (refine takeL (v := ?_) rfl rfl (by kernel_rfl) (by kernel_rfl) (by kernel_rfl) hPQ hS0 (by kernel_rfl) ?_ ?_; rotate_left; (focus (intro w hSw; (try dsimp only at hSw); go_simp; (try with_reducible rfl))); (try simp only [Act.put, List.setIfInBounds_toArray, List.set_cons_zero, List.set_cons_succ]))
            iterate 9 ((first | refine skipL rfl rfl (by kernel_rfl) (by kernel_rfl) (by kernel_rfl) hPQ hS0 (by kernel_rfl) ?_ | refine skipN rfl rfl (by kernel_rfl) (by kernel_rfl) (by kernel_rfl) hPQ hS0 (by kernel_rfl) ?_); (try simp only [Act.put, List.setIfInBounds_toArray, List.set_cons_zero, List.set_cons_succ]))
            iterate 1 (refine takeL (v := ?_) rfl rfl (by kernel_rfl) (by kernel_rfl) (by kernel_rfl) hPQ hS0 (by kernel_rfl) ?_ ?_; rotate_left; (focus (intro w hSw; (try dsimp only at hSw); go_simp; (try with_reducible rfl))); (try simp only [Act.put, List.setIfInBounds_toArray, List.set_cons_zero, List.set_cons_succ]))
            refine ofL (wpAnyH_done (by kernel_rfl) (hQn.out _ _ ?_) _)
            clear hS0 hPQ hQn Qn
            obtain ⟨w5, E5⟩ : ∃ w5, w3.drew = w5 := ⟨_, rfl⟩
            rw [E5] at B3d O3d ⊢
            clear E5
            have e3 : Hid (X ++ [s] = rnL lo hi (l.take (i + 1))) := by
              unfold Hid
              have h := rnL_new lo hi hlt (by rw [HSd.out]; exact HS0.out) (fun h => HI0.out h.1)
              rw [h, HSd.out, HX.out]
            go_wp2_with (at_builtin; refine wp_append1 rfl (.tmp 52) (.tmp 54) 22 rfl w2.heap.size 3 Tryz.underlying22 Tryz.infoInts rfl (by decide) (by decide) _ X.length (I64s X) rfl (O3d.out.alloc _) w5.heap.size [.int .i64 s] rfl rfl (new1 _ _ _) (one1 _ rfl) (by omega) (by have := B3d.out.size; simp; omega) ?_; intro v1 w9 hown1 hb1; have H1 : Hid (OwnL w9 w2.heap.size 3 1 v1 (X ++ [s]).length (I64s (X ++ [s]))) := (by unfold Hid; rw [I64s_append, List.length_append]; exact hown1); have Hb1 := Lib.hid ((B3d.out.alloc B3d.out.size _).trans hb1); clear hown1 hb1)
            exact ⟨⟨i + 1, by omega, by go_num, Hb1, X ++ [s], e3, H1⟩, by simp [intOf]; omega⟩
      · have K5 : ((i : Int) < (l.length : Int)) = False := eq_false (by omega)
        obtain rfl : i = l.length := by omega
        rw [List.take_length] at HX
        obtain ⟨a, c2, rfl, hcc, _⟩ := HO.out.read
        have H := Lib.hid hcc
        have B9 := Lib.hid (bstep HB2.out HW.out)
        clear hcc
        go_wp2_with fail
        exact HR.out _ _ _ _ B9.out (fun _ => ⟨by rw [HX.out], by rw [← HX.out]; exact H.out⟩) (fun h => absurd rfl h)
  · have K : (e != 0) = true := by simpa using h0
    have H0 := Lib.hid h0
    clear he h0
    go_wp2_with fail
    exact HR.out none 0 0 _ HB2.out (fun h => absurd h H0.out) (fun _ => rfl)
end Go.Proofs.YtcoombhcdcniiaaGreatDoor
