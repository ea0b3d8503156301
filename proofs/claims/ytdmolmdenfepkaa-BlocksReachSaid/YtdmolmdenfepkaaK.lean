/- The walks of the reference's Reach, steps, Standard. -/
import Derived.Test.YtdmolmdenfepkaaJ
namespace Go.Proofs.Ytdmolmdenfepkaa
open Go.RowKit

def RReaInv (zs : List Int) (most : Int) (W0 : World) (i : Nat) (v : Value) (wr : World) : Prop :=
  ∃ out : List Int, OwnL wr W0.heap.size 3 1 v out.length (I64s out) ∧ out.length ≤ i ∧ ((stks zs.length zs.length).drop i).foldl (reaS zs most) out = rreaX zs most ∧ Below W0.heap.size W0 wr

set_option maxHeartbeats 1000000 in
theorem rreach_any (ao : Option Addr) (zs : List Int) (c : Nat) (most : Int) (w : World) (R : Ending → World → Prop)
   (hl : zs.length ≤ 9223372036854775807) (hl9 : chk zs = 0 → zs.length ≤ 9) (hc : CellsAt w ao (I64s zs))
   (hR : ∀ ao' c' w', Below w.heap.size w w' → CellsAt w' ao' (I64s (rreaL zs most)) → R (.returned (.tuple #[.slice ao' (rreaL zs most).length c', .int .i64 (rreaE zs most)])) w') :
    Calls Try.prog 21 #[.slice ao zs.length c, .int .i64 most] w R := by
  have HR := Lib.hid hR
  clear hR
  by_cases h : chk zs = 0
  · have h9 := hl9 h
    clear hl9
    by_cases hm : 1 ≤ most ∧ most ≤ 8
    · have HE : Hid (rreaE zs most = if (rreaX zs most).length ≤ 16384 then 0 else 12) := by unfold Hid; rw [rreaE, if_pos h, if_pos hm]
      have HL : Hid (rreaL zs most = if (rreaX zs most).length ≤ 16384 then rreaX zs most else []) := by unfold Hid; rw [rreaL, if_pos h, if_pos hm]
      go_enter Try.func21, Try.ntmps21
      go_wp2_with fail
      refine rcheck_any ao zs c _ _ hl hc ?_
      rintro w1 ⟨q1, rfl⟩
      go_wp2_with fail
      refine stacks_any zs.length h9 _ _ ?_
      intro v vs w' hb ho hr
      obtain ⟨aos, cs, rfl, hcs, hns⟩ := ho.read2
      have hb' : Below w.heap.size w w' := ((Drew.refl _).drewN.below _).trans hb
      have HB := Lib.hid hb'
      have HRW := Lib.hid hr
      have hlen := hr.1
      have HCW := Lib.hid (hc.below hb')
      have hsz := stks_length' (n := zs.length) (k := zs.length) h9 h9
      rw [hlen]
      have Hlen := Lib.hid hlen
      have HCS := Lib.hid hcs
      clear hb hb' ho hr hns hlen hcs
      go_wp2_with fail
      go_loopw [7, 9] (fun vn vi wr => ∃ i : Nat, i ≤ (stks zs.length zs.length).length ∧ vi = .int .i64 i ∧ RReaInv zs most w' i vn wr) (fun _ vi _ => (stks zs.length zs.length).length - (intOf vi).toNat)
      case atStart => exact ⟨0, Nat.zero_le _, rfl, [], OwnL.nil _ _ _ _, by simp, rfl, Below.refl _ _⟩
      case round =>
        obtain ⟨i, hi, rfl, out, hown, hout, hfo, hbel⟩ := hrel
        obtain ⟨aoo, co, rfl, hco, hno⟩ := hown.read2
        have HO := Lib.hid hown
        have HF := Lib.hid hfo
        have HBE := Lib.hid hbel
        have HCO := Lib.hid hco
        by_cases hlt : i < (stks zs.length zs.length).length
        · obtain ⟨b, o, rfl, hblt, hcell⟩ := HCS.out (by rw [Hlen.out]; omega)
          have d1 := (hbel.cell (p := ⟨b, o + i, none⟩) hblt).trans (hcell i (by rw [Hlen.out]; exact hlt))
          obtain ⟨s, hs⟩ : ∃ s, (stks zs.length zs.length)[i] = s := ⟨_, rfl⟩
          have hok := stks_ok zs.length zs.length s (by rw [← hs]; exact List.getElem_mem _)
          have hrow := HRW.out.at hlt
          rw [hs] at hrow
          obtain ⟨aor, cr, hvr, hcr, hnr⟩ := OwnL.read2 hrow
          rw [hvr] at d1
          have hdrop : (stks zs.length zs.length).drop i = s :: (stks zs.length zs.length).drop (i + 1) := by rw [List.drop_eq_getElem_cons hlt, hs]
          have HD := Lib.hid hdrop
          have HOK := Lib.hid hok
          have HCR := Lib.hid (hcr.below hbel)
          have hsl := hok.1
          clear hs hok hrow hvr hcell hnr hdrop hcr hown hfo hbel hco hno
          by_cases g1 : (s.length : Int) ≤ most
          · cases g2 : insB (sum zs s) with
            | true =>
              have e : reaS zs most out s = added out (sum zs s) := by rw [reaS, if_pos ⟨g1, g2⟩]
              have E := Lib.hid e
              clear e
              go_wp2_with fail
              refine rtotal_any _ aor zs s c cr _ _ (by omega) (by omega) (HCW.out.below HBE.out) HCR.out HOK.out.2 ?_
              go_wp2_with fail
              refine rinside_any _ _ _ ?_
              go_wp2_with fail
              refine added_any aoo out co _ _ _ (by omega) HCO.out ?_
              intro v2 w2 hb2 ho2
              have Hb2 := Lib.hid hb2
              have Ho2 := Lib.hid ho2
              clear hb2 ho2
              go_wp2_with fail
              have hbb := HBE.out.size
              refine ⟨⟨i + 1, by omega, by go_num, added out (sum zs s), Ho2.out.mono hbb, by have := added_len out (sum zs s); omega, ?_, HBE.out.trans (Hb2.out.mono hbb)⟩, by simp [intOf]; omega⟩
              have h := HF.out
              rw [HD.out, List.foldl_cons, E.out] at h
              exact h
            | false =>
              have e : reaS zs most out s = out := by rw [reaS, g2]; simp
              have E := Lib.hid e
              clear e
              go_wp2_with fail
              refine rtotal_any _ aor zs s c cr _ _ (by omega) (by omega) (HCW.out.below HBE.out) HCR.out HOK.out.2 ?_
              go_wp2_with fail
              refine rinside_any _ _ _ ?_
              go_wp2_with fail
              refine ⟨⟨i + 1, by omega, by go_num, out, HO.out, by omega, ?_, HBE.out⟩, by simp [intOf]; omega⟩
              have h := HF.out
              rw [HD.out, List.foldl_cons, E.out] at h
              exact h
          · have g3 : decide ((s.length : Int) ≤ most) = false := by simp; omega
            have e : reaS zs most out s = out := by rw [reaS, if_neg (fun h => g1 h.1)]
            have E := Lib.hid e
            clear e
            go_wp2_with fail
            refine rtotal_any _ aor zs s c cr _ _ (by omega) (by omega) (HCW.out.below HBE.out) HCR.out HOK.out.2 ?_
            go_wp2_with fail
            refine ⟨⟨i + 1, by omega, by go_num, out, HO.out, by omega, ?_, HBE.out⟩, by simp [intOf]; omega⟩
            have h := HF.out
            rw [HD.out, List.foldl_cons, E.out] at h
            exact h
        · have hX : out = rreaX zs most := by
            have h := HF.out
            rw [List.drop_eq_nil_of_le (by omega)] at h
            exact h
          have HX := Lib.hid hX
          clear hown hfo hbel hco hno hX
          have hlo : out.length ≤ 435848050 := by omega
          have hbf := HB.out.trans (HBE.out.mono HB.out.size)
          by_cases g : out.length ≤ 16384
          · have HR' := Lib.hid (HR.out aoo co wr hbf)
            rw [HE.out, HL.out, ← HX.out, if_pos g, if_pos g] at HR'
            clear hbf
            go_wp2_with fail
            exact HR'.out HCO.out
          · have HR' := Lib.hid (HR.out none 0 wr hbf)
            rw [HE.out, HL.out, ← HX.out, if_neg g, if_neg g] at HR'
            clear hbf
            go_wp2_with fail
            exact HR'.out (CellsAt.nil _ _)
    · have e1 : rreaL zs most = [] := by rw [rreaL, if_pos h, if_neg hm]
      have e2 : rreaE zs most = 2 := by rw [rreaE, if_pos h, if_neg hm]
      rw [e1, e2] at HR
      clear e1 e2
      by_cases hm1 : most < 1
      all_goals
        go_enter Try.func21, Try.ntmps21
        go_wp2_with fail
        refine rcheck_any ao zs c _ _ hl hc ?_
        rintro w1 ⟨q1, rfl⟩
        go_wp2_with fail
        exact HR.out none 0 _ ((Drew.refl _).drewN.below _) (CellsAt.nil _ _)
  · have h2 : (chk zs != 0) = true := by simpa using h
    have e1 : rreaL zs most = [] := by rw [rreaL, if_neg h]
    have e2 : rreaE zs most = chk zs := by rw [rreaE, if_neg h]
    rw [e1, e2] at HR
    clear e1 e2 hl9
    go_enter Try.func21, Try.ntmps21
    go_wp2_with fail
    refine rcheck_any ao zs c _ _ hl hc ?_
    rintro w1 ⟨q1, rfl⟩
    go_wp2_with fail
    exact HR.out none 0 _ ((Drew.refl _).drewN.below _) (CellsAt.nil _ _)

def StepInv (ls : List Int) (low step : Int) (W0 : World) (k : Nat) (v : Value) (wr : World) : Prop :=
  ∃ ao c, v = .slice ao (stepsL ls low step k).length c ∧ CellsAt wr ao (I64s (stepsL ls low step k)) ∧ Below W0.heap.size W0 wr

set_option maxHeartbeats 400000 in
theorem rsteps_any (ao : Option Addr) (ls : List Int) (c : Nat) (low high step : Int) (cnt : Nat) (w : World) (R : Ending → World → Prop)
   (hl : ls.length ≤ 1000) (hc : CellsAt w ao (I64s ls)) (h0 : 0 ≤ low ∧ low ≤ 200000) (hs : 1 ≤ step ∧ step ≤ 200000) (hcn : cnt ≤ 1000)
   (hh : ∀ k : Nat, k < cnt → low + k * step ≤ high) (hh2 : high < low + cnt * step)
   (hR : ∀ ao' c' w', Below w.heap.size w w' → CellsAt w' ao' (I64s (stepsL ls low step cnt)) → R (.returned (.slice ao' (stepsL ls low step cnt).length c')) w') :
    Calls Try.prog 52 #[.slice ao ls.length c, .int .i64 low, .int .i64 high, .int .i64 step] w R := by
  have HR := Lib.hid hR
  have Hh := Lib.hid hh
  have Hh2 := Lib.hid hh2
  clear hR hh hh2
  go_enter Try.func52, Try.ntmps52
  go_wp2_with fail
  go_loopw [0, 9] (fun v vn wr => ∃ k : Nat, k ≤ cnt ∧ vn = .int .i64 (low + k * step) ∧ StepInv ls low step w k v wr) (fun _ vn _ => (high + 1 - intOf vn).toNat)
  case atStart => exact ⟨0, Nat.zero_le _, by simp, ao, c, rfl, hc, Below.refl _ _⟩
  case round =>
    obtain ⟨k, hk, rfl, ao1, c1, rfl, hc1, hb1⟩ := hrel
    have hbd : 0 ≤ (k : Int) * step ∧ (k : Int) * step ≤ 1000 * 200000 := ⟨Int.mul_nonneg (by omega) (by omega), Int.mul_le_mul (by omega) hs.2 (by omega) (by omega)⟩
    have hll := stepsL_len ls low step k
    obtain ⟨n, hn⟩ : ∃ n : Int, low + k * step = n := ⟨_, rfl⟩
    obtain ⟨ks, hks⟩ : ∃ ks : Int, (k : Int) * step = ks := ⟨_, rfl⟩
    rw [hks] at hbd
    have hn2 : 0 ≤ n ∧ n ≤ 200400000 := by rw [← hn, hks]; omega
    by_cases hlt : k < cnt
    · have g := Hh.out k hlt
      rw [hn] at g ⊢
      have HC := Lib.hid hc1
      have HB := Lib.hid hb1
      have Hn := Lib.hid hn
      clear hc1 hb1 hn hks
      go_wp2_with fail
      refine added_any ao1 (stepsL ls low step k) c1 n _ _ (by omega) HC.out ?_
      intro v2 w2 hb2 ho2
      obtain ⟨ao2, c2, rfl, hc2, _⟩ := ho2.read2
      have HC2 := Lib.hid hc2
      have HB2 := Lib.hid hb2
      clear hc2 hb2 ho2
      go_wp2_with fail
      refine ⟨⟨k + 1, by omega, ?_, ao2, c2, ?_, ?_, HB.out.trans (HB2.out.mono HB.out.size)⟩, by simp [intOf]; omega⟩
      · rw [← Hn.out, Int.natCast_succ, Int.add_mul]; congr 1; omega
      · rw [stepsL, Hn.out]
      · rw [stepsL, Hn.out]; exact HC2.out
    · obtain rfl : k = cnt := by omega
      have g := Hh2.out
      rw [hn] at g ⊢
      have HC := Lib.hid hc1
      have HB := Lib.hid hb1
      clear hc1 hb1 hn hks
      go_wp2_with fail
      exact HR.out ao1 c1 wr HB.out HC.out
end Go.Proofs.Ytdmolmdenfepkaa
