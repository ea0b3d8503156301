/- The law Groups of layer 57. (Printed by gen_groups57.py.) -/
import Derived.Test.YtcoombhcdcniiaaGreatDoorMyq
namespace Go.Proofs.YtcoombhcdcniiaaGreatDoor
open Go.RowKit

theorem sprL_all {l : List Int} (h : 0 < l.length) : sprL l.length l = [wdI l] := by
  unfold sprL
  rw [Nat.div_self h]
  simp [gpL]
theorem mean_one (x : Int) : meanS [x] = (x : Rat) := by
  have e : sumI [x] = x := by simp [sumI]
  unfold meanS
  rw [e]
  show Rat.divInt x 1 = _
  first | exact Rat.divInt_one x | (rw [Rat.divInt_eq_div]; grind)
theorem spr_mem {l : List Int} {g i : Nat} (hg : 0 < g) (hi : i < (sprL g l).length) : 0 ≤ at0 (sprL g l) i ∧ at0 (sprL g l) i ≤ wdI l := by
  rw [at0_get hi]
  have h := List.getElem_mem hi
  obtain ⟨k, hk, e⟩ := List.mem_map.1 h
  rw [← e]
  exact wd_group hg (List.mem_range.1 hk)
set_option maxRecDepth 100000 in
set_option maxHeartbeats 8000000 in
theorem lawGroups_any (ao : Option Addr) (l : List Int) (c : Nat) (g : Int) (w : World) (R : Ending → World → Prop) (hcap : l.length ≤ c) (hc : CellsAt w ao (I64s l)) (hg : 0 ≤ g ∧ g ≤ 255) (hE : Env w) (hR : ∀ w', Below w.heap.size w w' → R (.returned (.bool true)) w') :
    Calls Tryz.prog 8 #[.slice ao l.length c, .int .u8 g] w R := by
  have HR := Lib.hid hR
  have HC := Lib.hid hc
  have HE := Lib.hid hE
  clear hR hc hE
  go_enter Tryz.func8, Tryz.ntmps8
  go_wp2_with fail
  refine zright_any ao l c _ _ HC.out ?_
  cases hr : rgS l with
  | false =>
    clear hr
    go_wp2_with fail
    refine zawake_any _ _ HE.out fun w9 hb => ?_
    have B9 := Lib.hid hb
    clear hb
    go_wp2_with fail
    exact HR.out _ B9.out
  | true =>
    obtain ⟨h2, h20, hbd⟩ := rgS_ok hr
    have HS := Lib.hid (rgS_srs hr)
    have HV := Lib.hid (rgS_ck hr).2
    have hck := (rgS_ck hr).1
    have HL : Hid (l.length ≤ 1000000000) := by unfold Hid; omega
    have hsp : sprE l (l.length : Int) = 0 := by unfold sprE; rw [if_pos hck, if_pos ⟨by omega, by omega⟩, if_neg (by omega)]
    obtain ⟨wd, hwd⟩ : ∃ y, wdI l = y := ⟨_, rfl⟩
    have hwb := wd_bound (l := l) (by omega) (fun x hx => by have := hbd x hx; omega)
    rw [hwd] at hwb
    obtain ⟨hw1, hw2⟩ := hwb
    have HWD := Lib.hid hwd
    have Hr := Lib.hid hr
    clear hr hbd
    go_wp2_with fail
    refine zspread_any ao l c (l.length : Int) _ _ HL.out hcap HC.out HE.out fun a n1 c1 r1 w1 hb s1 s2 => ?_
    obtain ⟨en, ec, et⟩ := s1 hsp
    rw [Int.toNat_natCast, Nat.div_self (by omega)] at en
    rw [Int.toNat_natCast, sprL_all (by omega), hwd] at ec et
    rw [mean_one] at et
    subst en
    have B1 := Lib.hid hb
    have C1 := Lib.hid (HC.out.below hb)
    have E1 := Lib.hid (HE.out.below hb)
    have X1 := Lib.hid ec
    have T1 := Lib.hid et
    rw [hsp]
    clear hb s1 s2 ec et hsp hwd
    obtain ⟨bd, od, rfl, hbl, hdc⟩ := C1.out.ints (by omega)
    have HDC := Lib.hid hdc
    clear hbl hdc
    go_wp2_with fail
    refine zmax_any bd od l.length c l _ _ (by omega) rfl (by omega) HDC.out ?_
    go_wp2_with fail
    refine zmin_any bd od l.length c l _ _ (by omega) rfl (by omega) HDC.out ?_
    have KW : IntKind.i64.wrap (Lib.maxOf l - Lib.minOf l) = wd := by
      have e : Lib.maxOf l - Lib.minOf l = wd := HWD.out
      rw [e, IntKind.wrap_i64] <;> omega
    obtain ⟨mx, hmx⟩ : ∃ y, Lib.maxOf l = y := ⟨_, rfl⟩
    obtain ⟨mn, hmn⟩ : ∃ y, Lib.minOf l = y := ⟨_, rfl⟩
    rw [hmx, hmn] at KW ⊢
    clear hmx hmn
    go_wp2_with fail
    refine zvariance_any _ l c _ _ HL.out C1.out E1.out fun r2 w2 hb s1 s2 => ?_
    have q2 := (s1 HV.out).beqL 0 (c := [48]) rtL_0
    rw [HV.out]
    have B2 := Lib.hid (bstep B1.out hb)
    have C2 := Lib.hid (C1.out.below hb)
    have E2 := Lib.hid (E1.out.below hb)
    have X2 := Lib.hid (X1.out.below hb)
    have hz : ∃ z : Bool, (r2.toList == [48]) = z ∧ (wd == 0) = z := by
      refine ⟨_, q2, ?_⟩
      have h0 : varS l = 0 ↔ wd = 0 := by rw [varS_zero h2, ← wdI_zero (show 0 < l.length by omega), HWD.out]
      by_cases e : wd = 0
      · rw [decide_eq_true (h0.2 e)]; simp [e]
      · rw [decide_eq_false (fun h => e (h0.1 h))]; simpa using e
    obtain ⟨z, q3, q4⟩ := hz
    clear hb s1 s2 q2
    go_wp2_with fail
    have hal : Below w2.heap.size w2 (w2.alloc (.cells #[.int .i64 wd] 3)) := (Below.refl _ _).alloc (Nat.le_refl _) _
    have Hal := Lib.hid hal
    clear hal
    refine zequalI_any a _ [wd] 1 c1 _ rfl (by decide) _ _ (X2.out.below Hal.out) (cells_lit w2 [wd] 3) fun w3 hb => ?_
    have B3 := Lib.hid (bstep (bstep B2.out Hal.out) hb)
    have C3 := Lib.hid ((C2.out.below Hal.out).below hb)
    have E3 := Lib.hid ((E2.out.below Hal.out).below hb)
    clear hb
    go_wp2_with fail
    refine ywhole_any wd (by omega) (by omega) _ _ fun r3 w4 hb hr3 => ?_
    obtain rfl : r3 = r1 := (TxR.inj hr3 T1.out).2 rfl
    have B4 := Lib.hid (bstep B3.out hb)
    have C4 := Lib.hid (C3.out.below hb)
    have E4 := Lib.hid (E3.out.below hb)
    clear hb hr3
    obtain ⟨r, hrm, hrl⟩ : ∃ r : Nat, g.tmod ((l.length : Int) - 1) = (r : Int) ∧ r + 2 ≤ l.length := by
      have e1 : g.tmod ((l.length : Int) - 1) = g % ((l.length : Int) - 1) := Int.tmod_eq_emod_of_nonneg hg.1
      have e2 := Int.emod_nonneg g (show (l.length : Int) - 1 ≠ 0 by omega)
      have e3 := Int.emod_lt_of_pos g (show 0 < (l.length : Int) - 1 by omega)
      exact ⟨(g % ((l.length : Int) - 1)).toNat, by rw [e1]; omega, by omega⟩
    obtain ⟨k, hk⟩ : ∃ k, r + 2 = k := ⟨_, rfl⟩
    obtain ⟨hg1, hg2⟩ := hg
    have K1 : IntKind.i64.wrap g = g := by rw [IntKind.wrap_i64] <;> omega
    have K2 : IntKind.i64.wrap ((l.length : Int) - 1) = (l.length : Int) - 1 := by rw [IntKind.wrap_i64] <;> omega
    have K3 : (((l.length : Int) - 1) == 0) = false := by simp; omega
    have K4 : IntKind.i64.wrap (r : Int) = (r : Int) := by rw [IntKind.wrap_i64] <;> omega
    have K5 : IntKind.i64.wrap (2 + (r : Int)) = (k : Int) := by rw [IntKind.wrap_i64] <;> omega
    have hk2 : 2 ≤ k := by omega
    have hkl : k ≤ l.length := by omega
    have hsp : sprE l (k : Int) = 0 := by unfold sprE; rw [if_pos hck, if_pos ⟨by omega, by omega⟩, if_neg (by omega)]
    have HSm : Hid (Sms (sprL k l)) := sms_spread HS.out hk2 hkl
    obtain ⟨m, hm⟩ : ∃ m, l.length / k = m := ⟨_, rfl⟩
    have hml : Hid ((sprL k l).length = m) := by unfold Hid; rw [sprL_length, hm]
    have hm20 : m ≤ 20 := by rw [← hm]; have := Nat.div_le_self l.length k; omega
    have hm0 : 0 < m := by rw [← hm]; exact Nat.div_pos hkl (by omega)
    have M1 : (l.length : Int).tdiv (k : Int) = (m : Int) := by rw [Int.tdiv_eq_ediv_of_nonneg (by omega), ← hm]; rfl
    have M2 : IntKind.i64.wrap (m : Int) = (m : Int) := by rw [IntKind.wrap_i64] <;> omega
    have M3 : ((k : Int) == 0) = false := by simp; omega
    have Hk0 : Hid (0 < k) := by unfold Hid; omega
    clear hk hck
    go_wp2_with fail
    refine zspread_any _ l c (k : Int) _ _ HL.out hcap C4.out E4.out fun a2 n2 c2 r4 w5 hb s1 s2 => ?_
    obtain ⟨en, ec, et⟩ := s1 hsp
    rw [Int.toNat_natCast, hm] at en
    rw [Int.toNat_natCast] at ec et
    subst en
    have B5 := Lib.hid (bstep B4.out hb)
    have E5 := Lib.hid (E4.out.below hb)
    have X5 := Lib.hid ec
    have T4 := Lib.hid et
    rw [hsp]
    clear hb s1 s2 ec et hsp hm
    go_wp2_with fail
    go_loopw [91, 13] (fun j s wr => ∃ i : Nat, i ≤ n2 ∧ j = .int .i64 i ∧ Hid (wr = w5) ∧ ∃ t : Int, s = .int .i64 t ∧ Hid (t = sumI ((sprL k l).take i))) (fun j _ _ => n2 - (intOf j).toNat)
    case atStart => exact ⟨0, Nat.zero_le _, rfl, rfl, 0, rfl, rfl⟩
    case round =>
      obtain ⟨i, hi, rfl, HW, t, rfl, HT⟩ := hrel
      by_cases hlt : i < n2
      · have K6 : ((i : Int) < (n2 : Int)) = True := eq_true (by omega)
        have hlt2 : i < (sprL k l).length := by rw [hml.out]; exact hlt
        obtain ⟨b2, o2, rfl, hbl, hdc⟩ := X5.out.ints (by omega)
        have g0 := hdc i hlt2
        rw [← HW.out] at g0
        have hx := spr_mem (l := l) Hk0.out hlt2
        rw [HWD.out] at hx
        have hb : -4294967296 ≤ t ∧ t ≤ 4294967296 := by rw [HT.out]; exact HSm.out.sumB i
        have e2 := sum_at (sprL k l) i hlt2
        obtain ⟨x, hx0⟩ : ∃ x, at0 (sprL k l) i = x := ⟨_, rfl⟩
        rw [hx0] at g0 hx e2
        have e3 : Hid (t + x = sumI ((sprL k l).take (i + 1))) := by unfold Hid; rw [e2, HT.out]
        have K7 : (x < 0) = False := eq_false (by omega)
        have K8 : (wd < x) = False := eq_false (by omega)
        have K9 : IntKind.i64.wrap (t + x) = t + x := by rw [IntKind.wrap_i64] <;> omega
        clear hdc hbl hx hb e2 hx0 hlt2
        go_wp2_with fail
        exact ⟨⟨i + 1, by omega, by go_num, HW, t + x, rfl, e3⟩, by simp [intOf]; omega⟩
      · have K6 : ((i : Int) < (n2 : Int)) = False := eq_false (by omega)
        have e2 : Hid (t = sumI (sprL k l)) := by unfold Hid; rw [HT.out, List.take_of_length_le (by rw [hml.out]; omega)]
        have hb : -4294967296 ≤ t ∧ t ≤ 4294967296 := by rw [e2.out]; exact HSm.out.sumA
        have ew := HW.out
        subst ew
        go_wp2_with fail
        refine yover_any t n2 (by omega) (by omega) (by omega) (by omega) (by omega) _ _ fun r5 w6 hb6 hr5 => ?_
        have hme : Rat.divInt t n2 = meanS (sprL k l) := by unfold meanS; rw [hml.out, e2.out]
        rw [hme] at hr5
        obtain rfl : r5 = r4 := (TxR.inj hr5 T4.out).2 rfl
        have B6 := Lib.hid (bstep B5.out hb6)
        have E6 := Lib.hid (E5.out.below hb6)
        clear hb6 hr5 hme hb
        go_wp2_with fail
        refine zawake_any _ _ E6.out fun w9 hb9 => ?_
        have B9 := Lib.hid (bstep B6.out hb9)
        clear hb9
        go_wp2_with fail
        exact HR.out _ B9.out
end Go.Proofs.YtcoombhcdcniiaaGreatDoor
