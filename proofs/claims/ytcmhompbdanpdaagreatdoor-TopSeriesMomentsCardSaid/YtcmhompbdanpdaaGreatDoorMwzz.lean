/- The variance of series, in capability and in reference 57. The variance of series, in capability and in reference 57. -/
import Derived.Test.YtcmhompbdanpdaaGreatDoorMwzw
namespace Go.Proofs.YtcmhompbdanpdaaGreatDoor
open Go.RowKit

theorem bstep {w w1 w2 : World} (h : Below w.heap.size w w1) (h2 : Below w1.heap.size w1 w2) : Below w.heap.size w w2 := h.trans (h2.mono h.size)
theorem len_fits {n : Int} (h : n.natAbs < 10 ^ 100) : lenI n ≤ 1024 := Nat.le_trans ((lenI_le (by decide)).2 h) (by decide)
theorem len_fit {n : Int} {B : Nat} (h : n.natAbs ≤ B) (hB : B < 10 ^ 100) : lenI n ≤ 1024 := len_fits (Nat.lt_of_le_of_lt h hB)
theorem sq_at (l : List Int) (k : Nat) (h : k < l.length) : sqI (l.take (k + 1)) = sqI (l.take k) + at0 l k * at0 l k := by rw [sq_take l k h, at0_get h]
theorem dev_at (m : Rat) (l : List Int) (k : Nat) (h : k < l.length) : dvtS m 0 (l.take (k + 1)) = dvtS m 0 (l.take k) + ((at0 l k : Rat) - m) * ((at0 l k : Rat) - m) := by rw [dev_take m l k h, at0_get h]
theorem sub_mean {l : List Int} (h : 0 < l.length) (x : Int) : (x : Rat) - meanS l = Rat.divInt ((l.length : Int) * x - sumI l) l.length := by
  have hp : (l.length : Rat) ≠ 0 := fun e => by
    have := Rat.natCast_inj.1 (show (l.length : Rat) = ((0 : Nat) : Rat) from e)
    omega
  rw [meanS_eq, Rat.divInt_eq_div, Rat.intCast_sub, Rat.intCast_mul]
  have en : (((l.length : Nat) : Int) : Rat) = (l.length : Rat) := rfl
  rw [en]
  grind
theorem Srs.subS {l : List Int} (h : Srs l) {x : Int} (hx : -1048576 ≤ x ∧ x ≤ 1048576) : SmR 20 ((x : Rat) - meanS l) := by
  rw [sub_mean h.pos]
  have h1 := h.sum.1
  have hn : (l.length : Int).natAbs ≤ 4096 := by have := h.few; omega
  have hxx : x.natAbs ≤ 1048576 := by omega
  refine SmR.ofDiv (by have := h.pos; omega) ?_ (Nat.lt_of_le_of_lt hn (by decide))
  exact Nat.lt_of_le_of_lt (sub_abs_le (mul_abs_le hn hxx) h1) (by decide)
theorem Srs.sqS {l : List Int} (h : Srs l) {x : Int} (hx : -1048576 ≤ x ∧ x ≤ 1048576) : SmR 40 (((x : Rat) - meanS l) * ((x : Rat) - meanS l)) := by
  rw [sub_mean h.pos]
  have h1 := h.sum.1
  have hn : (l.length : Int).natAbs ≤ 4096 := by have := h.few; omega
  have hxx : x.natAbs ≤ 1048576 := by omega
  have h2 := sub_abs_le (mul_abs_le hn hxx) h1
  have h0 : (l.length : Int) ≠ 0 := by have := h.pos; omega
  rw [Rat.divInt_mul_divInt]
  refine SmR.ofDiv (fun e => by rcases Int.mul_eq_zero.1 e with e | e <;> exact h0 e) ?_ ?_
  · exact Nat.lt_of_le_of_lt (mul_abs_le h2 h2) (by decide)
  · exact Nat.lt_of_le_of_lt (mul_abs_le hn hn) (by decide)
theorem Srs.sqB {l : List Int} (h : Srs l) (k : Nat) : lenI (sqI (l.take k)) ≤ 1024 := len_fit (h.sums k).2 (by decide)
theorem sq_abs {x : Int} (hx : -1048576 ≤ x ∧ x ≤ 1048576) : (x * x).natAbs ≤ 1048576 * 1048576 := mul_abs_le (by omega) (by omega)
set_option maxHeartbeats 1000000 in
theorem ztimes_any (a b : ByteArray) (m n : Int) (ha : Txt a m) (hb : Txt b n) (hm : lenI m ≤ 1024) (hn : lenI n ≤ 1024) (hmn : lenI (m * n) ≤ 1024) (w : World) (R : Ending → World → Prop) (hE : Env w)
   (hR : ∀ r w', Below w.heap.size w w' → Txt r (m * n) → R (.returned (.string r)) w') :
    Calls Tryz.prog 188 #[.string a, .string b] w R := by
  have HR := Lib.hid hR
  have HE := Lib.hid hE
  have A1 := Lib.hid ha
  have A2 := Lib.hid hb
  have A3 := Lib.hid hm
  have A4 := Lib.hid hn
  have A5 := Lib.hid hmn
  clear hR hE ha hb hm hn hmn
  go_enter Tryz.func188, Tryz.ntmps188
  go_wp2_with fail
  with_reducible refine wmul_any _ _ m n A1.out A2.out A3.out A4.out A5.out _ _ HE.out fun r w1 HB HT => ?_
  have HB1 := Lib.hid HB
  have HT1 := Lib.hid HT
  clear HB HT
  go_wp2_with fail
  exact HR.out _ _ HB1.out HT1.out
set_option maxHeartbeats 1000000 in
theorem zplus_any (a b : ByteArray) (m n : Int) (ha : Txt a m) (hb : Txt b n) (hm : lenI m ≤ 1024) (hn : lenI n ≤ 1024) (hmn : lenI (m + n) ≤ 1024) (w : World) (R : Ending → World → Prop) (hE : Env w)
   (hR : ∀ r w', Below w.heap.size w w' → Txt r (m + n) → R (.returned (.string r)) w') :
    Calls Tryz.prog 189 #[.string a, .string b] w R := by
  have HR := Lib.hid hR
  have HE := Lib.hid hE
  have A1 := Lib.hid ha
  have A2 := Lib.hid hb
  have A3 := Lib.hid hm
  have A4 := Lib.hid hn
  have A5 := Lib.hid hmn
  clear hR hE ha hb hm hn hmn
  go_enter Tryz.func189, Tryz.ntmps189
  go_wp2_with fail
  with_reducible refine wadd_any _ _ m n A1.out A2.out A3.out A4.out A5.out _ _ HE.out fun r w1 HB HT => ?_
  have HB1 := Lib.hid HB
  have HT1 := Lib.hid HT
  clear HB HT
  go_wp2_with fail
  exact HR.out _ _ HB1.out HT1.out
set_option maxHeartbeats 1000000 in
theorem zvar1_any (x : Int) (hx : -1048576 ≤ x ∧ x ≤ 1048576) (w : World) (R : Ending → World → Prop) (hE : Env w) (hR : ∀ r w', Below w.heap.size w w' → Txt r (x * x) → R (.returned (.string r)) w') :
    Calls Tryz.prog 187 #[.int .i64 x] w R := by
  have HR := Lib.hid hR
  have HE := Lib.hid hE
  have HX := Lib.hid hx
  have L1 : Hid (lenI x ≤ 1024) := len_fit (B := 1048576) (by omega) (by decide)
  have L2 : Hid (lenI (x * x) ≤ 1024) := len_fit (sq_abs hx) (by decide)
  clear hR hE hx
  go_enter Tryz.func187, Tryz.ntmps187
  go_wp2_with fail
  with_reducible refine wof_any x _ _ (by have := HX.out; omega) (by have := HX.out; omega) HE.out fun r1 w1 HB HT => ?_
  have HB1 := Lib.hid HB
  have HT1 := Lib.hid HT
  have HE1 := Lib.hid (HE.out.below HB)
  clear HB HT
  go_wp2_with fail
  with_reducible refine wof_any x _ _ (by have := HX.out; omega) (by have := HX.out; omega) HE1.out fun r2 w2 HB HT => ?_
  have HB2 := Lib.hid (bstep HB1.out HB)
  have HT2 := Lib.hid HT
  have HE2 := Lib.hid (HE1.out.below HB)
  clear HB HT
  go_wp2_with fail
  with_reducible refine ztimes_any _ _ x x HT1.out HT2.out L1.out L1.out L2.out _ _ HE2.out fun r3 w3 HB HT => ?_
  have HB3 := Lib.hid (bstep HB2.out HB)
  have HT3 := Lib.hid HT
  clear HB HT
  go_wp2_with fail
  exact HR.out _ _ HB3.out HT3.out
set_option maxHeartbeats 2000000 in
theorem ztotalI_any (ao : Option Addr) (l : List Int) (c : Nat) (w : World) (R : Ending → World → Prop) (h : Srs l) (hc : CellsAt w ao (I64s l)) (hE : Env w) (hR : ∀ r w', Below w.heap.size w w' → Txt r (sqI l) → R (.returned (.string r)) w') :
    Calls Tryz.prog 186 #[.slice ao l.length c, .func (.func 187) #[] #[], .func (.func 189) #[] #[]] w R := by
  have HR := Lib.hid hR
  have HC := Lib.hid hc
  have HS := Lib.hid h
  have HE := Lib.hid hE
  have hl : Hid (l.length ≤ 4096) := h.few
  have hp : Hid (0 < l.length) := h.pos
  clear hR hc h hE
  go_enter Tryz.func186, Tryz.ntmps186
  go_wp2_with fail
  go_loopw [13, 7] (fun j s wr => ∃ i : Nat, i ≤ l.length ∧ j = .int .i64 i ∧ Hid (Below w.heap.size w wr) ∧ (∃ t : ByteArray, s = .string t ∧ Hid (0 < i → Txt t (sqI (l.take i))))) (fun j _ _ => l.length - (intOf j).toNat)
  case atStart => exact ⟨0, Nat.zero_le _, rfl, Below.refl _ _, ⟨#[]⟩, rfl, fun h => absurd h (Nat.lt_irrefl 0)⟩
  case round =>
    obtain ⟨i, hi, rfl, HW, t, rfl, HT⟩ := hrel
    by_cases hlt : i < l.length
    · have K2 : ((i : Int) < (l.length : Int)) = True := eq_true (by omega)
      have hcr := HC.out.below HW.out
      obtain ⟨bd, od, rfl, hbd, hdc⟩ := hcr.ints (by have := hl.out; omega)
      have g0 := hdc i hlt
      have hx := HS.out.at hlt
      obtain ⟨x, hx0⟩ : ∃ x, at0 l i = x := ⟨_, rfl⟩
      rw [hx0] at hx g0
      have e2 : Hid (sqI (l.take (i + 1)) = sqI (l.take i) + x * x) := by unfold Hid; rw [sq_at l i hlt, hx0]
      have hl2 := hl.out
      have HX := Lib.hid hx
      have L1 : Hid (lenI (sqI (l.take i)) ≤ 1024) := HS.out.sqB i
      have L2 : Hid (lenI (x * x) ≤ 1024) := len_fit (sq_abs hx) (by decide)
      have L3 : Hid (lenI (sqI (l.take i) + x * x) ≤ 1024) := by unfold Hid; rw [← e2.out]; exact HS.out.sqB (i + 1)
      have HEr := Lib.hid (HE.out.below HW.out)
      clear hdc hx0 hx hcr
      by_cases hz : i = 0
      · have K3 : ((i : Int) == 0) = true := by simp [hz]
        have e3 : Hid (sqI (l.take i) = 0) := by unfold Hid; rw [hz]; rfl
        clear hz
        go_wp2_with fail
        with_reducible refine zvar1_any x HX.out _ _ HEr.out fun r1 w1 HB HT1 => ?_
        have HB1 := Lib.hid (bstep HW.out HB)
        have HTn : Hid (0 < i + 1 → Txt r1 (sqI (l.take (i + 1)))) := fun _ => by rw [e2.out, e3.out, Int.zero_add]; exact HT1
        clear HB HT1
        go_wp2_with fail
        exact ⟨⟨i + 1, by omega, by go_num, HB1, r1, rfl, HTn⟩, by simp [intOf]; omega⟩
      · have K3 : ((i : Int) == 0) = false := by simpa using hz
        have HTi := Lib.hid (HT.out (by omega))
        clear hz
        go_wp2_with fail
        with_reducible refine zvar1_any x HX.out _ _ HEr.out fun r1 w1 HB HT1' => ?_
        have HB1 := Lib.hid (bstep HW.out HB)
        have HT1 := Lib.hid HT1'
        have HE1 := Lib.hid (HEr.out.below HB)
        clear HB HT1'
        go_wp2_with fail
        with_reducible refine zplus_any _ _ (sqI (l.take i)) (x * x) HTi.out HT1.out L1.out L2.out L3.out _ _ HE1.out fun r2 w2 HB HT2' => ?_
        have HB2 := Lib.hid (bstep HB1.out HB)
        have HTn : Hid (0 < i + 1 → Txt r2 (sqI (l.take (i + 1)))) := fun _ => by rw [e2.out]; exact HT2'
        clear HB HT2'
        go_wp2_with fail
        exact ⟨⟨i + 1, by omega, by go_num, HB2, r2, rfl, HTn⟩, by simp [intOf]; omega⟩
    · have K2 : ((i : Int) < (l.length : Int)) = False := eq_false (by omega)
      have e2 : Hid (Txt t (sqI l)) := by
        have := HT.out (by have := hp.out; omega)
        rw [show i = l.length from by omega, List.take_length] at this
        exact this
      go_wp2_with fail
      exact HR.out _ _ HW.out e2.out
end Go.Proofs.YtcmhompbdanpdaaGreatDoor
namespace Go.Proofs.YtcmhompbdanpdaaGreatDoor
open Go.RowKit

theorem smr_int {a : Int} {B : Nat} (h : a.natAbs ≤ B) (hB : B < 10 ^ 100 := by decide) : SmR 500 (a : Rat) := (SmR.int (Nat.lt_of_le_of_lt h hB) (by decide)).mono (by decide)
theorem varS_num (l : List Int) : (l.length : Int) * sqI l + -1 * (sumI l * sumI l) = (l.length : Int) * sqI l - sumI l * sumI l := by omega
set_option maxHeartbeats 2000000 in
theorem zvar0_any (ao : Option Addr) (l : List Int) (c : Nat) (w : World) (R : Ending → World → Prop) (h : Srs l) (h2 : 2 ≤ l.length) (hc : CellsAt w ao (I64s l)) (hE : Env w) (hR : ∀ r w', Below w.heap.size w w' → TxR r (varS l) → R (.returned (.tuple #[.string r, .int .i64 0])) w') :
    Calls Tryz.prog 130 #[.slice ao l.length c] w R := by
  have HR := Lib.hid hR
  have HC := Lib.hid hc
  have HS := Lib.hid h
  have HE := Lib.hid hE
  have hv : Hid (Rat.divInt ((l.length : Int) * sqI l + -1 * (sumI l * sumI l)) ((l.length : Int) * ((l.length : Int) - 1)) = varS l) := by unfold Hid varS; rw [varS_num]
  have hn : (l.length : Int).natAbs ≤ 4096 := by have := h.few; omega
  have hn1 : ((l.length : Int) - 1).natAbs ≤ 4096 := by have := h.few; omega
  have hs1 := h.sum.1
  have hs2 := h.sum.2
  have Ln : Hid (lenI (l.length : Int) ≤ 1024) := len_fit hn (by decide)
  have Lq : Hid (lenI (sqI l) ≤ 1024) := len_fit hs2 (by decide)
  have Ls : Hid (lenI (sumI l) ≤ 1024) := len_fit hs1 (by decide)
  have Lnq : Hid (lenI ((l.length : Int) * sqI l) ≤ 1024) := len_fit (mul_abs_le hn hs2) (by decide)
  have Lss : Hid (lenI (sumI l * sumI l) ≤ 1024) := len_fit (mul_abs_le hs1 hs1) (by decide)
  have L1 : Hid (lenI (-1 : Int) ≤ 1024) := len_fit (B := 1) (by decide) (by decide)
  have L1s : Hid (lenI (-1 * (sumI l * sumI l)) ≤ 1024) := len_fit (mul_abs_le (show (-1 : Int).natAbs ≤ 1 from by decide) (mul_abs_le hs1 hs1)) (by decide)
  have La : Hid (lenI ((l.length : Int) * sqI l + -1 * (sumI l * sumI l)) ≤ 1024) := len_fit (add_abs_le (mul_abs_le hn hs2) (mul_abs_le (show (-1 : Int).natAbs ≤ 1 from by decide) (mul_abs_le hs1 hs1))) (by decide)
  have Ld : Hid (lenI ((l.length : Int) * ((l.length : Int) - 1)) ≤ 1024) := len_fit (mul_abs_le hn hn1) (by decide)
  have hd0 : Hid ((l.length : Int) * ((l.length : Int) - 1) ≠ 0) := fun e => by
    rcases Int.mul_eq_zero.1 e with e | e <;> omega
  have Hs := Lib.hid h.sumA
  obtain ⟨n, hnn⟩ : ∃ n : Int, (l.length : Int) = n := ⟨_, rfl⟩
  have HN := Lib.hid hnn
  have hdb : Hid (0 ≤ n * (n - 1) ∧ n * (n - 1) ≤ 16777216) := by
    rw [← hnn]
    have a := mul_abs_le hn hn1
    have b := len2_pos h2
    constructor <;> omega
  have hb : 2 ≤ n ∧ n ≤ 4096 := by have := h.few; omega
  obtain ⟨hb1, hb2⟩ := hb
  have T1 : Hid (Txt ⟨#[45, 49]⟩ (-1)) := Txt.minus
  have hdb1 := hdb.out.1
  have hdb2 := hdb.out.2
  clear hR hc h hE hn hn1 hs1 hs2 h2 hnn
  go_enter Tryz.func130, Tryz.ntmps130
  simp only [HN.out] at Ln Lnq La Ld hd0 hv
  go_wp2_with fail
  with_reducible refine ztotalI_any ao l c _ _ HS.out HC.out HE.out fun r1 w1 HB HT => ?_
  have HB1 := Lib.hid HB
  have HT1 := Lib.hid HT
  have HE1 := Lib.hid (HE.out.below HB)
  have HC1 := Lib.hid (HC.out.below HB)
  clear HB HT
  go_wp2_with fail
  refine zsum_any ao l c _ _ HS.out HC1.out ?_
  go_wp2_with fail
  with_reducible refine wof_any (sumI l) _ _ (by have := Hs.out; omega) (by have := Hs.out; omega) HE1.out fun r2 w2 HB HT => ?_
  have HB2 := Lib.hid (bstep HB1.out HB)
  have HT2 := Lib.hid HT
  have HE2 := Lib.hid (HE1.out.below HB)
  clear HB HT
  go_wp2_with fail
  with_reducible refine wof_any (l.length : Int) _ _ (by have := HN.out; omega) (by have := HN.out; omega) HE2.out fun r3 w3 HB HT => ?_
  have HB3 := Lib.hid (bstep HB2.out HB)
  have HT3 := Lib.hid HT
  have HE3 := Lib.hid (HE2.out.below HB)
  simp only [HN.out] at HT3
  clear HB HT
  go_wp2_with fail
  with_reducible refine ztimes_any r3 r1 n (sqI l) HT3.out HT1.out Ln.out Lq.out Lnq.out _ _ HE3.out fun r4 w4 HB HT => ?_
  have HB4 := Lib.hid (bstep HB3.out HB)
  have HT4 := Lib.hid HT
  have HE4 := Lib.hid (HE3.out.below HB)
  clear HB HT
  go_wp2_with fail
  with_reducible refine ztimes_any r2 r2 (sumI l) (sumI l) HT2.out HT2.out Ls.out Ls.out Lss.out _ _ HE4.out fun r5 w5 HB HT => ?_
  have HB5 := Lib.hid (bstep HB4.out HB)
  have HT5 := Lib.hid HT
  have HE5 := Lib.hid (HE4.out.below HB)
  clear HB HT
  go_wp2_with fail
  with_reducible refine ztimes_any _ r5 (-1) (sumI l * sumI l) T1.out HT5.out L1.out Lss.out L1s.out _ _ HE5.out fun r6 w6 HB HT => ?_
  have HB6 := Lib.hid (bstep HB5.out HB)
  have HT6 := Lib.hid HT
  have HE6 := Lib.hid (HE5.out.below HB)
  clear HB HT
  go_wp2_with fail
  with_reducible refine zplus_any r4 r6 _ _ HT4.out HT6.out Lnq.out L1s.out La.out _ _ HE6.out fun r7 w7 HB HT => ?_
  have HB7 := Lib.hid (bstep HB6.out HB)
  have HT7 := Lib.hid HT
  have HE7 := Lib.hid (HE6.out.below HB)
  clear HB HT
  (try simp only [HN.out])
  go_wp2_with fail
  with_reducible refine wof_any (n * (n - 1)) _ _ (by omega) (by omega) HE7.out fun r8 w8 HB HT => ?_
  have HB8 := Lib.hid (bstep HB7.out HB)
  have HT8 := Lib.hid HT
  have HE8 := Lib.hid (HE7.out.below HB)
  clear HB HT
  go_wp2_with fail
  with_reducible refine rmake_any r7 r8 _ _ HT7.out HT8.out La.out Ld.out hd0.out _ _ HE8.out fun r9 w9 HB HT => ?_
  have HB9 := Lib.hid (bstep HB8.out HB)
  have HT9 : Hid (TxR r9 (varS l)) := by rw [← hv.out]; exact HT
  clear HB HT
  go_wp2_with fail
  exact HR.out _ _ HB9.out HT9.out
end Go.Proofs.YtcmhompbdanpdaaGreatDoor
