/- What the law Totals of layer 57 counts. No program in sight. The law Totals of layer 57. (Printed by gen_totals.py.) -/
import Derived.Test.YtcoombhcdcniiaaGreatDoorMyq
namespace Go.Proofs.YtcoombhcdcniiaaGreatDoor
open Go.RowKit

theorem sumI_snoc (l : List Int) (x : Int) : sumI (l ++ [x]) = sumI l + x := by
  unfold sumI; rw [List.foldl_append]; rfl
theorem sumTo_front (f : Nat → Nat) : ∀ n, sumTo f (n + 1) = f 0 + sumTo (fun k => f (k + 1)) n
  | 0 => by simp [sumTo]
  | n + 1 => by rw [sumTo, sumTo_front f n, sumTo]; omega
theorem natI_sum (f : Nat → Nat) : ∀ n, sumI (natI ((List.range n).map f)) = ((sumTo f n : Nat) : Int)
  | 0 => rfl
  | n + 1 => by
    have e : natI ((List.range (n + 1)).map f) = natI ((List.range n).map f) ++ [(f n : Int)] := by
      unfold natI; rw [List.range_succ, List.map_append, List.map_append]; rfl
    rw [e, sumI_snoc, natI_sum f n, sumTo]; push_cast; rfl
/-- All values are counted once. -/
theorem hs_total (low width : Int) (bins : Nat) (l : List Int) : ((hcN low width bins l 0 : Nat) : Int) + ((hcN low width bins l (bins + 1) : Nat) : Int) + sumI (natI (hsL low width bins l)) = l.length := by
  have h := hcN_total low width bins l
  rw [show bins + 2 = (bins + 1) + 1 from rfl, sumTo_front, sumTo] at h
  have e := natI_sum (fun k => hcN low width bins l (k + 1)) bins
  unfold hsL
  rw [e]
  omega
theorem hs_perm (low width : Int) (bins : Nat) (l : List Int) : hsL low width bins (sortL l) = hsL low width bins l ∧ ∀ k, hcN low width bins (sortL l) k = hcN low width bins l k := by
  have h : ∀ k, hcN low width bins (sortL l) k = hcN low width bins l k := fun k => hcN_perm (sortL_perm l) k
  refine ⟨?_, h⟩
  unfold hsL
  simp only [h]
theorem sort_ck {l : List Int} (h : ckSr l = 0) : ckSr (sortL l) = 0 := by
  obtain ⟨h1, h2, h3⟩ := ckSr_zero.1 h
  exact ckSr_zero.2 ⟨by rw [sortL_length]; exact h1, by rw [sortL_length]; exact h2, fun x hx => h3 x ((sortL_perm l).mem_iff.1 hx)⟩
theorem absS_take {l : List Int} {k : Nat} (hk : k < l.length) : absS (l.take (k + 1)) = absS (l.take k) + max (at0 l k) (-at0 l k) := by
  rw [List.take_succ_eq_append_getElem hk, ← at0_get hk, absS_append]
  simp [absS]
theorem midN_take (lo hi : Int) {l : List Int} {k : Nat} (hk : k < l.length) : midN lo hi (l.take (k + 1)) = midN lo hi (l.take k) + (if 2 * at0 l k = lo + hi then 1 else 0) := by
  rw [List.take_succ_eq_append_getElem hk, ← at0_get hk, midN_append]
  simp [midN]
theorem absS_le (l : List Int) : 0 ≤ absS l := by
  induction l with
  | nil => exact Int.le_refl 0
  | cons x l ih => show 0 ≤ max x (-x) + absS l; omega
theorem absS_pre (l : List Int) (k : Nat) : absS (l.take k) ≤ absS l := by
  have h := absS_append (l.take k) (l.drop k)
  rw [List.take_append_drop] at h
  have := absS_le (l.drop k)
  omega
theorem midN_le (lo hi : Int) (l : List Int) : 0 ≤ midN lo hi l ∧ midN lo hi l ≤ l.length := by
  induction l with
  | nil => exact ⟨Int.le_refl 0, Int.le_refl 0⟩
  | cons x l ih =>
    show 0 ≤ (if 2 * x = lo + hi then 1 else 0) + midN lo hi l ∧ (if 2 * x = lo + hi then 1 else 0) + midN lo hi l ≤ _
    rw [List.length_cons]
    split <;> (push_cast; omega)
/-- The lengths of the runs and the values in the middle are all values; no run is empty. -/
theorem run_total (lo hi : Int) (l : List Int) : absS (rnL lo hi l) + midN lo hi l = l.length ∧ ∀ k ∈ rnL lo hi l, k ≠ 0 := by
  obtain ⟨h1, h2⟩ := rn_total lo hi l
  unfold rnL rnEc
  by_cases h : (rnP lo hi l).2 = 0
  · rw [if_neg (by simp [h])]
    rw [h] at h1
    exact ⟨by omega, h2⟩
  · rw [if_pos h]
    refine ⟨?_, fun k hk => ?_⟩
    · rw [absS_append]
      have e : absS [(rnP lo hi l).2] = max (rnP lo hi l).2 (-(rnP lo hi l).2) := by simp [absS]
      rw [e]; exact h1
    · rcases List.mem_append.1 hk with hk | hk
      · exact h2 k hk
      · rw [List.mem_singleton.1 hk]; exact h
theorem run_each {lo hi : Int} {l : List Int} {k : Nat} (hk : k < (rnL lo hi l).length) : at0 (rnL lo hi l) k ≠ 0 ∧ -(l.length : Int) ≤ at0 (rnL lo hi l) k ∧ at0 (rnL lo hi l) k ≤ l.length := by
  obtain ⟨h1, h2⟩ := run_total lo hi l
  have h3 := absS_take hk
  have h4 := absS_pre (rnL lo hi l) (k + 1)
  have h5 := absS_le ((rnL lo hi l).take k)
  have h6 := (midN_le lo hi l).1
  refine ⟨?_, by omega, by omega⟩
  rw [at0_get hk]; exact h2 _ (List.getElem_mem hk)
/-- The last run of a list, 0 if there is none. -/
def lastR (l : List Int) : Int := at0 l (l.length - 1)
theorem run_last (lo hi : Int) {l : List Int} {x : Int} (h0 : 0 < l.length) (hx : at0 l (l.length - 1) = x) : (sdI lo hi x = 1 → 0 < lastR (rnL lo hi l) ∧ 0 < (rnL lo hi l).length) ∧ (sdI lo hi x = -1 → lastR (rnL lo hi l) < 0 ∧ 0 < (rnL lo hi l).length) := by
  have e : l = l.take (l.length - 1) ++ [x] := by
    have h := List.take_succ_eq_append_getElem (l := l) (i := l.length - 1) (by omega)
    rw [show l.length - 1 + 1 = l.length by omega, List.take_length, ← at0_get, hx] at h
    exact h
  obtain ⟨_, b, c⟩ := (rn_side lo hi l).2 _ _ e
  have hl : (rnP lo hi l).2 ≠ 0 → lastR (rnL lo hi l) = (rnP lo hi l).2 ∧ 0 < (rnL lo hi l).length := fun h => by
    obtain ⟨h1, h2⟩ := (rn_last lo hi l).2 h
    unfold lastR
    rw [h1]
    exact ⟨h2, by omega⟩
  constructor
  · intro h
    have h1 := b.1 h
    obtain ⟨h2, h3⟩ := hl (by omega)
    exact ⟨by omega, h3⟩
  · intro h
    have h1 := c.1 h
    obtain ⟨h2, h3⟩ := hl (by omega)
    exact ⟨by omega, h3⟩
end Go.Proofs.YtcoombhcdcniiaaGreatDoor
namespace Go.Proofs.YtcoombhcdcniiaaGreatDoor
open Go.RowKit

theorem nat_at {H : List Nat} {i : Nat} (h : i < H.length) : at0 (natI H) i = ((H.getD i 0 : Nat) : Int) := by simp [at0, natI, List.getD, h]
theorem zhistN_any (ao : Option Addr) (l : List Int) (n0 c : Nat) (hn : l.length = n0) (low width bins : Int) (w : World) (R : Ending → World → Prop) (hl : l.length ≤ 1000000000) (hc : CellsAt w ao (I64s l))
   (hR : ∀ a n c' s m w', Below w.heap.size w w' → (hsE l low width bins = 0 → n = bins.toNat ∧ CellsAt w' a ((hsL low width bins.toNat l).map wV) ∧ s = ((hcN low width bins.toNat l 0 : Nat) : Int) ∧ m = ((hcN low width bins.toNat l (bins.toNat + 1) : Nat) : Int)) → (hsE l low width bins ≠ 0 → n = 0 ∧ s = 0 ∧ m = 0) → R (.returned (.tuple #[.slice a n c', .int .i64 s, .int .i64 m, .int .i64 (hsE l low width bins)])) w') :
    Calls Tryz.prog 24 #[.slice ao n0 c, .int .i64 low, .int .i64 width, .int .i64 bins] w R := by
  subst hn
  exact zhist_any ao l c low width bins w R hl hc hR
set_option maxRecDepth 100000 in
set_option maxHeartbeats 8000000 in
theorem lawTotals_any (ao : Option Addr) (l : List Int) (c : Nat) (lo hi g : Int) (w : World) (R : Ending → World → Prop) (hc : CellsAt w ao (I64s l)) (hg : 0 ≤ g ∧ g ≤ 255) (hE : Env w) (hR : ∀ w', Below w.heap.size w w' → R (.returned (.bool true)) w') :
    Calls Tryz.prog 7 #[.slice ao l.length c, .agg #[.int .i64 lo, .int .i64 hi], .int .u8 g] w R := by
  have HR := Lib.hid hR
  have HC := Lib.hid hc
  have HE := Lib.hid hE
  clear hR hc hE
  obtain ⟨w1, E1, HB1, s1, b0, b1⟩ := box2 w (.int .i64 lo) (.int .i64 hi) 34
  have HC1 := Lib.hid (HC.out.below HB1.out)
  have HE1 := Lib.hid (HE.out.below HB1.out)
  go_enter Tryz.func7, Tryz.ntmps7
  go_wp2_with (rw [E1.out])
  refine zright_any ao l c _ _ HC1.out ?_
  cases hr : rgS l with
  | false =>
    clear hr
    go_wp2_with fail
    refine zawake_any _ _ HE1.out fun w9 hb => ?_
    have B9 := Lib.hid (bstep HB1.out hb)
    clear hb
    go_wp2_with fail
    exact HR.out _ B9.out
  | true =>
    have Hrg := Lib.hid hr
    have HL : Hid (l.length ≤ 1000000000) := by have := (rgS_ok hr).2.1; unfold Hid; omega
    clear hr
    go_wp2_with fail
    refine zgiven_any ao l c lo hi _ _ HL.out HC1.out fun w2 hb => ?_
    have B2 := Lib.hid (bstep HB1.out hb)
    have C2 := Lib.hid (HC1.out.below hb)
    have E2 := Lib.hid (HE1.out.below hb)
    have d20 := cellB hb b0 (lt_of_cell' b0)
    have d21 := cellB hb b1 (lt_of_cell' b1)
    clear hb b0 b1
    obtain ⟨e, he⟩ : ∃ e, gvS l lo hi = e := ⟨_, rfl⟩
    rw [he]
    by_cases h0 : e = 0
    · subst h0
      obtain ⟨hck, h4, h5, h6⟩ := gvS_ok he
      have HG := Lib.hid he
      obtain ⟨h41, h42⟩ := h4
      obtain ⟨h51, h52⟩ := h5
      obtain ⟨hg1, hg2⟩ := hg
      have hl2 := (rgS_ok Hrg.out).1
      have hl20 := (rgS_ok Hrg.out).2.1
      have HS := Lib.hid (rgS_srs Hrg.out)
      obtain ⟨q, hq, hqb⟩ : ∃ q : Nat, (hi - lo).tdiv 8 = (q : Int) ∧ q ≤ 262144 := by
        rw [Int.tdiv_eq_ediv_of_nonneg (by omega)]
        exact ⟨((hi - lo) / 8).toNat, by omega, by omega⟩
      obtain ⟨r, hrm, hrb⟩ : ∃ r : Nat, g.tmod 20 = (r : Int) ∧ r < 20 := by
        rw [Int.tmod_eq_emod_of_nonneg hg1]
        exact ⟨(g % 20).toNat, by omega, by omega⟩
      obtain ⟨W, hW⟩ : ∃ W : Int, 1 + (q : Int) = W := ⟨_, rfl⟩
      obtain ⟨B, hB⟩ : ∃ B, r + 1 = B := ⟨_, rfl⟩
      have K1 : IntKind.i64.wrap (hi - lo) = hi - lo := by rw [IntKind.wrap_i64] <;> omega
      have K2 : IntKind.i64.wrap (q : Int) = (q : Int) := by rw [IntKind.wrap_i64] <;> omega
      have K3 : IntKind.i64.wrap (1 + (q : Int)) = W := by rw [hW, IntKind.wrap_i64] <;> omega
      have K4 : IntKind.u8.wrap (r : Int) = (r : Int) := by rw [IntKind.wrap_u8] <;> omega
      have K5 : IntKind.i64.wrap (r : Int) = (r : Int) := by rw [IntKind.wrap_i64] <;> omega
      have K6 : IntKind.i64.wrap (1 + (r : Int)) = (B : Int) := by rw [IntKind.wrap_i64] <;> omega
      have KW : IntKind.i64.wrap (lo + hi) = lo + hi := by rw [IntKind.wrap_i64] <;> omega
      have hin : inT lo = true := inT_iff.2 ⟨h41, h42⟩
      have hE1 : hsE l lo W (B : Int) = 0 := by unfold hsE; rw [if_pos hck, if_pos ⟨hin, by omega, by omega, by omega, by omega⟩]
      have hE2 : hsE (sortL l) lo W (B : Int) = 0 := by unfold hsE; rw [if_pos (sort_ck hck), if_pos ⟨hin, by omega, by omega, by omega, by omega⟩]
      have HE1' := Lib.hid hE1
      have HE2' := Lib.hid hE2
      have HBb : Hid (B ≤ 20) := by unfold Hid; omega
      have hq20 : Hid (l.length ≤ 20) := hl20
      have hp : Hid (0 < l.length) := by unfold Hid; omega
      clear he hck h6 hin hE1 hE2 hW hB
      go_wp2_with fail
      refine ivalues_any ao l.length c _ _ ?_
      have hb0 : Below w2.heap.size w2 (w2.alloc (.cells #[.slice ao l.length c] 22)) := (Below.refl _ _).alloc (Nat.le_refl _) _
      have cB : (w2.alloc (.cells #[.slice ao l.length c] 22)).cell? ⟨w2.heap.size, 0, none⟩ = some (.slice ao l.length c) := by simp
      have hs0 : (w2.alloc (.cells #[.slice ao l.length c] 22)).heap.size = w2.heap.size + 1 := by simp
      obtain ⟨W0, hW0⟩ : ∃ W0, w2.alloc (.cells #[.slice ao l.length c] 22) = W0 := ⟨_, rfl⟩
      rw [hW0] at hb0 cB hs0 ⊢
      have HB0 := Lib.hid hb0
      have HS0 := Lib.hid hs0
      have HC0 := Lib.hid (C2.out.below hb0)
      have CB := Lib.hid cB
      clear hW0 hb0 hs0 cB
      go_wp2_with fail
      refine isortedV_any w2.heap.size ao l l.length c _ _ rfl (by omega) CB.out (by have := HS0.out; omega) HC0.out hp.out fun sa sc w3 hb hs => ?_
      have B3 := Lib.hid (bstep (bstep B2.out HB0.out) hb)
      have C3 := Lib.hid (HC0.out.below hb)
      have E3 := Lib.hid ((E2.out.below HB0.out).below hb)
      have S3 := Lib.hid hs
      have d30 := cellB hb (cellB HB0.out d20 (lt_of_cell' d20)) (lt_of_cell' (cellB HB0.out d20 (lt_of_cell' d20)))
      have d31 := cellB hb (cellB HB0.out d21 (lt_of_cell' d21)) (lt_of_cell' (cellB HB0.out d21 (lt_of_cell' d21)))
      clear hb hs d20 d21 HS0 CB HC0 HB0
      go_wp2_with fail
      refine zhist_any ao l c lo W (B : Int) _ _ HL.out C3.out fun a n1 ca s1' m1 w4 hb i1 i2 => ?_
      obtain ⟨e1, e2, e3, e4⟩ := i1 HE1'.out
      rw [Int.toNat_natCast] at e1 e2 e3 e4
      have X4 : Hid (CellsAt w4 a (I64s (natI (hsL lo W B l)))) := by unfold Hid; rw [natI_cells]; exact e2
      rw [HE1'.out]
      subst e1
      have E34 := Lib.hid e3
      have E44 := Lib.hid e4
      have B4 := Lib.hid (bstep B3.out hb)
      have C4 := Lib.hid (C3.out.below hb)
      have E4 := Lib.hid (E3.out.below hb)
      have S4 := Lib.hid (S3.out.below hb)
      have d40 := cellB hb d30 (lt_of_cell' d30)
      have d41 := cellB hb d31 (lt_of_cell' d31)
      clear hb i1 i2 e2 e3 e4 d30 d31
      go_wp2_with fail
      refine zhistN_any sa (sortL l) l.length sc (sortL_length l) lo W (n1 : Int) _ _ (by rw [sortL_length]; exact HL.out) S4.out fun b n2 cb s2' m2 w5 hb i1 i2 => ?_
      obtain ⟨e1, e2, e3, e4⟩ := i1 HE2'.out
      rw [Int.toNat_natCast] at e1 e2 e3 e4
      have Y5 : Hid (CellsAt w5 b (I64s (natI (hsL lo W n1 l)))) := by unfold Hid; rw [natI_cells, ← (hs_perm lo W n1 l).1]; exact e2
      rw [(hs_perm lo W n1 l).2] at e3 e4
      rw [HE2'.out]
      obtain rfl : n2 = n1 := e1
      obtain rfl : s2' = s1' := e3.trans E34.out.symm
      obtain rfl : m2 = m1 := e4.trans E44.out.symm
      have B5 := Lib.hid (bstep B4.out hb)
      have C5 := Lib.hid (C4.out.below hb)
      have E5 := Lib.hid (E4.out.below hb)
      have X5 := Lib.hid (X4.out.below hb)
      have d50 := cellB hb d40 (lt_of_cell' d40)
      have d51 := cellB hb d41 (lt_of_cell' d41)
      clear hb i1 i2 e2 e3 e4 d40 d41
      go_wp2_with fail
      refine zruns_any ao l c lo hi _ _ HL.out C5.out fun x m cx w6 hb i1 i2 => ?_
      obtain ⟨e1, e2⟩ := i1 HG.out
      have U6 := Lib.hid e2
      have HM : Hid ((rnL lo hi l).length = m) := e1.symm
      rw [HG.out]
      have B6 := Lib.hid (bstep B5.out hb)
      have C6 := Lib.hid (C5.out.below hb)
      have E6 := Lib.hid (E5.out.below hb)
      have X6 := Lib.hid (X5.out.below hb)
      have Y6 := Lib.hid (Y5.out.below hb)
      have d60 := cellB hb d50 (lt_of_cell' d50)
      have d61 := cellB hb d51 (lt_of_cell' d51)
      clear hb i1 i2 e1 e2 d50 d51
      have hHl : Hid ((natI (hsL lo W n2 l)).length = n2) := by unfold Hid; rw [natI, List.length_map, hsL_length]
      go_wp2_with fail
      refine zequalI_any a b (natI (hsL lo W n2 l)) n2 ca cb hHl.out (by have := HBb.out; omega) _ _ X6.out Y6.out fun w7 hb => ?_
      have B7 := Lib.hid (bstep B6.out hb)
      have C7 := Lib.hid (C6.out.below hb)
      have E7 := Lib.hid (E6.out.below hb)
      have X7 := Lib.hid (X6.out.below hb)
      have U7 := Lib.hid (U6.out.below hb)
      have d70 := cellB hb d60 (lt_of_cell' d60)
      have d71 := cellB hb d61 (lt_of_cell' d61)
      have hsb : 0 ≤ s2' ∧ s2' ≤ 20 := by have h := hcN_le lo W n2 l 0; have := hq20.out; rw [E34.out]; omega
      have hmb : 0 ≤ m2 ∧ m2 ≤ 20 := by have h := hcN_le lo W n2 l (n2 + 1); have := hq20.out; rw [E44.out]; omega
      obtain ⟨hsb1, hsb2⟩ := hsb
      obtain ⟨hmb1, hmb2⟩ := hmb
      have KS : IntKind.i64.wrap (s2' + m2) = s2' + m2 := by rw [IntKind.wrap_i64] <;> omega
      clear hb d60 d61
      go_wp2_with fail
      as_aux_lemma =>
        go_loopw [117, 20] (fun j s wr => ∃ i : Nat, i ≤ n2 ∧ j = .int .i64 i ∧ Hid (wr = w7) ∧ ∃ t : Int, s = .int .i64 t ∧ Hid (t = s2' + m2 + sumI ((natI (hsL lo W n2 l)).take i)) ∧ 0 ≤ t ∧ t ≤ 100 + 100 * (i : Int)) (fun j _ _ => n2 - (intOf j).toNat)
        case atStart => exact ⟨0, Nat.zero_le _, rfl, rfl, _, rfl, by unfold Hid; rw [List.take_zero]; simp [sumI], by omega, by omega⟩
        case round =>
          obtain ⟨i, hin2, rfl, HW, t, rfl, HT, ht1, ht2⟩ := hrel
          by_cases hlt : i < n2
          · have K7 : ((i : Int) < (n2 : Int)) = True := eq_true (by omega)
            have hlt2 : i < (natI (hsL lo W n2 l)).length := by rw [hHl.out]; exact hlt
            obtain ⟨b2, o2, rfl, hbl, hdc⟩ := X7.out.ints (by omega)
            have g0 := hdc i hlt2
            rw [← HW.out] at g0
            have hy : 0 ≤ at0 (natI (hsL lo W n2 l)) i ∧ at0 (natI (hsL lo W n2 l)) i ≤ 20 := by
              rw [nat_at (by rw [hsL_length]; exact hlt), hsL_get hlt]
              have h := hcN_le lo W n2 l (i + 1)
              have := hq20.out
              omega
            have e2 := sum_at (natI (hsL lo W n2 l)) i hlt2
            have hBb := HBb.out
            obtain ⟨y, hy0⟩ : ∃ y, at0 (natI (hsL lo W n2 l)) i = y := ⟨_, rfl⟩
            rw [hy0] at g0 hy e2
            obtain ⟨hy1, hy2⟩ := hy
            have e3 : Hid (t + y = s2' + m2 + sumI ((natI (hsL lo W n2 l)).take (i + 1))) := by unfold Hid; rw [e2, HT.out]; omega
            have K8 : IntKind.i64.wrap (t + y) = t + y := by rw [IntKind.wrap_i64] <;> omega
            clear hdc hbl e2 hy0 hlt2
            go_wp2_with fail
            exact ⟨⟨i + 1, by omega, by go_num, HW, t + y, rfl, e3, by omega, by omega⟩, by simp [intOf]; omega⟩
          · have K7 : ((i : Int) < (n2 : Int)) = False := eq_false (by omega)
            have hT : t = (l.length : Int) := by
              have h := hs_total lo W n2 l
              have h2 := HT.out
              rw [List.take_of_length_le (by rw [hHl.out]; omega), E34.out, E44.out] at h2
              rw [h2]; exact h
            subst hT
            have ew := HW.out
            subst ew
            clear HT ht1 ht2
            go_wp2_with fail
            as_aux_lemma =>
              go_loopw [127, 23, 24] (fun j s u wr' => ∃ i : Nat, i ≤ m ∧ j = .int .i64 i ∧ Hid (wr' = wr) ∧ ∃ t v : Int, s = .int .i64 t ∧ u = .int .i64 v ∧ Hid (t = absS ((rnL lo hi l).take i)) ∧ Hid ((i = 0 → v = 0) ∧ (0 < i → v = at0 (rnL lo hi l) (i - 1)))) (fun j _ _ _ => m - (intOf j).toNat)
              case atStart => exact ⟨0, Nat.zero_le _, rfl, rfl, 0, 0, rfl, rfl, rfl, ⟨fun _ => rfl, fun h => absurd h (by omega)⟩⟩
              case round =>
                obtain ⟨k, hk, rfl, HW2, t, v, rfl, rfl, HT2, HV2⟩ := hrel
                have hm20 : m ≤ 20 := by have h := rnL_len lo hi l; have := hq20.out; have := HM.out; omega
                have hab := absS_pre (rnL lo hi l) k
                have hab0 := absS_le ((rnL lo hi l).take k)
                have hrt := (run_total lo hi l).1
                have hmd := (midN_le lo hi l).1
                have htb : 0 ≤ t ∧ t ≤ 20 := by have := hq20.out; rw [HT2.out]; omega
                obtain ⟨htb1, htb2⟩ := htb
                clear hab hab0 hrt hmd
                by_cases hlt3 : k < m
                · have K8 : ((k : Int) < (m : Int)) = True := eq_true (by omega)
                  have hlt4 : k < (rnL lo hi l).length := by rw [HM.out]; exact hlt3
                  obtain ⟨b3, o3, rfl, hbl, hdc⟩ := U7.out.ints (by omega)
                  have g0 := hdc k hlt4
                  rw [← HW2.out] at g0
                  obtain ⟨hz, hz1, hz2⟩ := run_each hlt4
                  have e2 := absS_take hlt4
                  obtain ⟨z, hz0⟩ : ∃ z, at0 (rnL lo hi l) k = z := ⟨_, rfl⟩
                  rw [hz0] at g0 hz hz1 hz2 e2
                  have hl20 := hq20.out
                  obtain ⟨y, hy0⟩ : ∃ y, max z (-z) = y := ⟨_, rfl⟩
                  have hyb : 0 ≤ y ∧ y ≤ 20 := by omega
                  obtain ⟨hy1, hy2⟩ := hyb
                  rw [hy0] at e2
                  have e3 : Hid (t + y = absS ((rnL lo hi l).take (k + 1))) := by unfold Hid; rw [e2, HT2.out]
                  have e4 : Hid ((k + 1 = 0 → z = 0) ∧ (0 < k + 1 → z = at0 (rnL lo hi l) (k + 1 - 1))) := ⟨fun h => absurd h (by omega), fun _ => hz0.symm⟩
                  have K9 : (z == 0) = false := by simpa using hz
                  have K10 : IntKind.i64.wrap (-z) = -z := by rw [IntKind.wrap_i64] <;> omega
                  have K11 : IntKind.i64.wrap (t + y) = t + y := by rw [IntKind.wrap_i64] <;> omega
                  clear hdc hbl e2 hz0 hlt4 hz
                  go_wp2_with fail
                  exact ⟨⟨k + 1, by omega, by go_num, HW2, t + y, z, rfl, rfl, e3, e4⟩, by simp [intOf]; omega⟩
                · have K8 : ((k : Int) < (m : Int)) = False := eq_false (by omega)
                  have hTT : Hid (t = absS (rnL lo hi l)) := by unfold Hid; rw [HT2.out, List.take_of_length_le (by rw [HM.out]; omega)]
                  have hVV : Hid (m = k) := by unfold Hid; omega
                  have ew := HW2.out
                  subst ew
                  clear HT2
                  go_wp2_with fail
                  as_aux_lemma =>
                    go_loopw [143, 27] (fun j s wr'' => ∃ i : Nat, i ≤ l.length ∧ j = .int .i64 i ∧ Hid (wr'' = wr) ∧ ∃ u : Int, s = .int .i64 u ∧ Hid (u = midN lo hi (l.take i))) (fun j _ _ => l.length - (intOf j).toNat)
                    case atStart => exact ⟨0, Nat.zero_le _, rfl, rfl, 0, rfl, rfl⟩
                    case round =>
                      obtain ⟨p, hp3, rfl, HW3, u, rfl, HU⟩ := hrel
                      have hub : 0 ≤ u ∧ u ≤ 20 := by
                        have h := midN_le lo hi (l.take p)
                        rw [List.length_take] at h
                        have := hq20.out
                        rw [HU.out]; omega
                      obtain ⟨hub1, hub2⟩ := hub
                      obtain ⟨b4, o4, rfl, hbl, hdc⟩ := C7.out.ints hp.out
                      by_cases hlt5 : p < l.length
                      · have K9 : ((p : Int) < (l.length : Int)) = True := eq_true (by omega)
                        have g0 := hdc p hlt5
                        rw [← HW3.out] at g0 d70 d71
                        have hx := HS.out.at hlt5
                        have e2 := midN_take lo hi hlt5
                        obtain ⟨y, hy0⟩ : ∃ y, at0 l p = y := ⟨_, rfl⟩
                        rw [hy0] at g0 hx e2
                        obtain ⟨hx1, hx2⟩ := hx
                        have K10 : IntKind.i64.wrap (2 * y) = 2 * y := by rw [IntKind.wrap_i64] <;> omega
                        have K11 : IntKind.i64.wrap (u + 1) = u + 1 := by rw [IntKind.wrap_i64] <;> omega
                        by_cases hm : 2 * y = lo + hi
                        · have K12 : (2 * y == lo + hi) = true := by simp [hm]
                          rw [if_pos hm] at e2
                          have e3 : Hid (u + 1 = midN lo hi (l.take (p + 1))) := by unfold Hid; rw [e2, HU.out]
                          clear hm e2 hdc hbl hy0
                          go_wp2_with fail
                          exact ⟨⟨p + 1, by omega, by go_num, HW3, u + 1, rfl, e3⟩, by simp [intOf]; omega⟩
                        · have K12 : (2 * y == lo + hi) = false := by simpa using hm
                          rw [if_neg hm] at e2
                          have e3 : Hid (u = midN lo hi (l.take (p + 1))) := by unfold Hid; rw [e2, HU.out]; omega
                          clear hm e2 hdc hbl hy0
                          go_wp2_with fail
                          exact ⟨⟨p + 1, by omega, by go_num, HW3, u, rfl, e3⟩, by simp [intOf]; omega⟩
                      · have K9 : ((p : Int) < (l.length : Int)) = False := eq_false (by omega)
                        have hsum : t + u = (l.length : Int) := by
                          have h := (run_total lo hi l).1
                          rw [HU.out, List.take_of_length_le (by omega), hTT.out]; exact h
                        have KT : IntKind.i64.wrap (t + u) = (l.length : Int) := by rw [hsum, IntKind.wrap_i64] <;> omega
                        obtain ⟨z, hz⟩ : ∃ z, l.length - 1 = z := ⟨_, rfl⟩
                        have hzl : z < l.length := by omega
                        have g0 := hdc z hzl
                        rw [← HW3.out] at g0 d70 d71
                        have hx := HS.out.at hzl
                        obtain ⟨y, hy0⟩ : ∃ y, at0 l z = y := ⟨_, rfl⟩
                        rw [hy0] at g0 hx
                        obtain ⟨hx1, hx2⟩ := hx
                        have hlast := run_last lo hi (l := l) (x := y) (by omega) (by rw [hz]; exact hy0)
                        have K10 : IntKind.i64.wrap (2 * y) = 2 * y := by rw [IntKind.wrap_i64] <;> omega
                        have K13 : IntKind.i64.wrap ((l.length : Int) - 1) = (z : Int) := by rw [IntKind.wrap_i64] <;> omega
                        have K14 : ((z : Int) < (l.length : Int)) = True := eq_true (by omega)
                        have K15 : (z < l.length) = True := eq_true hzl
                        have hvl : 0 < (rnL lo hi l).length → v = lastR (rnL lo hi l) := fun h => by
                          unfold lastR
                          rw [HM.out, hVV.out]
                          exact HV2.out.2 (by have := HM.out; have := hVV.out; omega)
                        have ew := HW3.out
                        subst ew
                        by_cases c1 : lo + hi < 2 * y
                        · have K16 : (lo + hi < 2 * y) = True := eq_true c1
                          have hs1 : sdI lo hi y = 1 := by unfold sdI; rw [if_neg (by omega), if_pos c1]
                          obtain ⟨h1, h2⟩ := hlast.1 hs1
                          have K17 : (0 < v) = True := eq_true (by rw [hvl h2]; exact h1)
                          clear c1 hs1 h1 h2 hlast hvl hz hzl hdc hbl hy0 hsum hTT HU
                          go_wp2_with fail
                          refine zawake_any _ _ E7.out fun w9 hb => ?_
                          have B9 := Lib.hid (bstep B7.out hb)
                          clear hb
                          go_wp2_with fail
                          exact HR.out _ B9.out
                        · have K16 : (lo + hi < 2 * y) = False := eq_false c1
                          by_cases c2 : 2 * y < lo + hi
                          · have K18 : (2 * y < lo + hi) = True := eq_true c2
                            have hs1 : sdI lo hi y = -1 := by unfold sdI; rw [if_pos c2]
                            obtain ⟨h1, h2⟩ := hlast.2 hs1
                            have K17 : (v < 0) = True := eq_true (by rw [hvl h2]; exact h1)
                            clear c1 c2 hs1 h1 h2 hlast hvl hz hzl hdc hbl hy0 hsum hTT HU
                            go_wp2_with fail
                            refine zawake_any _ _ E7.out fun w9 hb => ?_
                            have B9 := Lib.hid (bstep B7.out hb)
                            clear hb
                            go_wp2_with fail
                            exact HR.out _ B9.out
                          · have K18 : (2 * y < lo + hi) = False := eq_false c2
                            clear c1 c2 hlast hvl hz hzl hdc hbl hy0 hsum hTT HU
                            go_wp2_with fail
                            refine zawake_any _ _ E7.out fun w9 hb => ?_
                            have B9 := Lib.hid (bstep B7.out hb)
                            clear hb
                            go_wp2_with fail
                            exact HR.out _ B9.out
    · have K : (e != 0) = true := by simpa using h0
      clear he h0
      go_wp2_with fail
      refine zawake_any _ _ E2.out fun w9 hb => ?_
      have B9 := Lib.hid (bstep B2.out hb)
      clear hb
      go_wp2_with fail
      exact HR.out _ B9.out
end Go.Proofs.YtcoombhcdcniiaaGreatDoor
