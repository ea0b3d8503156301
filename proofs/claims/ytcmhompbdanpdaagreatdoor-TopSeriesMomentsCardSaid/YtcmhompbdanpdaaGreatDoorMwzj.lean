/- cut, joined, Check, checks of package ratio, at texts of rational numbers. do, sub, mul, lowest, Make, Of, Whole of package ratio. (Printed by gen_sums.py.) Mul, Div, Compare of package ratio. (Printed by gen_made.py.) size, Below, bare, less, signed, number, brief, Turned of reference 01. -/
import Derived.Test.YtcmhompbdanpdaaGreatDoorMwzc
import Derived.Test.YtcmhompbdanpdaaGreatDoorMwa
namespace Go.Proofs.YtcmhompbdanpdaaGreatDoor
open Go.RowKit

theorem index_none47 : ∀ {s : List UInt8}, (47 : UInt8) ∉ s → Lib.index s [47] = -1
  | [], _ => rfl
  | c :: l, h => by
    have h1 : ¬ (47 : UInt8) = c := fun e => h (by rw [e]; exact List.mem_cons_self)
    have h2 := index_none47 (s := l) (fun hm => h (List.mem_cons_of_mem _ hm))
    simp [Lib.index, h1, h2]
theorem index_at47 : ∀ {a : List UInt8} (b : List UInt8), (47 : UInt8) ∉ a → Lib.index (a ++ 47 :: b) [47] = a.length
  | [], b, _ => by simp [Lib.index]
  | c :: l, b, h => by
    have h1 : ¬ (47 : UInt8) = c := fun e => h (by rw [e]; exact List.mem_cons_self)
    have h2 := index_at47 (a := l) b (fun hm => h (List.mem_cons_of_mem _ hm))
    rw [List.cons_append]
    unfold Lib.index
    rw [h2]
    simp [h1]
    try omega
theorem cut_none47 {s : List UInt8} (h : (47 : UInt8) ∉ s) : Lib.cut s [47] = (s, [], false) := by
  unfold Lib.cut; rw [index_none47 h, if_neg (by omega)]
theorem cut_at47 {a : List UInt8} (b : List UInt8) (h : (47 : UInt8) ∉ a) : Lib.cut (a ++ 47 :: b) [47] = (a, b, true) := by
  unfold Lib.cut; rw [index_at47 b h, if_pos (by omega)]
  simp
/-- The text of a rational number. -/
def TxR (a : ByteArray) (q : Rat) : Prop := Tx a (rtL q)
theorem TxR.inj {a b : ByteArray} {p q : Rat} (h : TxR a p) (h' : TxR b q) : a = b ↔ p = q := by
  constructor
  · intro e
    subst e
    exact rtL_inj ((show _ = _ from h).symm.trans h')
  · intro e
    subst e
    exact Tx.inj h h'
theorem TxR.beqL {a : ByteArray} {q : Rat} (h : TxR a q) (p : Rat) {c : List UInt8} (hc : rtL p = c) : (a.toList == c) = decide (q = p) := by
  rw [Tx.list h, ← hc]
  by_cases e : q = p
  · subst e; simp
  · have : rtL q ≠ rtL p := fun h => e (rtL_inj h)
    simp [this, e]
theorem rtL_size {q : Rat} {k : Nat} (h : SmR k q) (hk : 0 < k) : (rtL q).length ≤ 2 * k + 2 := by
  unfold rtL
  rw [List.length_append, itoa_len]
  have h1 := (lenI_le hk).2 h.1
  have h2 := dec_len_lt h.2 hk
  split <;> split <;> simp <;> omega
/-- A number whose parts are short enough. -/
structure OkR (q : Rat) : Prop where
  num : lenI q.num ≤ 1024
  den : (Lib.decDigits q.den).length ≤ 1024
set_option exponentiation.threshold 4000 in
theorem SmR.ok {q : Rat} (h : SmR 500 q) : OkR q := ⟨(lenI_le (by omega)).2 (Nat.lt_of_lt_of_le h.1 (Nat.pow_le_pow_right (by decide) (by decide))), dec_len_lt (Nat.lt_of_lt_of_le h.2 (Nat.pow_le_pow_right (by decide) (by decide))) (by decide)⟩
theorem OkR.lden {q : Rat} (h : OkR q) : lenI (q.den : Int) ≤ 1024 := h.den
theorem OkR.size {q : Rat} (h : OkR q) : (rtL q).length ≤ 3000 := by
  unfold rtL
  rw [List.length_append, itoa_len]
  have := h.num
  have := h.den
  split <;> split <;> simp <;> omega
set_option maxHeartbeats 1000000 in
theorem rcut_any (a : ByteArray) (q : Rat) (ha : TxR a q) (ho : OkR q) (w : World) (R : Ending → World → Prop) (hE : Env w)
   (hR : ∀ n d f w', Below w.heap.size w w' → Txt n q.num → Txt d (q.den : Int) → Hid (f = decide (q.den ≠ 1)) → R (.returned (.tuple #[.string n, .string d, .bool f])) w') :
    Calls Tryz.prog 112 #[.string a] w R := by
  have HR := Lib.hid hR
  have hal : a.data.toList = rtL q := ha
  have hsz : a.size < 4294967281 := by have := ha.size; have := ho.size; omega
  obtain ⟨m, hm⟩ := hE.m
  have hc : Hid (Lib.cut (rtL q) [47] = if q.den = 1 then (Lib.itoa q.num, [], false) else (Lib.itoa q.num, Lib.decDigits q.den, true)) := by
    unfold Hid rtL
    by_cases h : q.den = 1
    · rw [if_pos h, if_pos h, List.append_nil, cut_none47 (itoa_no47 _)]
    · rw [if_neg h, if_neg h, cut_at47 _ (itoa_no47 _)]
  have HAL := Lib.hid hal
  clear hR ha ho hE hal
  go_enter Tryz.func112, Tryz.ntmps112
  go_wp2_with fail
  refine (Tryz.strings_Cut a ⟨#[47]⟩ m _ hsz hm).mono fun e w' h => ?_
  obtain ⟨rfl, nn, rfl⟩ := h
  rw [HAL.out, show (⟨#[47]⟩ : ByteArray).data.toList = [47] from rfl, hc.out]
  have B : Hid (Below w.heap.size w (w.drewN nn)) := ⟨rfl, rfl, rfl, Nat.le_refl _, fun _ _ => rfl⟩
  obtain ⟨w2, hw2⟩ : ∃ z, w.drewN nn = z := ⟨_, rfl⟩
  rw [hw2] at B ⊢
  obtain ⟨tn, htn⟩ : ∃ z : ByteArray, (⟨(Lib.itoa q.num).toArray⟩ : ByteArray) = z := ⟨_, rfl⟩
  have TN : Hid (Txt tn q.num) := by rw [← htn]; exact Txt.of _
  by_cases hd : q.den = 1
  · rw [if_pos hd]
    have TD : Hid (Txt ⟨#[49]⟩ (q.den : Int)) := by unfold Hid; rw [hd]; exact Txt.one
    have KD : decide (q.den ≠ 1) = false := decide_eq_false (by omega)
    have HRr := HR.out tn ⟨#[49]⟩ false w2 B.out TN.out TD.out KD.symm
    have HRR := Lib.hid HRr
    dsimp only
    rw [htn]
    clear hd KD HRr
    go_wp2_with fail
    go_ret3
    exact HRR.out
  · rw [if_neg hd]
    obtain ⟨td, htd⟩ : ∃ z : ByteArray, (⟨(Lib.decDigits q.den).toArray⟩ : ByteArray) = z := ⟨_, rfl⟩
    have TD : Hid (Txt td (q.den : Int)) := by rw [← htd]; exact Txt.nat (Tx.of _)
    have KD : decide (q.den ≠ 1) = true := decide_eq_true hd
    have HRr := HR.out tn td true w2 B.out TN.out TD.out KD.symm
    have HRR := Lib.hid HRr
    dsimp only
    rw [htn, htd]
    clear hd KD HRr
    go_wp2_with fail
    go_ret3
    exact HRR.out
set_option maxHeartbeats 1000000 in
theorem joined_any (a b : ByteArray) (n : Int) (d : Nat) (ha : Txt a n) (hb : Txt b (d : Int)) (hn : lenI n ≤ 1024) (hd : lenI (d : Int) ≤ 1024) (w : World) (R : Ending → World → Prop)
   (hR : ∀ r, Tx r (Lib.itoa n ++ (if d = 1 then [] else 47 :: Lib.decDigits d)) → R (.returned (.string r)) w) :
    Calls Tryz.prog 151 #[.string a, .string b] w R := by
  have HR := Lib.hid hR
  have K := hb.beqL 1 itoa_1
  have hTa : Tx a (Lib.itoa n) := ha
  have hTb : Tx b (Lib.decDigits d) := Txt.dec hb
  have l1 : (Lib.itoa n).length ≤ 1025 := by rw [itoa_len]; split <;> omega
  have l2 : (Lib.decDigits d).length ≤ 1024 := hd
  by_cases h1 : d = 1
  · rw [decide_eq_true (show (d : Int) = 1 by omega)] at K
    have HT : Hid (Tx a (Lib.itoa n ++ (if d = 1 then [] else 47 :: Lib.decDigits d))) := by unfold Hid; rw [if_pos h1, List.append_nil]; exact hTa
    clear hR ha hb hn hd hTa hTb l1 l2 h1
    go_enter Tryz.func151, Tryz.ntmps151
    go_wp2_with fail
    exact ret_str (HR.out a HT.out) rfl
  · rw [decide_eq_false (show ¬ (d : Int) = 1 by omega)] at K
    have hs : Tx ⟨#[47]⟩ [47] := rfl
    have a1 := hTa.add_run (P := Tryz.prog) hs (by simp; omega)
    obtain ⟨s1, hs1⟩ : ∃ z, tB (Lib.itoa n ++ [47]) = z := ⟨_, rfl⟩
    have T1 : Tx s1 (Lib.itoa n ++ [47]) := by rw [← hs1]; exact Tx.of _
    rw [hs1] at a1
    have a2 := T1.add_run (P := Tryz.prog) hTb (by simp; omega)
    obtain ⟨s2, hs2⟩ : ∃ z, tB (Lib.itoa n ++ [47] ++ Lib.decDigits d) = z := ⟨_, rfl⟩
    have T2 : Hid (Tx s2 (Lib.itoa n ++ (if d = 1 then [] else 47 :: Lib.decDigits d))) := by
      unfold Hid; rw [if_neg h1, ← hs2, show Lib.itoa n ++ 47 :: Lib.decDigits d = Lib.itoa n ++ [47] ++ Lib.decDigits d from by simp]; exact Tx.of _
    rw [hs2] at a2
    clear hR ha hb hn hd hTa hTb l1 l2 h1 hs1 hs2 hs T1
    go_enter Tryz.func151, Tryz.ntmps151
    go_wp2_with fail
    exact ret_str (HR.out s2 T2.out) rfl
set_option maxHeartbeats 2000000 in
theorem ratCheck_any (a : ByteArray) (q : Rat) (ha : TxR a q) (ho : OkR q) (w : World) (R : Ending → World → Prop) (hE : Env w) (hR : ∀ w', Below w.heap.size w w' → R (.returned (.int .i64 0)) w') :
    Calls Tryz.prog 144 #[.string a] w R := by
  have HR := Lib.hid hR
  have HO := Lib.hid ho
  have HE := Lib.hid hE
  have HA := Lib.hid ha
  clear hR ha ho hE
  go_enter Tryz.func144, Tryz.ntmps144
  go_wp2_with fail
  with_reducible refine rcut_any a q HA.out HO.out _ _ HE.out fun n d f w1 hb1 hn hd hf => ?_
  have B1 := Lib.hid hb1
  have TN := Lib.hid hn
  have TD := Lib.hid hd
  clear hb1 hn hd
  go_wp2_with fail
  with_reducible refine wcheckI_any n _ TN.out HO.out.num _ _ fun w2 hb2 => ?_
  have B2 : Hid (Below w.heap.size w w2) := B1.out.trans (hb2.mono B1.out.size)
  clear hb2
  go_wp2_with fail
  with_reducible refine wcheckI_any d _ TD.out HO.out.lden _ _ fun w3 hb3 => ?_
  have B3 : Hid (Below w.heap.size w w3) := B2.out.trans (hb3.mono B2.out.size)
  clear hb3
  cases f with
  | false =>
    go_wp2_with fail
    exact ret_i (HR.out _ B3.out) rfl rfl
  | true =>
    have hd1 : q.den ≠ 1 := of_decide_eq_true hf.out.symm
    have hdp := q.den_pos
    have T1 : Hid (Txt ⟨#[49]⟩ 1) := Txt.one
    have l1 : Hid (lenI 1 ≤ 1024) := by unfold Hid; decide +kernel
    have hcm : Hid (cmpI (q.den : Int) 1 = 1) := by unfold Hid cmpI; rw [if_neg (by omega), if_pos (by omega)]
    have hg : Hid (Nat.gcd q.num.natAbs (q.den : Int).natAbs = 1) := q.reduced
    clear hd1 hdp
    go_wp2_with fail
    with_reducible refine wcompare_any d ⟨#[49]⟩ (q.den : Int) 1 TD.out T1.out HO.out.lden l1.out _ _ fun w4 hb4 => ?_
    rw [hcm.out]
    have B4 : Hid (Below w.heap.size w w4) := B3.out.trans (hb4.mono B3.out.size)
    have HE4 := Lib.hid (HE.out.below B4.out)
    clear hb4
    go_wp2_with fail
    with_reducible refine wgcd_any n d q.num (q.den : Int) TN.out TD.out HO.out.num HO.out.lden _ _ HE4.out fun g w5 hb5 hg5 => ?_
    rw [hg.out] at hg5
    have KG := Txt.beqL (n := 1) hg5 1 itoa_1
    rw [decide_eq_true rfl] at KG
    have B5 : Hid (Below w.heap.size w w5) := B4.out.trans (hb5.mono B4.out.size)
    clear hb5 hg5
    go_wp2_with fail
    exact ret_i (HR.out _ B5.out) rfl rfl
set_option maxHeartbeats 1000000 in
theorem checks_any (bk : Nat) (a b : ByteArray) (p q : Rat) (ha : TxR a p) (hb : TxR b q) (hp : OkR p) (hq : OkR q) (w : World) (R : Ending → World → Prop) (hE : Env w) (h : w.heap[bk]? = some (.cells #[.string a, .string b] 34 (0, 0)))
   (hR : ∀ w', Below w.heap.size w w' → R (.returned (.int .i64 0)) w') :
    Calls Tryz.prog 111 #[.slice (some ⟨bk, 0, none⟩) 2 2] w R := by
  have HR := Lib.hid hR
  have HA := Lib.hid ha
  have HB := Lib.hid hb
  have HP := Lib.hid hp
  have HQ := Lib.hid hq
  have HE := Lib.hid hE
  have HH := Lib.hid h
  have hlt := lt_of_block h
  clear hR ha hb hp hq h hE
  go_enter Tryz.func111, Tryz.ntmps111
  go_wp2_with fail
  go_loopw [8] (fun i wr => ∃ k : Nat, i = .int .i64 k ∧ k ≤ 2 ∧ Hid (Below w.heap.size w wr)) (fun i _ => 2 - (intOf i).toNat)
  case atStart => exact ⟨0, rfl, by omega, Below.refl _ _⟩
  case round =>
    obtain ⟨k, rfl, hk, HBr⟩ := hrel
    have HHr : Hid (wr.heap[bk]? = some (.cells #[.string a, .string b] 34 (0, 0))) := (HBr.out.block bk hlt).trans HH.out
    have HEr := Lib.hid (HE.out.below HBr.out)
    rcases (show k = 0 ∨ k = 1 ∨ k = 2 by omega) with rfl | rfl | rfl
    · have c0 := cell_at HHr.out (j := 0) (v := .string a) rfl
      go_wp2_with fail
      with_reducible refine ratCheck_any a p HA.out HP.out _ _ HEr.out fun w1 hb1 => ?_
      have B1 : Hid (Below w.heap.size w w1) := HBr.out.trans (hb1.mono HBr.out.size)
      clear hb1
      go_wp2_with fail
      exact ⟨⟨1, by go_num, by omega, B1⟩, by simp [intOf]⟩
    · have c1 := cell_at HHr.out (j := 1) (v := .string b) rfl
      go_wp2_with fail
      with_reducible refine ratCheck_any b q HB.out HQ.out _ _ HEr.out fun w1 hb1 => ?_
      have B1 : Hid (Below w.heap.size w w1) := HBr.out.trans (hb1.mono HBr.out.size)
      clear hb1
      go_wp2_with fail
      exact ⟨⟨2, by go_num, by omega, B1⟩, by simp [intOf]⟩
    · go_wp2_with fail
      exact ret_i (HR.out _ HBr.out) rfl rfl
end Go.Proofs.YtcmhompbdanpdaaGreatDoor
namespace Go.Proofs.YtcmhompbdanpdaaGreatDoor
open Go.RowKit

/-- A sums without an error. -/
def SumOk (w : World) (b : Nat) : Prop := w.heap[b]? = some (.cells #[.int .i64 0] 143 (0, 0))
theorem SumOk.mut {w w' : World} {b c : Nat} (h : SumOk w b) (hm : Mut c w w') (hb : b ≠ c) : SumOk w' b := (hm.2 b hb (lt_of_block h)).trans h
theorem SumOk.below {w w' : World} {b : Nat} (h : SumOk w b) (hb : Below w.heap.size w w') : SumOk w' b := (hb.block b (lt_of_block h)).trans h
theorem SumOk.store {w : World} {b : Nat} (h : SumOk w b) : SumOk (w.setCell ⟨b, 0, none⟩ (.int .i64 0)) b := set_cells h 0 _ _ rfl
theorem Mut.env {b : Nat} {w w' : World} (h : Mut b w w') (_hE : Env w) (_hb : 0 < b) (W : World) (hW : Env W) (hB : Below W.heap.size W w) (hb2 : W.heap.size ≤ b) : Env w' := hW.below (hB.trans (h.1.mono hb2))
set_option maxHeartbeats 1000000 in
theorem do_sub (bs : Nat) (a b : ByteArray) (z : Int) (w : World) (R : Ending → World → Prop) (hs : SumOk w bs)
   (hop : ∀ R1 : Ending → World → Prop, (∀ r w', Below w.heap.size w w' → Txt r z → R1 (.returned (.tuple #[.string r, .int .i64 0])) w') → Calls Tryz.prog 96 #[.string a, .string b] w R1)
   (hR : ∀ r w', Mut bs w w' → SumOk w' bs → Txt r z → R (.returned (.string r)) w') :
    Calls Tryz.prog 172 #[.pointer (some ⟨bs, 0, none⟩), .func (.func 96) #[] #[], .string a, .string b] w R := by
  have HR := Lib.hid hR
  have HS := Lib.hid hs
  have HOP := Lib.hid hop
  have c0 := cell_at hs (j := 0) (v := .int .i64 0) rfl
  have hlt := lt_of_block hs
  clear hR hs hop
  go_enter Tryz.func172, Tryz.ntmps172
  go_wp2_with fail
  refine HOP.out _ fun r w1 hb1 hr1 => ?_
  have T1 := Lib.hid hr1
  have S1 := Lib.hid (HS.out.below hb1)
  have M1 : Hid (Mut bs w w1) := Mut.of_below hb1 (Nat.le_of_lt hlt)
  have c1 := cell_at S1.out (j := 0) (v := .int .i64 0) rfl
  have fz := frozen_at S1.out 0
  obtain ⟨w2, E2⟩ : ∃ z, w1.setCell ⟨bs, 0, none⟩ (.int .i64 0) = z := ⟨_, rfl⟩
  have S2 : Hid (SumOk w2 bs) := by rw [← E2]; exact S1.out.store
  have M2 : Hid (Mut bs w w2) := by rw [← E2]; exact M1.out.trans ((Chg.refl bs w1).setCell _ _).mut
  clear hb1 hr1
  go_wp2_with (rw [E2])
  exact ret_str (HR.out r _ M2.out S2.out T1.out) rfl
set_option maxHeartbeats 1000000 in
theorem do_mul (bs : Nat) (a b : ByteArray) (z : Int) (w : World) (R : Ending → World → Prop) (hs : SumOk w bs)
   (hop : ∀ R1 : Ending → World → Prop, (∀ r w', Below w.heap.size w w' → Txt r z → R1 (.returned (.tuple #[.string r, .int .i64 0])) w') → Calls Tryz.prog 37 #[.string a, .string b] w R1)
   (hR : ∀ r w', Mut bs w w' → SumOk w' bs → Txt r z → R (.returned (.string r)) w') :
    Calls Tryz.prog 172 #[.pointer (some ⟨bs, 0, none⟩), .func (.func 37) #[] #[], .string a, .string b] w R := by
  have HR := Lib.hid hR
  have HS := Lib.hid hs
  have HOP := Lib.hid hop
  have c0 := cell_at hs (j := 0) (v := .int .i64 0) rfl
  have hlt := lt_of_block hs
  clear hR hs hop
  go_enter Tryz.func172, Tryz.ntmps172
  go_wp2_with fail
  refine HOP.out _ fun r w1 hb1 hr1 => ?_
  have T1 := Lib.hid hr1
  have S1 := Lib.hid (HS.out.below hb1)
  have M1 : Hid (Mut bs w w1) := Mut.of_below hb1 (Nat.le_of_lt hlt)
  have c1 := cell_at S1.out (j := 0) (v := .int .i64 0) rfl
  have fz := frozen_at S1.out 0
  obtain ⟨w2, E2⟩ : ∃ z, w1.setCell ⟨bs, 0, none⟩ (.int .i64 0) = z := ⟨_, rfl⟩
  have S2 : Hid (SumOk w2 bs) := by rw [← E2]; exact S1.out.store
  have M2 : Hid (Mut bs w w2) := by rw [← E2]; exact M1.out.trans ((Chg.refl bs w1).setCell _ _).mut
  clear hb1 hr1
  go_wp2_with (rw [E2])
  exact ret_str (HR.out r _ M2.out S2.out T1.out) rfl
set_option maxHeartbeats 1000000 in
theorem do_gcd (bs : Nat) (a b : ByteArray) (z : Int) (w : World) (R : Ending → World → Prop) (hs : SumOk w bs)
   (hop : ∀ R1 : Ending → World → Prop, (∀ r w', Below w.heap.size w w' → Txt r z → R1 (.returned (.tuple #[.string r, .int .i64 0])) w') → Calls Tryz.prog 202 #[.string a, .string b] w R1)
   (hR : ∀ r w', Mut bs w w' → SumOk w' bs → Txt r z → R (.returned (.string r)) w') :
    Calls Tryz.prog 172 #[.pointer (some ⟨bs, 0, none⟩), .func (.func 202) #[] #[], .string a, .string b] w R := by
  have HR := Lib.hid hR
  have HS := Lib.hid hs
  have HOP := Lib.hid hop
  have c0 := cell_at hs (j := 0) (v := .int .i64 0) rfl
  have hlt := lt_of_block hs
  clear hR hs hop
  go_enter Tryz.func172, Tryz.ntmps172
  go_wp2_with fail
  refine HOP.out _ fun r w1 hb1 hr1 => ?_
  have T1 := Lib.hid hr1
  have S1 := Lib.hid (HS.out.below hb1)
  have M1 : Hid (Mut bs w w1) := Mut.of_below hb1 (Nat.le_of_lt hlt)
  have c1 := cell_at S1.out (j := 0) (v := .int .i64 0) rfl
  have fz := frozen_at S1.out 0
  obtain ⟨w2, E2⟩ : ∃ z, w1.setCell ⟨bs, 0, none⟩ (.int .i64 0) = z := ⟨_, rfl⟩
  have S2 : Hid (SumOk w2 bs) := by rw [← E2]; exact S1.out.store
  have M2 : Hid (Mut bs w w2) := by rw [← E2]; exact M1.out.trans ((Chg.refl bs w1).setCell _ _).mut
  clear hb1 hr1
  go_wp2_with (rw [E2])
  exact ret_str (HR.out r _ M2.out S2.out T1.out) rfl
set_option maxHeartbeats 1000000 in
theorem do_quo (bs : Nat) (a b : ByteArray) (z : Int) (w : World) (R : Ending → World → Prop) (hs : SumOk w bs)
   (hop : ∀ R1 : Ending → World → Prop, (∀ r w', Below w.heap.size w w' → Txt r z → R1 (.returned (.tuple #[.string r, .int .i64 0])) w') → Calls Tryz.prog 212 #[.string a, .string b] w R1)
   (hR : ∀ r w', Mut bs w w' → SumOk w' bs → Txt r z → R (.returned (.string r)) w') :
    Calls Tryz.prog 172 #[.pointer (some ⟨bs, 0, none⟩), .func (.func 212) #[] #[], .string a, .string b] w R := by
  have HR := Lib.hid hR
  have HS := Lib.hid hs
  have HOP := Lib.hid hop
  have c0 := cell_at hs (j := 0) (v := .int .i64 0) rfl
  have hlt := lt_of_block hs
  clear hR hs hop
  go_enter Tryz.func172, Tryz.ntmps172
  go_wp2_with fail
  refine HOP.out _ fun r w1 hb1 hr1 => ?_
  have T1 := Lib.hid hr1
  have S1 := Lib.hid (HS.out.below hb1)
  have M1 : Hid (Mut bs w w1) := Mut.of_below hb1 (Nat.le_of_lt hlt)
  have c1 := cell_at S1.out (j := 0) (v := .int .i64 0) rfl
  have fz := frozen_at S1.out 0
  obtain ⟨w2, E2⟩ : ∃ z, w1.setCell ⟨bs, 0, none⟩ (.int .i64 0) = z := ⟨_, rfl⟩
  have S2 : Hid (SumOk w2 bs) := by rw [← E2]; exact S1.out.store
  have M2 : Hid (Mut bs w w2) := by rw [← E2]; exact M1.out.trans ((Chg.refl bs w1).setCell _ _).mut
  clear hb1 hr1
  go_wp2_with (rw [E2])
  exact ret_str (HR.out r _ M2.out S2.out T1.out) rfl
set_option maxHeartbeats 1000000 in
theorem ssub_any (bs : Nat) (a b : ByteArray) (m n : Int) (ha : Txt a m) (hb : Txt b n) (hm : lenI m ≤ 1024) (hn : lenI n ≤ 1024) (hmn : lenI (m - n) ≤ 1024) (w : World) (R : Ending → World → Prop) (hE : Env w) (hs : SumOk w bs)
   (hR : ∀ r w', Mut bs w w' → SumOk w' bs → Txt r (m - n) → R (.returned (.string r)) w') :
    Calls Tryz.prog 165 #[.pointer (some ⟨bs, 0, none⟩), .string a, .string b] w R := by
  have HR := Lib.hid hR
  clear hR
  go_enter Tryz.func165, Tryz.ntmps165
  go_wp2_with fail
  with_reducible refine do_sub bs a b (m - n) _ _ hs (fun R1 h1 => wsub_any a b m n ha hb hm hn hmn _ R1 hE h1) fun r w1 hm1 hs1 hr1 => ?_
  have M1 := Lib.hid hm1
  have S1 := Lib.hid hs1
  have T1 := Lib.hid hr1
  clear hm1 hs1 hr1
  go_wp2_with fail
  exact ret_str (HR.out r _ M1.out S1.out T1.out) rfl
set_option maxRecDepth 100000 in
set_option maxHeartbeats 2000000 in
theorem smul_any (bs bk : Nat) (a b : ByteArray) (m n : Int) (ha : Txt a m) (hb : Txt b n) (hm : lenI m ≤ 1024) (hn : lenI n ≤ 1024) (hmn : lenI (m * n) ≤ 1024) (w : World) (R : Ending → World → Prop) (_hE : Env w) (hs : SumOk w bs) (h : w.heap[bk]? = some (.cells #[.string a, .string b] 61 (0, 0))) (hne : bk ≠ bs)
   (W : World) (hW : Env W) (hB : Below W.heap.size W w) (hb2 : W.heap.size ≤ bs)
   (hR : ∀ r w', Mut bs w w' → SumOk w' bs → Txt r (m * n) → R (.returned (.string r)) w') :
    Calls Tryz.prog 113 #[.pointer (some ⟨bs, 0, none⟩), .slice (some ⟨bk, 0, none⟩) 2 2] w R := by
  have HR := Lib.hid hR
  have HA := Lib.hid ha
  have HB := Lib.hid hb
  have HM := Lib.hid hm
  have HN := Lib.hid hn
  have HMN := Lib.hid hmn
  have HS := Lib.hid hs
  have HH := Lib.hid h
  have HW := Lib.hid hW
  have HBW := Lib.hid hB
  have LW := Lib.hid hb2
  have hlt := lt_of_block h
  clear hR ha hb hm hn hmn _hE hs h hW hB hb2
  go_enter Tryz.func113, Tryz.ntmps113
  go_wp2_with fail
  go_loopw [5, 13] (fun out i wr => ∃ (k : Nat) (r : ByteArray) (z : Int), i = .int .i64 k ∧ out = .string r ∧ k ≤ 2 ∧ Hid (Mut bs w wr) ∧ Hid (SumOk wr bs) ∧ Hid (Txt r z) ∧ Hid (z = if k = 0 then 1 else if k = 1 then m else m * n)) (fun _ i _ => 2 - (intOf i).toNat)
  case atStart => exact ⟨0, ⟨#[49]⟩, 1, rfl, rfl, by omega, ⟨Below.refl _ _, fun _ _ _ => rfl⟩, HS, Txt.one, rfl⟩
  case round =>
    obtain ⟨k, r, z, rfl, rfl, hk, HMt, HSr, HT, HZ⟩ := hrel
    have HHr : Hid (wr.heap[bk]? = some (.cells #[.string a, .string b] 61 (0, 0))) := (HMt.out.2 bk hne hlt).trans HH.out
    have HEr : Hid (Env wr) := HW.out.below (HBW.out.trans (HMt.out.1.mono LW.out))
    rcases (show k = 0 ∨ k = 1 ∨ k = 2 by omega) with rfl | rfl | rfl
    · have c0 := cell_at HHr.out (j := 0) (v := .string a) rfl
      have hz : Hid (z = 1) := HZ.out
      have hz2 : Hid (z * m = m) := by unfold Hid; rw [hz.out, Int.one_mul]
      have l1 : Hid (lenI z ≤ 1024) := by unfold Hid; rw [hz.out]; decide +kernel
      have l2 : Hid (lenI (z * m) ≤ 1024) := by unfold Hid; rw [hz2.out]; exact HM.out
      go_wp2_with fail
      with_reducible refine do_mul bs r a (z * m) _ _ HSr.out (fun R1 h1 => wmul_any r a z m HT.out HA.out l1.out HM.out l2.out _ R1 HEr.out h1) fun r1 w1 hm1 hs1 hr1 => ?_
      rw [hz2.out] at hr1
      have M1 : Hid (Mut bs w w1) := HMt.out.trans hm1
      have S1 := Lib.hid hs1
      have T1 := Lib.hid hr1
      clear hm1 hs1 hr1
      go_wp2_with fail
      exact ⟨⟨1, r1, m, by go_num, rfl, by omega, M1, S1, T1, rfl⟩, by simp [intOf]⟩
    · have c1 := cell_at HHr.out (j := 1) (v := .string b) rfl
      have hz : Hid (z = m) := HZ.out
      have hz2 : Hid (z * n = m * n) := by unfold Hid; rw [hz.out]
      have l1 : Hid (lenI z ≤ 1024) := by unfold Hid; rw [hz.out]; exact HM.out
      have l2 : Hid (lenI (z * n) ≤ 1024) := by unfold Hid; rw [hz2.out]; exact HMN.out
      go_wp2_with fail
      with_reducible refine do_mul bs r b (z * n) _ _ HSr.out (fun R1 h1 => wmul_any r b z n HT.out HB.out l1.out HN.out l2.out _ R1 HEr.out h1) fun r1 w1 hm1 hs1 hr1 => ?_
      rw [hz2.out] at hr1
      have M1 : Hid (Mut bs w w1) := HMt.out.trans hm1
      have S1 := Lib.hid hs1
      have T1 := Lib.hid hr1
      clear hm1 hs1 hr1
      go_wp2_with fail
      exact ⟨⟨2, r1, m * n, by go_num, rfl, by omega, M1, S1, T1, rfl⟩, by simp [intOf]⟩
    · have hz : Hid (z = m * n) := HZ.out
      have T2 : Hid (Txt r (m * n)) := by unfold Hid; rw [← hz.out]; exact HT.out
      go_wp2_with fail
      exact ret_str (HR.out r _ HMt.out HSr.out T2.out) rfl
theorem gcd_len {m n : Int} (hn : n ≠ 0) (hl : lenI n ≤ 1024) : lenI (Nat.gcd m.natAbs n.natAbs : Nat) ≤ 1024 := by
  rw [lenI_le (by decide)] at hl ⊢
  refine Nat.lt_of_le_of_lt ?_ hl
  exact Nat.gcd_le_right _ (by omega)
theorem lowG_len {m n : Int} (hn : n ≠ 0) (hl : lenI n ≤ 1024) : lenI (lowG m n) ≤ 1024 := by
  unfold lowG
  split
  · rw [lenI_neg]; exact gcd_len hn hl
  · exact gcd_len hn hl
theorem divInt_len {m n : Int} (hn : n ≠ 0) (hm : lenI m ≤ 1024) (hl : lenI n ≤ 1024) : OkR (Rat.divInt m n) := by
  have h := divInt_le m n hn
  constructor
  · rw [lenI_le (by decide)] at hm ⊢; exact Nat.lt_of_le_of_lt h.1 hm
  · rw [lenI_le (by decide)] at hl
    exact dec_len_lt (Nat.lt_of_le_of_lt h.2 hl) (by decide)
theorem hasMinus {l : List UInt8} : Lib.hasPrefix l [45] = decide (l.head? = some 45) := by
  cases l with
  | nil => rfl
  | cons c r =>
    by_cases h : c = 45
    · subst h; simp [Lib.hasPrefix, List.isPrefixOf]
    · have h2 : ¬ (45 : UInt8) = c := fun e => h e.symm
      simp [Lib.hasPrefix, List.isPrefixOf, h, h2]
set_option maxHeartbeats 2000000 in
theorem slowest_any (bs : Nat) (a b : ByteArray) (m n : Int) (ha : Txt a m) (hb : Txt b n) (hm : lenI m ≤ 1024) (hn : lenI n ≤ 1024) (h0 : n ≠ 0) (w : World) (R : Ending → World → Prop) (hs : SumOk w bs)
   (W : World) (hW : Env W) (hB : Below W.heap.size W w) (hb2 : W.heap.size ≤ bs)
   (hR : ∀ r w', Mut bs w w' → SumOk w' bs → TxR r (Rat.divInt m n) → R (.returned (.string r)) w') :
    Calls Tryz.prog 158 #[.pointer (some ⟨bs, 0, none⟩), .string a, .string b] w R := by
  have HR := Lib.hid hR
  have HA := Lib.hid ha
  have HB := Lib.hid hb
  have HM := Lib.hid hm
  have HN := Lib.hid hn
  have H0 := Lib.hid h0
  have HS := Lib.hid hs
  have HW := Lib.hid hW
  have HBW := Lib.hid hB
  have LW := Lib.hid hb2
  have hEn : Hid (∀ w', Mut bs w w' → Env w') := fun w' h => hW.below (hB.trans (h.1.mono hb2))
  have HE : Hid (Env w) := hW.below hB
  have hpre : Hid (Lib.hasPrefix b.data.toList [45] = decide (n < 0)) := by
    unfold Hid
    rw [hasMinus, show b.data.toList = Lib.itoa n from hb]
    have := below_itoa n
    by_cases h : n < 0
    · rw [decide_eq_true h, decide_eq_true (this.2 h)]
    · rw [decide_eq_false h, decide_eq_false (fun e => h (this.1 e))]
  have hlow := Lib.hid (low_num m n h0)
  have hG := Lib.hid (lowG_ne m h0)
  have hGl := Lib.hid (lowG_len (m := m) h0 hn)
  have hOk := Lib.hid (divInt_len h0 hm hn)
  have hgl := Lib.hid (gcd_len (m := m) h0 hn)
  clear hR ha hb hm hn h0 hs hW hB hb2
  obtain ⟨G, hGG⟩ : ∃ z, lowG m n = z := ⟨_, rfl⟩
  rw [hGG] at hlow hG hGl
  have ql : Hid (lenI (m.fdiv G) ≤ 1024) := by unfold Hid; rw [hlow.out.1]; exact hOk.out.num
  have dl : Hid (lenI (n.fdiv G) ≤ 1024) := by unfold Hid; rw [hlow.out.2]; exact hOk.out.lden
  have HGG := Lib.hid hGG
  clear hGG
  go_enter Tryz.func158, Tryz.ntmps158
  go_wp2_with fail
  with_reducible refine do_gcd bs a b (Nat.gcd m.natAbs n.natAbs : Nat) _ _ HS.out (fun R1 h1 => wgcd_any a b m n HA.out HB.out HM.out HN.out _ R1 HE.out h1) fun g w1 hm1 hs1 hr1 => ?_
  have M1 := Lib.hid hm1
  have S1 := Lib.hid hs1
  have T1 := Lib.hid hr1
  have E1 := Lib.hid (hEn.out w1 hm1)
  clear hm1 hs1 hr1
  go_wp2_with fail
  refine (Tryz.strings_HasPrefix b ⟨#[45]⟩ _).mono fun e w' h => ?_
  obtain ⟨rfl, rfl⟩ := h
  rw [show (⟨#[45]⟩ : ByteArray).data.toList = [45] from rfl, hpre.out]
  by_cases hneg : n < 0
  · rw [decide_eq_true hneg]
    have hgv : Hid (0 - ((Nat.gcd m.natAbs n.natAbs : Nat) : Int) = G) := by unfold Hid; rw [← HGG.out]; unfold lowG; rw [if_pos hneg]; omega
    have T0 : Hid (Txt ⟨#[48]⟩ 0) := Txt.zero
    have l0 : Hid (lenI 0 ≤ 1024) := by unfold Hid; decide +kernel
    have lg : Hid (lenI (0 - ((Nat.gcd m.natAbs n.natAbs : Nat) : Int)) ≤ 1024) := by unfold Hid; rw [hgv.out]; exact hGl.out
    clear hneg
    go_wp2_with fail
    with_reducible refine ssub_any bs ⟨#[48]⟩ g 0 (Nat.gcd m.natAbs n.natAbs : Nat) T0.out T1.out l0.out hgl.out lg.out _ _ E1.out S1.out fun g2 w2 hm2 hs2 hr2 => ?_
    rw [hgv.out] at hr2
    have M2 : Hid (Mut bs w w2) := M1.out.trans hm2
    have S2 := Lib.hid hs2
    have T2 := Lib.hid hr2
    have E2 := Lib.hid (hEn.out w2 M2.out)
    clear hm2 hs2 hr2
    have c2 := cell_at S2.out (j := 0) (v := .int .i64 0) rfl
    go_wp2_with fail
    with_reducible refine do_quo bs a g2 (m.fdiv G) _ _ S2.out (fun R1 h1 => wquo_any a g2 m G HA.out T2.out HM.out hGl.out hG.out ql.out _ R1 E2.out h1) fun q3 w3 hm3 hs3 hr3 => ?_
    have M3 : Hid (Mut bs w w3) := M2.out.trans hm3
    have S3 := Lib.hid hs3
    have T3 : Hid (Txt q3 (Rat.divInt m n).num) := by unfold Hid; rw [← hlow.out.1]; exact hr3
    have E3 := Lib.hid (hEn.out w3 M3.out)
    clear hm3 hs3 hr3
    go_wp2_with fail
    with_reducible refine do_quo bs b g2 (n.fdiv G) _ _ S3.out (fun R1 h1 => wquo_any b g2 n G HB.out T2.out HN.out hGl.out hG.out dl.out _ R1 E3.out h1) fun q4 w4 hm4 hs4 hr4 => ?_
    have M4 : Hid (Mut bs w w4) := M3.out.trans hm4
    have S4 := Lib.hid hs4
    have T4 : Hid (Txt q4 ((Rat.divInt m n).den : Int)) := by unfold Hid; rw [← hlow.out.2]; exact hr4
    clear hm4 hs4 hr4
    go_wp2_with fail
    with_reducible refine joined_any q3 q4 (Rat.divInt m n).num (Rat.divInt m n).den T3.out T4.out hOk.out.num hOk.out.lden _ _ fun r hr => ?_
    have T5 : Hid (TxR r (Rat.divInt m n)) := hr
    clear hr
    go_wp2_with fail
    exact ret_str (HR.out r _ M4.out S4.out T5.out) rfl
  · rw [decide_eq_false hneg]
    have hgv : Hid (((Nat.gcd m.natAbs n.natAbs : Nat) : Int) = G) := by unfold Hid; rw [← HGG.out]; unfold lowG; rw [if_neg hneg]
    have T2 : Hid (Txt g G) := by unfold Hid; rw [← hgv.out]; exact T1.out
    clear hneg
    have c2 := cell_at S1.out (j := 0) (v := .int .i64 0) rfl
    go_wp2_with fail
    with_reducible refine do_quo bs a g (m.fdiv G) _ _ S1.out (fun R1 h1 => wquo_any a g m G HA.out T2.out HM.out hGl.out hG.out ql.out _ R1 E1.out h1) fun q3 w3 hm3 hs3 hr3 => ?_
    have M3 : Hid (Mut bs w w3) := M1.out.trans hm3
    have S3 := Lib.hid hs3
    have T3 : Hid (Txt q3 (Rat.divInt m n).num) := by unfold Hid; rw [← hlow.out.1]; exact hr3
    have E3 := Lib.hid (hEn.out w3 M3.out)
    clear hm3 hs3 hr3
    go_wp2_with fail
    with_reducible refine do_quo bs b g (n.fdiv G) _ _ S3.out (fun R1 h1 => wquo_any b g n G HB.out T2.out HN.out hGl.out hG.out dl.out _ R1 E3.out h1) fun q4 w4 hm4 hs4 hr4 => ?_
    have M4 : Hid (Mut bs w w4) := M3.out.trans hm4
    have S4 := Lib.hid hs4
    have T4 : Hid (Txt q4 ((Rat.divInt m n).den : Int)) := by unfold Hid; rw [← hlow.out.2]; exact hr4
    clear hm4 hs4 hr4
    go_wp2_with fail
    with_reducible refine joined_any q3 q4 (Rat.divInt m n).num (Rat.divInt m n).den T3.out T4.out hOk.out.num hOk.out.lden _ _ fun r hr => ?_
    have T5 : Hid (TxR r (Rat.divInt m n)) := hr
    clear hr
    go_wp2_with fail
    exact ret_str (HR.out r _ M4.out S4.out T5.out) rfl
set_option maxHeartbeats 2000000 in
theorem rmake_any (a b : ByteArray) (m n : Int) (ha : Txt a m) (hb : Txt b n) (hm : lenI m ≤ 1024) (hn : lenI n ≤ 1024) (h0 : n ≠ 0) (w : World) (R : Ending → World → Prop) (hE : Env w)
   (hR : ∀ r w', Below w.heap.size w w' → TxR r (Rat.divInt m n) → R (.returned (.tuple #[.string r, .int .i64 0])) w') :
    Calls Tryz.prog 94 #[.string a, .string b] w R := by
  have HR := Lib.hid hR
  have HA := Lib.hid ha
  have HB := Lib.hid hb
  have HM := Lib.hid hm
  have HN := Lib.hid hn
  have H0 := Lib.hid h0
  have HE := Lib.hid hE
  have KZ := hb.beqL 0 itoa_0
  rw [decide_eq_false h0] at KZ
  obtain ⟨w1, E1, HB1, s1, X1⟩ := box_ex w #[.string a, .string b] 61
  clear hR ha hb hm hn h0 hE
  go_enter Tryz.func94, Tryz.ntmps94
  go_wp2_with (rw [E1])
  go_loopw [15] (fun i wr => ∃ k : Nat, i = .int .i64 k ∧ k ≤ 2 ∧ Hid (Below w.heap.size w wr) ∧ Hid (wr.heap[w.heap.size]? = some (.cells #[.string a, .string b] 61 (0, 0)))) (fun i _ => 2 - (intOf i).toNat)
  case atStart => exact ⟨0, rfl, by omega, HB1, X1⟩
  case round =>
    obtain ⟨k, rfl, hk, HBr, HHr⟩ := hrel
    have HLr := Lib.hid (lt_of_block HHr.out)
    rcases (show k = 0 ∨ k = 1 ∨ k = 2 by omega) with rfl | rfl | rfl
    · have c0 := cell_at HHr.out (j := 0) (v := .string a) rfl
      go_wp2_with fail
      with_reducible refine wcheckI_any a m HA.out HM.out _ _ fun w2 hb2 => ?_
      have B2 : Hid (Below w.heap.size w w2) := HBr.out.trans (hb2.mono HBr.out.size)
      have H2 : Hid (w2.heap[w.heap.size]? = some (.cells #[.string a, .string b] 61 (0, 0))) := (hb2.block _ HLr.out).trans HHr.out
      clear hb2
      go_wp2_with fail
      exact ⟨⟨1, by go_num, by omega, B2, H2⟩, by simp [intOf]⟩
    · have c1 := cell_at HHr.out (j := 1) (v := .string b) rfl
      go_wp2_with fail
      with_reducible refine wcheckI_any b n HB.out HN.out _ _ fun w2 hb2 => ?_
      have B2 : Hid (Below w.heap.size w w2) := HBr.out.trans (hb2.mono HBr.out.size)
      have H2 : Hid (w2.heap[w.heap.size]? = some (.cells #[.string a, .string b] 61 (0, 0))) := (hb2.block _ HLr.out).trans HHr.out
      clear hb2
      go_wp2_with fail
      exact ⟨⟨2, by go_num, by omega, B2, H2⟩, by simp [intOf]⟩
    · obtain ⟨w3, E3, HB3, s3, X3⟩ := box_ex wr #[.int .i64 0] 143
      have B3 : Hid (Below w.heap.size w w3) := HBr.out.trans (HB3.out.mono HBr.out.size)
      have S3 : Hid (SumOk w3 wr.heap.size) := X3
      have L3 : Hid (w.heap.size ≤ wr.heap.size) := HBr.out.size
      clear s3
      go_wp2_with (rw [E3])
      with_reducible refine slowest_any _ a b m n HA.out HB.out HM.out HN.out H0.out _ _ S3.out w HE.out B3.out L3.out fun r w4 hm4 hs4 hr4 => ?_
      have T4 := Lib.hid hr4
      have c4 := cell_at hs4 (j := 0) (v := .int .i64 0) rfl
      have B4 : Hid (Below w.heap.size w w4) := B3.out.trans (hm4.1.mono L3.out)
      clear hm4 hs4 hr4
      go_wp2_with fail
      exact HR.out _ _ B4.out T4.out
theorem lenI_64 {n : Int} (h0 : -9223372036854775808 ≤ n) (h1 : n ≤ 9223372036854775807) : lenI n ≤ 1024 := by
  refine Nat.le_trans ((lenI_le (k := 19) (by decide)).2 ?_) (by decide)
  have : (10 : Nat) ^ 19 = 10000000000000000000 := by decide
  omega
set_option maxHeartbeats 1000000 in
theorem rof_any (m n : Int) (w : World) (R : Ending → World → Prop) (h0 : -9223372036854775808 ≤ m) (h1 : m ≤ 9223372036854775807) (h2 : -9223372036854775808 ≤ n) (h3 : n ≤ 9223372036854775807) (hn : n ≠ 0) (hE : Env w)
   (hR : ∀ r w', Below w.heap.size w w' → TxR r (Rat.divInt m n) → R (.returned (.tuple #[.string r, .int .i64 0])) w') :
    Calls Tryz.prog 124 #[.int .i64 m, .int .i64 n] w R := by
  have HR := Lib.hid hR
  have HE := Lib.hid hE
  have l1 := Lib.hid (lenI_64 h0 h1)
  have l2 := Lib.hid (lenI_64 h2 h3)
  have HN := Lib.hid hn
  clear hR hE hn
  go_enter Tryz.func124, Tryz.ntmps124
  go_wp2_with fail
  with_reducible refine wof_any m _ _ h0 h1 HE.out fun a w1 hb1 hr1 => ?_
  have B1 := Lib.hid hb1
  have T1 := Lib.hid hr1
  have E1 := Lib.hid (HE.out.below hb1)
  clear hb1 hr1
  go_wp2_with fail
  with_reducible refine wof_any n _ _ h2 h3 E1.out fun b w2 hb2 hr2 => ?_
  have B2 : Hid (Below w.heap.size w w2) := B1.out.trans (hb2.mono B1.out.size)
  have T2 := Lib.hid hr2
  have E2 := Lib.hid (HE.out.below B2.out)
  clear hb2 hr2
  go_wp2_with fail
  with_reducible refine rmake_any a b m n T1.out T2.out l1.out l2.out HN.out _ _ E2.out fun r w3 hb3 hr3 => ?_
  have B3 : Hid (Below w.heap.size w w3) := B2.out.trans (hb3.mono B2.out.size)
  have T3 := Lib.hid hr3
  clear hb3 hr3
  go_wp2_with fail
  exact HR.out _ _ B3.out T3.out
set_option maxHeartbeats 1000000 in
theorem rwhole_any (m : Int) (w : World) (R : Ending → World → Prop) (h0 : -9223372036854775808 ≤ m) (h1 : m ≤ 9223372036854775807) (hE : Env w)
   (hR : ∀ r w', Below w.heap.size w w' → TxR r (m : Rat) → R (.returned (.string r)) w') :
    Calls Tryz.prog 127 #[.int .i64 m] w R := by
  have HR := Lib.hid hR
  clear hR
  go_enter Tryz.func127, Tryz.ntmps127
  go_wp2_with fail
  with_reducible refine wof_any m _ _ h0 h1 hE fun a w1 hb1 hr1 => ?_
  have B1 := Lib.hid hb1
  have T1 : Hid (TxR a (m : Rat)) := by unfold Hid TxR; rw [rat_int]; exact hr1
  clear hb1 hr1
  go_wp2_with fail
  exact ret_str (HR.out a _ B1.out T1.out) rfl
end Go.Proofs.YtcmhompbdanpdaaGreatDoor
namespace Go.Proofs.YtcmhompbdanpdaaGreatDoor
open Go.RowKit

set_option maxHeartbeats 2000000 in
theorem mul1_any (bs : Nat) (a b c d : ByteArray) (n p m q : Int) (ha : Txt a n) (hb : Txt b p) (hc : Txt c m) (hd : Txt d q) (ln : lenI n ≤ 1024) (lp : lenI p ≤ 1024) (lm : lenI m ≤ 1024) (lq : lenI q ≤ 1024) (l1 : lenI (n * m) ≤ 1024) (l2 : lenI (p * q) ≤ 1024)
   (w : World) (R : Ending → World → Prop) (hs : SumOk w bs) (W : World) (hW : Env W) (hB : Below W.heap.size W w) (hb2 : W.heap.size ≤ bs)
   (hR : ∀ r1 r2 w', Mut bs w w' → SumOk w' bs → Txt r1 (n * m) → Txt r2 (p * q) → R (.returned (.tuple #[.string r1, .string r2])) w') :
    Calls Tryz.prog 140 #[.pointer (some ⟨bs, 0, none⟩), .string a, .string b, .string c, .string d] w R := by
  have HR := Lib.hid hR
  have HA := Lib.hid ha
  have HBt := Lib.hid hb
  have HC := Lib.hid hc
  have HD := Lib.hid hd
  have LN := Lib.hid ln
  have LP := Lib.hid lp
  have LM := Lib.hid lm
  have LQ := Lib.hid lq
  have L1 := Lib.hid l1
  have L2 := Lib.hid l2
  have HS := Lib.hid hs
  have HW := Lib.hid hW
  have HB := Lib.hid hB
  have HB2 := Lib.hid hb2
  have BS := Lib.hid (lt_of_block hs)
  obtain ⟨w1, E1, HB1, s1, X1⟩ := box_ex w #[.string a, .string c] 61
  have M1 : Hid (Mut bs w w1) := Mut.of_below HB1.out (Nat.le_of_lt BS.out)
  have S1 := Lib.hid (HS.out.below HB1.out)
  have B1 : Hid (Below W.heap.size W w1) := HB.out.trans (HB1.out.mono HB.out.size)
  have HE1 := Lib.hid (HW.out.below B1.out)
  clear hR ha hb hc hd ln lp lm lq l1 l2 hs hW hB hb2 s1
  go_enter Tryz.func140, Tryz.ntmps140
  go_wp2_with (rw [E1])
  with_reducible refine smul_any bs _ a c n m HA.out HC.out LN.out LM.out L1.out _ _ HE1.out S1.out X1.out (Nat.ne_of_gt BS.out) W HW.out B1.out HB2.out fun r1 w2 hm2 hs2 hr2 => ?_
  have M2 : Hid (Mut bs w w2) := M1.out.trans hm2
  have S2 := Lib.hid hs2
  have T2 := Lib.hid hr2
  have BS2 := Lib.hid (lt_of_block hs2)
  have B2 : Hid (Below W.heap.size W w2) := B1.out.trans (hm2.1.mono HB2.out)
  clear hm2 hs2 hr2
  obtain ⟨w3, E3, HB3, s3, X3⟩ := box_ex w2 #[.string b, .string d] 61
  have M3 : Hid (Mut bs w w3) := M2.out.trans (Mut.of_below HB3.out (Nat.le_of_lt BS2.out))
  have S3 := Lib.hid (S2.out.below HB3.out)
  have B3 : Hid (Below W.heap.size W w3) := B2.out.trans (HB3.out.mono B2.out.size)
  have HE3 := Lib.hid (HW.out.below B3.out)
  clear s3
  go_wp2_with (rw [E3])
  with_reducible refine smul_any bs _ b d p q HBt.out HD.out LP.out LQ.out L2.out _ _ HE3.out S3.out X3.out (Nat.ne_of_gt BS2.out) W HW.out B3.out HB2.out fun r2 w4 hm4 hs4 hr4 => ?_
  have M4 : Hid (Mut bs w w4) := M3.out.trans hm4
  have S4 := Lib.hid hs4
  have T4 := Lib.hid hr4
  clear hm4 hs4 hr4
  go_wp2_with fail
  exact HR.out _ _ _ M4.out S4.out T2.out T4.out
set_option maxHeartbeats 2000000 in
theorem div1_any (bs : Nat) (a b c d : ByteArray) (n p m q : Int) (ha : Txt a n) (hb : Txt b p) (hc : Txt c m) (hd : Txt d q) (ln : lenI n ≤ 1024) (lp : lenI p ≤ 1024) (lm : lenI m ≤ 1024) (lq : lenI q ≤ 1024) (l1 : lenI (n * q) ≤ 1024) (l2 : lenI (p * m) ≤ 1024)
   (w : World) (R : Ending → World → Prop) (hs : SumOk w bs) (W : World) (hW : Env W) (hB : Below W.heap.size W w) (hb2 : W.heap.size ≤ bs)
   (hR : ∀ r1 r2 w', Mut bs w w' → SumOk w' bs → Txt r1 (n * q) → Txt r2 (p * m) → R (.returned (.tuple #[.string r1, .string r2])) w') :
    Calls Tryz.prog 224 #[.pointer (some ⟨bs, 0, none⟩), .string a, .string b, .string c, .string d] w R := by
  have HR := Lib.hid hR
  have HA := Lib.hid ha
  have HBt := Lib.hid hb
  have HC := Lib.hid hc
  have HD := Lib.hid hd
  have LN := Lib.hid ln
  have LP := Lib.hid lp
  have LM := Lib.hid lm
  have LQ := Lib.hid lq
  have L1 := Lib.hid l1
  have L2 := Lib.hid l2
  have HS := Lib.hid hs
  have HW := Lib.hid hW
  have HB := Lib.hid hB
  have HB2 := Lib.hid hb2
  have BS := Lib.hid (lt_of_block hs)
  obtain ⟨w1, E1, HB1, s1, X1⟩ := box_ex w #[.string a, .string d] 61
  have M1 : Hid (Mut bs w w1) := Mut.of_below HB1.out (Nat.le_of_lt BS.out)
  have S1 := Lib.hid (HS.out.below HB1.out)
  have B1 : Hid (Below W.heap.size W w1) := HB.out.trans (HB1.out.mono HB.out.size)
  have HE1 := Lib.hid (HW.out.below B1.out)
  clear hR ha hb hc hd ln lp lm lq l1 l2 hs hW hB hb2 s1
  go_enter Tryz.func224, Tryz.ntmps224
  go_wp2_with (rw [E1])
  with_reducible refine smul_any bs _ a d n q HA.out HD.out LN.out LQ.out L1.out _ _ HE1.out S1.out X1.out (Nat.ne_of_gt BS.out) W HW.out B1.out HB2.out fun r1 w2 hm2 hs2 hr2 => ?_
  have M2 : Hid (Mut bs w w2) := M1.out.trans hm2
  have S2 := Lib.hid hs2
  have T2 := Lib.hid hr2
  have BS2 := Lib.hid (lt_of_block hs2)
  have B2 : Hid (Below W.heap.size W w2) := B1.out.trans (hm2.1.mono HB2.out)
  clear hm2 hs2 hr2
  obtain ⟨w3, E3, HB3, s3, X3⟩ := box_ex w2 #[.string b, .string c] 61
  have M3 : Hid (Mut bs w w3) := M2.out.trans (Mut.of_below HB3.out (Nat.le_of_lt BS2.out))
  have S3 := Lib.hid (S2.out.below HB3.out)
  have B3 : Hid (Below W.heap.size W w3) := B2.out.trans (HB3.out.mono B2.out.size)
  have HE3 := Lib.hid (HW.out.below B3.out)
  clear s3
  go_wp2_with (rw [E3])
  with_reducible refine smul_any bs _ b c p m HBt.out HC.out LP.out LM.out L2.out _ _ HE3.out S3.out X3.out (Nat.ne_of_gt BS2.out) W HW.out B3.out HB2.out fun r2 w4 hm4 hs4 hr4 => ?_
  have M4 : Hid (Mut bs w w4) := M3.out.trans hm4
  have S4 := Lib.hid hs4
  have T4 := Lib.hid hr4
  clear hm4 hs4 hr4
  go_wp2_with fail
  exact HR.out _ _ _ M4.out S4.out T2.out T4.out
set_option maxRecDepth 100000 in
set_option maxHeartbeats 4000000 in
theorem made_mul (a b : ByteArray) (p q : Rat) (ha : TxR a p) (hb : TxR b q) (hp : OkR p) (hq : OkR q) (l1 : lenI (p.num * q.num) ≤ 1024) (l2 : lenI ((p.den : Int) * (q.den : Int)) ≤ 1024) (w : World) (R : Ending → World → Prop) (hE : Env w)
   (hR : ∀ r w', Below w.heap.size w w' → TxR r (p * q) → R (.returned (.tuple #[.string r, .int .i64 0])) w') :
    Calls Tryz.prog 139 #[.string a, .string b, .func (.func 140) #[] #[]] w R := by
  have HR := Lib.hid hR
  have HA := Lib.hid ha
  have HBt := Lib.hid hb
  have HP := Lib.hid hp
  have HQ := Lib.hid hq
  have L1 := Lib.hid l1
  have L2 := Lib.hid l2
  have HE := Lib.hid hE
  obtain ⟨w1, E1, HB1, s1, X1⟩ := box_ex w #[.string a, .string b] 34
  have HE1 := Lib.hid (HE.out.below HB1.out)
  have hdn : Hid ((p.den : Int) * (q.den : Int) ≠ 0) := by
    unfold Hid
    have h1 := p.den_pos
    have h2 := q.den_pos
    exact Int.mul_ne_zero (by omega) (by omega)
  have hval : Hid (Rat.divInt (p.num * q.num) ((p.den : Int) * (q.den : Int)) = p * q) := rat_mul p q
  clear hR ha hb hp hq l1 l2 hE s1
  go_enter Tryz.func139, Tryz.ntmps139
  go_wp2_with (rw [E1])
  with_reducible refine checks_any _ a b p q HA.out HBt.out HP.out HQ.out _ _ HE1.out X1.out fun w2 hb2 => ?_
  have B2 : Hid (Below w.heap.size w w2) := HB1.out.trans (hb2.mono HB1.out.size)
  have HE2 := Lib.hid (HE.out.below B2.out)
  clear hb2
  go_wp2_with fail
  with_reducible refine rcut_any a p HA.out HP.out _ _ HE2.out fun n d f w3 hb3 hn hd hf => ?_
  have B3 : Hid (Below w.heap.size w w3) := B2.out.trans (hb3.mono B2.out.size)
  have TN := Lib.hid hn
  have TD := Lib.hid hd
  have HE3 := Lib.hid (HE.out.below B3.out)
  clear hb3 hn hd hf
  go_wp2_with fail
  with_reducible refine rcut_any b q HBt.out HQ.out _ _ HE3.out fun n2 d2 f2 w4 hb4 hn hd hf => ?_
  have B4 : Hid (Below w.heap.size w w4) := B3.out.trans (hb4.mono B3.out.size)
  have TN2 := Lib.hid hn
  have TD2 := Lib.hid hd
  clear hb4 hn hd hf
  obtain ⟨w5, E5, HB5, s5, X5⟩ := box_ex w4 #[.int .i64 0] 143
  have B5 : Hid (Below w.heap.size w w5) := B4.out.trans (HB5.out.mono B4.out.size)
  have S5 : Hid (SumOk w5 w4.heap.size) := X5
  have L5 : Hid (w.heap.size ≤ w4.heap.size) := B4.out.size
  clear s5
  go_wp2_with (rw [E5])
  with_reducible refine mul1_any _ n d n2 d2 p.num (p.den : Int) q.num (q.den : Int) TN.out TD.out TN2.out TD2.out HP.out.num HP.out.lden HQ.out.num HQ.out.lden L1.out L2.out _ _ S5.out w HE.out B5.out L5.out fun r1 r2 w6 hm6 hs6 h61 h62 => ?_
  have B6 : Hid (Below w.heap.size w w6) := B5.out.trans (hm6.1.mono L5.out)
  have S6 := Lib.hid hs6
  have c6 := cell_at hs6 (j := 0) (v := .int .i64 0) rfl
  have T1 := Lib.hid h61
  have T2 := Lib.hid h62
  have KZ := h62.beqL 0 itoa_0
  rw [decide_eq_false hdn.out] at KZ
  clear hm6 hs6 h61 h62
  go_wp2_with fail
  with_reducible refine slowest_any _ r1 r2 _ _ T1.out T2.out L1.out L2.out hdn.out _ _ S6.out w HE.out B6.out L5.out fun r w7 hm7 hs7 hr7 => ?_
  rw [hval.out] at hr7
  have B7 : Hid (Below w.heap.size w w7) := B6.out.trans (hm7.1.mono L5.out)
  have T7 := Lib.hid hr7
  have c7 : w7.drew.cell? ⟨w4.heap.size, 0, none⟩ = some (.int .i64 0) := cell_at hs7 (j := 0) (v := .int .i64 0) rfl
  have Bd : Hid (Below w.heap.size w w7.drew) := B7.out.drew
  clear hm7 hs7 hr7
  go_wp2_with fail
  refine regionL [0, 1, 2, 3, 4, 5, 6] (fun w' => w'.cell? ⟨w4.heap.size, 0, none⟩ = some (.int .i64 0) ∧ True) (by kernel_rfl) (⟨c7, trivial⟩) (fun Qn hPQ hQn hS0 => ?_)
  iterate 7 (refine takeL (v := ?_) rfl rfl (by kernel_rfl) (by kernel_rfl) (by kernel_rfl) hPQ hS0 (by kernel_rfl) ?_ ?_; rotate_left; (focus (intro w hSw; (try dsimp only at hSw); obtain ⟨k0, _⟩ := hSw; go_simp; (try with_reducible rfl))); (try simp only [Act.put, List.setIfInBounds_toArray, List.set_cons_zero, List.set_cons_succ]))
  refine ofL (wpAnyH_done (by kernel_rfl) (hQn.out _ _ ?_) _)
  clear hS0 hPQ hQn Qn
  go_wp2_with fail
  exact HR.out _ _ Bd.out T7.out
set_option maxRecDepth 100000 in
set_option maxHeartbeats 4000000 in
theorem made_div (a b : ByteArray) (p q : Rat) (ha : TxR a p) (hb : TxR b q) (hp : OkR p) (hq : OkR q) (h0 : q ≠ 0) (l1 : lenI (p.num * (q.den : Int)) ≤ 1024) (l2 : lenI ((p.den : Int) * q.num) ≤ 1024) (w : World) (R : Ending → World → Prop) (hE : Env w)
   (hR : ∀ r w', Below w.heap.size w w' → TxR r (p / q) → R (.returned (.tuple #[.string r, .int .i64 0])) w') :
    Calls Tryz.prog 139 #[.string a, .string b, .func (.func 224) #[] #[]] w R := by
  have HR := Lib.hid hR
  have HA := Lib.hid ha
  have HBt := Lib.hid hb
  have HP := Lib.hid hp
  have HQ := Lib.hid hq
  have L1 := Lib.hid l1
  have L2 := Lib.hid l2
  have HE := Lib.hid hE
  obtain ⟨w1, E1, HB1, s1, X1⟩ := box_ex w #[.string a, .string b] 34
  have HE1 := Lib.hid (HE.out.below HB1.out)
  have hdn : Hid ((p.den : Int) * q.num ≠ 0) := by
    unfold Hid
    have h1 := p.den_pos
    have h2 := q.den_pos
    exact Int.mul_ne_zero (by omega) (fun e => h0 (Rat.num_eq_zero.1 e))
  have hval : Hid (Rat.divInt (p.num * (q.den : Int)) ((p.den : Int) * q.num) = p / q) := rat_div p q
  clear hR ha hb hp hq l1 l2 hE s1 h0
  go_enter Tryz.func139, Tryz.ntmps139
  go_wp2_with (rw [E1])
  with_reducible refine checks_any _ a b p q HA.out HBt.out HP.out HQ.out _ _ HE1.out X1.out fun w2 hb2 => ?_
  have B2 : Hid (Below w.heap.size w w2) := HB1.out.trans (hb2.mono HB1.out.size)
  have HE2 := Lib.hid (HE.out.below B2.out)
  clear hb2
  go_wp2_with fail
  with_reducible refine rcut_any a p HA.out HP.out _ _ HE2.out fun n d f w3 hb3 hn hd hf => ?_
  have B3 : Hid (Below w.heap.size w w3) := B2.out.trans (hb3.mono B2.out.size)
  have TN := Lib.hid hn
  have TD := Lib.hid hd
  have HE3 := Lib.hid (HE.out.below B3.out)
  clear hb3 hn hd hf
  go_wp2_with fail
  with_reducible refine rcut_any b q HBt.out HQ.out _ _ HE3.out fun n2 d2 f2 w4 hb4 hn hd hf => ?_
  have B4 : Hid (Below w.heap.size w w4) := B3.out.trans (hb4.mono B3.out.size)
  have TN2 := Lib.hid hn
  have TD2 := Lib.hid hd
  clear hb4 hn hd hf
  obtain ⟨w5, E5, HB5, s5, X5⟩ := box_ex w4 #[.int .i64 0] 143
  have B5 : Hid (Below w.heap.size w w5) := B4.out.trans (HB5.out.mono B4.out.size)
  have S5 : Hid (SumOk w5 w4.heap.size) := X5
  have L5 : Hid (w.heap.size ≤ w4.heap.size) := B4.out.size
  clear s5
  go_wp2_with (rw [E5])
  with_reducible refine div1_any _ n d n2 d2 p.num (p.den : Int) q.num (q.den : Int) TN.out TD.out TN2.out TD2.out HP.out.num HP.out.lden HQ.out.num HQ.out.lden L1.out L2.out _ _ S5.out w HE.out B5.out L5.out fun r1 r2 w6 hm6 hs6 h61 h62 => ?_
  have B6 : Hid (Below w.heap.size w w6) := B5.out.trans (hm6.1.mono L5.out)
  have S6 := Lib.hid hs6
  have c6 := cell_at hs6 (j := 0) (v := .int .i64 0) rfl
  have T1 := Lib.hid h61
  have T2 := Lib.hid h62
  have KZ := h62.beqL 0 itoa_0
  rw [decide_eq_false hdn.out] at KZ
  clear hm6 hs6 h61 h62
  go_wp2_with fail
  with_reducible refine slowest_any _ r1 r2 _ _ T1.out T2.out L1.out L2.out hdn.out _ _ S6.out w HE.out B6.out L5.out fun r w7 hm7 hs7 hr7 => ?_
  rw [hval.out] at hr7
  have B7 : Hid (Below w.heap.size w w7) := B6.out.trans (hm7.1.mono L5.out)
  have T7 := Lib.hid hr7
  have c7 : w7.drew.cell? ⟨w4.heap.size, 0, none⟩ = some (.int .i64 0) := cell_at hs7 (j := 0) (v := .int .i64 0) rfl
  have Bd : Hid (Below w.heap.size w w7.drew) := B7.out.drew
  clear hm7 hs7 hr7
  go_wp2_with fail
  refine regionL [0, 1, 2, 3, 4, 5, 6] (fun w' => w'.cell? ⟨w4.heap.size, 0, none⟩ = some (.int .i64 0) ∧ True) (by kernel_rfl) (⟨c7, trivial⟩) (fun Qn hPQ hQn hS0 => ?_)
  iterate 7 (refine takeL (v := ?_) rfl rfl (by kernel_rfl) (by kernel_rfl) (by kernel_rfl) hPQ hS0 (by kernel_rfl) ?_ ?_; rotate_left; (focus (intro w hSw; (try dsimp only at hSw); obtain ⟨k0, _⟩ := hSw; go_simp; (try with_reducible rfl))); (try simp only [Act.put, List.setIfInBounds_toArray, List.set_cons_zero, List.set_cons_succ]))
  refine ofL (wpAnyH_done (by kernel_rfl) (hQn.out _ _ ?_) _)
  clear hS0 hPQ hQn Qn
  go_wp2_with fail
  exact HR.out _ _ Bd.out T7.out
set_option maxHeartbeats 1000000 in
theorem rmul_any (a b : ByteArray) (p q : Rat) (ha : TxR a p) (hb : TxR b q) (hp : OkR p) (hq : OkR q) (l1 : lenI (p.num * q.num) ≤ 1024) (l2 : lenI ((p.den : Int) * (q.den : Int)) ≤ 1024) (w : World) (R : Ending → World → Prop) (hE : Env w)
   (hR : ∀ r w', Below w.heap.size w w' → TxR r (p * q) → R (.returned (.tuple #[.string r, .int .i64 0])) w') :
    Calls Tryz.prog 67 #[.string a, .string b] w R := by
  have HR := Lib.hid hR
  clear hR
  go_enter Tryz.func67, Tryz.ntmps67
  go_wp2_with fail
  with_reducible refine made_mul a b p q ha hb hp hq l1 l2 _ _ hE fun r w1 hb1 hr1 => ?_
  have B1 := Lib.hid hb1
  have T1 := Lib.hid hr1
  clear hb1 hr1
  go_wp2_with fail
  exact HR.out _ _ B1.out T1.out
theorem rtL_0 : rtL 0 = [48] := by rw [show (0 : Rat) = ((0 : Int) : Rat) from rfl, rat_int, itoa_0]
set_option maxHeartbeats 1000000 in
theorem rdiv_any (a b : ByteArray) (p q : Rat) (ha : TxR a p) (hb : TxR b q) (hp : OkR p) (hq : OkR q) (h0 : q ≠ 0) (l1 : lenI (p.num * (q.den : Int)) ≤ 1024) (l2 : lenI ((p.den : Int) * q.num) ≤ 1024) (w : World) (R : Ending → World → Prop) (hE : Env w)
   (hR : ∀ r w', Below w.heap.size w w' → TxR r (p / q) → R (.returned (.tuple #[.string r, .int .i64 0])) w') :
    Calls Tryz.prog 183 #[.string a, .string b] w R := by
  have KZ := hb.beqL 0 rtL_0
  rw [decide_eq_false h0] at KZ
  have H0 := Lib.hid h0
  have HR := Lib.hid hR
  have HA := Lib.hid ha
  have HBt := Lib.hid hb
  have HP := Lib.hid hp
  have HQ := Lib.hid hq
  have L1 := Lib.hid l1
  have L2 := Lib.hid l2
  have HE := Lib.hid hE
  obtain ⟨w1, E1, HB1, s1, X1⟩ := box_ex w #[.string a, .string b] 34
  have HE1 := Lib.hid (HE.out.below HB1.out)
  clear hR ha hb hp hq l1 l2 hE s1 h0
  go_enter Tryz.func183, Tryz.ntmps183
  go_wp2_with (rw [E1])
  with_reducible refine checks_any _ a b p q HA.out HBt.out HP.out HQ.out _ _ HE1.out X1.out fun w2 hb2 => ?_
  have B2 : Hid (Below w.heap.size w w2) := HB1.out.trans (hb2.mono HB1.out.size)
  have HE2 := Lib.hid (HE.out.below B2.out)
  clear hb2
  go_wp2_with fail
  with_reducible refine made_div a b p q HA.out HBt.out HP.out HQ.out H0.out L1.out L2.out _ _ HE2.out fun r w3 hb3 hr3 => ?_
  have B3 : Hid (Below w.heap.size w w3) := B2.out.trans (hb3.mono B2.out.size)
  have T3 := Lib.hid hr3
  clear hb3 hr3
  go_wp2_with fail
  exact HR.out _ _ B3.out T3.out
def cmpR (p q : Rat) : Int := if p < q then -1 else if q < p then 1 else 0
theorem cmpR_eq (p q : Rat) : cmpI (p.num * (q.den : Int)) (q.num * (p.den : Int)) = cmpR p q := by
  unfold cmpI cmpR
  simp only [rat_lt]
set_option maxRecDepth 100000 in
set_option maxHeartbeats 4000000 in
theorem rcompare_any (a b : ByteArray) (p q : Rat) (ha : TxR a p) (hb : TxR b q) (hp : OkR p) (hq : OkR q) (l1 : lenI (p.num * (q.den : Int)) ≤ 1024) (l2 : lenI (q.num * (p.den : Int)) ≤ 1024) (w : World) (R : Ending → World → Prop) (hE : Env w)
   (hR : ∀ w', Below w.heap.size w w' → R (.returned (.tuple #[.int .i64 (cmpR p q), .int .i64 0])) w') :
    Calls Tryz.prog 38 #[.string a, .string b] w R := by
  have HR := Lib.hid hR
  have HA := Lib.hid ha
  have HBt := Lib.hid hb
  have HP := Lib.hid hp
  have HQ := Lib.hid hq
  have L1 := Lib.hid l1
  have L2 := Lib.hid l2
  have HE := Lib.hid hE
  obtain ⟨w1, E1, HB1, s1, X1⟩ := box_ex w #[.string a, .string b] 34
  have HE1 := Lib.hid (HE.out.below HB1.out)
  have hcm := Lib.hid (cmpR_eq p q)
  clear hR ha hb hp hq l1 l2 hE s1
  go_enter Tryz.func38, Tryz.ntmps38
  go_wp2_with (rw [E1])
  with_reducible refine checks_any _ a b p q HA.out HBt.out HP.out HQ.out _ _ HE1.out X1.out fun w2 hb2 => ?_
  have B2 : Hid (Below w.heap.size w w2) := HB1.out.trans (hb2.mono HB1.out.size)
  have HE2 := Lib.hid (HE.out.below B2.out)
  clear hb2
  go_wp2_with fail
  with_reducible refine rcut_any a p HA.out HP.out _ _ HE2.out fun n d f w3 hb3 hn hd hf => ?_
  have B3 : Hid (Below w.heap.size w w3) := B2.out.trans (hb3.mono B2.out.size)
  have TN := Lib.hid hn
  have TD := Lib.hid hd
  have HE3 := Lib.hid (HE.out.below B3.out)
  clear hb3 hn hd hf
  go_wp2_with fail
  with_reducible refine rcut_any b q HBt.out HQ.out _ _ HE3.out fun n2 d2 f2 w4 hb4 hn hd hf => ?_
  have B4 : Hid (Below w.heap.size w w4) := B3.out.trans (hb4.mono B3.out.size)
  have TN2 := Lib.hid hn
  have TD2 := Lib.hid hd
  clear hb4 hn hd hf
  obtain ⟨w5, E5, HB5, s5, X5⟩ := box_ex w4 #[.int .i64 0] 143
  have B5 : Hid (Below w.heap.size w w5) := B4.out.trans (HB5.out.mono B4.out.size)
  have S5 : Hid (SumOk w5 w4.heap.size) := X5
  have L5 : Hid (w.heap.size ≤ w4.heap.size) := B4.out.size
  clear s5
  have BS5 := Lib.hid (lt_of_block S5.out)
  obtain ⟨bs, hbs⟩ : ∃ z, w4.heap.size = z := ⟨_, rfl⟩
  rw [hbs] at S5 L5 BS5
  obtain ⟨w6, E6, HB6, s6, X6⟩ := box_ex w5 #[.string n, .string d2] 61
  have S6 := Lib.hid (S5.out.below HB6.out)
  have B6 : Hid (Below w.heap.size w w6) := B5.out.trans (HB6.out.mono B5.out.size)
  have HE6 := Lib.hid (HE.out.below B6.out)
  clear s6
  go_wp2_with (first | (rw [E5]) | (rw [E6]))
  clear hbs
  with_reducible refine smul_any bs _ n d2 p.num (q.den : Int) TN.out TD2.out HP.out.num HQ.out.lden L1.out _ _ HE6.out S6.out X6.out (Nat.ne_of_gt BS5.out) w HE.out B6.out L5.out fun r1 w7 hm7 hs7 hr7 => ?_
  have S7 := Lib.hid hs7
  have T7 := Lib.hid hr7
  have B7 : Hid (Below w.heap.size w w7) := B6.out.trans (hm7.1.mono L5.out)
  have BS7 := Lib.hid (lt_of_block hs7)
  clear hm7 hs7 hr7
  obtain ⟨w8, E8, HB8, s8, X8⟩ := box_ex w7 #[.string n2, .string d] 61
  have S8 := Lib.hid (S7.out.below HB8.out)
  have B8 : Hid (Below w.heap.size w w8) := B7.out.trans (HB8.out.mono B7.out.size)
  have HE8 := Lib.hid (HE.out.below B8.out)
  clear s8
  go_wp2_with (rw [E8])
  with_reducible refine smul_any bs _ n2 d q.num (p.den : Int) TN2.out TD.out HQ.out.num HP.out.lden L2.out _ _ HE8.out S8.out X8.out (Nat.ne_of_gt BS7.out) w HE.out B8.out L5.out fun r2 w9 hm9 hs9 hr9 => ?_
  have c9 := cell_at hs9 (j := 0) (v := .int .i64 0) rfl
  have T9 := Lib.hid hr9
  have B9 : Hid (Below w.heap.size w w9) := B8.out.trans (hm9.1.mono L5.out)
  clear hm9 hs9 hr9
  go_wp2_with fail
  with_reducible refine wcompare_any r1 r2 _ _ T7.out T9.out L1.out L2.out _ _ fun w10 hb10 => ?_
  rw [hcm.out]
  have B10 : Hid (Below w.heap.size w w10) := B9.out.trans (hb10.mono B9.out.size)
  clear hb10
  go_wp2_with fail
  exact HR.out _ B10.out
end Go.Proofs.YtcmhompbdanpdaaGreatDoor
namespace Go.Proofs.YtcmhompbdanpdaaGreatDoor
open Go.RowKit

theorem Txt.nonempty {a : ByteArray} {n : Int} (h : Txt a n) : a.toList.isEmpty = false := by
  have hp := h.pos
  rw [Tx.list h]
  have := Tx.size h
  cases e : Lib.itoa n with
  | nil => rw [e, List.length_nil] at this; omega
  | cons => rfl
set_option maxHeartbeats 1000000 in
theorem xsize_any (a : ByteArray) (n : Int) (ha : Txt a n) (w : World) (R : Ending → World → Prop) (hR : ∀ r, Txt r (n.natAbs : Nat) → R (.returned (.string r)) w) :
    Calls Tryz.prog 116 #[.string a] w R := by
  have HR := Lib.hid hR
  have hp := ha.pos
  have hne := ha.nonempty
  have hh := ha.head_b hp
  by_cases h : n < 0
  · rw [decide_eq_true h] at hh
    have hT := Lib.hid (ha.tail h)
    have hg : 1 ≤ a.size := hp
    obtain ⟨r, hr⟩ : ∃ z, a.extract 1 a.size = z := ⟨_, rfl⟩
    rw [hr] at hT
    clear hR ha h
    go_enter Tryz.func116, Tryz.ntmps116
    go_wp2_with fail
    exact ret_str (HR.out r hT.out) rfl
  · rw [decide_eq_false h] at hh
    have hT := Lib.hid (ha.whole (by omega))
    clear hR ha h
    go_enter Tryz.func116, Tryz.ntmps116
    go_wp2_with fail
    exact ret_str (HR.out a hT.out) rfl
set_option maxHeartbeats 1000000 in
theorem xbelow_any (a : ByteArray) (n : Int) (ha : Txt a n) (w : World) (R : Ending → World → Prop) (hR : ∀ b, Hid (b = decide (n < 0)) → R (.returned (.bool b)) w) :
    Calls Tryz.prog 190 #[.string a] w R := by
  have HR := Lib.hid hR
  have hp := ha.pos
  have hh := ha.head_b hp
  have hb := Lib.hid (hR _ rfl)
  obtain ⟨b, hbb⟩ : ∃ b, decide (n < 0) = b := ⟨_, rfl⟩
  rw [hbb] at hh hb
  clear hR ha HR hbb
  go_enter Tryz.func190, Tryz.ntmps190
  go_wp2_with fail
  exact ret_b hb.out rfl rfl
theorem bare_stop {l : List UInt8} (h : l.length ≤ 1 ∨ l.head? ≠ some 48) : bareL l = l := by
  match l, h with
  | [], _ => rfl
  | [c], _ =>
    unfold bareL
    split
    · rename_i e
      simp at e
    · rfl
  | c :: d :: r, h =>
    unfold bareL
    split
    · rename_i e
      simp at e
      rcases h with h | h
      · simp at h
      · exact absurd (by simp [e.1]) h
    · rfl
theorem bare_go {l : List UInt8} (h1 : 1 < l.length) (h : l.head? = some 48) : bareL l = bareL (l.drop 1) := by
  match l, h1, h with
  | c :: d :: r, _, h =>
    have : c = 48 := by simpa using h
    subst this
    rfl
set_option maxHeartbeats 2000000 in
theorem xbare_any (a : ByteArray) (l : List UInt8) (ha : Tx a l) (w : World) (R : Ending → World → Prop) (hR : ∀ r, Tx r (bareL l) → R (.returned (.string r)) w) :
    Calls Tryz.prog 235 #[.string a] w R := by
  have HR := Lib.hid hR
  have HA := Lib.hid ha
  clear hR ha
  go_enter Tryz.func235, Tryz.ntmps235
  go_wp2_with fail
  go_loopw [0] (fun s wr => ∃ (r : ByteArray) (m : List UInt8), s = .string r ∧ Hid (Tx r m) ∧ Hid (bareL m = bareL l) ∧ Hid (wr = w)) (fun s _ => match s with | .string r => r.size | _ => 0)
  case atStart => exact ⟨a, l, rfl, HA, rfl, rfl⟩
  case round =>
    obtain ⟨r, m, rfl, HT, HM, HW⟩ := hrel
    have hs := HT.out.size
    by_cases h1 : 1 < r.size
    · have K1 : ((1 : Int) < (r.size : Int)) = True := eq_true (by omega)
      have hp : 0 < r.size := by omega
      have hg : ((r[0].toNat : Int) == 48) = decide (m.head? = some 48) := by
        rw [HT.out.get hp]
        cases e : m with
        | nil => rw [e, List.length_nil] at hs; omega
        | cons c rest =>
          by_cases h : c = 48
          · subst h; rfl
          · have h2 : ¬ c.toNat = 48 := fun e => h (UInt8.toNat.inj e)
            simp [h]; omega
      by_cases h2 : m.head? = some 48
      · rw [decide_eq_true h2] at hg
        have hgo := bare_go (l := m) (by omega) h2
        have HM2 : Hid (bareL (m.drop 1) = bareL l) := by unfold Hid; rw [← hgo]; exact HM.out
        have HT2 := Lib.hid (HT.out.drop 1)
        obtain ⟨r2, hr2⟩ : ∃ z, r.extract 1 r.size = z := ⟨_, rfl⟩
        rw [hr2] at HT2
        have hlt : Hid (r2.size < r.size) := by unfold Hid; rw [HT2.out.size, List.length_drop]; omega
        have hg1 : 1 ≤ r.size := by omega
        clear hs h2 hgo
        go_wp2_with fail
        exact ⟨⟨r2, m.drop 1, rfl, HT2, HM2, HW⟩, hlt.out⟩
      · rw [decide_eq_false h2] at hg
        have hst : Hid (Tx r (bareL l)) := by unfold Hid; rw [← HM.out, bare_stop (.inr h2)]; exact HT.out
        clear hs h2
        go_wp2_with fail
        have e := HW.out
        subst e
        exact ret_str (HR.out r hst.out) rfl
    · have K1 : ((1 : Int) < (r.size : Int)) = False := eq_false (by omega)
      have hst : Hid (Tx r (bareL l)) := by unfold Hid; rw [← HM.out, bare_stop (.inl (by omega))]; exact HT.out
      clear hs
      go_wp2_with fail
      have e := HW.out
      subst e
      exact ret_str (HR.out r hst.out) rfl
set_option maxHeartbeats 1000000 in
theorem xsigned_any (a : ByteArray) (v : Nat) (s : Bool) (ha : Txt a (v : Nat)) (hl : lenI (v : Nat) ≤ 3000) (w : World) (R : Ending → World → Prop) (hR : ∀ r, Txt r (sV s v) → R (.returned (.string r)) w) :
    Calls Tryz.prog 191 #[.string a, .bool s] w R := by
  have HR := Lib.hid hR
  have HA := Lib.hid ha
  have K := ha.beqL 0 itoa_0
  cases s with
  | false =>
    have hT : Hid (Txt a (sV false v)) := ha
    clear hR ha K
    go_enter Tryz.func191, Tryz.ntmps191
    go_wp2_with fail
    exact ret_str (HR.out a hT.out) rfl
  | true =>
    by_cases h0 : v = 0
    · subst h0
      rw [decide_eq_true (show ((0 : Nat) : Int) = 0 from rfl)] at K
      have hT : Hid (Txt a (sV true 0)) := ha
      clear hR ha
      go_enter Tryz.func191, Tryz.ntmps191
      go_wp2_with fail
      exact ret_str (HR.out a hT.out) rfl
    · rw [decide_eq_false (show ¬ (v : Int) = 0 by omega)] at K
      have had := ha.minus_run (P := Tryz.prog) (by omega) (by omega)
      obtain ⟨r, hr⟩ : ∃ z, tB (Lib.itoa (-(v : Int))) = z := ⟨_, rfl⟩
      have hT : Hid (Txt r (sV true v)) := by rw [← hr]; exact Txt.of _
      rw [hr] at had
      clear hR ha
      go_enter Tryz.func191, Tryz.ntmps191
      go_wp2_with fail
      exact ret_str (HR.out r hT.out) rfl
set_option maxHeartbeats 1000000 in
theorem xturned_any (a : ByteArray) (n : Int) (ha : Txt a n) (hl : lenI n ≤ 3000) (w : World) (R : Ending → World → Prop) (hR : ∀ r, Txt r (-n) → R (.returned (.string r)) w) :
    Calls Tryz.prog 195 #[.string a] w R := by
  have HR := Lib.hid hR
  have HA := Lib.hid ha
  have HL : Hid (lenI (n.natAbs : Nat) ≤ 3000) := by unfold Hid lenI; rw [Int.natAbs_natCast]; exact hl
  have hv : Hid (∀ b, b = decide (n < 0) → sV (!b) n.natAbs = -n) := fun b hb => by
    subst hb; rw [sV_neg, sV_abs]
  clear hR ha hl
  go_enter Tryz.func195, Tryz.ntmps195
  go_wp2_with fail
  with_reducible refine xsize_any a n HA.out _ _ fun r hr => ?_
  have T1 := Lib.hid hr
  clear hr
  go_wp2_with fail
  with_reducible refine xbelow_any a n HA.out _ _ fun b hb => ?_
  go_wp2_with fail
  with_reducible refine xsigned_any r n.natAbs (!b) T1.out HL.out _ _ fun r2 hr2 => ?_
  rw [hv.out b hb.out] at hr2
  have T2 := Lib.hid hr2
  clear hr2
  go_wp2_with fail
  exact ret_str (HR.out r2 T2.out) rfl
set_option maxHeartbeats 2000000 in
theorem xnumber_any (a : ByteArray) (n : Int) (ha : Txt a n) (hl : lenI n ≤ 18) (w : World) (R : Ending → World → Prop) (hR : R (.returned (.int .i64 n)) w) :
    Calls Tryz.prog 225 #[.string a] w R := by
  have HR := Lib.hid hR
  have HA := Lib.hid ha
  have HL := Lib.hid hl
  have hv : Hid (∀ b, b = decide (n < 0) → sV b n.natAbs = n) := fun b hb => by subst hb; exact sV_abs n
  have hbn : n.natAbs < 1000000000000000000 := (lenI_le (k := 18) (by decide)).1 hl
  have HBN := Lib.hid hbn
  clear hR ha hl hbn
  go_enter Tryz.func225, Tryz.ntmps225
  go_wp2_with fail
  with_reducible refine xsize_any a n HA.out _ _ fun r hr => ?_
  have T1 : Hid (Tx r (Lib.decDigits n.natAbs)) := Txt.dec hr
  clear hr
  go_wp2_with fail
  go_loopw [3, 5] (fun acc i wr => ∃ (k x : Nat), acc = .int .i64 x ∧ i = .int .i64 k ∧ k ≤ r.size ∧ Hid (x = dv ((Lib.decDigits n.natAbs).take k)) ∧ Hid (wr = w)) (fun _ i _ => r.size - (intOf i).toNat)
  case atStart => exact ⟨0, 0, rfl, rfl, Nat.zero_le _, by unfold Hid; simp [dv_nil], rfl⟩
  case round =>
    obtain ⟨k, x, rfl, rfl, hk, HX, HW⟩ := hrel
    have hs := T1.out.size
    have hlen : (Lib.decDigits n.natAbs).length ≤ 18 := HL.out
    have hxb : x < 1000000000000000000 := by
      have h1 := dv_lt ((dgs_dec n.natAbs).take k)
      rw [← HX.out] at h1
      have h2 : ((Lib.decDigits n.natAbs).take k).length ≤ 18 := by rw [List.length_take]; omega
      exact Nat.lt_of_lt_of_le h1 (Nat.pow_le_pow_right (by decide) h2)
    by_cases hlt : k < r.size
    · have K1 : ((k : Int) < (r.size : Int)) = True := eq_true (by omega)
      have hd := dAt_le (dgs_dec n.natAbs) (i := k) (by omega)
      have hdg := (dgs_dec n.natAbs).at (i := k) (by omega)
      have hget := T1.out.get hlt
      have hx2 := dv_take (a := Lib.decDigits n.natAbs) (i := k) (by omega)
      rw [← HX.out] at hx2
      have hx2b : x * 10 + dAt (Lib.decDigits n.natAbs) k < 1000000000000000000 := by
        rw [← hx2]
        have h1 := dv_lt ((dgs_dec n.natAbs).take (k + 1))
        have h2 : ((Lib.decDigits n.natAbs).take (k + 1)).length ≤ 18 := by rw [List.length_take]; omega
        exact Nat.lt_of_lt_of_le h1 (Nat.pow_le_pow_right (by decide) h2)
      obtain ⟨d, hdd⟩ : ∃ z, dAt (Lib.decDigits n.natAbs) k = z := ⟨_, rfl⟩
      rw [hdd] at hd hx2 hx2b
      have hrk : r[k].toNat = 48 + d := by
        rw [hget, ← hdd]; unfold dAt; omega
      have HX2 : Hid (x * 10 + d = dv ((Lib.decDigits n.natAbs).take (k + 1))) := hx2.symm
      have hsz : r.size ≤ 18 := by omega
      clear hs hlen hdg hget hx2 hdd
      go_wp2_with fail
      refine ⟨⟨k + 1, x * 10 + d, ?_, ?_, by omega, HX2, HW⟩, ?_⟩
      · go_num
      · go_num
      · simp [intOf]; omega
    · have K1 : ((k : Int) < (r.size : Int)) = False := eq_false (by omega)
      have hx : Hid (x = n.natAbs) := by
        unfold Hid; rw [HX.out, List.take_of_length_le (by omega), dv_dec]
      clear hs hlen
      go_wp2_with fail
      with_reducible refine xbelow_any a n HA.out _ _ fun b hb => ?_
      have hv2 := hv.out b hb.out
      rw [← hx.out] at hv2
      have HV2 := Lib.hid hv2
      have e := HW.out
      clear hv2
      cases b with
      | true =>
        have e2 : Hid (-(x : Int) = n) := HV2.out
        go_wp2_with fail
        subst e
        exact ret_i HR.out rfl e2.out.symm
      | false =>
        have e2 : Hid ((x : Int) = n) := HV2.out
        go_wp2_with fail
        subst e
        exact ret_i HR.out rfl e2.out.symm
end Go.Proofs.YtcmhompbdanpdaaGreatDoor
