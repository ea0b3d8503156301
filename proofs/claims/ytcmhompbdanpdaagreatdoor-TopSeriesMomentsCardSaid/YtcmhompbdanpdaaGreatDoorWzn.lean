/- less, column, brief, Of of reference 01. -/
import Derived.Lib.SlBytesRow
import Derived.Test.YtcmhompbdanpdaaGreatDoorMwzj
namespace Go.Proofs.YtcmhompbdanpdaaGreatDoor
open Go.RowKit

theorem bytesLess_lt : ∀ a b : List UInt8, Op.bytesLess a b = decide (a < b)
  | [], [] => by simp [Op.bytesLess]
  | [], _ :: _ => by simp [Op.bytesLess]
  | _ :: _, [] => by simp [Op.bytesLess]
  | x :: xs, y :: ys => by
    unfold Op.bytesLess
    rw [bytesLess_lt xs ys]
    by_cases h1 : x < y
    · simp [h1, List.cons_lt_cons_iff]
    · by_cases h2 : y < x
      · have hne : ¬ x = y := fun e => by subst e; exact h1 h2
        simp [h1, hne, List.cons_lt_cons_iff]
      · have e : x = y := UInt8.le_antisymm (UInt8.not_lt.1 h2) (UInt8.not_lt.1 h1)
        subst e
        simp
theorem ret_col {R : Ending → World → Prop} {v' : Value} {w : World} {a a' b b' : Int} (h : R (.returned (.tuple #[.int .u8 a, .int .i64 b])) w) (ev : v' = .tuple #[.int .u8 a', .int .i64 b']) (ea : a = a') (eb : b = b') : R (.returned v') w := by
  subst ea eb; rw [ev]; exact h
theorem dec_key (x y : Nat) (h : (Lib.decDigits x).length < (Lib.decDigits y).length) : x < y := by
  have := can_short (can_dec x) (can_dec y) h
  rwa [dv_dec, dv_dec] at this
set_option maxHeartbeats 1000000 in
theorem xless_any (a b : ByteArray) (u v : Nat) (ha : Txt a (u : Nat)) (hb : Txt b (v : Nat)) (w : World) (R : Ending → World → Prop) (hR : ∀ c, Hid (c = decide (u < v)) → R (.returned (.bool c)) w) :
    Calls Tryz.prog 208 #[.string a, .string b] w R := by
  have HR := Lib.hid hR
  have HA : Hid (Tx a (Lib.decDigits u)) := Txt.dec ha
  have HB : Hid (Tx b (Lib.decDigits v)) := Txt.dec hb
  have sa := HA.out.size
  have sb := HB.out.size
  clear hR ha hb
  by_cases h1 : a.size < b.size
  · have K1 : ((a.size : Int) < (b.size : Int)) = True := eq_true (by omega)
    have hc : Hid (decide (u < v) = true) := by unfold Hid; exact decide_eq_true (dec_key u v (by omega))
    clear sa sb
    go_enter Tryz.func208, Tryz.ntmps208
    go_wp2_with fail
    exact ret_b (HR.out true hc.out.symm) rfl rfl
  · have K1 : ((a.size : Int) < (b.size : Int)) = False := eq_false (by omega)
    by_cases h2 : a.size = b.size
    · have K2 : ((a.size : Int) == (b.size : Int)) = true := by simp [h2]
      have hlx := lex_dv (dgs_dec u) (dgs_dec v) (by omega)
      rw [dv_dec, dv_dec, ← show a.data.toList = Lib.decDigits u from HA.out, ← show b.data.toList = Lib.decDigits v from HB.out] at hlx
      clear sa sb h1
      go_enter Tryz.func208, Tryz.ntmps208
      go_wp2_with fail
      exact ret_b (HR.out _ (by rw [bytesLess_lt, Lib.toList_data, Lib.toList_data]; exact decide_eq_decide.2 hlx)) rfl rfl
    · have K2 : ((a.size : Int) == (b.size : Int)) = false := by simpa using (by omega : ¬ (a.size : Int) = b.size)
      have hc : Hid (decide (u < v) = false) := by
        have := dec_key v u (by omega)
        unfold Hid; exact decide_eq_false (by omega)
      clear sa sb
      go_enter Tryz.func208, Tryz.ntmps208
      go_wp2_with fail
      exact ret_b (HR.out false hc.out.symm) rfl rfl
set_option maxHeartbeats 1000000 in
theorem xcolumn_any (x y c : Nat) (add : Bool) (zx zy zc : Int) (ex : zx = x) (ey : zy = y) (ec : zc = c) (hx : 48 ≤ x ∧ x ≤ 57) (hy : 48 ≤ y ∧ y ≤ 57) (hc : c ≤ 1) (w : World) (R : Ending → World → Prop)
   (hR : R (.returned (.tuple #[.int .u8 ((48 + (colD (x - 48) (y - 48) c add).1 : Nat) : Int), .int .i64 ((colD (x - 48) (y - 48) c add).2 : Nat)])) w) :
    Calls Tryz.prog 234 #[.int .u8 zx, .int .u8 zy, .int .i64 zc, .bool add] w R := by
  subst ex ey ec
  have HR := Lib.hid hR
  clear hR
  go_enter Tryz.func234, Tryz.ntmps234
  cases add with
  | true =>
    go_wp2_with fail
    all_goals exact ret_col HR.out rfl (by unfold colD; simp only [if_true]; split <;> simp <;> omega) (by unfold colD; simp only [if_true]; split <;> simp <;> omega)
  | false =>
    go_wp2_with fail
    all_goals exact ret_col HR.out rfl (by unfold colD; simp only [Bool.false_eq_true, if_false]; split <;> simp <;> omega) (by unfold colD; simp only [Bool.false_eq_true, if_false]; split <;> simp <;> omega)
set_option maxHeartbeats 1000000 in
theorem xbrief_any (a b : ByteArray) (m n : Int) (ha : Txt a m) (hb : Txt b n) (w : World) (R : Ending → World → Prop)
   (hR : (lenI m ≤ 18 ∧ lenI n ≤ 18 → R (.returned (.tuple #[.int .i64 m, .int .i64 n, .bool true])) w) ∧ (¬ (lenI m ≤ 18 ∧ lenI n ≤ 18) → R (.returned (.tuple #[.int .i64 0, .int .i64 0, .bool false])) w)) :
    Calls Tryz.prog 192 #[.string a, .string b] w R := by
  have HR := Lib.hid hR
  have HA := Lib.hid ha
  have HB := Lib.hid hb
  have la : ∀ (r : ByteArray) (k : Int), Txt r (k.natAbs : Nat) → r.size = lenI k := fun r k h => by
    rw [h.size, if_neg (by omega)]; unfold lenI; rw [Int.natAbs_natCast]; rfl
  have LA := Lib.hid la
  clear hR ha hb la
  go_enter Tryz.func192, Tryz.ntmps192
  go_wp2_with fail
  with_reducible refine xsize_any a m HA.out _ _ fun r hr => ?_
  have hs := LA.out r m hr
  clear hr
  by_cases h1 : lenI m ≤ 18
  · have K1 : ((18 : Int) < (r.size : Int)) = False := eq_false (by omega)
    have H1 := Lib.hid h1
    clear hs h1
    go_wp2_with fail
    with_reducible refine xsize_any b n HB.out _ _ fun r2 hr2 => ?_
    have hs2 := LA.out r2 n hr2
    clear hr2
    by_cases h2 : lenI n ≤ 18
    · have K2 : ((18 : Int) < (r2.size : Int)) = False := eq_false (by omega)
      have H2 := Lib.hid h2
      clear hs2 h2
      go_wp2_with fail
      with_reducible refine xnumber_any a m HA.out H1.out _ _ ?_
      go_wp2_with fail
      with_reducible refine xnumber_any b n HB.out H2.out _ _ ?_
      go_wp2_with fail
      go_ret3
      exact HR.out.1 ⟨H1.out, H2.out⟩
    · have K2 : ((18 : Int) < (r2.size : Int)) = True := eq_true (by omega)
      have H2 := Lib.hid h2
      clear hs2 h2
      go_wp2_with fail
      go_ret3
      exact HR.out.2 (fun h => H2.out h.2)
  · have K1 : ((18 : Int) < (r.size : Int)) = True := eq_true (by omega)
    have H1 := Lib.hid h1
    clear hs h1
    go_wp2_with fail
    go_ret3
    exact HR.out.2 (fun h => H1.out h.1)
theorem conv1 {w : World} {b x : Nat} {z : Int} (hz : z = x) (hx : x < 256) (h : w.heap[b]? = some (.cells #[.int .u8 z] 5 (0, 0))) :
    (convert 206 9 (.slice (some ⟨b, 0, none⟩) 1 1)).run Tryz.prog w = .ok (.string (tB [UInt8.ofNat x])) w := by
  have hs : (tB [UInt8.ofNat x]).size = 1 := rfl
  have hb : Lib.Bytes w b 0 (tB [UInt8.ofNat x]) := fun i hi => by
    rw [hs] at hi
    obtain rfl : i = 0 := by omega
    rw [cell_at h (j := 0) (v := .int .u8 z) rfl, hz]
    have e : (UInt8.ofNat x).toNat = x := by rw [UInt8.toNat_ofNat']; exact Nat.mod_eq_of_lt hx
    show some (Value.int .u8 (x : Int)) = some (Value.int .u8 ((UInt8.ofNat x).toNat : Int))
    rw [e]
  have := Lib.run_convert_whole (P := Tryz.prog) w 206 5 9 Tryz.underlying206 Tryz.underlying5 Tryz.underlying9 b 0 _ hb 1
  rw [hs] at this
  exact this
set_option maxRecDepth 100000 in
set_option maxHeartbeats 4000000 in
theorem xof_pos (n : Nat) (hn : n ≤ 4611686018427387904) (z : Int) (ez : z = n) (w : World) (R : Ending → World → Prop) (hR : ∀ r w', Below w.heap.size w w' → Txt r (n : Nat) → R (.returned (.string r)) w') :
    Calls Tryz.prog 137 #[.int .i64 z] w R := by
  subst ez
  have HR := Lib.hid hR
  have HNB := Lib.hid hn
  clear hR
  have key : (((n : Int) == -(n : Int)) = false) ∨ (((n : Int) == -(n : Int)) = true ∧ ((n : Int) == 0) = true ∧ n = 0) := by
    by_cases h : n = 0
    · subst h; exact .inr ⟨rfl, rfl, rfl⟩
    · exact .inl (by simp; omega)
  have rest : ∀ (P0 : Prop), P0 → P0 := fun _ h => h
  rcases key with K | ⟨K, K3, hz⟩
  · have K2 : ((n : Int) < 0) = False := eq_false (by omega)
    go_enter Tryz.func137, Tryz.ntmps137
    go_wp2_with fail
    clear K K2 hn
    go_loopw [0, 3] (fun p q wr => ∃ (m : Nat) (s : ByteArray) (l : List UInt8), p = .int .i64 m ∧ q = .string s ∧ m ≤ n ∧ Hid (Tx s l) ∧ Hid (OfI n m l) ∧ l.length + m ≤ n ∧ Hid (Below w.heap.size w wr)) (fun p _ _ => (intOf p).toNat)
    case atStart => exact ⟨n, ⟨#[]⟩, [], rfl, rfl, Nat.le_refl _, rfl, OfI.start n, by simp, Below.refl _ _⟩
    case round =>
      obtain ⟨m, s, l, rfl, rfl, hmn, HT, HI, hll, HB⟩ := hrel
      have hnb := HNB.out
      have hls : l.length ≤ 4611686018427387904 := by omega
      have HLS := Lib.hid hls
      have hm62 : (m : Int) ≤ 4611686018427387904 := by omega
      have HLL := Lib.hid hll
      have HMN := Lib.hid hmn
      clear hnb hls hll hmn
      by_cases h9 : 9 < m
      · have K1 : ((9 : Int) < (m : Int)) = True := eq_true (by omega)
        obtain ⟨d, hd⟩ : ∃ d, m % 10 = d := ⟨_, rfl⟩
        obtain ⟨q, hq⟩ : ∃ q, m / 10 = q := ⟨_, rfl⟩
        have hd10 : d < 10 := by omega
        have hq2 : ((m : Int) / 10) = (q : Int) := by omega
        have hq3 : (m : Int).tdiv 10 = (q : Int) := by rw [Int.tdiv_eq_ediv_of_nonneg (by omega)]; omega
        have hd2 : ((m : Int) % 10) = (d : Int) := by omega
        have htm : (m : Int).tmod 10 = (d : Int) := by rw [Int.tmod_eq_emod_of_nonneg (by omega)]; omega
        have hlq : Hid (q < m) := by unfold Hid; omega
        have hlq2 : Hid (q ≤ n) := by have := HMN.out; unfold Hid; omega
        have hll2 : Hid ((UInt8.ofNat (48 + d) :: l).length + q ≤ n) := by have := HLL.out; unfold Hid; simp; omega
        have HI2 : Hid (OfI n q (UInt8.ofNat (48 + d) :: l)) := by have := HI.out.step h9; rw [hq, hd] at this; exact this
        have hwd : IntKind.i64.wrap (d : Int) = d := by rw [IntKind.wrap_i64]; omega
        have hwq : IntKind.i64.wrap (q : Int) = q := by rw [IntKind.wrap_i64]; omega
        obtain ⟨w1, E1, HB1, s1, X1⟩ := box_ex wr #[.int .u8 (48 + (d : Int))] 5
        have hcv := conv1 (x := 48 + d) (z := 48 + (d : Int)) (by omega) (by omega) X1.out
        have had := (Tx.of [UInt8.ofNat (48 + d)]).add_run (P := Tryz.prog) HT.out (by have := HLS.out; simp; omega)
        obtain ⟨t1, ht1⟩ : ∃ z, tB [UInt8.ofNat (48 + d)] = z := ⟨_, rfl⟩
        obtain ⟨t2, ht2⟩ : ∃ z, tB ([UInt8.ofNat (48 + d)] ++ l) = z := ⟨_, rfl⟩
        have T2 : Hid (Tx t2 (UInt8.ofNat (48 + d) :: l)) := by rw [← ht2]; exact Tx.of _
        rw [ht1] at hcv
        rw [ht1, ht2] at had
        have B1 : Hid (Below w.heap.size w w1) := HB.out.trans (HB1.out.mono HB.out.size)
        clear hd hq ht1 ht2 s1
        go_wp2_with (rw [E1])
        refine ⟨⟨q, t2, _, rfl, rfl, hlq2.out, T2, HI2, hll2.out, B1⟩, ?_⟩
        have := hlq.out
        simp [intOf]; omega
      · have K1 : ((9 : Int) < (m : Int)) = False := eq_false (by omega)
        have hm9 : m ≤ 9 := by omega
        have HD := HI.out.done hm9
        obtain ⟨w1, E1, HB1, s1, X1⟩ := box_ex wr #[.int .u8 (48 + (m : Int))] 5
        have hcv := conv1 (x := 48 + m) (z := 48 + (m : Int)) (by omega) (by omega) X1.out
        have had := (Tx.of [UInt8.ofNat (48 + m)]).add_run (P := Tryz.prog) HT.out (by have := HLS.out; simp; omega)
        obtain ⟨t1, ht1⟩ : ∃ z, tB [UInt8.ofNat (48 + m)] = z := ⟨_, rfl⟩
        obtain ⟨t2, ht2⟩ : ∃ z, tB ([UInt8.ofNat (48 + m)] ++ l) = z := ⟨_, rfl⟩
        have T2 : Hid (Txt t2 (n : Nat)) := by
          refine Txt.nat ?_
          rw [← HD, ← ht2]; exact Tx.of _
        rw [ht1] at hcv
        rw [ht1, ht2] at had
        have B1 : Hid (Below w.heap.size w w1) := HB.out.trans (HB1.out.mono HB.out.size)
        clear ht1 ht2 s1 HD
        go_wp2_with (rw [E1])
        exact ret_str (HR.out t2 _ B1.out T2.out) rfl
  · have K2 : ((n : Int) < 0) = False := eq_false (by omega)
    clear hz
    go_enter Tryz.func137, Tryz.ntmps137
    go_wp2_with fail
    clear K K2 K3 hn
    go_loopw [0, 3] (fun p q wr => ∃ (m : Nat) (s : ByteArray) (l : List UInt8), p = .int .i64 m ∧ q = .string s ∧ m ≤ n ∧ Hid (Tx s l) ∧ Hid (OfI n m l) ∧ l.length + m ≤ n ∧ Hid (Below w.heap.size w wr)) (fun p _ _ => (intOf p).toNat)
    case atStart => exact ⟨n, ⟨#[]⟩, [], rfl, rfl, Nat.le_refl _, rfl, OfI.start n, by simp, Below.refl _ _⟩
    case round =>
      obtain ⟨m, s, l, rfl, rfl, hmn, HT, HI, hll, HB⟩ := hrel
      have hnb := HNB.out
      have hls : l.length ≤ 4611686018427387904 := by omega
      have HLS := Lib.hid hls
      have hm62 : (m : Int) ≤ 4611686018427387904 := by omega
      have HLL := Lib.hid hll
      have HMN := Lib.hid hmn
      clear hnb hls hll hmn
      by_cases h9 : 9 < m
      · have K1 : ((9 : Int) < (m : Int)) = True := eq_true (by omega)
        obtain ⟨d, hd⟩ : ∃ d, m % 10 = d := ⟨_, rfl⟩
        obtain ⟨q, hq⟩ : ∃ q, m / 10 = q := ⟨_, rfl⟩
        have hd10 : d < 10 := by omega
        have hq2 : ((m : Int) / 10) = (q : Int) := by omega
        have hq3 : (m : Int).tdiv 10 = (q : Int) := by rw [Int.tdiv_eq_ediv_of_nonneg (by omega)]; omega
        have hd2 : ((m : Int) % 10) = (d : Int) := by omega
        have htm : (m : Int).tmod 10 = (d : Int) := by rw [Int.tmod_eq_emod_of_nonneg (by omega)]; omega
        have hlq : Hid (q < m) := by unfold Hid; omega
        have hlq2 : Hid (q ≤ n) := by have := HMN.out; unfold Hid; omega
        have hll2 : Hid ((UInt8.ofNat (48 + d) :: l).length + q ≤ n) := by have := HLL.out; unfold Hid; simp; omega
        have HI2 : Hid (OfI n q (UInt8.ofNat (48 + d) :: l)) := by have := HI.out.step h9; rw [hq, hd] at this; exact this
        have hwd : IntKind.i64.wrap (d : Int) = d := by rw [IntKind.wrap_i64]; omega
        have hwq : IntKind.i64.wrap (q : Int) = q := by rw [IntKind.wrap_i64]; omega
        obtain ⟨w1, E1, HB1, s1, X1⟩ := box_ex wr #[.int .u8 (48 + (d : Int))] 5
        have hcv := conv1 (x := 48 + d) (z := 48 + (d : Int)) (by omega) (by omega) X1.out
        have had := (Tx.of [UInt8.ofNat (48 + d)]).add_run (P := Tryz.prog) HT.out (by have := HLS.out; simp; omega)
        obtain ⟨t1, ht1⟩ : ∃ z, tB [UInt8.ofNat (48 + d)] = z := ⟨_, rfl⟩
        obtain ⟨t2, ht2⟩ : ∃ z, tB ([UInt8.ofNat (48 + d)] ++ l) = z := ⟨_, rfl⟩
        have T2 : Hid (Tx t2 (UInt8.ofNat (48 + d) :: l)) := by rw [← ht2]; exact Tx.of _
        rw [ht1] at hcv
        rw [ht1, ht2] at had
        have B1 : Hid (Below w.heap.size w w1) := HB.out.trans (HB1.out.mono HB.out.size)
        clear hd hq ht1 ht2 s1
        go_wp2_with (rw [E1])
        refine ⟨⟨q, t2, _, rfl, rfl, hlq2.out, T2, HI2, hll2.out, B1⟩, ?_⟩
        have := hlq.out
        simp [intOf]; omega
      · have K1 : ((9 : Int) < (m : Int)) = False := eq_false (by omega)
        have hm9 : m ≤ 9 := by omega
        have HD := HI.out.done hm9
        obtain ⟨w1, E1, HB1, s1, X1⟩ := box_ex wr #[.int .u8 (48 + (m : Int))] 5
        have hcv := conv1 (x := 48 + m) (z := 48 + (m : Int)) (by omega) (by omega) X1.out
        have had := (Tx.of [UInt8.ofNat (48 + m)]).add_run (P := Tryz.prog) HT.out (by have := HLS.out; simp; omega)
        obtain ⟨t1, ht1⟩ : ∃ z, tB [UInt8.ofNat (48 + m)] = z := ⟨_, rfl⟩
        obtain ⟨t2, ht2⟩ : ∃ z, tB ([UInt8.ofNat (48 + m)] ++ l) = z := ⟨_, rfl⟩
        have T2 : Hid (Txt t2 (n : Nat)) := by
          refine Txt.nat ?_
          rw [← HD, ← ht2]; exact Tx.of _
        rw [ht1] at hcv
        rw [ht1, ht2] at had
        have B1 : Hid (Below w.heap.size w w1) := HB.out.trans (HB1.out.mono HB.out.size)
        clear ht1 ht2 s1 HD
        go_wp2_with (rw [E1])
        exact ret_str (HR.out t2 _ B1.out T2.out) rfl
set_option maxRecDepth 100000 in
set_option maxHeartbeats 4000000 in
theorem xof_any (n : Int) (h0 : -4611686018427387904 ≤ n) (h1 : n ≤ 4611686018427387904) (w : World) (R : Ending → World → Prop) (hR : ∀ r w', Below w.heap.size w w' → Txt r n → R (.returned (.string r)) w') :
    Calls Tryz.prog 137 #[.int .i64 n] w R := by
  by_cases hneg : n < 0
  · have HR := Lib.hid hR
    clear hR
    have K : (n == -n) = false := by simp; omega
    have K2 : (n < 0) = True := eq_true hneg
    obtain ⟨m, hm⟩ : ∃ m : Nat, -n = m := ⟨(-n).toNat, by omega⟩
    have hm2 : m ≤ 4611686018427387904 := by omega
    have hl : Hid (lenI (m : Nat) ≤ 3000) := Nat.le_trans (lenI_64 (n := (m : Int)) (by omega) (by omega)) (by decide)
    have hmn : Hid (-(m : Int) = n) := by unfold Hid; omega
    have HM2 := Lib.hid hm2
    clear hm2 hneg
    go_enter Tryz.func137, Tryz.ntmps137
    go_wp2_with fail
    refine xof_pos m HM2.out _ rfl _ _ fun r w1 hb1 hr1 => ?_
    have B1 := Lib.hid hb1
    have T1 := Lib.hid hr1
    clear hb1 hr1
    go_wp2_with fail
    with_reducible refine xturned_any r (m : Nat) T1.out hl.out _ _ fun r2 hr2 => ?_
    rw [hmn.out] at hr2
    have T2 := Lib.hid hr2
    clear hr2
    go_wp2_with fail
    exact ret_str (HR.out r2 _ B1.out T2.out) rfl
  · have e : n = (n.toNat : Nat) := by omega
    refine xof_pos n.toNat (by omega) n e w R fun r w' hb hr => hR r w' hb ?_
    rw [e]; exact hr
end Go.Proofs.YtcmhompbdanpdaaGreatDoor
