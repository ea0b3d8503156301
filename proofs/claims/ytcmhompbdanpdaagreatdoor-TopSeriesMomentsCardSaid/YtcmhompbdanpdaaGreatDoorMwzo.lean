/- Rows of bytes; wide of reference 01. paper: digits added or taken away as on paper. (Printed by gen_paper.py.) product: the product of digits in columns. (Printed by gen_product.py.) divided of reference 01. Plus, Minus, Times, Order of reference 01. Parted, Shared of reference 01. (Printed by gen_xparted.py.) Shared of reference 01. (Printed by gen_shared.py.) slash, Split, Lowest, Over, Whole, Signum of reference 02. -/
import Derived.Lib.BufferWrite
import Derived.Test.YtcmhompbdanpdaaGreatDoorWzn
namespace Go.Proofs.YtcmhompbdanpdaaGreatDoor
open Go.RowKit

/-- A block that holds these bytes. -/
def BB (w : World) (b : Nat) (l : List UInt8) : Prop := w.heap[b]? = some (.cells (Lib.byteCells l).toArray 5 (0, 0))
theorem byteCells_get (l : List UInt8) {i : Nat} (h : i < l.length) : (Lib.byteCells l).toArray[i]? = some (.int .u8 ((l.getD i 0).toNat : Int)) := by
  simp [Lib.byteCells, List.getD, h]
theorem BB.cell {w : World} {b : Nat} {l : List UInt8} (h : BB w b l) {i : Nat} (hi : i < l.length) : w.cell? ⟨b, i, none⟩ = some (.int .u8 ((l.getD i 0).toNat : Int)) := cell_at h (byteCells_get l hi)
theorem BB.frozen {w : World} {b : Nat} {l : List UInt8} (h : BB w b l) (i : Nat) : w.frozen? ⟨b, i, none⟩ = false := frozen_at h i
theorem BB.store {w : World} {b : Nat} {l : List UInt8} (h : BB w b l) (i : Nat) (c : UInt8) : BB (w.setCell ⟨b, i, none⟩ (.int .u8 (c.toNat : Int))) b (l.set i c) := by
  refine set_cells h i _ _ ?_
  simp [Lib.byteCells, List.map_set]
theorem BB.below {w w' : World} {b : Nat} {l : List UInt8} (h : BB w b l) (hb : Below w.heap.size w w') : BB w' b l := (hb.block b (lt_of_block h)).trans h
theorem BB.chg {w w' : World} {b c : Nat} {l : List UInt8} (h : BB w b l) (hc : Chg c w w') (hb : b ≠ c) : BB w' b l := (hc.2.2 b hb).trans h
theorem infoU8 : (Tryz.prog.info? 5).map (fun i => (i.zero, i.size, i.bytes)) = some (some (.int .u8 0), 1, 1) := by kernel_rfl
theorem make_bytes (n : Nat) (hn : n ≤ 1000000) (w : World) :
    (Instr.makeSlice 206 (.int .i64 (n : Int)) (.int .i64 (n : Int))).run Tryz.prog w = .ok (.slice (some ⟨w.heap.size, 0, none⟩) n n) (w.alloc (.cells (Lib.byteCells (List.replicate n 0)).toArray 5)) := by
  rw [make_row (P := Tryz.prog) (t := 206) Tryz.underlying206 infoU8 rfl n (by omega) (by omega) w]
  have : reps n (Value.int .u8 0) = Lib.byteCells (List.replicate n 0) := by simp [reps, Lib.byteCells]
  rw [this]
theorem BB.conv {w : World} {b : Nat} {l : List UInt8} (h : BB w b l) (c : Nat) : (convert 206 9 (.slice (some ⟨b, 0, none⟩) l.length c)).run Tryz.prog w = .ok (.string (tB l)) w := by
  have hs : (tB l).size = l.length := (Tx.of l).size
  have hb : Lib.Bytes w b 0 (tB l) := fun i hi => by
    rw [Nat.zero_add, h.cell (by omega), (Tx.of l).get hi]
  have := Lib.run_convert_whole (P := Tryz.prog) w 206 5 9 Tryz.underlying206 Tryz.underlying5 Tryz.underlying9 b 0 _ hb c
  rw [hs] at this
  exact this
theorem fill_set (a b : UInt8) (i n : Nat) (h : i < n) : (List.replicate i a ++ List.replicate (n - i) b).set i a = List.replicate (i + 1) a ++ List.replicate (n - (i + 1)) b := by
  obtain ⟨k, hk⟩ : ∃ k, n - i = k + 1 := ⟨n - i - 1, by omega⟩
  rw [hk, show n - (i + 1) = k from by omega, List.set_append_right _ _ (by simp)]
  simp [List.replicate_succ]
  rw [← List.cons_append, ← List.replicate_succ, List.replicate_succ', List.append_assoc]; rfl
theorem copy_pad {w : World} {b n k : Nat} {l : List UInt8} {a : ByteArray} (h : BB w b (List.replicate n 48)) (ha : Tx a l) (hl : k + l.length = n) :
    ∃ w', (Builtin.copy_ #[206, 9] 3 #[.slice (some ⟨b, k, none⟩) (n - k) (n - k), .string a]).run Tryz.prog w = .ok (goInt a.size) w' ∧ Chg b w w' ∧ BB w' b (padL n l) := by
  have hs := ha.size
  have hr := Lib.run_copy_row_string (P := Tryz.prog) w 206 9 3 5 b k (n - k) (n - k) a _ 5 Tryz.underlying206 (by kernel_rfl) h (by omega) (by simp [Lib.byteCells]; omega)
  have hc := setRow_chg h (((Lib.byteCells (List.replicate n 48)).toArray.toList.take k ++ Lib.byteCells a.data.toList ++ (Lib.byteCells (List.replicate n 48)).toArray.toList.drop (k + a.size)).toArray)
  refine ⟨_, hr, hc.1, ?_⟩
  have e : ((Lib.byteCells (List.replicate n 48)).toArray.toList.take k ++ Lib.byteCells a.data.toList ++ (Lib.byteCells (List.replicate n 48)).toArray.toList.drop (k + a.size)) = Lib.byteCells (padL n l) := by
    rw [show a.data.toList = l from ha, List.drop_eq_nil_of_le (by simp [Lib.byteCells]; omega), List.append_nil]
    unfold padL Lib.byteCells
    rw [List.map_append, show n - l.length = k from by omega]
    simp
    omega
  have h2 := hc.2
  rw [e] at h2
  unfold BB
  rw [e]
  exact h2
set_option maxRecDepth 100000 in
set_option maxHeartbeats 4000000 in
theorem xwide_any (a : ByteArray) (l : List UInt8) (n : Nat) (z : Int) (ez : z = n) (ha : Tx a l) (hl : l.length ≤ n) (h0 : l ≠ []) (hn : n ≤ 1000000) (w : World) (R : Ending → World → Prop) (hR : ∀ r w', Below w.heap.size w w' → Tx r (padL n l) → R (.returned (.string r)) w') :
    Calls Tryz.prog 233 #[.string a, .int .i64 z] w R := by
  subst ez
  have HR := Lib.hid hR
  have HA := Lib.hid ha
  have hs := ha.size
  have hp := List.length_pos_iff.2 h0
  have hmk := make_bytes n hn w
  obtain ⟨b, hb⟩ : ∃ z, w.heap.size = z := ⟨_, rfl⟩
  obtain ⟨w1, E1, HB1, s1, X1⟩ := box_ex w (Lib.byteCells (List.replicate n 0)).toArray 5
  rw [E1] at hmk
  rw [hb] at HB1 X1 HR hmk
  have S1 : Hid (b < w1.heap.size) := by rw [← hb]; exact s1
  obtain ⟨k, hk⟩ : ∃ k, n - l.length = k := ⟨_, rfl⟩
  have hkl : k + a.size = n := by omega
  have hkn : k < n := by omega
  have hkz : (n : Int) - (a.size : Int) = (k : Int) := by omega
  have HKL : Hid (k + l.length = n) := by unfold Hid; omega
  have X0 : Hid (BB w1 b (List.replicate 0 48 ++ List.replicate (n - 0) 0)) := by unfold Hid BB; simpa using X1.out
  have g1 : (0 : Int) ≤ (k : Int) := by omega
  have g2 : (k : Int) ≤ (n : Int) := by omega
  clear hR ha hl h0 hp hk E1 X1 s1 hs hkl
  go_enter Tryz.func233, Tryz.ntmps233
  go_wp2_with fail
  go_loopw [6] (fun i wr => ∃ j : Nat, i = .int .i64 j ∧ j ≤ n ∧ Hid (Below b w wr) ∧ Hid (BB wr b (List.replicate j 48 ++ List.replicate (n - j) 0)) ∧ Hid (b < wr.heap.size)) (fun i _ => n - (intOf i).toNat)
  case atStart => exact ⟨0, rfl, Nat.zero_le _, HB1, X0, S1⟩
  case round =>
    obtain ⟨j, rfl, hj, HB, HX, HS⟩ := hrel
    by_cases hlt : j < n
    · have K1 : ((j : Int) < (n : Int)) = True := eq_true (by omega)
      have c0 := HX.out.cell (i := j) (by simp; omega)
      have fz := HX.out.frozen j
      obtain ⟨w2, E2⟩ : ∃ z, wr.setCell ⟨b, j, none⟩ (.int .u8 48) = z := ⟨_, rfl⟩
      have X2 : Hid (BB w2 b (List.replicate (j + 1) 48 ++ List.replicate (n - (j + 1)) 0)) := by
        rw [← E2, ← fill_set 48 0 j n hlt]
        exact HX.out.store j 48
      have C2 : Hid (Chg b wr w2) := by rw [← E2]; exact (Chg.refl _ _).setCell _ _
      have B2 : Hid (Below b w w2) := HB.out.trans C2.out.1
      have S2 : Hid (b < w2.heap.size) := by unfold Hid; rw [C2.out.2.1]; exact HS.out
      go_wp2_with (rw [E2])
      exact ⟨⟨j + 1, by go_num, by omega, B2, X2, S2⟩, by simp [intOf]; omega⟩
    · have K1 : ((j : Int) < (n : Int)) = False := eq_false (by omega)
      obtain rfl : j = n := by omega
      have X3 : Hid (BB wr b (List.replicate j 48)) := by have := HX.out; rw [Nat.sub_self, List.replicate_zero, List.append_nil] at this; exact this
      obtain ⟨w4, hcp, hc4, hb4⟩ := copy_pad X3.out HA.out HKL.out
      have B4 : Hid (Below b w w4) := HB.out.trans hc4.1
      have X4 := Lib.hid hb4
      have hcv := X4.out.conv j
      rw [pad_len (by have := HKL.out; omega)] at hcv
      obtain ⟨r, hr⟩ : ∃ z, tB (padL j l) = z := ⟨_, rfl⟩
      have T4 : Hid (Tx r (padL j l)) := by rw [← hr]; exact Tx.of _
      rw [hr] at hcv
      clear hb4 hc4 hr
      go_wp2_with fail
      exact ret_str (HR.out r _ B4.out T4.out) rfl
end Go.Proofs.YtcmhompbdanpdaaGreatDoor
namespace Go.Proofs.YtcmhompbdanpdaaGreatDoor
open Go.RowKit

theorem xcolumn_z (x y c : Nat) (add : Bool) (zx zy zc : Int) (ex : zx = x) (ey : zy = y) (ec : zc = c) (hx : 48 ≤ x ∧ x ≤ 57) (hy : 48 ≤ y ∧ y ≤ 57) (hc : c ≤ 1) (w : World) (R : Ending → World → Prop)
   (hR : ∀ zd ze : Int, Hid (zd = ((48 + (colD (x - 48) (y - 48) c add).1 : Nat) : Int)) → Hid (ze = ((colD (x - 48) (y - 48) c add).2 : Nat)) → R (.returned (.tuple #[.int .u8 zd, .int .i64 ze])) w) :
    Calls Tryz.prog 234 #[.int .u8 zx, .int .u8 zy, .int .i64 zc, .bool add] w R :=
  xcolumn_any x y c add zx zy zc ex ey ec hx hy hc w R (hR _ _ rfl rfl)
theorem zero_set (c : UInt8) (k : Nat) (o : List UInt8) : (List.replicate (k + 1) 0 ++ o).set k c = List.replicate k 0 ++ c :: o := by
  rw [List.set_append_left _ _ (by simp)]
  rw [List.replicate_succ', List.set_append_right _ _ (by simp)]
  simp
theorem pap_fits {u v n : Nat} (hn : max (Lib.decDigits u).length (Lib.decDigits v).length + 1 = n) : u + v < 10 ^ n := by
  have h1 := dv_lt (dgs_dec u)
  have h2 := dv_lt (dgs_dec v)
  rw [dv_dec] at h1 h2
  have h3 : u < 10 ^ (n - 1) := Nat.lt_of_lt_of_le h1 (Nat.pow_le_pow_right (by decide) (by omega))
  have h4 : v < 10 ^ (n - 1) := Nat.lt_of_lt_of_le h2 (Nat.pow_le_pow_right (by decide) (by omega))
  have e : (10 : Nat) ^ n = 10 * 10 ^ (n - 1) := by rw [Nat.mul_comm, ← Nat.pow_succ]; congr 1; omega
  omega
set_option maxRecDepth 100000 in
set_option maxHeartbeats 8000000 in
theorem xpaper_any (a b : ByteArray) (u v : Nat) (add : Bool) (ha : Txt a (u : Nat)) (hb : Txt b (v : Nat)) (hu : lenI (u : Nat) ≤ 3000) (hv : lenI (v : Nat) ≤ 3000) (hs : add = false → v ≤ u) (w : World) (R : Ending → World → Prop)
   (hR : ∀ r w', Below w.heap.size w w' → Txt r ((if add = true then u + v else u - v : Nat) : Int) → R (.returned (.string r)) w') :
    Calls Tryz.prog 207 #[.string a, .string b, .bool add] w R := by
  have HR := Lib.hid hR
  have HA : Hid (Tx a (Lib.decDigits u)) := Txt.dec ha
  have HB : Hid (Tx b (Lib.decDigits v)) := Txt.dec hb
  have la := HA.out.size
  have lb := HB.out.size
  have lu : (Lib.decDigits u).length ≤ 3000 := hu
  have lv : (Lib.decDigits v).length ≤ 3000 := hv
  obtain ⟨n, hn⟩ : ∃ n, max (Lib.decDigits u).length (Lib.decDigits v).length + 1 = n := ⟨_, rfl⟩
  have hn3 : n ≤ 3001 := by omega
  have KMX : max (a.size : Int) (b.size : Int) + 1 = (n : Int) := by omega
  have KMX2 : (if (a.size : Int) < (b.size : Int) then (b.size : Int) else (a.size : Int)) + 1 = (n : Int) := by split <;> omega
  have sa : a.size ≤ 3000 := by omega
  have sb : b.size ≤ 3000 := by omega
  have lua : Hid ((Lib.decDigits u).length ≤ n) := by unfold Hid; omega
  have lub : Hid ((Lib.decDigits v).length ≤ n) := by unfold Hid; omega
  have hfit : Hid (if add = true then dv (padL n (Lib.decDigits u)) + dv (padL n (Lib.decDigits v)) < 10 ^ n else dv (padL n (Lib.decDigits v)) ≤ dv (padL n (Lib.decDigits u))) := by
    unfold Hid
    rw [dv_pad, dv_pad, dv_dec, dv_dec]
    cases add with
    | true => exact pap_fits hn
    | false => exact hs rfl
  have hnp : Hid (0 < n) := by unfold Hid; omega
  clear hR ha hb hu hv hs la lb lu lv hn
  go_enter Tryz.func207, Tryz.ntmps207
  go_wp2_with fail
  with_reducible refine xwide_any a _ n _ (by omega) HA.out lua.out (dec_ne u) (by omega) _ _ fun a1 w1 hb1 ht1 => ?_
  have B1 := Lib.hid hb1
  have T1 := Lib.hid ht1
  clear hb1 ht1
  go_wp2_with fail
  with_reducible refine xwide_any b _ n _ (by omega) HB.out lub.out (dec_ne v) (by omega) _ _ fun b1 w2 hb2 ht2 => ?_
  have B2 : Hid (Below w.heap.size w w2) := B1.out.trans (hb2.mono B1.out.size)
  have T2 := Lib.hid ht2
  clear hb2 ht2
  obtain ⟨A, hA⟩ : ∃ z, padL n (Lib.decDigits u) = z := ⟨_, rfl⟩
  obtain ⟨Bd, hBd⟩ : ∃ z, padL n (Lib.decDigits v) = z := ⟨_, rfl⟩
  have dA : Hid (Dgs A) := by rw [← hA]; exact dgs_pad (dgs_dec u)
  have dB : Hid (Dgs Bd) := by rw [← hBd]; exact dgs_pad (dgs_dec v)
  have lA : Hid (A.length = n) := by rw [← hA]; exact pad_len lua.out
  have lB : Hid (Bd.length = n) := by rw [← hBd]; exact pad_len lub.out
  have vA : Hid (dv A = u) := by rw [← hA]; unfold Hid; rw [dv_pad, dv_dec]
  have vB : Hid (dv Bd = v) := by rw [← hBd]; unfold Hid; rw [dv_pad, dv_dec]
  rw [hA] at T1 hfit
  rw [hBd] at T2 hfit
  have s1 : a1.size = n := T1.out.size.trans lA.out
  have s2 : b1.size = n := T2.out.size.trans lB.out
  have S1 := Lib.hid s1
  have S2 := Lib.hid s2
  have hmk := make_bytes n (by omega) w2
  obtain ⟨bo, hbo⟩ : ∃ z, w2.heap.size = z := ⟨_, rfl⟩
  obtain ⟨w3, E3, HB3, s3, X3⟩ := box_ex w2 (Lib.byteCells (List.replicate n 0)).toArray 5
  rw [E3] at hmk
  rw [hbo] at hmk HB3 X3
  have S3 : Hid (bo < w3.heap.size) := by rw [← hbo]; exact s3
  have B3 : Hid (Below w.heap.size w w3) := B2.out.trans (HB3.out.mono (by rw [← hbo]; exact B2.out.size))
  have LW : Hid (w.heap.size ≤ bo) := by rw [← hbo]; exact B2.out.size
  have X0 : Hid (BB w3 bo (List.replicate n 0 ++ [])) := by unfold Hid BB; rw [List.append_nil]; exact X3.out
  clear s3 E3 X3 KMX KMX2 sa sb hA hBd s1 s2
  go_wp2_with fail
  clear hmk hbo
  go_loopw [9, 10] (fun cr i wr => ∃ (z : Int) (j k c : Nat) (ob : List UInt8), i = .int .i64 z ∧ cr = .int .i64 c ∧ z + 1 = j ∧ j + k = n ∧ c ≤ 1 ∧ Hid (PapI A Bd add k ob c) ∧ Hid (Below w.heap.size w wr) ∧ Hid (BB wr bo (List.replicate j 0 ++ ob)) ∧ Hid (bo < wr.heap.size)) (fun _ i _ => (intOf i + 1).toNat)
  case atStart => exact ⟨(n : Int) - 1, n, 0, 0, [], by go_num, rfl, by omega, by omega, by omega, PapI.start A Bd add, B3, X0, S3⟩
  case round =>
    obtain ⟨z, j, k, c, ob, rfl, rfl, hz, hjk, hc, HI, HBr, HX, HS⟩ := hrel
    cases j with
    | zero =>
      have hz1 : z = -1 := by omega
      subst hz1
      obtain rfl : k = n := by omega
      have hob : Hid (bareL ob = Lib.decDigits (if add = true then dv A + dv Bd else dv A - dv Bd)) := HI.out.done lA.out lB.out hfit.out hnp.out
      have hol := HI.out.len
      have hcv := HX.out.conv k
      rw [List.replicate_zero, List.nil_append, hol] at hcv
      obtain ⟨r0, hr0⟩ : ∃ z, tB ob = z := ⟨_, rfl⟩
      have T0 : Hid (Tx r0 ob) := by rw [← hr0]; exact Tx.of _
      rw [hr0] at hcv
      clear hol hr0 hz
      go_wp2_with fail
      with_reducible refine xbare_any r0 ob T0.out _ _ fun r hr => ?_
      rw [hob.out, vA.out, vB.out] at hr
      have TT : Hid (Txt r ((if add = true then u + v else u - v : Nat) : Int)) := Txt.nat hr
      clear hr
      go_wp2_with fail
      exact ret_str (HR.out r _ HBr.out TT.out) rfl
    | succ i =>
      have hz1 : z = (i : Int) := by omega
      subst hz1
      have hin : i < n := by omega
      have e1 : A.length - (k + 1) = i := by rw [lA.out]; omega
      have e2 : Bd.length - (k + 1) = i := by rw [lB.out]; omega
      have hst := HI.out.step dA.out dB.out (lA.out.trans lB.out.symm) (by rw [lA.out]; omega)
      rw [e1, e2] at hst
      have ga := dA.out.at (i := i) (by rw [lA.out]; omega)
      have gb := dB.out.at (i := i) (by rw [lB.out]; omega)
      have h1 : i < a1.size := by rw [S1.out]; omega
      have h2 : i < b1.size := by rw [S2.out]; omega
      have ea : a1[i] = A.getD i 0 := T1.out.get h1
      have eb : b1[i] = Bd.getD i 0 := T2.out.get h2
      have xa : Hid ((a1[i].toNat : Int) = ((A.getD i 0).toNat : Nat)) := by unfold Hid; rw [ea]
      have xb : Hid ((b1[i].toNat : Int) = ((Bd.getD i 0).toNat : Nat)) := by unfold Hid; rw [eb]
      obtain ⟨x, hx⟩ : ∃ z, (A.getD i 0).toNat = z := ⟨_, rfl⟩
      obtain ⟨y, hy⟩ : ∃ z, (Bd.getD i 0).toNat = z := ⟨_, rfl⟩
      rw [hx] at hst ga xa
      rw [hy] at hst gb xb
      have HST := Lib.hid hst
      have hck := (colD_ok (add := add) (x := x - 48) (y := y - 48) (c := c) (by omega) (by omega) hc)
      obtain ⟨d, hd⟩ : ∃ z, (colD (x - 48) (y - 48) c add).1 = z := ⟨_, rfl⟩
      obtain ⟨c2, hc2⟩ : ∃ z, (colD (x - 48) (y - 48) c add).2 = z := ⟨_, rfl⟩
      rw [hd, hc2] at hck HST
      have HD := Lib.hid hd
      have HC2 := Lib.hid hc2
      have c0 := HX.out.cell (i := i) (by simp; omega)
      have fz := HX.out.frozen i
      have uB : Hid (((UInt8.ofNat (48 + d)).toNat : Int) = ((48 + d : Nat) : Int)) := by unfold Hid; rw [UInt8.toNat_ofNat', Nat.mod_eq_of_lt (by omega)]
      have B0 : Hid (Below w.heap.size w wr.drew) := HBr.out.drew
      have X0' : Hid (BB wr.drew bo (List.replicate (i + 1) 0 ++ ob)) := HX.out
      have S0' : Hid (bo < wr.drew.heap.size) := HS.out
      have Kin : ((i : Int) < (n : Int)) = True := eq_true (by omega)
      clear hst hx hy hd hc2 ea eb hz
      go_wp2_with fail
      refine regionL [0, 1, 2, 3, 4, 5, 6, 7, 8, 9] (fun _ => True) (by kernel_rfl) (trivial) (fun Qn hPQ hQn hS0 => ?_)
      iterate 10 (refine takeL (v := ?_) rfl rfl (by kernel_rfl) (by kernel_rfl) (by kernel_rfl) hPQ hS0 (by kernel_rfl) ?_ ?_; rotate_left; (focus (intro w hSw; (try dsimp only at hSw); go_simp; (try with_reducible rfl))); (try simp only [Act.put, List.setIfInBounds_toArray, List.set_cons_zero, List.set_cons_succ]))
      refine ofL (wpAnyH_ready (rs := [10]) (by kernel_rfl) (by simp) ?_)
      refine AllReadyH.cons (o := _) rfl (fun K hK => ?_) AllReadyH.nil
      go_simp
      with_reducible refine xcolumn_z x y c add _ _ _ xa.out xb.out rfl ga gb hc _ _ fun zd ze hzd hze => ?_
      have ed : Hid (zd = ((48 + d : Nat) : Int)) := by unfold Hid; rw [hzd.out, HD.out]
      have ee : Hid (ze = (c2 : Nat)) := by unfold Hid; rw [hze.out, HC2.out]
      obtain ⟨w5, E5⟩ : ∃ z, wr.setCell ⟨bo, i, none⟩ (.int .u8 zd) = z := ⟨_, rfl⟩
      have X5 : Hid (BB w5.drew bo (List.replicate i 0 ++ UInt8.ofNat (48 + d) :: ob)) := by
        rw [← E5, ed.out, ← uB.out, ← zero_set]
        exact HX.out.store i _
      have C5 : Hid (Chg bo wr w5) := by rw [← E5]; exact (Chg.refl _ _).setCell _ _
      have B5 : Hid (Below w.heap.size w w5.drew) := HBr.out.trans ((C5.out.1.mono LW.out).drew)
      have S5 : Hid (bo < w5.drew.heap.size) := by unfold Hid; rw [show w5.drew.heap.size = wr.heap.size from C5.out.2.1]; exact HS.out
      refine hK.out _ _ (trivial) (fun hS1 => toL [11, 12, 13, 14] ?_)
      clear hK K hS0
      (try simp only [Act.put, List.setIfInBounds_toArray, List.set_cons_zero, List.set_cons_succ])
      iterate 4 (refine takeL (v := ?_) rfl rfl (by kernel_rfl) (by kernel_rfl) (by kernel_rfl) hPQ hS1 (by kernel_rfl) ?_ ?_; rotate_left; (focus (intro w hSw; (try dsimp only at hSw); go_simp; (try with_reducible rfl))); (try simp only [Act.put, List.setIfInBounds_toArray, List.set_cons_zero, List.set_cons_succ]))
      refine ofL (wpAnyH_ready (rs := [15]) (by kernel_rfl) (by simp) ?_)
      refine AllReadyH.cons (o := _) rfl (fun K hK => ?_) AllReadyH.nil
      go_simp
      (try rw [E5])
      refine hK.out _ _ (trivial) (fun hS2 => toL [16] ?_)
      clear hK K hS1
      (try simp only [Act.put, List.setIfInBounds_toArray, List.set_cons_zero, List.set_cons_succ])
      iterate 1 (refine takeL (v := ?_) rfl rfl (by kernel_rfl) (by kernel_rfl) (by kernel_rfl) hPQ hS2 (by kernel_rfl) ?_ ?_; rotate_left; (focus (intro w hSw; (try dsimp only at hSw); go_simp; (try with_reducible rfl))); (try simp only [Act.put, List.setIfInBounds_toArray, List.set_cons_zero, List.set_cons_succ]))
      refine ofL (wpAnyH_done (by kernel_rfl) (hQn.out _ _ ?_) _)
      clear hS2 hPQ hQn Qn
      go_wp2_with fail
      refine ⟨⟨(i : Int) - 1, i, k + 1, c2, UInt8.ofNat (48 + d) :: ob, by go_num, ?_, by omega, by omega, hck.2, HST, B5, X5, S5⟩, ?_⟩
      · rw [ee.out]
      · simp [intOf]
end Go.Proofs.YtcmhompbdanpdaaGreatDoor
namespace Go.Proofs.YtcmhompbdanpdaaGreatDoor
open Go.RowKit

/-- A block that holds these naturals. -/
def IB (w : World) (b : Nat) (l : List Nat) : Prop := w.heap[b]? = some (.cells (l.map wV).toArray 3 (0, 0))
theorem IB.cell {w : World} {b : Nat} {l : List Nat} (h : IB w b l) {i : Nat} (hi : i < l.length) : w.cell? ⟨b, i, none⟩ = some (.int .i64 ((l.getD i 0 : Nat) : Int)) := cell_at h (by simp [List.getD, hi, wV])
theorem IB.frozen {w : World} {b : Nat} {l : List Nat} (h : IB w b l) (i : Nat) : w.frozen? ⟨b, i, none⟩ = false := frozen_at h i
theorem IB.store {w : World} {b : Nat} {l : List Nat} (h : IB w b l) (i x : Nat) : IB (w.setCell ⟨b, i, none⟩ (.int .i64 (x : Int))) b (l.set i x) := by
  refine set_cells h i _ _ ?_
  simp [List.map_set, wV]
theorem IB.below {w w' : World} {b : Nat} {l : List Nat} (h : IB w b l) (hb : Below w.heap.size w w') : IB w' b l := (hb.block b (lt_of_block h)).trans h
theorem IB.chg {w w' : World} {b c : Nat} {l : List Nat} (h : IB w b l) (hc : Chg c w w') (hb : b ≠ c) : IB w' b l := (hc.2.2 b hb).trans h
theorem infoI57 : (Tryz.prog.info? 3).map (fun i => (i.zero, i.size, i.bytes)) = some (some (.int .i64 0), 1, 8) := by kernel_rfl
theorem make_ints (n : Nat) (hn : n ≤ 1000000) (w : World) :
    (Instr.makeSlice 23 (.int .i64 (n : Int)) (.int .i64 (n : Int))).run Tryz.prog w = .ok (.slice (some ⟨w.heap.size, 0, none⟩) n n) (w.alloc (.cells ((List.replicate n 0).map wV).toArray 3)) := by
  rw [make_row (P := Tryz.prog) (t := 23) Tryz.underlying23 infoI57 rfl n (by omega) (by omega) w]
  have : reps n (Value.int .i64 0) = (List.replicate n 0).map wV := by simp [reps, wV]
  rw [this]
theorem dig_prod {x y : Nat} (hx : x ≤ 9) (hy : y ≤ 9) : x * y ≤ 81 := Nat.mul_le_mul hx hy
set_option maxRecDepth 100000 in
set_option maxHeartbeats 8000000 in
theorem xproduct_any (a b : ByteArray) (u v : Nat) (ha : Txt a (u : Nat)) (hb : Txt b (v : Nat)) (hu : lenI (u : Nat) ≤ 3000) (hv : lenI (v : Nat) ≤ 3000) (w : World) (R : Ending → World → Prop)
   (hR : ∀ r w', Below w.heap.size w w' → Txt r ((u * v : Nat) : Int) → R (.returned (.string r)) w') :
    Calls Tryz.prog 227 #[.string a, .string b] w R := by
  have HR := Lib.hid hR
  have HA : Hid (Tx a (Lib.decDigits u)) := Txt.dec ha
  have HB : Hid (Tx b (Lib.decDigits v)) := Txt.dec hb
  obtain ⟨A, hA⟩ : ∃ z, Lib.decDigits u = z := ⟨_, rfl⟩
  obtain ⟨Bd, hBd⟩ : ∃ z, Lib.decDigits v = z := ⟨_, rfl⟩
  have dA : Hid (Dgs A) := by rw [← hA]; exact dgs_dec u
  have dB : Hid (Dgs Bd) := by rw [← hBd]; exact dgs_dec v
  have vA : Hid (dv A = u) := by rw [← hA]; exact dv_dec u
  have vB : Hid (dv Bd = v) := by rw [← hBd]; exact dv_dec v
  have nA : Hid (0 < A.length) := by rw [← hA]; exact List.length_pos_iff.2 (dec_ne u)
  have lu : A.length ≤ 3000 := by rw [← hA]; exact hu
  have lv : Bd.length ≤ 3000 := by rw [← hBd]; exact hv
  rw [hA] at HA
  rw [hBd] at HB
  have SA : Hid (a.size = A.length) := HA.out.size
  have SB : Hid (b.size = Bd.length) := HB.out.size
  have sa : a.size ≤ 3000 := by rw [SA.out]; exact lu
  have sb : b.size ≤ 3000 := by rw [SB.out]; exact lv
  obtain ⟨n, hn⟩ : ∃ n, a.size + b.size = n := ⟨_, rfl⟩
  have hn2 : (a.size : Int) + (b.size : Int) = (n : Int) := by omega
  have hn3 : n ≤ 6000 := by omega
  have HN : Hid (A.length + Bd.length = n) := by unfold Hid; rw [← SA.out, ← SB.out]; exact hn
  have hmk := make_ints n (by omega) w
  obtain ⟨bc, hbc⟩ : ∃ z, w.heap.size = z := ⟨_, rfl⟩
  obtain ⟨w1, E1, HB1, s1, X1⟩ := box_ex w ((List.replicate n 0).map wV).toArray 3
  rw [E1] at hmk
  rw [hbc] at hmk HB1 X1 HR
  have S1 : Hid (bc < w1.heap.size) := by rw [← hbc]; exact s1
  have X0 : Hid (IB w1 bc (List.replicate (A.length + Bd.length) 0)) := by rw [HN.out]; exact X1
  have HBC := Lib.hid hbc
  have LA := Lib.hid lu
  have HNN := Lib.hid hn
  clear hR ha hb hu hv hA hBd lu lv hn E1 X1 s1
  go_enter Tryz.func227, Tryz.ntmps227
  go_wp2_with fail
  clear hmk hbc hn2
  go_loopw [6] (fun i wr => ∃ (j : Nat) (cs : List Nat), i = .int .i64 j ∧ j ≤ a.size ∧ Hid (ColI A Bd j 0 cs) ∧ Hid (Below bc w wr) ∧ Hid (IB wr bc cs) ∧ Hid (bc < wr.heap.size)) (fun i _ => a.size - (intOf i).toNat)
  case atStart => exact ⟨0, _, rfl, Nat.zero_le _, ColI.start A Bd, HB1, X0, S1⟩
  case round =>
    obtain ⟨j, cs, rfl, hj, HI, HBr, HX, HS⟩ := hrel
    by_cases hlt : j < a.size
    · have K1 : ((j : Int) < (a.size : Int)) = True := eq_true (by omega)
      go_wp2_with fail
      go_loopw [7] (fun kk wq => ∃ (k : Nat) (ds : List Nat), kk = .int .i64 k ∧ k ≤ b.size ∧ Hid (ColI A Bd j k ds) ∧ Hid (Below bc w wq) ∧ Hid (IB wq bc ds) ∧ Hid (bc < wq.heap.size)) (fun kk _ => b.size - (intOf kk).toNat)
      case atStart => exact ⟨0, cs, rfl, Nat.zero_le _, HI, HBr, HX, HS⟩
      case round =>
        obtain ⟨k, ds, rfl, hk, HJ, HBq, HY, HSq⟩ := hrel
        by_cases hkl : k < b.size
        · have K2 : ((k : Int) < (b.size : Int)) = True := eq_true (by omega)
          have hjA : j < A.length := by rw [← SA.out]; exact hlt
          have hkB : k < Bd.length := by rw [← SB.out]; exact hkl
          have hst := HJ.out.step dA.out dB.out hjA hkB
          have hln := HJ.out.len
          obtain ⟨p, hp⟩ : ∃ p, j + k + 1 = p := ⟨_, rfl⟩
          have hpl : p < ds.length := by rw [hln]; omega
          have hpi : (j : Int) + (k : Int) + 1 = (p : Int) := by omega
          have hpn : p < n := by rw [hln, HN.out] at hpl; exact hpl
          have hbd := HJ.out.bnd p hpl
          have hbd2 : ds.getD p 0 ≤ 300000 := by
            refine Nat.le_trans hbd ?_
            have h0 : j ≤ 3000 := by omega
            split <;> omega
          have c0 : wr.drew.cell? ⟨bc, p, none⟩ = some (.int .i64 ((ds.getD p 0 : Nat) : Int)) := HY.out.cell hpl
          have fz := HY.out.frozen p
          have d1 := dAt_le dA.out hjA
          have d2 := dAt_le dB.out hkB
          have g1 := dA.out.at hjA
          have g2 := dB.out.at hkB
          have e1 : a[j] = A.getD j 0 := HA.out.get hlt
          have e2 : b[k] = Bd.getD k 0 := HB.out.get hkl
          rw [← e1] at g1
          rw [← e2] at g2
          have f1 : (a[j].toNat : Int) - 48 = (dAt A j : Nat) := by unfold dAt; rw [← e1]; omega
          have f2 : (b[k].toNat : Int) - 48 = (dAt Bd k : Nat) := by unfold dAt; rw [← e2]; omega
          rw [hp] at hst
          obtain ⟨x, hx⟩ : ∃ z, ds.getD p 0 = z := ⟨_, rfl⟩
          obtain ⟨q, hq⟩ : ∃ z, dAt A j = z := ⟨_, rfl⟩
          obtain ⟨r, hr⟩ : ∃ z, dAt Bd k = z := ⟨_, rfl⟩
          rw [hx] at hst c0 hbd2
          rw [hq] at hst d1 f1
          rw [hr] at hst d2 f2
          obtain ⟨y, hy⟩ : ∃ z, q * r = z := ⟨_, rfl⟩
          have hyb : y ≤ 81 := by rw [← hy]; exact dig_prod d1 d2
          have hy2 : (q : Int) * (r : Int) = (y : Int) := by rw [← hy]; push_cast; rfl
          rw [hy] at hst
          have HST := Lib.hid hst
          obtain ⟨w5, E5⟩ : ∃ z, wr.setCell ⟨bc, p, none⟩ (.int .i64 ((x : Int) + (y : Int))) = z := ⟨_, rfl⟩
          have X5 : Hid (IB w5.drew bc (ds.set p (x + y))) := by rw [← E5]; exact HY.out.store p (x + y)
          have C5 : Hid (Chg bc wr w5) := by rw [← E5]; exact (Chg.refl _ _).setCell _ _
          have B5 : Hid (Below bc w w5.drew) := HBq.out.trans C5.out.1.drew
          have S5 : Hid (bc < w5.drew.heap.size) := by unfold Hid; rw [show w5.drew.heap.size = wr.heap.size from C5.out.2.1]; exact HSq.out
          have Kp : ((p : Int) < (n : Int)) = True := eq_true (by omega)
          have KJ1 : IntKind.i64.wrap ((j : Int) + (k : Int)) = (j : Int) + (k : Int) := by rw [IntKind.wrap_i64]; omega
          have KJ3 : IntKind.i64.wrap (p : Int) = (p : Int) := by rw [IntKind.wrap_i64]; omega
          have KU1 : IntKind.u8.wrap (q : Int) = (q : Int) := by rw [IntKind.wrap_u8]; omega
          have KU2 : IntKind.u8.wrap (r : Int) = (r : Int) := by rw [IntKind.wrap_u8]; omega
          have KI1 : IntKind.i64.wrap (q : Int) = (q : Int) := by rw [IntKind.wrap_i64]; omega
          have KI2 : IntKind.i64.wrap (r : Int) = (r : Int) := by rw [IntKind.wrap_i64]; omega
          have KY : IntKind.i64.wrap (y : Int) = (y : Int) := by rw [IntKind.wrap_i64]; omega
          have KXY : IntKind.i64.wrap ((x : Int) + (y : Int)) = (x : Int) + (y : Int) := by rw [IntKind.wrap_i64]; omega
          clear hst hln hp hpl hbd e1 e2 hx hq hr hy
          go_wp2_with fail
          refine regionL [0, 1, 2, 3, 4, 5, 7, 8, 9, 10, 11, 12, 13, 14, 15, 16, 17] (fun _ => True) (by kernel_rfl) (trivial) (fun Qn hPQ hQn hS0 => ?_)
          iterate 17 (refine takeL (v := ?_) rfl rfl (by kernel_rfl) (by kernel_rfl) (by kernel_rfl) hPQ hS0 (by kernel_rfl) ?_ ?_; rotate_left; (focus (intro w hSw; (try dsimp only at hSw); go_simp; (try with_reducible rfl))); (try simp only [Act.put, List.setIfInBounds_toArray, List.set_cons_zero, List.set_cons_succ]))
          refine ofL (wpAnyH_ready (rs := [6]) (by kernel_rfl) (by simp) ?_)
          refine AllReadyH.cons (o := _) rfl (fun K hK => ?_) AllReadyH.nil
          go_simp
          refine hK.out _ _ (trivial) (fun hS1 => toL [18, 19] ?_)
          clear hK K hS0
          (try simp only [Act.put, List.setIfInBounds_toArray, List.set_cons_zero, List.set_cons_succ])
          iterate 2 (refine takeL (v := ?_) rfl rfl (by kernel_rfl) (by kernel_rfl) (by kernel_rfl) hPQ hS1 (by kernel_rfl) ?_ ?_; rotate_left; (focus (intro w hSw; (try dsimp only at hSw); go_simp; (try with_reducible rfl))); (try simp only [Act.put, List.setIfInBounds_toArray, List.set_cons_zero, List.set_cons_succ]))
          refine ofL (wpAnyH_ready (rs := [20]) (by kernel_rfl) (by simp) ?_)
          refine AllReadyH.cons (o := _) rfl (fun K hK => ?_) AllReadyH.nil
          go_simp
          (try rw [E5])
          refine hK.out _ _ (trivial) (fun hS2 => toL [] ?_)
          clear hK K hS1
          (try simp only [Act.put, List.setIfInBounds_toArray, List.set_cons_zero, List.set_cons_succ])
          refine ofL (wpAnyH_done (by kernel_rfl) (hQn.out _ _ ?_) _)
          clear hS2 hPQ hQn Qn
          go_wp2_with fail
          refine ⟨⟨k + 1, ds.set p (x + y), by go_num, by omega, HST, B5, X5, S5⟩, ?_⟩
          simp [intOf]; omega
        · have K2 : ((k : Int) < (b.size : Int)) = False := eq_false (by omega)
          have hkb : k = Bd.length := by rw [← SB.out]; omega
          have HJ2 : Hid (ColI A Bd (j + 1) 0 ds) := by
            have h := HJ.out
            rw [hkb] at h
            exact h.row (by rw [← SA.out]; exact hlt)
          clear hkb
          go_wp2_with fail
          refine ⟨⟨j + 1, ds, by go_num, by omega, HJ2, HBq, HY, HSq⟩, ?_⟩
          simp [intOf]; omega
    · have K1 : ((j : Int) < (a.size : Int)) = False := eq_false (by omega)
      have hja : j = A.length := by rw [← SA.out]; omega
      have HJ : Hid (ColI A Bd A.length 0 cs) := by have := HI.out; rw [hja] at this; exact this
      obtain ⟨hcv, hbnd⟩ := HJ.out.done
      have hln : cs.length = n := by rw [HJ.out.len]; exact HN.out
      have HLN := Lib.hid hln
      have HBN : Hid (∀ j, j < cs.length → cs.getD j 0 ≤ 300000) := fun j hj => Nat.le_trans (hbnd j hj) (by have := LA.out; omega)
      have hvv : Hid (cv cs = u * v) := by unfold Hid; rw [hcv, vA.out, vB.out]
      have hfit : Hid (cv cs < 10 ^ cs.length) := by unfold Hid; rw [hcv, hln, ← HN.out]; exact mul_fits dA.out dB.out
      have hnp : Hid (0 < cs.length) := by unfold Hid; rw [hln, ← HN.out]; have := nA.out; omega
      have hmk := make_bytes n (by omega) wr
      obtain ⟨bo, hbo⟩ : ∃ z, wr.heap.size = z := ⟨_, rfl⟩
      obtain ⟨w3, E3, HB3, s3, X3⟩ := box_ex wr (Lib.byteCells (List.replicate n 0)).toArray 5
      have Y3 := Lib.hid (HX.out.below HB3.out)
      rw [E3] at hmk
      rw [hbo] at hmk HB3 X3
      have S3 : Hid (bo < w3.heap.size) := by rw [← hbo]; exact s3
      have LB : Hid (bc < bo) := by rw [← hbo]; exact HS.out
      have B3 : Hid (Below bc w w3) := HBr.out.trans (HB3.out.mono (Nat.le_of_lt LB.out))
      have X0' : Hid (BB w3 bo (List.replicate n 0 ++ [])) := by unfold Hid BB; rw [List.append_nil]; exact X3.out
      clear hcv hbnd hln hja s3 E3 X3
      go_wp2_with fail
      clear hmk hbo
      go_loopw [9, 10] (fun cr i wq => ∃ (z : Int) (m k c : Nat) (ob : List UInt8), i = .int .i64 z ∧ cr = .int .i64 c ∧ z + 1 = m ∧ m + k = n ∧ c ≤ 300000 ∧ Hid (ComI cs k ob c 300000) ∧ Hid (Below bc w wq) ∧ Hid (BB wq bo (List.replicate m 0 ++ ob)) ∧ Hid (IB wq bc cs)) (fun _ i _ => (intOf i + 1).toNat)
      case atStart => exact ⟨(n : Int) - 1, n, 0, 0, [], by go_num, rfl, by omega, by omega, by omega, ComI.start cs 300000, B3, X0', Y3⟩
      case round =>
        obtain ⟨z, m, k, c, ob, rfl, rfl, hz, hmk2, hc, HK, HBq, HXq, HYq⟩ := hrel
        cases m with
        | zero =>
          have hz1 : z = -1 := by omega
          subst hz1
          have hkc : k = cs.length := by rw [HLN.out]; omega
          have hob : Hid (bareL ob = Lib.decDigits (cv cs)) := by
            have h := HK.out
            rw [hkc] at h
            exact h.done hfit.out hnp.out
          have hol : ob.length = n := by rw [HK.out.len, hkc]; exact HLN.out
          have hcv := HXq.out.conv n
          rw [List.replicate_zero, List.nil_append, hol] at hcv
          obtain ⟨r0, hr0⟩ : ∃ z, tB ob = z := ⟨_, rfl⟩
          have T0 : Hid (Tx r0 ob) := by rw [← hr0]; exact Tx.of _
          rw [hr0] at hcv
          clear hol hr0 hz hkc
          go_wp2_with fail
          with_reducible refine xbare_any r0 ob T0.out _ _ fun r hr => ?_
          rw [hob.out, hvv.out] at hr
          have TT : Hid (Txt r ((u * v : Nat) : Int)) := Txt.nat hr
          clear hr
          go_wp2_with fail
          exact ret_str (HR.out r _ HBq.out TT.out) rfl
        | succ i =>
          have hz1 : z = (i : Int) := by omega
          subst hz1
          have hin : i < n := by omega
          have hil : i < cs.length := by rw [HLN.out]; exact hin
          have hst := HK.out.step (by rw [HLN.out]; omega) (by rw [show cs.length - (k + 1) = i from by rw [HLN.out]; omega]; exact HBN.out i hil)
          rw [show cs.length - (k + 1) = i from by rw [HLN.out]; omega] at hst
          have c0 := HYq.out.cell hil
          have hxb := HBN.out i hil
          obtain ⟨x, hx⟩ : ∃ z, cs.getD i 0 = z := ⟨_, rfl⟩
          rw [hx] at hst c0 hxb
          obtain ⟨s, hs⟩ : ∃ z, c + x = z := ⟨_, rfl⟩
          have hs2 : (c : Int) + (x : Int) = (s : Int) := by omega
          rw [hs] at hst
          obtain ⟨d, hd⟩ : ∃ z, s % 10 = z := ⟨_, rfl⟩
          obtain ⟨q, hq⟩ : ∃ z, s / 10 = z := ⟨_, rfl⟩
          rw [hd, hq] at hst
          have hd10 : d < 10 := by omega
          have hq2 : ((s : Int) / 10) = (q : Int) := by omega
          have hq3 : (s : Int).tdiv 10 = (q : Int) := by rw [Int.tdiv_eq_ediv_of_nonneg (by omega)]; omega
          have hd2 : ((s : Int) % 10) = (d : Int) := by omega
          have htm : (s : Int).tmod 10 = (d : Int) := by rw [Int.tmod_eq_emod_of_nonneg (by omega)]; omega
          have hqb : Hid (q ≤ 300000) := by unfold Hid; omega
          have hsb : s ≤ 600000 := by omega
          have hwd : IntKind.i64.wrap (d : Int) = d := by rw [IntKind.wrap_i64]; omega
          have hwq : IntKind.i64.wrap (q : Int) = q := by rw [IntKind.wrap_i64]; omega
          have cb := HXq.out.cell (i := i) (by simp; omega)
          have fz := HXq.out.frozen i
          obtain ⟨w5, E5⟩ : ∃ z, wr.setCell ⟨bo, i, none⟩ (.int .u8 (48 + (d : Int))) = z := ⟨_, rfl⟩
          have uB : Hid (((UInt8.ofNat (48 + d)).toNat : Int) = 48 + (d : Int)) := by unfold Hid; rw [UInt8.toNat_ofNat', Nat.mod_eq_of_lt (by omega)]; rfl
          have X5 : Hid (BB w5 bo (List.replicate i 0 ++ UInt8.ofNat (48 + d) :: ob)) := by
            rw [← E5, ← uB.out, ← zero_set]
            exact HXq.out.store i _
          have C5 : Hid (Chg bo wr w5) := by rw [← E5]; exact (Chg.refl _ _).setCell _ _
          have Y5 : Hid (IB w5 bc cs) := HYq.out.chg C5.out (by have := LB.out; omega)
          have B5 : Hid (Below bc w w5) := HBq.out.trans (C5.out.1.mono (Nat.le_of_lt LB.out))
          have Kin : ((i : Int) < (n : Int)) = True := eq_true (by omega)
          have HST := Lib.hid hst
          clear hst hx hs hd hq hz
          go_wp2_with (rw [E5])
          refine ⟨⟨(i : Int) - 1, i, k + 1, q, UInt8.ofNat (48 + d) :: ob, by go_num, rfl, by omega, by omega, hqb.out, HST, B5, X5, Y5⟩, ?_⟩
          simp [intOf]
end Go.Proofs.YtcmhompbdanpdaaGreatDoor
namespace Go.Proofs.YtcmhompbdanpdaaGreatDoor
open Go.RowKit

theorem Tx.one {a : ByteArray} {l : List UInt8} (h : Tx a l) {i : Nat} (hi : i < a.size) : Tx (a.extract i (i + 1)) [l.getD i 0] := by
  have hl : i < l.length := by rw [← h.size]; exact hi
  unfold Tx
  rw [Lib.extract_data, show a.data.toList = l from h, show i + 1 - i = 1 from by omega]
  have e : l.drop i = l[i] :: l.drop (i + 1) := List.drop_eq_getElem_cons hl
  rw [e]
  show [l[i]] = [l.getD i 0]
  simp [List.getD, hl]
theorem one_more {k v r x : Nat} (h : k * v + r = x) (hr : v ≤ r) : (k + 1) * v + (r - v) = x := by rw [Nat.succ_mul]; omega
theorem quot_le {k v r x : Nat} (h : k * v + r = x) (hx : x < 10 * v) : k ≤ 9 := by
  have h1 : k * v < 10 * v := by omega
  have := Nat.lt_of_mul_lt_mul_right h1
  omega
set_option exponentiation.threshold 4000 in
theorem len10 {v x : Nat} (hx : x < 10 * v) (hv : lenI (v : Nat) ≤ 2000) : lenI (x : Nat) ≤ 3000 := by
  rw [lenI_le (by decide), Int.natAbs_natCast] at hv ⊢
  have e : (10 : Nat) ^ 2001 = 10 * 10 ^ 2000 := by rw [Nat.mul_comm, ← Nat.pow_succ]
  have h2 : x < 10 ^ 2001 := by rw [e]; omega
  exact Nat.lt_of_lt_of_le h2 (Nat.pow_le_pow_right (by decide) (by decide))
set_option maxRecDepth 100000 in
set_option maxHeartbeats 8000000 in
theorem xdivided_any (a b : ByteArray) (u v : Nat) (ha : Txt a (u : Nat)) (hb : Txt b (v : Nat)) (hu : lenI (u : Nat) ≤ 3000) (hv : lenI (v : Nat) ≤ 2000) (h0 : v ≠ 0) (w : World) (R : Ending → World → Prop)
   (hR : ∀ r1 r2 w', Below w.heap.size w w' → Txt r1 ((u / v : Nat) : Int) → Txt r2 ((u % v : Nat) : Int) → R (.returned (.tuple #[.string r1, .string r2])) w') :
    Calls Tryz.prog 226 #[.string a, .string b] w R := by
  have HR := Lib.hid hR
  have HA : Hid (Tx a (Lib.decDigits u)) := Txt.dec ha
  have HB := Lib.hid hb
  have HV := Lib.hid hv
  have H0 : Hid (0 < v) := Nat.pos_of_ne_zero h0
  obtain ⟨A, hA⟩ : ∃ z, Lib.decDigits u = z := ⟨_, rfl⟩
  have dA : Hid (Dgs A) := by rw [← hA]; exact dgs_dec u
  have vA : Hid (dv A = u) := by rw [← hA]; exact dv_dec u
  have nA : Hid (A ≠ []) := by rw [← hA]; exact dec_ne u
  rw [hA] at HA
  have SA : Hid (a.size = A.length) := HA.out.size
  have sa : a.size ≤ 3000 := by rw [SA.out, ← hA]; exact hu
  clear hR ha hb hu hv h0 hA
  go_enter Tryz.func226, Tryz.ntmps226
  go_wp2_with fail
  go_loopw [6, 7, 8] (fun p q i wr => ∃ (j rn : Nat) (ql : List UInt8) (qs rs : ByteArray), p = .string qs ∧ q = .string rs ∧ i = .int .i64 j ∧ j ≤ a.size ∧ Hid (Tx qs ql) ∧ Hid (Txt rs (rn : Nat)) ∧ Hid (DivI A v j ql rn) ∧ Hid (Below w.heap.size w wr)) (fun _ _ i _ => a.size - (intOf i).toNat)
  case atStart => exact ⟨0, 0, [], ⟨#[]⟩, ⟨#[48]⟩, rfl, rfl, rfl, Nat.zero_le _, rfl, Txt.zero, DivI.start A H0.out, Below.refl _ _⟩
  case round =>
    obtain ⟨j, rn, ql, qs, rs, rfl, rfl, rfl, hj, HQ, HT, HI, HBr⟩ := hrel
    by_cases hlt : j < a.size
    · have K1 : ((j : Int) < (a.size : Int)) = True := eq_true (by omega)
      have hjA : j < A.length := by rw [← SA.out]; exact hlt
      have hd := dAt_le dA.out hjA
      have hdg := dA.out.at hjA
      obtain ⟨d, hdd⟩ : ∃ z, dAt A j = z := ⟨_, rfl⟩
      rw [hdd] at hd
      have h1 := HA.out.one hlt
      have hT : Tx rs (Lib.decDigits rn) := Txt.dec HT.out
      have hrn := HI.out.lt
      have hrl : (Lib.decDigits rn).length ≤ 3000 := by
        have := len10 (v := v) (x := rn) (by omega) HV.out
        exact this
      have had := hT.add_run (P := Tryz.prog) h1 (by simp; omega)
      obtain ⟨t1, ht1⟩ : ∃ z, a.extract j (j + 1) = z := ⟨_, rfl⟩
      obtain ⟨t2, ht2⟩ : ∃ z, tB (Lib.decDigits rn ++ [A.getD j 0]) = z := ⟨_, rfl⟩
      rw [ht1, ht2] at had
      have T2 : Hid (Tx t2 (Lib.decDigits rn ++ [A.getD j 0])) := by rw [← ht2]; exact Tx.of _
      have hbare : Hid (bareL (Lib.decDigits rn ++ [A.getD j 0]) = Lib.decDigits (rn * 10 + d)) := by
        unfold Hid
        rw [bare_can ((dgs_dec rn).append (fun c hc => by obtain rfl := List.mem_singleton.1 hc; exact hdg)) (by simp), dv_snoc, dv_dec, ← hdd]
        rfl
      have hx10 : Hid (rn * 10 + d < 10 * v) := by unfold Hid; omega
      have HDD := Lib.hid hdd
      have g1 : (0 : Int) ≤ (j : Int) := by omega
      have g2 : (j : Int) ≤ (j : Int) + 1 := by omega
      have g3 : (j : Int) + 1 ≤ (a.size : Int) := by omega
      have g4 : ((j : Int) + 1).toNat = j + 1 := by omega
      clear h1 hT hrl ht2 hdg hdd hrn
      go_wp2_with fail
      with_reducible refine xbare_any t2 _ T2.out _ _ fun r1 hr1 => ?_
      rw [hbare.out] at hr1
      have T3 : Hid (Txt r1 ((rn * 10 + d : Nat) : Int)) := Txt.nat hr1
      clear hr1
      go_wp2_with fail
      go_loopw [7, 9] (fun q dg wq => ∃ (k r' : Nat) (rs' : ByteArray), q = .string rs' ∧ dg = .int .u8 (48 + (k : Int)) ∧ k ≤ 9 ∧ Hid (Txt rs' (r' : Nat)) ∧ Hid (k * v + r' = rn * 10 + d) ∧ Hid (Below w.heap.size w wq)) (fun _ dg _ => 58 - (intOf dg).toNat)
      case atStart => exact ⟨0, rn * 10 + d, r1, rfl, rfl, by omega, T3, by unfold Hid; omega, HBr⟩
      case round =>
        obtain ⟨k, r', rs', rfl, rfl, hk, HT', HE, HBq⟩ := hrel
        go_wp2_with fail
        with_reducible refine xless_any rs' b r' v HT'.out HB.out _ _ fun c hc => ?_
        by_cases hrv : r' < v
        · obtain rfl : c = true := by rw [hc.out]; exact decide_eq_true hrv
          have hdv : Hid (DivI A v (j + 1) (ql ++ [UInt8.ofNat (48 + k)]) r') := HI.out.step (by rw [← SA.out]; exact hlt) hk (by rw [HDD.out]; exact HE.out.symm) hrv
          obtain ⟨w4, E4, HB4, s4, X4⟩ := box_ex wr #[.int .u8 (48 + (k : Int))] 5
          have hcv := conv1 (x := 48 + k) (z := 48 + (k : Int)) (by omega) (by omega) X4.out
          have hql : ql.length ≤ 3000 := by rw [HI.out.len]; omega
          have had2 := HQ.out.add_run (P := Tryz.prog) (Tx.of [UInt8.ofNat (48 + k)]) (by simp; omega)
          obtain ⟨t4, ht4⟩ : ∃ z, tB [UInt8.ofNat (48 + k)] = z := ⟨_, rfl⟩
          obtain ⟨t5, ht5⟩ : ∃ z, tB (ql ++ [UInt8.ofNat (48 + k)]) = z := ⟨_, rfl⟩
          rw [ht4] at hcv
          rw [ht4, ht5] at had2
          have T5 : Hid (Tx t5 (ql ++ [UInt8.ofNat (48 + k)])) := by rw [← ht5]; exact Tx.of _
          have B4 : Hid (Below w.heap.size w w4) := HBq.out.trans (HB4.out.mono HBq.out.size)
          clear hc hrv ht4 ht5 s4 hql
          go_wp2_with (rw [E4])
          refine ⟨⟨j + 1, r', _, t5, rs', rfl, rfl, by go_num, by omega, T5, HT', hdv, B4⟩, ?_⟩
          simp [intOf]; omega
        · obtain rfl : c = false := by rw [hc.out]; exact decide_eq_false hrv
          have hE2 := one_more HE.out (Nat.le_of_not_lt hrv)
          have hk9 := quot_le hE2 hx10.out
          have HE2 := Lib.hid hE2
          have lr : Hid (lenI (r' : Nat) ≤ 3000) := len10 (v := v) (by have := HE.out; have := hx10.out; omega) HV.out
          have lv : Hid (lenI (v : Nat) ≤ 3000) := Nat.le_trans HV.out (by decide)
          have hle : Hid (v ≤ r') := Nat.le_of_not_lt hrv
          clear hc hrv hE2
          go_wp2_with fail
          with_reducible refine xpaper_any rs' b r' v false HT'.out HB.out lr.out lv.out (fun _ => hle.out) _ _ fun r6 w6 hb6 hr6 => ?_
          have T6 : Hid (Txt r6 ((r' - v : Nat) : Int)) := hr6
          have B6 : Hid (Below w.heap.size w w6) := HBq.out.trans (hb6.mono HBq.out.size)
          clear hb6 hr6
          go_wp2_with fail
          refine ⟨⟨k + 1, r' - v, r6, rfl, ?_, hk9, T6, HE2, B6⟩, ?_⟩
          · first | (congr 1; done) | (congr 1; push_cast; omega) | go_num
          · simp [intOf]; omega
    · have K1 : ((j : Int) < (a.size : Int)) = False := eq_false (by omega)
      have hja : j = A.length := by rw [← SA.out]; omega
      have hdn : Hid (bareL ql = Lib.decDigits (u / v) ∧ rn = u % v) := by
        have h := HI.out
        rw [hja] at h
        have := h.done nA.out
        rw [vA.out] at this
        exact this
      clear hja
      go_wp2_with fail
      with_reducible refine xbare_any qs ql HQ.out _ _ fun r7 hr7 => ?_
      rw [hdn.out.1] at hr7
      have T7 : Hid (Txt r7 ((u / v : Nat) : Int)) := Txt.nat hr7
      have T8 : Hid (Txt rs ((u % v : Nat) : Int)) := by unfold Hid; rw [← hdn.out.2]; exact HT.out
      clear hr7
      go_wp2_with fail
      exact HR.out _ _ _ HBr.out T7.out T8.out
end Go.Proofs.YtcmhompbdanpdaaGreatDoor
namespace Go.Proofs.YtcmhompbdanpdaaGreatDoor
open Go.RowKit

theorem abs18 {n : Int} (h : lenI n ≤ 18) : n.natAbs < 1000000000000000000 := (lenI_le (k := 18) (by decide)).1 h
theorem lenA {n : Int} {k : Nat} (h : lenI n ≤ k) : lenI (n.natAbs : Nat) ≤ k := by unfold lenI; rw [Int.natAbs_natCast]; exact h
theorem lenV {s : Bool} {v k : Nat} (h : lenI (v : Nat) ≤ k) : lenI (sV s v) ≤ k := by unfold lenI sV at *; cases s <;> simpa using h
theorem len_sum {u v : Nat} {k : Nat} (hk : 0 < k) (hu : lenI (u : Nat) ≤ k) (hv : lenI (v : Nat) ≤ k) : lenI ((u + v : Nat) : Int) ≤ k + 1 := by
  rw [lenI_le (by omega), Int.natAbs_natCast] at *
  rw [Nat.pow_succ]; omega
theorem len_le {u v k : Nat} (h : u ≤ v) (hk : 0 < k) (hv : lenI (v : Nat) ≤ k) : lenI (u : Nat) ≤ k := by
  rw [lenI_le hk, Int.natAbs_natCast] at *
  omega
set_option maxRecDepth 100000 in
set_option maxHeartbeats 8000000 in
theorem xplus_any (a b : ByteArray) (m n : Int) (ha : Txt a m) (hb : Txt b n) (hm : lenI m ≤ 1500) (hn : lenI n ≤ 1500) (w : World) (R : Ending → World → Prop) (hR : ∀ r w', Below w.heap.size w w' → Txt r (m + n) → R (.returned (.string r)) w') :
    Calls Tryz.prog 153 #[.string a, .string b] w R := by
  have HR := Lib.hid hR
  have HA := Lib.hid ha
  have HB := Lib.hid hb
  have LM : Hid (lenI (m.natAbs : Nat) ≤ 3000) := Nat.le_trans (lenA hm) (by decide)
  have LN : Hid (lenI (n.natAbs : Nat) ≤ 3000) := Nat.le_trans (lenA hn) (by decide)
  have LS : Hid (lenI ((m.natAbs + n.natAbs : Nat) : Int) ≤ 3000) := Nat.le_trans (len_sum (by decide) (lenA hm) (lenA hn)) (by decide)
  have hval := plS_val (decide (m < 0)) (decide (n < 0)) m.natAbs n.natAbs
  rw [sV_abs, sV_abs] at hval
  have HV := Lib.hid hval
  clear hR ha hb hm hn hval
  go_enter Tryz.func153, Tryz.ntmps153
  go_wp2_with fail
  with_reducible refine xbrief_any a b m n HA.out HB.out _ _ ?_
  by_cases hs : lenI m ≤ 18 ∧ lenI n ≤ 18
  · refine ⟨fun _ => ?_, fun h => absurd hs h⟩
    have b1 := abs18 hs.1
    have b2 := abs18 hs.2
    obtain ⟨z, hz⟩ : ∃ z, m + n = z := ⟨_, rfl⟩
    have hz1 : -4611686018427387904 ≤ z := by omega
    have hz2 : z ≤ 4611686018427387904 := by omega
    clear hs b1 b2
    go_wp2_with fail
    with_reducible refine xof_any z hz1 hz2 _ _ fun r w1 hb1 hr1 => ?_
    rw [← hz] at hr1
    have B1 := Lib.hid hb1
    have T1 := Lib.hid hr1
    clear hb1 hr1 hz
    go_wp2_with fail
    exact ret_str (HR.out r _ B1.out T1.out) rfl
  · refine ⟨fun h => absurd h hs, fun _ => ?_⟩
    clear hs
    go_wp2_with fail
    with_reducible refine xsize_any a m HA.out _ _ fun x hx => ?_
    have TX := Lib.hid hx
    clear hx
    go_wp2_with fail
    with_reducible refine xsize_any b n HB.out _ _ fun y hy => ?_
    have TY := Lib.hid hy
    clear hy
    go_wp2_with fail
    with_reducible refine xbelow_any a m HA.out _ _ fun sa hsa => ?_
    go_wp2_with fail
    with_reducible refine xbelow_any b n HB.out _ _ fun sb hsb => ?_
    rw [← hsa.out, ← hsb.out] at HV
    by_cases he : sa = sb
    · have K : (sa == sb) = true := by simp [he]
      have hv2 : Hid (sV sa (m.natAbs + n.natAbs) = m + n) := by
        have := HV.out
        unfold plS at this
        rw [if_pos he] at this; exact this
      clear he
      go_wp2_with fail
      with_reducible refine xpaper_any x y m.natAbs n.natAbs true TX.out TY.out LM.out LN.out (fun h => absurd h (by decide)) _ _ fun p w3 hb3 hp => ?_
      have TP : Hid (Txt p ((m.natAbs + n.natAbs : Nat) : Int)) := hp
      have B3 := Lib.hid hb3
      clear hp hb3
      go_wp2_with fail
      with_reducible refine xbelow_any a m HA.out _ _ fun s3 hs3 => ?_
      obtain rfl : s3 = sa := hs3.out.trans hsa.out.symm
      go_wp2_with fail
      with_reducible refine xsigned_any p (m.natAbs + n.natAbs) s3 TP.out LS.out _ _ fun r hr => ?_
      rw [hv2.out] at hr
      have TR := Lib.hid hr
      clear hr
      go_wp2_with fail
      exact ret_str (HR.out r _ B3.out TR.out) rfl
    · have K : (sa == sb) = false := by simp [he]
      have HNE := Lib.hid he
      clear he
      go_wp2_with fail
      with_reducible refine xless_any x y m.natAbs n.natAbs TX.out TY.out _ _ fun c hc => ?_
      by_cases hlt : m.natAbs < n.natAbs
      · obtain rfl : c = true := by rw [hc.out]; exact decide_eq_true hlt
        have hv2 : Hid (sV sb (n.natAbs - m.natAbs) = m + n) := by
          have := HV.out
          unfold plS at this
          rw [if_neg HNE.out, if_neg (by omega)] at this; exact this
        have hle : Hid (m.natAbs ≤ n.natAbs) := Nat.le_of_lt hlt
        have LD : Hid (lenI ((n.natAbs - m.natAbs : Nat) : Int) ≤ 3000) := len_le (Nat.sub_le _ _) (by decide) LN.out
        clear hc hlt
        go_wp2_with fail
        with_reducible refine xpaper_any y x n.natAbs m.natAbs false TY.out TX.out LN.out LM.out (fun _ => hle.out) _ _ fun p w3 hb3 hp => ?_
        have TP : Hid (Txt p ((n.natAbs - m.natAbs : Nat) : Int)) := hp
        have B3 := Lib.hid hb3
        clear hp hb3
        go_wp2_with fail
        with_reducible refine xbelow_any b n HB.out _ _ fun s3 hs3 => ?_
        obtain rfl : s3 = sb := hs3.out.trans hsb.out.symm
        go_wp2_with fail
        with_reducible refine xsigned_any p (n.natAbs - m.natAbs) s3 TP.out LD.out _ _ fun r hr => ?_
        rw [hv2.out] at hr
        have TR := Lib.hid hr
        clear hr
        go_wp2_with fail
        exact ret_str (HR.out r _ B3.out TR.out) rfl
      · obtain rfl : c = false := by rw [hc.out]; exact decide_eq_false hlt
        have hv2 : Hid (sV sa (m.natAbs - n.natAbs) = m + n) := by
          have := HV.out
          unfold plS at this
          rw [if_neg HNE.out, if_pos (by omega)] at this; exact this
        have hle : Hid (n.natAbs ≤ m.natAbs) := Nat.le_of_not_lt hlt
        have LD : Hid (lenI ((m.natAbs - n.natAbs : Nat) : Int) ≤ 3000) := len_le (Nat.sub_le _ _) (by decide) LM.out
        clear hc hlt
        go_wp2_with fail
        with_reducible refine xpaper_any x y m.natAbs n.natAbs false TX.out TY.out LM.out LN.out (fun _ => hle.out) _ _ fun p w3 hb3 hp => ?_
        have TP : Hid (Txt p ((m.natAbs - n.natAbs : Nat) : Int)) := hp
        have B3 := Lib.hid hb3
        clear hp hb3
        go_wp2_with fail
        with_reducible refine xbelow_any a m HA.out _ _ fun s3 hs3 => ?_
        obtain rfl : s3 = sa := hs3.out.trans hsa.out.symm
        go_wp2_with fail
        with_reducible refine xsigned_any p (m.natAbs - n.natAbs) s3 TP.out LD.out _ _ fun r hr => ?_
        rw [hv2.out] at hr
        have TR := Lib.hid hr
        clear hr
        go_wp2_with fail
        exact ret_str (HR.out r _ B3.out TR.out) rfl
set_option maxHeartbeats 2000000 in
theorem xminus_any (a b : ByteArray) (m n : Int) (ha : Txt a m) (hb : Txt b n) (hm : lenI m ≤ 1500) (hn : lenI n ≤ 1500) (w : World) (R : Ending → World → Prop) (hR : ∀ r w', Below w.heap.size w w' → Txt r (m - n) → R (.returned (.string r)) w') :
    Calls Tryz.prog 136 #[.string a, .string b] w R := by
  have HR := Lib.hid hR
  have HA := Lib.hid ha
  have HM := Lib.hid hm
  have HN : Hid (lenI (-n) ≤ 1500) := by unfold Hid; rw [lenI_neg]; exact hn
  have HN2 : Hid (lenI n ≤ 3000) := Nat.le_trans hn (by decide)
  have HB := Lib.hid hb
  clear hR ha hm hn hb
  go_enter Tryz.func136, Tryz.ntmps136
  go_wp2_with fail
  with_reducible refine xturned_any b n HB.out HN2.out _ _ fun r hr => ?_
  have T1 := Lib.hid hr
  clear hr
  go_wp2_with fail
  with_reducible refine xplus_any a r m (-n) HA.out T1.out HM.out HN.out _ _ fun r2 w2 hb2 hr2 => ?_
  have B2 := Lib.hid hb2
  have T2 : Hid (Txt r2 (m - n)) := hr2
  clear hb2 hr2
  go_wp2_with fail
  exact ret_str (HR.out r2 _ B2.out T2.out) rfl
theorem mul18 {a b : ByteArray} {m n : Int} (ha : Txt a m) (hb : Txt b n) (h : a.size + b.size ≤ 18) : (m * n).natAbs < 1000000000000000000 := by
  have h1 := ha.size
  have h2 := hb.size
  have l1 : lenI m ≤ a.size := by omega
  have l2 : lenI n ≤ b.size := by omega
  have m1 := (lenI_le ha.pos).1 l1
  have m2 := (lenI_le hb.pos).1 l2
  rw [Int.natAbs_mul]
  have h3 : m.natAbs * n.natAbs < 10 ^ a.size * 10 ^ b.size := Nat.mul_lt_mul'' m1 m2
  rw [← Nat.pow_add] at h3
  exact Nat.lt_of_lt_of_le h3 (Nat.pow_le_pow_right (by decide) h)
set_option exponentiation.threshold 4000 in
set_option maxRecDepth 100000 in
set_option maxHeartbeats 8000000 in
theorem xtimes_any (a b : ByteArray) (m n : Int) (ha : Txt a m) (hb : Txt b n) (hm : lenI m ≤ 1500) (hn : lenI n ≤ 1500) (w : World) (R : Ending → World → Prop) (hR : ∀ r w', Below w.heap.size w w' → Txt r (m * n) → R (.returned (.string r)) w') :
    Calls Tryz.prog 194 #[.string a, .string b] w R := by
  have HR := Lib.hid hR
  have HA := Lib.hid ha
  have HB := Lib.hid hb
  have LM : Hid (lenI (m.natAbs : Nat) ≤ 3000) := Nat.le_trans (lenA hm) (by decide)
  have LN : Hid (lenI (n.natAbs : Nat) ≤ 3000) := Nat.le_trans (lenA hn) (by decide)
  have LP : Hid (lenI ((m.natAbs * n.natAbs : Nat) : Int) ≤ 3000) := by
    have h1 := (lenI_le (by decide)).1 hm
    have h2 := (lenI_le (by decide)).1 hn
    unfold Hid
    rw [lenI_le (by decide), Int.natAbs_natCast]
    have := Nat.mul_lt_mul'' h1 h2
    rw [← Nat.pow_add] at this
    exact this
  have hval := sV_mul m n
  have HV := Lib.hid hval
  have sza : a.size ≤ 2000 := by have := ha.size; split at this <;> omega
  have szb : b.size ≤ 2000 := by have := hb.size; split at this <;> omega
  clear hR ha hb hm hn hval
  go_enter Tryz.func194, Tryz.ntmps194
  go_wp2_with fail
  with_reducible refine xbrief_any a b m n HA.out HB.out _ _ ?_
  have hcase : (lenI m ≤ 18 ∧ lenI n ≤ 18) ∧ a.size + b.size ≤ 18 ∨ (lenI m ≤ 18 ∧ lenI n ≤ 18) ∧ ¬ a.size + b.size ≤ 18 ∨ ¬ (lenI m ≤ 18 ∧ lenI n ≤ 18) := by omega
  rcases hcase with ⟨hs, hz⟩ | ⟨hs, hz⟩ | hs
  · refine ⟨fun _ => ?_, fun h => absurd hs h⟩
    have K : ((a.size : Int) + (b.size : Int) ≤ 18) = True := eq_true (by omega)
    have hbd := mul18 HA.out HB.out hz
    obtain ⟨z, hzz⟩ : ∃ z, m * n = z := ⟨_, rfl⟩
    rw [hzz] at hbd
    have hz1 : -4611686018427387904 ≤ z := by omega
    have hz2 : z ≤ 4611686018427387904 := by omega
    clear hs hz
    go_wp2_with fail
    with_reducible refine xof_any z hz1 hz2 _ _ fun r w1 hb1 hr1 => ?_
    rw [← hzz] at hr1
    have B1 := Lib.hid hb1
    have T1 := Lib.hid hr1
    clear hb1 hr1 hzz
    go_wp2_with fail
    exact ret_str (HR.out r _ B1.out T1.out) rfl
  · refine ⟨fun _ => ?_, fun h => absurd hs h⟩
    have K : ((a.size : Int) + (b.size : Int) ≤ 18) = False := eq_false (by omega)
    clear hs hz
    go_wp2_with fail
    with_reducible refine xsize_any a m HA.out _ _ fun x hx => ?_
    have TX := Lib.hid hx
    clear hx
    go_wp2_with fail
    with_reducible refine xsize_any b n HB.out _ _ fun y hy => ?_
    have TY := Lib.hid hy
    clear hy
    go_wp2_with fail
    with_reducible refine xproduct_any x y m.natAbs n.natAbs TX.out TY.out LM.out LN.out _ _ fun p w3 hb3 hp => ?_
    have TP := Lib.hid hp
    have B3 := Lib.hid hb3
    clear hp hb3
    go_wp2_with fail
    with_reducible refine xbelow_any a m HA.out _ _ fun sa hsa => ?_
    go_wp2_with fail
    with_reducible refine xbelow_any b n HB.out _ _ fun sb hsb => ?_
    rw [← hsa.out, ← hsb.out] at HV
    go_wp2_with fail
    with_reducible refine xsigned_any p (m.natAbs * n.natAbs) (!(sa == sb)) TP.out LP.out _ _ fun r hr => ?_
    rw [HV.out] at hr
    have TR := Lib.hid hr
    clear hr
    go_wp2_with fail
    exact ret_str (HR.out r _ B3.out TR.out) rfl
  · refine ⟨fun h => absurd h hs, fun _ => ?_⟩
    clear hs
    go_wp2_with fail
    with_reducible refine xsize_any a m HA.out _ _ fun x hx => ?_
    have TX := Lib.hid hx
    clear hx
    go_wp2_with fail
    with_reducible refine xsize_any b n HB.out _ _ fun y hy => ?_
    have TY := Lib.hid hy
    clear hy
    go_wp2_with fail
    with_reducible refine xproduct_any x y m.natAbs n.natAbs TX.out TY.out LM.out LN.out _ _ fun p w3 hb3 hp => ?_
    have TP := Lib.hid hp
    have B3 := Lib.hid hb3
    clear hp hb3
    go_wp2_with fail
    with_reducible refine xbelow_any a m HA.out _ _ fun sa hsa => ?_
    go_wp2_with fail
    with_reducible refine xbelow_any b n HB.out _ _ fun sb hsb => ?_
    rw [← hsa.out, ← hsb.out] at HV
    go_wp2_with fail
    with_reducible refine xsigned_any p (m.natAbs * n.natAbs) (!(sa == sb)) TP.out LP.out _ _ fun r hr => ?_
    rw [HV.out] at hr
    have TR := Lib.hid hr
    clear hr
    go_wp2_with fail
    exact ret_str (HR.out r _ B3.out TR.out) rfl
set_option maxHeartbeats 2000000 in
theorem xorder_any (a b : ByteArray) (m n : Int) (ha : Txt a m) (hb : Txt b n) (hm : lenI m ≤ 1500) (hn : lenI n ≤ 1500) (w : World) (R : Ending → World → Prop) (hR : ∀ w', Below w.heap.size w w' → R (.returned (.int .i64 (cmpI m n))) w') :
    Calls Tryz.prog 132 #[.string a, .string b] w R := by
  have HR := Lib.hid hR
  clear hR
  go_enter Tryz.func132, Tryz.ntmps132
  go_wp2_with fail
  with_reducible refine xminus_any a b m n ha hb hm hn _ _ fun r w1 hb1 hr1 => ?_
  have B1 := Lib.hid hb1
  have T1 := Lib.hid hr1
  have KZ := hr1.beqL 0 itoa_0
  clear hb1 hr1 ha hb hm hn
  by_cases hz : m - n = 0
  · rw [decide_eq_true hz] at KZ
    have hc : Hid (cmpI m n = 0) := by unfold Hid cmpI; rw [if_neg (by omega), if_neg (by omega)]
    clear hz
    go_wp2_with fail
    exact ret_i (HR.out _ B1.out) rfl hc.out
  · rw [decide_eq_false hz] at KZ
    have HZ := Lib.hid hz
    clear hz
    go_wp2_with fail
    with_reducible refine xbelow_any r (m - n) T1.out _ _ fun s hs => ?_
    by_cases hl : m - n < 0
    · obtain rfl : s = true := by rw [hs.out]; exact decide_eq_true hl
      have hc : Hid (cmpI m n = -1) := by unfold Hid cmpI; rw [if_pos (by omega)]
      clear hl hs
      go_wp2_with fail
      exact ret_i (HR.out _ B1.out) rfl hc.out
    · obtain rfl : s = false := by rw [hs.out]; exact decide_eq_false hl
      have hc : Hid (cmpI m n = 1) := by unfold Hid cmpI; have := HZ.out; rw [if_neg (by omega), if_pos (by omega)]
      clear hl hs
      go_wp2_with fail
      exact ret_i (HR.out _ B1.out) rfl hc.out
end Go.Proofs.YtcmhompbdanpdaaGreatDoor
namespace Go.Proofs.YtcmhompbdanpdaaGreatDoor
open Go.RowKit

theorem part_brief {m n r q : Int} (hq : m.fdiv n = q) (hr : m.fmod n = r) (hn : n ≠ 0) : (m - r).tdiv n = q := by
  have h : m - r = q * n := by
    rw [← hq, ← hr, Int.mul_comm]
    have := Int.mul_fdiv_add_fmod m n
    omega
  rw [h, Int.mul_tdiv_cancel _ hn]
theorem fmod_abs (m n : Int) (hn : n ≠ 0) : (m.fmod n).natAbs < n.natAbs := by
  obtain ⟨r, hr⟩ : ∃ r, m.tmod n = r := ⟨_, rfl⟩
  obtain ⟨hb, _, _⟩ := tmod_bounds hr hn
  obtain ⟨h1, h2, h3⟩ := part_small (m := m) (n := n) rfl hr hn
  by_cases h0 : r = 0
  · rw [(h1 h0).2]; exact hb
  · by_cases hs : (r < 0 ↔ n < 0)
    · rw [(h2 h0 hs).2]; exact hb
    · rw [(h3 h0 hs).2]; omega
theorem fdiv_abs (m n : Int) (hn : n ≠ 0) : (m.fdiv n).natAbs ≤ m.natAbs + 1 := by
  have h := Int.mul_fdiv_add_fmod m n
  have h2 := fmod_abs m n hn
  obtain ⟨q, hq⟩ : ∃ q, m.fdiv n = q := ⟨_, rfl⟩
  obtain ⟨r, hr⟩ : ∃ q, m.fmod n = q := ⟨_, rfl⟩
  rw [hq, hr] at h
  rw [hr] at h2
  rw [hq]
  apply Classical.byContradiction
  intro hc
  have h3 : m.natAbs + 2 ≤ q.natAbs := by omega
  have h4 : (n * q).natAbs = n.natAbs * q.natAbs := Int.natAbs_mul _ _
  have h5 : n.natAbs * (m.natAbs + 2) ≤ n.natAbs * q.natAbs := Nat.mul_le_mul_left _ h3
  have h6 : n.natAbs * (m.natAbs + 2) = n.natAbs * (m.natAbs + 1) + n.natAbs := by rw [show m.natAbs + 2 = m.natAbs + 1 + 1 from rfl, Nat.mul_succ]
  have h7 : m.natAbs + 1 ≤ n.natAbs * (m.natAbs + 1) := Nat.le_mul_of_pos_left _ (by omega)
  omega
theorem part_out {m n : Int} (_hn : n ≠ 0) : m - m.fdiv n * n = m.fmod n := by
  have := Int.mul_fdiv_add_fmod m n
  rw [Int.mul_comm]; omega
set_option exponentiation.threshold 4000 in
set_option maxRecDepth 100000 in
set_option maxHeartbeats 8000000 in
theorem xparted_any (a b : ByteArray) (m n : Int) (ha : Txt a m) (hb : Txt b n) (hm : lenI m ≤ 1400) (hn : lenI n ≤ 1400) (h0 : n ≠ 0) (w : World) (R : Ending → World → Prop)
   (hR : ∀ q r w', Below w.heap.size w w' → Txt q (m.fdiv n) → Txt r (m.fmod n) → R (.returned (.tuple #[.string q, .string r])) w') :
    Calls Tryz.prog 193 #[.string a, .string b] w R := by
  have HR := Lib.hid hR
  have HA := Lib.hid ha
  have HB := Lib.hid hb
  have HM := Lib.hid hm
  have HN := Lib.hid hn
  have H0 := Lib.hid h0
  have LM : Hid (lenI (m.natAbs : Nat) ≤ 3000) := Nat.le_trans (lenA hm) (by decide)
  have LN : Hid (lenI (n.natAbs : Nat) ≤ 2000) := Nat.le_trans (lenA hn) (by decide)
  have hnv : Hid (n.natAbs ≠ 0) := by unfold Hid; omega
  have LQ : Hid (lenI ((m.natAbs / n.natAbs : Nat) : Int) ≤ 3000) := len_le (Nat.div_le_self _ _) (by decide) LM.out
  have LF : Hid (lenI (m.fdiv n) ≤ 1500) := by
    have h1 := (lenI_le (by decide)).1 hm
    have h2 := fdiv_abs m n h0
    unfold Hid
    rw [lenI_le (by decide)]
    have e : (10 : Nat) ^ 1500 = 10 ^ 100 * 10 ^ 1400 := by rw [← Nat.pow_add]
    have e2 : 2 ≤ (10 : Nat) ^ 100 := by decide
    have h3 : 2 * 10 ^ 1400 ≤ (10 : Nat) ^ 100 * 10 ^ 1400 := Nat.mul_le_mul_right _ e2
    rw [e]; omega
  have LFN : Hid (lenI (m.fdiv n * n) ≤ 1500) := by
    have h1 := (lenI_le (by decide)).1 hm
    have h4 := (lenI_le (by decide)).1 hn
    have h2 := fmod_abs m n h0
    have h3 := part_out (m := m) h0
    unfold Hid
    rw [lenI_le (by decide)]
    have e : (10 : Nat) ^ 1500 = 10 ^ 100 * 10 ^ 1400 := by rw [← Nat.pow_add]
    have e2 : 2 ≤ (10 : Nat) ^ 100 := by decide
    have h5 : 2 * 10 ^ 1400 ≤ (10 : Nat) ^ 100 * 10 ^ 1400 := Nat.mul_le_mul_right _ e2
    rw [e]; omega
  have PB := part_big (decide (m < 0)) (decide (n < 0)) m.natAbs n.natAbs hnv.out
  rw [sV_abs, sV_abs] at PB
  have HPB := Lib.hid PB
  clear hR ha hb hm hn h0 PB
  go_enter Tryz.func193, Tryz.ntmps193
  go_wp2_with fail
  with_reducible refine xbrief_any a b m n HA.out HB.out _ _ ?_
  by_cases hs : lenI m ≤ 18 ∧ lenI n ≤ 18
  · refine ⟨fun _ => ?_, fun h => absurd hs h⟩
    have b1 := abs18 hs.1
    have b2 := abs18 hs.2
    obtain ⟨q0, hq⟩ : ∃ q, m.tdiv n = q := ⟨_, rfl⟩
    obtain ⟨r, hr⟩ : ∃ r, m.tmod n = r := ⟨_, rfl⟩
    obtain ⟨br, _, _⟩ := tmod_bounds hr H0.out
    have HP := Lib.hid (part_small hq hr H0.out)
    have hfa := fdiv_abs m n H0.out
    have HFA := Lib.hid hfa
    have hnz := H0.out
    have KR0 : IntKind.i64.wrap r = r := by rw [IntKind.wrap_i64]; omega
    clear hs hq hfa
    by_cases hr0 : r = 0
    · replace HP := Lib.hid (HP.out.1 hr0)
      subst hr0
      obtain ⟨qf, hqf⟩ : ∃ z, m.fdiv n = z := ⟨_, rfl⟩
      have hpb := part_brief hqf HP.out.2 H0.out
      rw [Int.sub_zero] at hpb
      have bqf : qf.natAbs ≤ m.natAbs + 1 := by rw [← hqf]; exact HFA.out
      have KQ : IntKind.i64.wrap qf = qf := by rw [IntKind.wrap_i64]; omega
      have z1 : -4611686018427387904 ≤ qf := by omega
      have z2 : qf ≤ 4611686018427387904 := by omega
      have HQF := Lib.hid hqf
      clear hqf
      go_wp2_with fail
      with_reducible refine xof_any _ z1 z2 _ _ fun tq w4 hb4 htq => ?_
      have B4 := Lib.hid hb4
      have TQ : Hid (Txt tq (m.fdiv n)) := by unfold Hid; rw [HQF.out]; exact htq
      clear hb4 htq
      go_wp2_with fail
      with_reducible refine xof_any _ (by omega) (by omega) _ _ fun tr w5 hb5 htr => ?_
      have B5 : Hid (Below w.heap.size w w5) := B4.out.trans (hb5.mono B4.out.size)
      have TR : Hid (Txt tr (m.fmod n)) := by unfold Hid; rw [HP.out.2]; exact htr
      clear hb5 htr
      go_wp2_with fail
      exact HR.out _ _ _ B5.out TQ.out TR.out
    · have KR : (r == 0) = false := by simpa using hr0
      by_cases hsn : (r < 0 ↔ n < 0)
      · replace HP := Lib.hid (HP.out.2.1 hr0 hsn)
        by_cases hn0 : n < 0
        · have K1 : (n < 0) = True := eq_true hn0
          have K2 : (r < 0) = True := eq_true (hsn.2 hn0)
          clear hsn
          obtain ⟨qf, hqf⟩ : ∃ z, m.fdiv n = z := ⟨_, rfl⟩
          have hpb := part_brief hqf HP.out.2 H0.out
          have bqf : qf.natAbs ≤ m.natAbs + 1 := by rw [← hqf]; exact HFA.out
          have KQ : IntKind.i64.wrap qf = qf := by rw [IntKind.wrap_i64]; omega
          have z1 : -4611686018427387904 ≤ qf := by omega
          have z2 : qf ≤ 4611686018427387904 := by omega
          have HQF := Lib.hid hqf
          clear hqf
          go_wp2_with fail
          with_reducible refine xof_any _ z1 z2 _ _ fun tq w4 hb4 htq => ?_
          have B4 := Lib.hid hb4
          have TQ : Hid (Txt tq (m.fdiv n)) := by unfold Hid; rw [HQF.out]; exact htq
          clear hb4 htq
          go_wp2_with fail
          with_reducible refine xof_any _ (by omega) (by omega) _ _ fun tr w5 hb5 htr => ?_
          have B5 : Hid (Below w.heap.size w w5) := B4.out.trans (hb5.mono B4.out.size)
          have TR : Hid (Txt tr (m.fmod n)) := by unfold Hid; rw [HP.out.2]; exact htr
          clear hb5 htr
          go_wp2_with fail
          exact HR.out _ _ _ B5.out TQ.out TR.out
        · have K1 : (n < 0) = False := eq_false hn0
          have K2 : (r < 0) = False := eq_false (fun h => hn0 (hsn.1 h))
          clear hsn
          obtain ⟨qf, hqf⟩ : ∃ z, m.fdiv n = z := ⟨_, rfl⟩
          have hpb := part_brief hqf HP.out.2 H0.out
          have bqf : qf.natAbs ≤ m.natAbs + 1 := by rw [← hqf]; exact HFA.out
          have KQ : IntKind.i64.wrap qf = qf := by rw [IntKind.wrap_i64]; omega
          have z1 : -4611686018427387904 ≤ qf := by omega
          have z2 : qf ≤ 4611686018427387904 := by omega
          have HQF := Lib.hid hqf
          clear hqf
          go_wp2_with fail
          with_reducible refine xof_any _ z1 z2 _ _ fun tq w4 hb4 htq => ?_
          have B4 := Lib.hid hb4
          have TQ : Hid (Txt tq (m.fdiv n)) := by unfold Hid; rw [HQF.out]; exact htq
          clear hb4 htq
          go_wp2_with fail
          with_reducible refine xof_any _ (by omega) (by omega) _ _ fun tr w5 hb5 htr => ?_
          have B5 : Hid (Below w.heap.size w w5) := B4.out.trans (hb5.mono B4.out.size)
          have TR : Hid (Txt tr (m.fmod n)) := by unfold Hid; rw [HP.out.2]; exact htr
          clear hb5 htr
          go_wp2_with fail
          exact HR.out _ _ _ B5.out TQ.out TR.out
      · replace HP := Lib.hid (HP.out.2.2 hr0 hsn)
        by_cases hn0 : n < 0
        · have K1 : (n < 0) = True := eq_true hn0
          have K2 : (r < 0) = False := eq_false (fun h => hsn ⟨fun _ => hn0, fun _ => h⟩)
          clear hsn
          obtain ⟨qf, hqf⟩ : ∃ z, m.fdiv n = z := ⟨_, rfl⟩
          have hpb := part_brief hqf HP.out.2 H0.out
          have bqf : qf.natAbs ≤ m.natAbs + 1 := by rw [← hqf]; exact HFA.out
          have KQ : IntKind.i64.wrap qf = qf := by rw [IntKind.wrap_i64]; omega
          have z1 : -4611686018427387904 ≤ qf := by omega
          have z2 : qf ≤ 4611686018427387904 := by omega
          have HQF := Lib.hid hqf
          clear hqf
          go_wp2_with fail
          with_reducible refine xof_any _ z1 z2 _ _ fun tq w4 hb4 htq => ?_
          have B4 := Lib.hid hb4
          have TQ : Hid (Txt tq (m.fdiv n)) := by unfold Hid; rw [HQF.out]; exact htq
          clear hb4 htq
          go_wp2_with fail
          with_reducible refine xof_any _ (by omega) (by omega) _ _ fun tr w5 hb5 htr => ?_
          have B5 : Hid (Below w.heap.size w w5) := B4.out.trans (hb5.mono B4.out.size)
          have TR : Hid (Txt tr (m.fmod n)) := by unfold Hid; rw [HP.out.2]; exact htr
          clear hb5 htr
          go_wp2_with fail
          exact HR.out _ _ _ B5.out TQ.out TR.out
        · have K1 : (n < 0) = False := eq_false hn0
          have K2 : (r < 0) = True := eq_true (by omega)
          clear hsn
          obtain ⟨qf, hqf⟩ : ∃ z, m.fdiv n = z := ⟨_, rfl⟩
          have hpb := part_brief hqf HP.out.2 H0.out
          have bqf : qf.natAbs ≤ m.natAbs + 1 := by rw [← hqf]; exact HFA.out
          have KQ : IntKind.i64.wrap qf = qf := by rw [IntKind.wrap_i64]; omega
          have z1 : -4611686018427387904 ≤ qf := by omega
          have z2 : qf ≤ 4611686018427387904 := by omega
          have HQF := Lib.hid hqf
          clear hqf
          go_wp2_with fail
          with_reducible refine xof_any _ z1 z2 _ _ fun tq w4 hb4 htq => ?_
          have B4 := Lib.hid hb4
          have TQ : Hid (Txt tq (m.fdiv n)) := by unfold Hid; rw [HQF.out]; exact htq
          clear hb4 htq
          go_wp2_with fail
          with_reducible refine xof_any _ (by omega) (by omega) _ _ fun tr w5 hb5 htr => ?_
          have B5 : Hid (Below w.heap.size w w5) := B4.out.trans (hb5.mono B4.out.size)
          have TR : Hid (Txt tr (m.fmod n)) := by unfold Hid; rw [HP.out.2]; exact htr
          clear hb5 htr
          go_wp2_with fail
          exact HR.out _ _ _ B5.out TQ.out TR.out
  · refine ⟨fun h => absurd h hs, fun _ => ?_⟩
    clear hs
    go_wp2_with fail
    with_reducible refine xsize_any a m HA.out _ _ fun x hx => ?_
    have TX := Lib.hid hx
    clear hx
    go_wp2_with fail
    with_reducible refine xsize_any b n HB.out _ _ fun y hy => ?_
    have TY := Lib.hid hy
    clear hy
    go_wp2_with fail
    with_reducible refine xdivided_any x y m.natAbs n.natAbs TX.out TY.out LM.out LN.out hnv.out _ _ fun q r w3 hb3 hq hr => ?_
    have B3 := Lib.hid hb3
    have TQ := Lib.hid hq
    have TR := Lib.hid hr
    have KZ := hr.beqL 0 itoa_0
    clear hb3 hq hr
    go_wp2_with fail
    with_reducible refine xbelow_any a m HA.out _ _ fun sa hsa => ?_
    go_wp2_with fail
    with_reducible refine xbelow_any b n HB.out _ _ fun sb hsb => ?_
    rw [← hsa.out, ← hsb.out] at HPB
    go_wp2_with fail
    with_reducible refine xsigned_any q (m.natAbs / n.natAbs) (!(sa == sb)) TQ.out LQ.out _ _ fun q2 hq2 => ?_
    have TQ2 := Lib.hid hq2
    clear hq2
    by_cases hz : ((m.natAbs % n.natAbs : Nat) : Int) = 0
    · rw [decide_eq_true hz] at KZ
      have TF : Hid (Txt q2 (m.fdiv n)) := by
        have h := TQ2.out
        have hz2 : m.natAbs % n.natAbs = 0 := by omega
        unfold Hid
        cases e : (sa == sb) with
        | true => rw [e] at h; rw [(HPB.out.1 e).1]; exact h
        | false => rw [e] at h; rw [(HPB.out.2.1 e hz2).1]; exact h
      clear hz
      go_wp2_with fail
      with_reducible refine xtimes_any q2 b (m.fdiv n) n TF.out HB.out LF.out (by have := HN.out; omega) _ _ fun p w6 hb6 hp => ?_
      have B6 : Hid (Below w.heap.size w w6) := B3.out.trans (hb6.mono B3.out.size)
      have TP := Lib.hid hp
      clear hb6 hp
      go_wp2_with fail
      with_reducible refine xminus_any a p m (m.fdiv n * n) HA.out TP.out (by have := HM.out; omega) LFN.out _ _ fun r7 w7 hb7 hr7 => ?_
      rw [part_out H0.out] at hr7
      have B7 : Hid (Below w.heap.size w w7) := B6.out.trans (hb7.mono B6.out.size)
      have T7 := Lib.hid hr7
      clear hb7 hr7
      go_wp2_with fail
      exact HR.out _ _ _ B7.out TF.out T7.out
    · rw [decide_eq_false hz] at KZ
      have HZ2 : Hid (m.natAbs % n.natAbs ≠ 0) := by unfold Hid; omega
      clear hz
      go_wp2_with fail
      with_reducible refine xbelow_any a m HA.out _ _ fun s3 hs3 => ?_
      obtain rfl : s3 = sa := hs3.out.trans hsa.out.symm
      go_wp2_with fail
      with_reducible refine xbelow_any b n HB.out _ _ fun s4 hs4 => ?_
      obtain rfl : s4 = sb := hs4.out.trans hsb.out.symm
      cases e : (s3 == s4) with
      | true =>
        have TF : Hid (Txt q2 (m.fdiv n)) := by
          have h := TQ2.out
          unfold Hid
          rw [e] at h; rw [(HPB.out.1 e).1]; exact h
        go_wp2_with fail
        with_reducible refine xtimes_any q2 b (m.fdiv n) n TF.out HB.out LF.out (by have := HN.out; omega) _ _ fun p w6 hb6 hp => ?_
        have B6 : Hid (Below w.heap.size w w6) := B3.out.trans (hb6.mono B3.out.size)
        have TP := Lib.hid hp
        clear hb6 hp
        go_wp2_with fail
        with_reducible refine xminus_any a p m (m.fdiv n * n) HA.out TP.out (by have := HM.out; omega) LFN.out _ _ fun r7 w7 hb7 hr7 => ?_
        rw [part_out H0.out] at hr7
        have B7 : Hid (Below w.heap.size w w7) := B6.out.trans (hb7.mono B6.out.size)
        have T7 := Lib.hid hr7
        clear hb7 hr7
        go_wp2_with fail
        exact HR.out _ _ _ B7.out TF.out T7.out
      | false =>
        have TQ3 : Hid (Txt q2 (-((m.natAbs / n.natAbs : Nat) : Int))) := by
          have h := TQ2.out
          unfold Hid
          rw [e] at h; exact h
        have L1 : Hid (lenI (-((m.natAbs / n.natAbs : Nat) : Int)) ≤ 1500) := by
          unfold Hid; rw [lenI_neg]
          exact len_le (Nat.div_le_self _ _) (by decide) (Nat.le_trans (lenA HM.out) (by decide))
        have T1 : Hid (Txt ⟨#[49]⟩ 1) := Txt.one
        have l1 : Hid (lenI 1 ≤ 1500) := by unfold Hid; decide +kernel
        have hfd := (HPB.out.2.2 e HZ2.out).1
        have HFD := Lib.hid hfd
        clear hfd
        go_wp2_with fail
        with_reducible refine xminus_any q2 ⟨#[49]⟩ _ 1 TQ3.out T1.out L1.out l1.out _ _ fun q5 w5 hb5 hq5 => ?_
        have TF : Hid (Txt q5 (m.fdiv n)) := by unfold Hid; rw [HFD.out]; exact hq5
        have B5 : Hid (Below w.heap.size w w5) := B3.out.trans (hb5.mono B3.out.size)
        clear hb5 hq5
        go_wp2_with fail
        with_reducible refine xtimes_any q5 b (m.fdiv n) n TF.out HB.out LF.out (by have := HN.out; omega) _ _ fun p w6 hb6 hp => ?_
        have B6 : Hid (Below w.heap.size w w6) := B5.out.trans (hb6.mono B5.out.size)
        have TP := Lib.hid hp
        clear hb6 hp
        go_wp2_with fail
        with_reducible refine xminus_any a p m (m.fdiv n * n) HA.out TP.out (by have := HM.out; omega) LFN.out _ _ fun r7 w7 hb7 hr7 => ?_
        rw [part_out H0.out] at hr7
        have B7 : Hid (Below w.heap.size w w7) := B6.out.trans (hb7.mono B6.out.size)
        have T7 := Lib.hid hr7
        clear hb7 hr7
        go_wp2_with fail
        exact HR.out _ _ _ B7.out TF.out T7.out
end Go.Proofs.YtcmhompbdanpdaaGreatDoor
namespace Go.Proofs.YtcmhompbdanpdaaGreatDoor
open Go.RowKit

def dvS : Value → Nat
  | .string s => dv s.data.toList
  | _ => 0
theorem dvS_eq {a : ByteArray} {v : Nat} (h : Txt a (v : Nat)) : dvS (.string a) = v := by
  have := Txt.dec h
  show dv a.data.toList = v
  rw [show a.data.toList = Lib.decDigits v from this, dv_dec]
set_option maxRecDepth 100000 in
set_option maxHeartbeats 8000000 in
theorem xshared_any (a b : ByteArray) (m n : Int) (ha : Txt a m) (hb : Txt b n) (hm : lenI m ≤ 1400) (hn : lenI n ≤ 1400) (w : World) (R : Ending → World → Prop)
   (hR : ∀ r w', Below w.heap.size w w' → Txt r (Nat.gcd m.natAbs n.natAbs : Nat) → R (.returned (.string r)) w') :
    Calls Tryz.prog 133 #[.string a, .string b] w R := by
  have HR := Lib.hid hR
  have HA := Lib.hid ha
  have HB := Lib.hid hb
  have LM : Hid (lenI (m.natAbs : Nat) ≤ 1400) := lenA hm
  have LN : Hid (lenI (n.natAbs : Nat) ≤ 1400) := lenA hn
  have LM3 : Hid (lenI (m.natAbs : Nat) ≤ 3000) := Nat.le_trans LM.out (by decide)
  have LN3 : Hid (lenI (n.natAbs : Nat) ≤ 3000) := Nat.le_trans LN.out (by decide)
  clear hR ha hb hm hn
  go_enter Tryz.func133, Tryz.ntmps133
  go_wp2_with fail
  with_reducible refine xsize_any a m HA.out _ _ fun x hx => ?_
  have TX := Lib.hid hx
  clear hx
  go_wp2_with fail
  with_reducible refine xsigned_any x m.natAbs false TX.out LM3.out _ _ fun x1 hx1 => ?_
  have TX1 : Hid (Txt x1 (m.natAbs : Nat)) := hx1
  clear hx1
  go_wp2_with fail
  with_reducible refine xsize_any b n HB.out _ _ fun y hy => ?_
  have TY := Lib.hid hy
  clear hy
  go_wp2_with fail
  with_reducible refine xsigned_any y n.natAbs false TY.out LN3.out _ _ fun y1 hy1 => ?_
  have TY1 : Hid (Txt y1 (n.natAbs : Nat)) := hy1
  clear hy1
  obtain ⟨G, hG⟩ : ∃ G, Nat.gcd m.natAbs n.natAbs = G := ⟨_, rfl⟩
  rw [hG] at HR
  have HG := Lib.hid hG
  clear hG
  go_wp2_with fail
  go_loopw [0, 1] (fun p q wr => ∃ (x y : Nat) (xs ys : ByteArray), p = .string xs ∧ q = .string ys ∧ Hid (Txt xs (x : Nat)) ∧ Hid (Txt ys (y : Nat)) ∧ Hid (Nat.gcd x y = G) ∧ Hid (lenI (x : Nat) ≤ 1400) ∧ Hid (lenI (y : Nat) ≤ 1400) ∧ Hid (Below w.heap.size w wr)) (fun _ q _ => dvS q)
  case atStart => exact ⟨m.natAbs, n.natAbs, x1, y1, rfl, rfl, TX1, TY1, HG, LM, LN, Below.refl _ _⟩
  case round =>
    obtain ⟨x, y, xs, ys, rfl, rfl, HX, HY, HGr, LX, LY, HBr⟩ := hrel
    have KZ := HY.out.beqL 0 itoa_0
    by_cases hz : (y : Int) = 0
    · rw [decide_eq_true hz] at KZ
      have TG : Hid (Txt xs (G : Nat)) := by
        have h := HGr.out
        rw [show y = 0 from by omega, Nat.gcd_zero_right] at h
        unfold Hid; rw [← h]; exact HX.out
      clear hz
      go_wp2_with fail
      exact ret_str (HR.out xs _ HBr.out TG.out) rfl
    · rw [decide_eq_false hz] at KZ
      have HZ : Hid ((y : Int) ≠ 0) := hz
      clear hz
      go_wp2_with fail
      with_reducible refine xbrief_any xs ys (x : Nat) (y : Nat) HX.out HY.out _ _ ?_
      by_cases hs : lenI (x : Nat) ≤ 18 ∧ lenI (y : Nat) ≤ 18
      · refine ⟨fun _ => ?_, fun h => absurd hs h⟩
        have b1 : Hid (x < 1000000000000000000) := by have := abs18 hs.1; rw [Int.natAbs_natCast] at this; exact this
        have b2 : Hid (y < 1000000000000000000) := by have := abs18 hs.2; rw [Int.natAbs_natCast] at this; exact this
        clear hs
        go_wp2_with fail
        go_loopw [5, 6] (fun p q wq => ∃ u v : Nat, p = .int .i64 u ∧ q = .int .i64 v ∧ Hid (Nat.gcd u v = G) ∧ u < 1000000000000000000 ∧ v < 1000000000000000000 ∧ Hid (Below w.heap.size w wq)) (fun _ q _ => (intOf q).toNat)
        case atStart => exact ⟨x, y, rfl, rfl, HGr, b1.out, b2.out, HBr⟩
        case round =>
          obtain ⟨u, v, rfl, rfl, hg, hu, hv, HBq⟩ := hrel
          by_cases hv0 : 0 < v
          · have K1 : ((0 : Int) < (v : Int)) = True := eq_true (by omega)
            have KY2 : ((v : Int) = 0) = False := eq_false (by omega)
            obtain ⟨z, hzz⟩ : ∃ z, u % v = z := ⟨_, rfl⟩
            have hzy : z < v := by rw [← hzz]; exact Nat.mod_lt _ hv0
            have KM : ((u : Int) % (v : Int)) = (z : Int) := by rw [← hzz]; rfl
            have KM2 : (u : Int).tmod (v : Int) = (z : Int) := by rw [Int.tmod_eq_emod_of_nonneg (by omega)]; exact KM
            have KY3 : (v = 0) = False := eq_false (by omega)
            have KWz : IntKind.i64.wrap (z : Int) = z := by rw [IntKind.wrap_i64]; omega
            have hg2 : Hid (Nat.gcd v z = G) := by unfold Hid; rw [← hzz, ← hg.out, Nat.gcd_comm u v, Nat.gcd_rec v u, Nat.gcd_comm]
            have Bqd : Hid (Below w.heap.size w wr.drew) := HBq.out.drew
            clear hzz
            go_wp2_with fail
            refine regionL [0, 1, 2, 3, 4, 5] (fun _ => True) (by kernel_rfl) (trivial) (fun Qn hPQ hQn hS0 => ?_)
            iterate 6 (refine takeL (v := ?_) rfl rfl (by kernel_rfl) (by kernel_rfl) (by kernel_rfl) hPQ hS0 (by kernel_rfl) ?_ ?_; rotate_left; (focus (intro w hSw; (try dsimp only at hSw); go_simp; (try with_reducible rfl))); (try simp only [Act.put, List.setIfInBounds_toArray, List.set_cons_zero, List.set_cons_succ]))
            refine ofL (wpAnyH_done (by kernel_rfl) (hQn.out _ _ ?_) _)
            clear hS0 hPQ hQn Qn
            go_wp2_with fail
            exact ⟨⟨v, z, rfl, rfl, hg2, hv, by omega, Bqd⟩, by simp [intOf]; omega⟩
          · have K1 : ((0 : Int) < (v : Int)) = False := eq_false (by omega)
            have hgx : Hid (u = G) := by have := hg.out; rw [show v = 0 from by omega, Nat.gcd_zero_right] at this; exact this
            go_wp2_with fail
            with_reducible refine xof_any (u : Int) (by omega) (by omega) _ _ fun r w7 hb7 hr7 => ?_
            rw [hgx.out] at hr7
            have B7 : Hid (Below w.heap.size w w7) := HBq.out.trans (hb7.mono HBq.out.size)
            have T7 := Lib.hid hr7
            clear hb7 hr7
            go_wp2_with fail
            exact ret_str (HR.out r _ B7.out T7.out) rfl
      · refine ⟨fun h => absurd h hs, fun _ => ?_⟩
        clear hs
        go_wp2_with fail
        with_reducible refine xparted_any xs ys (x : Nat) (y : Nat) HX.out HY.out LX.out LY.out HZ.out _ _ fun q r w4 hb4 hq hr => ?_
        have hfm : Int.fmod (x : Int) (y : Int) = ((x % y : Nat) : Int) := by rw [Int.fmod_eq_emod_of_nonneg _ (by omega)]; rfl
        rw [hfm] at hr
        have B4 : Hid (Below w.heap.size w w4) := HBr.out.trans (hb4.mono HBr.out.size)
        have TR := Lib.hid hr
        have hlt : Hid (x % y < y) := Nat.mod_lt _ (by have := HZ.out; omega)
        have LR : Hid (lenI ((x % y : Nat) : Int) ≤ 1400) := len_le (Nat.le_of_lt hlt.out) (by decide) LY.out
        have hg2 : Hid (Nat.gcd y (x % y) = G) := by unfold Hid; rw [← HGr.out, Nat.gcd_comm x y, Nat.gcd_rec y x, Nat.gcd_comm]
        have hm1 := dvS_eq HY.out
        have hm2 := dvS_eq TR.out
        have HM1 := Lib.hid hm1
        have HM2 := Lib.hid hm2
        clear hb4 hq hr hfm hm1 hm2
        go_wp2_with fail
        refine ⟨⟨y, x % y, ys, r, rfl, rfl, HY, TR, hg2, LY, LR, B4⟩, ?_⟩
        rw [HM1.out, HM2.out]; exact hlt.out
end Go.Proofs.YtcmhompbdanpdaaGreatDoor
namespace Go.Proofs.YtcmhompbdanpdaaGreatDoor
open Go.RowKit

/-- The first slash. -/
def slI (l : List UInt8) : Int := Lib.index l [47]
theorem noslash_take {l : List UInt8} {k : Nat} (h : (47 : UInt8) ∉ l.take k) (hk : k < l.length) (h2 : l.getD k 0 = 47) : Lib.index l [47] = k := by
  have e : l = l.take k ++ 47 :: l.drop (k + 1) := by
    have h3 : l[k] = 47 := by simpa [List.getD, hk] using h2
    have := List.take_append_drop k l
    rw [List.drop_eq_getElem_cons hk, h3] at this
    exact this.symm
  have hl : (l.take k).length = k := by rw [List.length_take]; omega
  have := index_at47 (l.drop (k + 1)) h
  rw [← e, hl] at this
  exact this
theorem noslash_step {l : List UInt8} {k : Nat} (h : (47 : UInt8) ∉ l.take k) (hk : k < l.length) (h2 : l.getD k 0 ≠ 47) : (47 : UInt8) ∉ l.take (k + 1) := by
  rw [List.take_add_one, List.getElem?_eq_getElem hk]
  intro hm
  rcases List.mem_append.1 hm with h3 | h3
  · exact h h3
  · have : (47 : UInt8) = l[k] := by simpa using h3
    exact h2 (by simp [List.getD, hk, ← this])
set_option maxHeartbeats 2000000 in
theorem yslash_any (a : ByteArray) (l : List UInt8) (ha : Tx a l) (hl : l.length ≤ 100000) (w : World) (R : Ending → World → Prop) (hR : R (.returned (.int .i64 (slI l))) w) :
    Calls Tryz.prog 131 #[.string a] w R := by
  have HR := Lib.hid hR
  have HA := Lib.hid ha
  have HL := Lib.hid hl
  clear hR ha hl
  go_enter Tryz.func131, Tryz.ntmps131
  go_wp2_with fail
  go_loopw [3] (fun i wr => ∃ k : Nat, i = .int .i64 k ∧ k ≤ a.size ∧ Hid ((47 : UInt8) ∉ l.take k) ∧ Hid (wr = w)) (fun i _ => a.size - (intOf i).toNat)
  case atStart => exact ⟨0, rfl, Nat.zero_le _, by unfold Hid; simp, rfl⟩
  case round =>
    obtain ⟨k, rfl, hk, HN, HW⟩ := hrel
    have hs := HA.out.size
    have hsz : a.size ≤ 100000 := by rw [hs]; exact HL.out
    by_cases hlt : k < a.size
    · have K1 : ((k : Int) < (a.size : Int)) = True := eq_true (by omega)
      have hkl : k < l.length := by omega
      have hg : a[k] = l.getD k 0 := HA.out.get hlt
      by_cases h47 : l.getD k 0 = 47
      · have K2 : ((a[k].toNat : Int) == 47) = true := by rw [hg, h47]; rfl
        have hr : Hid (slI l = (k : Int)) := noslash_take HN.out hkl h47
        clear hs hg h47
        go_wp2_with fail
        have e := HW.out
        subst e
        exact ret_i HR.out rfl hr.out
      · have K2 : ((a[k].toNat : Int) == 47) = false := by
          rw [hg]
          have h3 : ¬ (l.getD k 0).toNat = 47 := fun e => h47 (UInt8.toNat.inj e)
          have h4 : ((l.getD k 0).toNat : Int) ≠ 47 := by omega
          exact beq_eq_false_iff_ne.2 h4
        have HN2 := Lib.hid (noslash_step HN.out hkl h47)
        clear hs hg h47
        go_wp2_with fail
        refine ⟨⟨k + 1, by go_num, by omega, HN2, HW⟩, ?_⟩
        simp [intOf]; omega
    · have K1 : ((k : Int) < (a.size : Int)) = False := eq_false (by omega)
      have hr : Hid (slI l = -1) := index_none47 (by have h := HN.out; rw [List.take_of_length_le (by omega)] at h; exact h)
      clear hs
      go_wp2_with fail
      have e := HW.out
      subst e
      exact ret_i HR.out rfl hr.out
set_option maxHeartbeats 2000000 in
theorem ysplit_any (a : ByteArray) (q : Rat) (ha : TxR a q) (hs : SmR 500 q) (w : World) (R : Ending → World → Prop)
   (hR : ∀ n d w', Below w.heap.size w w' → Txt n q.num → Txt d (q.den : Int) → R (.returned (.tuple #[.string n, .string d])) w') :
    Calls Tryz.prog 90 #[.string a] w R := by
  have HR := Lib.hid hR
  have HA : Hid (Tx a (rtL q)) := ha
  have hl : Hid ((rtL q).length ≤ 100000) := by have := rtL_size hs (by decide); unfold Hid; omega
  have Bd : Hid (Below w.heap.size w w.drew) := (Below.refl _ _).drew
  by_cases hd : q.den = 1
  · have e : Hid (slI (rtL q) = -1) := by unfold Hid slI rtL; rw [if_pos hd, List.append_nil]; exact index_none47 (itoa_no47 _)
    have TN : Hid (Txt a q.num) := by have := HA.out; unfold rtL at this; rw [if_pos hd, List.append_nil] at this; exact this
    have TD : Hid (Txt ⟨#[49]⟩ (q.den : Int)) := by unfold Hid; rw [hd]; exact Txt.one
    clear hR ha hs hd
    go_enter Tryz.func90, Tryz.ntmps90
    go_wp2_with fail
    with_reducible refine yslash_any a _ HA.out hl.out _ _ ?_
    rw [e.out]
    go_wp2_with fail
    exact HR.out _ _ _ (Below.refl _ _) TN.out TD.out
  · have hr : rtL q = Lib.itoa q.num ++ 47 :: Lib.decDigits q.den := by unfold rtL; rw [if_neg hd]
    obtain ⟨k, hk⟩ : ∃ k, (Lib.itoa q.num).length = k := ⟨_, rfl⟩
    have e : Hid (slI (rtL q) = (k : Int)) := by unfold Hid slI; rw [hr, ← hk]; exact index_at47 _ (itoa_no47 _)
    have hsz := HA.out.size
    have hka : k + 1 ≤ a.size := by rw [hsz, hr, List.length_append]; simp; omega
    have hsz2 : a.size ≤ 100000 := by rw [hsz]; exact hl.out
    have T1 := HA.out.take k
    have T2 := HA.out.drop (k + 1)
    rw [hr, ← hk, List.take_left' rfl] at T1
    rw [hr, ← hk] at T2
    have e2 : (Lib.itoa q.num ++ 47 :: Lib.decDigits q.den).drop ((Lib.itoa q.num).length + 1) = Lib.decDigits q.den := by
      rw [List.drop_append]; simp
    rw [e2, hk] at T2
    rw [hk] at T1
    obtain ⟨r1, hr1⟩ : ∃ z, a.extract 0 k = z := ⟨_, rfl⟩
    obtain ⟨r2, hr2⟩ : ∃ z, a.extract (k + 1) a.size = z := ⟨_, rfl⟩
    rw [hr1] at T1
    rw [hr2] at T2
    have TN : Hid (Txt r1 q.num) := T1
    have TD : Hid (Txt r2 (q.den : Int)) := Txt.nat T2
    have g1 : (0 : Int) ≤ (k : Int) := by omega
    have g2 : (k : Int) ≤ (a.size : Int) := by omega
    have g3 : (0 : Int) ≤ (k : Int) + 1 := by omega
    have g4 : (k : Int) + 1 ≤ (a.size : Int) := by omega
    have g5 : ((k : Int) + 1).toNat = k + 1 := by omega
    have KW : IntKind.i64.wrap ((k : Int) + 1) = (k : Int) + 1 := by rw [IntKind.wrap_i64]; omega
    clear hR ha hs hd hr hk hsz T1 T2 e2
    go_enter Tryz.func90, Tryz.ntmps90
    go_wp2_with fail
    with_reducible refine yslash_any a _ HA.out hl.out _ _ ?_
    rw [e.out]
    go_wp2_with fail
    refine regionL [0, 1, 2, 3, 4, 5, 6, 7, 8] (fun _ => True) (by kernel_rfl) (trivial) (fun Qn hPQ hQn hS0 => ?_)
    iterate 9 (refine takeL (v := ?_) rfl rfl (by kernel_rfl) (by kernel_rfl) (by kernel_rfl) hPQ hS0 (by kernel_rfl) ?_ ?_; rotate_left; (focus (intro w hSw; (try dsimp only at hSw); go_simp; (try with_reducible rfl))); (try simp only [Act.put, List.setIfInBounds_toArray, List.set_cons_zero, List.set_cons_succ]))
    refine ofL (wpAnyH_done (by kernel_rfl) (hQn.out _ _ ?_) _)
    clear hS0 hPQ hQn Qn
    go_wp2_with fail
    exact HR.out _ _ _ Bd.out TN.out TD.out
set_option maxHeartbeats 4000000 in
theorem ylowest_any (a b : ByteArray) (m n : Int) (ha : Txt a m) (hb : Txt b n) (hm : lenI m ≤ 1400) (hn : lenI n ≤ 1400) (h0 : n ≠ 0) (w : World) (R : Ending → World → Prop) (hR : ∀ r w', Below w.heap.size w w' → TxR r (Rat.divInt m n) → R (.returned (.string r)) w') :
    Calls Tryz.prog 135 #[.string a, .string b] w R := by
  have HR := Lib.hid hR
  have HA := Lib.hid ha
  have HB := Lib.hid hb
  have HM := Lib.hid hm
  have HN := Lib.hid hn
  have hlow := Lib.hid (low_num m n h0)
  have hG := Lib.hid (lowG_ne m h0)
  have hgl : Hid (lenI (Nat.gcd m.natAbs n.natAbs : Nat) ≤ 1400) := by
    unfold Hid
    rw [lenI_le (by decide)] at hn ⊢
    rw [Int.natAbs_natCast]
    exact Nat.lt_of_le_of_lt (Nat.gcd_le_right _ (by omega)) hn
  have hgl3 : Hid (lenI (Nat.gcd m.natAbs n.natAbs : Nat) ≤ 3000) := Nat.le_trans hgl.out (by decide)
  have hle := divInt_le m n h0
  have ln : Hid ((Lib.itoa (Rat.divInt m n).num).length ≤ 2000) := by
    unfold Hid
    rw [itoa_len]
    have : lenI (Rat.divInt m n).num ≤ 1400 := by rw [lenI_le (by decide)] at hm ⊢; exact Nat.lt_of_le_of_lt hle.1 hm
    split <;> omega
  have ld : Hid ((Lib.decDigits (Rat.divInt m n).den).length ≤ 2000) := by
    rw [lenI_le (by decide)] at hn
    exact Nat.le_trans (dec_len_lt (Nat.lt_of_le_of_lt hle.2 hn) (by decide)) (by decide)
  obtain ⟨G, hGG⟩ : ∃ z, lowG m n = z := ⟨_, rfl⟩
  rw [hGG] at hlow hG
  have HGG := Lib.hid hGG
  have hGl : Hid (lenI G ≤ 1400) := by
    unfold Hid; rw [← hGG]; unfold lowG
    split
    · rw [lenI_neg]; exact hgl.out
    · exact hgl.out
  clear hR ha hb hm hn h0 hle hGG
  go_enter Tryz.func135, Tryz.ntmps135
  go_wp2_with fail
  with_reducible refine xshared_any a b m n HA.out HB.out HM.out HN.out _ _ fun g w1 hb1 hg1 => ?_
  have B1 := Lib.hid hb1
  have T1 := Lib.hid hg1
  clear hb1 hg1
  go_wp2_with fail
  with_reducible refine xbelow_any b n HB.out _ _ fun s hs => ?_
  by_cases hneg : n < 0
  · obtain rfl : s = true := by rw [hs.out]; exact decide_eq_true hneg
    have hgv : Hid (-((Nat.gcd m.natAbs n.natAbs : Nat) : Int) = G) := by unfold Hid; rw [← HGG.out]; unfold lowG; rw [if_pos hneg]
    clear hs hneg
    go_wp2_with fail
    with_reducible refine xturned_any g (Nat.gcd m.natAbs n.natAbs : Nat) T1.out hgl3.out _ _ fun g2 hg2 => ?_
    rw [hgv.out] at hg2
    have T2 := Lib.hid hg2
    clear hg2
    have hss : Tx ⟨#[47]⟩ [47] := rfl
    go_wp2_with fail
    with_reducible refine xparted_any a g2 m G HA.out T2.out HM.out hGl.out hG.out _ _ fun q3 r3 w3 hb3 hq3 _ => ?_
    have B3 : Hid (Below w.heap.size w w3) := B1.out.trans (hb3.mono B1.out.size)
    have T3 : Hid (Txt q3 (Rat.divInt m n).num) := by unfold Hid; rw [← hlow.out.1]; exact hq3
    clear hb3 hq3
    go_wp2_with fail
    with_reducible refine xparted_any b g2 n G HB.out T2.out HN.out hGl.out hG.out _ _ fun q4 r4 w4 hb4 hq4 _ => ?_
    have B4 : Hid (Below w.heap.size w w4) := B3.out.trans (hb4.mono B3.out.size)
    have T4 : Hid (Txt q4 ((Rat.divInt m n).den : Int)) := by unfold Hid; rw [← hlow.out.2]; exact hq4
    clear hb4 hq4
    have K1 := T4.out.beqL 1 itoa_1
    have X3 : Tx q3 (Lib.itoa (Rat.divInt m n).num) := T3.out
    have X4 : Tx q4 (Lib.decDigits (Rat.divInt m n).den) := Txt.dec T4.out
    by_cases h1 : (Rat.divInt m n).den = 1
    · rw [decide_eq_true (show ((Rat.divInt m n).den : Int) = 1 by omega)] at K1
      have TT : Hid (TxR q3 (Rat.divInt m n)) := by unfold Hid TxR rtL; rw [if_pos h1, List.append_nil]; exact X3
      clear h1 X3 X4
      go_wp2_with fail
      exact ret_str (HR.out q3 _ B4.out TT.out) rfl
    · rw [decide_eq_false (show ¬ ((Rat.divInt m n).den : Int) = 1 by omega)] at K1
      have a1 := X3.add_run (P := Tryz.prog) hss (by have := ln.out; simp; omega)
      obtain ⟨s1, hs1⟩ : ∃ z, tB (Lib.itoa (Rat.divInt m n).num ++ [47]) = z := ⟨_, rfl⟩
      have Y1 : Tx s1 (Lib.itoa (Rat.divInt m n).num ++ [47]) := by rw [← hs1]; exact Tx.of _
      rw [hs1] at a1
      have a2 := Y1.add_run (P := Tryz.prog) X4 (by have := ln.out; have := ld.out; simp; omega)
      obtain ⟨s2, hs2⟩ : ∃ z, tB (Lib.itoa (Rat.divInt m n).num ++ [47] ++ Lib.decDigits (Rat.divInt m n).den) = z := ⟨_, rfl⟩
      have TT : Hid (TxR s2 (Rat.divInt m n)) := by
        unfold Hid TxR rtL
        rw [if_neg h1, ← hs2, show Lib.itoa (Rat.divInt m n).num ++ 47 :: Lib.decDigits (Rat.divInt m n).den = Lib.itoa (Rat.divInt m n).num ++ [47] ++ Lib.decDigits (Rat.divInt m n).den from by simp]; exact Tx.of _
      rw [hs2] at a2
      clear h1 X3 X4 Y1 hs1 hs2 hss
      go_wp2_with fail
      exact ret_str (HR.out s2 _ B4.out TT.out) rfl
  · obtain rfl : s = false := by rw [hs.out]; exact decide_eq_false hneg
    have hgv : Hid (((Nat.gcd m.natAbs n.natAbs : Nat) : Int) = G) := by unfold Hid; rw [← HGG.out]; unfold lowG; rw [if_neg hneg]
    have T2 : Hid (Txt g G) := by unfold Hid; rw [← hgv.out]; exact T1.out
    clear hs hneg
    have hss : Tx ⟨#[47]⟩ [47] := rfl
    go_wp2_with fail
    with_reducible refine xparted_any a g m G HA.out T2.out HM.out hGl.out hG.out _ _ fun q3 r3 w3 hb3 hq3 _ => ?_
    have B3 : Hid (Below w.heap.size w w3) := B1.out.trans (hb3.mono B1.out.size)
    have T3 : Hid (Txt q3 (Rat.divInt m n).num) := by unfold Hid; rw [← hlow.out.1]; exact hq3
    clear hb3 hq3
    go_wp2_with fail
    with_reducible refine xparted_any b g n G HB.out T2.out HN.out hGl.out hG.out _ _ fun q4 r4 w4 hb4 hq4 _ => ?_
    have B4 : Hid (Below w.heap.size w w4) := B3.out.trans (hb4.mono B3.out.size)
    have T4 : Hid (Txt q4 ((Rat.divInt m n).den : Int)) := by unfold Hid; rw [← hlow.out.2]; exact hq4
    clear hb4 hq4
    have K1 := T4.out.beqL 1 itoa_1
    have X3 : Tx q3 (Lib.itoa (Rat.divInt m n).num) := T3.out
    have X4 : Tx q4 (Lib.decDigits (Rat.divInt m n).den) := Txt.dec T4.out
    by_cases h1 : (Rat.divInt m n).den = 1
    · rw [decide_eq_true (show ((Rat.divInt m n).den : Int) = 1 by omega)] at K1
      have TT : Hid (TxR q3 (Rat.divInt m n)) := by unfold Hid TxR rtL; rw [if_pos h1, List.append_nil]; exact X3
      clear h1 X3 X4
      go_wp2_with fail
      exact ret_str (HR.out q3 _ B4.out TT.out) rfl
    · rw [decide_eq_false (show ¬ ((Rat.divInt m n).den : Int) = 1 by omega)] at K1
      have a1 := X3.add_run (P := Tryz.prog) hss (by have := ln.out; simp; omega)
      obtain ⟨s1, hs1⟩ : ∃ z, tB (Lib.itoa (Rat.divInt m n).num ++ [47]) = z := ⟨_, rfl⟩
      have Y1 : Tx s1 (Lib.itoa (Rat.divInt m n).num ++ [47]) := by rw [← hs1]; exact Tx.of _
      rw [hs1] at a1
      have a2 := Y1.add_run (P := Tryz.prog) X4 (by have := ln.out; have := ld.out; simp; omega)
      obtain ⟨s2, hs2⟩ : ∃ z, tB (Lib.itoa (Rat.divInt m n).num ++ [47] ++ Lib.decDigits (Rat.divInt m n).den) = z := ⟨_, rfl⟩
      have TT : Hid (TxR s2 (Rat.divInt m n)) := by
        unfold Hid TxR rtL
        rw [if_neg h1, ← hs2, show Lib.itoa (Rat.divInt m n).num ++ 47 :: Lib.decDigits (Rat.divInt m n).den = Lib.itoa (Rat.divInt m n).num ++ [47] ++ Lib.decDigits (Rat.divInt m n).den from by simp]; exact Tx.of _
      rw [hs2] at a2
      clear h1 X3 X4 Y1 hs1 hs2 hss
      go_wp2_with fail
      exact ret_str (HR.out s2 _ B4.out TT.out) rfl
set_option maxHeartbeats 2000000 in
theorem yover_any (m n : Int) (h0 : -4611686018427387904 ≤ m) (h1 : m ≤ 4611686018427387904) (h2 : -4611686018427387904 ≤ n) (h3 : n ≤ 4611686018427387904) (hn : n ≠ 0) (w : World) (R : Ending → World → Prop) (hR : ∀ r w', Below w.heap.size w w' → TxR r (Rat.divInt m n) → R (.returned (.string r)) w') :
    Calls Tryz.prog 68 #[.int .i64 m, .int .i64 n] w R := by
  have HR := Lib.hid hR
  have l1 : Hid (lenI m ≤ 1400) := Nat.le_trans (lenI_64 (by omega) (by omega)) (by decide)
  have l2 : Hid (lenI n ≤ 1400) := Nat.le_trans (lenI_64 (by omega) (by omega)) (by decide)
  have HN := Lib.hid hn
  clear hR hn
  go_enter Tryz.func68, Tryz.ntmps68
  go_wp2_with fail
  with_reducible refine xof_any m h0 h1 _ _ fun a w1 hb1 hr1 => ?_
  have B1 := Lib.hid hb1
  have T1 := Lib.hid hr1
  clear hb1 hr1
  go_wp2_with fail
  with_reducible refine xof_any n h2 h3 _ _ fun b w2 hb2 hr2 => ?_
  have B2 : Hid (Below w.heap.size w w2) := B1.out.trans (hb2.mono B1.out.size)
  have T2 := Lib.hid hr2
  clear hb2 hr2
  go_wp2_with fail
  with_reducible refine ylowest_any a b m n T1.out T2.out l1.out l2.out HN.out _ _ fun r w3 hb3 hr3 => ?_
  have B3 : Hid (Below w.heap.size w w3) := B2.out.trans (hb3.mono B2.out.size)
  have T3 := Lib.hid hr3
  clear hb3 hr3
  go_wp2_with fail
  exact ret_str (HR.out r _ B3.out T3.out) rfl
set_option maxHeartbeats 1000000 in
theorem ywhole_any (m : Int) (h0 : -4611686018427387904 ≤ m) (h1 : m ≤ 4611686018427387904) (w : World) (R : Ending → World → Prop) (hR : ∀ r w', Below w.heap.size w w' → TxR r (m : Rat) → R (.returned (.string r)) w') :
    Calls Tryz.prog 64 #[.int .i64 m] w R := by
  have HR := Lib.hid hR
  clear hR
  go_enter Tryz.func64, Tryz.ntmps64
  go_wp2_with fail
  with_reducible refine xof_any m h0 h1 _ _ fun a w1 hb1 hr1 => ?_
  have B1 := Lib.hid hb1
  have T1 : Hid (TxR a (m : Rat)) := by unfold Hid TxR; rw [rat_int]; exact hr1
  clear hb1 hr1
  go_wp2_with fail
  exact ret_str (HR.out a _ B1.out T1.out) rfl
theorem SmR.len {q : Rat} (h : SmR 500 q) : lenI q.num ≤ 500 ∧ lenI (q.den : Int) ≤ 500 := ⟨(lenI_le (by decide)).2 h.1, (lenI_le (by decide)).2 (by rw [Int.natAbs_natCast]; exact h.2)⟩
set_option maxHeartbeats 1000000 in
theorem ysignum_any (a : ByteArray) (q : Rat) (ha : TxR a q) (hs : SmR 500 q) (w : World) (R : Ending → World → Prop) (hR : ∀ w', Below w.heap.size w w' → R (.returned (.int .i64 (cmpI q.num 0))) w') :
    Calls Tryz.prog 61 #[.string a] w R := by
  have HR := Lib.hid hR
  have l1 : Hid (lenI q.num ≤ 1500) := Nat.le_trans hs.len.1 (by decide)
  have l0 : Hid (lenI 0 ≤ 1500) := by unfold Hid; decide +kernel
  have T0 : Hid (Txt ⟨#[48]⟩ 0) := Txt.zero
  clear hR
  go_enter Tryz.func61, Tryz.ntmps61
  go_wp2_with fail
  with_reducible refine ysplit_any a q ha hs _ _ fun n d w1 hb1 hn hd => ?_
  have B1 := Lib.hid hb1
  have TN := Lib.hid hn
  clear hb1 hn hd ha hs
  go_wp2_with fail
  with_reducible refine xorder_any n ⟨#[48]⟩ q.num 0 TN.out T0.out l1.out l0.out _ _ fun w2 hb2 => ?_
  have B2 : Hid (Below w.heap.size w w2) := B1.out.trans (hb2.mono B1.out.size)
  clear hb2
  go_wp2_with fail
  exact ret_i (HR.out _ B2.out) rfl rfl
end Go.Proofs.YtcmhompbdanpdaaGreatDoor
