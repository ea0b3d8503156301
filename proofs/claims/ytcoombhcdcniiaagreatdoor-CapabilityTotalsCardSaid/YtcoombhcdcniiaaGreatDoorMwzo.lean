/- Rows of bytes; wide of reference 01. paper: digits added or taken away as on paper. (Printed by gen_paper.py.) product: the product of digits in columns. (Printed by gen_product.py.) divided of reference 01. Plus, Minus, Times, Order of reference 01. -/
import Derived.Lib.BufferWrite
import Derived.Test.YtcoombhcdcniiaaGreatDoorWzn
namespace Go.Proofs.YtcoombhcdcniiaaGreatDoor
open Go.RowKit

/-- A block that holds these bytes. -/
def BB (w : World) (b : Nat) (l : List UInt8) : Prop := w.heap[b]? = some (.cells (Lib.byteCells l).toArray 5 (0, 0))
theorem byteCells_get (l : List UInt8) {i : Nat} (h : i < l.length) : (Lib.byteCells l).toArray[i]? = some (.int .u8 ((l.getD i 0).toNat : Int)) := by
  simp [Lib.byteCells, List.getD, h]
theorem BB.cell {w : World} {b : Nat} {l : List UInt8} (h : BB w b l) {i : Nat} (hi : i < l.length) : w.cell? ⟨b, i, none⟩ = some (.int .u8 ((l.getD i 0).toNat : Int)) := cell_at h (byteCells_get l hi)
theorem BB.frozen {w : World} {b : Nat} {l : List UInt8} (h : BB w b l) (i : Nat) : w.frozen? ⟨b, i, none⟩ = false := frozen_at h i
theorem BB.store {w : World} {b : Nat} {l : List UInt8} (h : BB w b l) (i : Nat) (c : UInt8) : BB (w.setCell ⟨b, i, none⟩ (.int .u8 (c.toNat : Int))) b (l.set i c) := by
  refine set_cells h i _ _ ?_
  simp [Lib.byteCells, List.map_set]
theorem BB.below {w w' : World} {b : Nat} {l : List UInt8} (h : BB w b l) (hb : Below w.heap.size w w') : BB w' b l := (hb.block b (lt_of_block h)).trans h
theorem BB.chg {w w' : World} {b c : Nat} {l : List UInt8} (h : BB w b l) (hc : Chg c w w') (hb : b ≠ c) : BB w' b l := (hc.2.2 b hb).trans h
theorem infoU8 : (Tryz.prog.info? 5).map (fun i => (i.zero, i.size, i.bytes)) = some (some (.int .u8 0), 1, 1) := by kernel_rfl
theorem make_bytes (n : Nat) (hn : n ≤ 1000000) (w : World) :
    (Instr.makeSlice 113 (.int .i64 (n : Int)) (.int .i64 (n : Int))).run Tryz.prog w = .ok (.slice (some ⟨w.heap.size, 0, none⟩) n n) (w.alloc (.cells (Lib.byteCells (List.replicate n 0)).toArray 5)) := by
  rw [make_row (P := Tryz.prog) (t := 113) Tryz.underlying113 infoU8 rfl n (by omega) (by omega) w]
  have : reps n (Value.int .u8 0) = Lib.byteCells (List.replicate n 0) := by simp [reps, Lib.byteCells]
  rw [this]
theorem BB.conv {w : World} {b : Nat} {l : List UInt8} (h : BB w b l) (c : Nat) : (convert 113 9 (.slice (some ⟨b, 0, none⟩) l.length c)).run Tryz.prog w = .ok (.string (tB l)) w := by
  have hs : (tB l).size = l.length := (Tx.of l).size
  have hb : Lib.Bytes w b 0 (tB l) := fun i hi => by
    rw [Nat.zero_add, h.cell (by omega), (Tx.of l).get hi]
  have := Lib.run_convert_whole (P := Tryz.prog) w 113 5 9 Tryz.underlying113 Tryz.underlying5 Tryz.underlying9 b 0 _ hb c
  rw [hs] at this
  exact this
theorem fill_set (a b : UInt8) (i n : Nat) (h : i < n) : (List.replicate i a ++ List.replicate (n - i) b).set i a = List.replicate (i + 1) a ++ List.replicate (n - (i + 1)) b := by
  obtain ⟨k, hk⟩ : ∃ k, n - i = k + 1 := ⟨n - i - 1, by omega⟩
  rw [hk, show n - (i + 1) = k from by omega, List.set_append_right _ _ (by simp)]
  simp [List.replicate_succ]
  rw [← List.cons_append, ← List.replicate_succ, List.replicate_succ', List.append_assoc]; rfl
theorem copy_pad {w : World} {b n k : Nat} {l : List UInt8} {a : ByteArray} (h : BB w b (List.replicate n 48)) (ha : Tx a l) (hl : k + l.length = n) :
    ∃ w', (Builtin.copy_ #[113, 9] 3 #[.slice (some ⟨b, k, none⟩) (n - k) (n - k), .string a]).run Tryz.prog w = .ok (goInt a.size) w' ∧ Chg b w w' ∧ BB w' b (padL n l) := by
  have hs := ha.size
  have hr := Lib.run_copy_row_string (P := Tryz.prog) w 113 9 3 5 b k (n - k) (n - k) a _ 5 Tryz.underlying113 (by kernel_rfl) h (by omega) (by simp [Lib.byteCells]; omega)
  have hc := setRow_chg h (((Lib.byteCells (List.replicate n 48)).toArray.toList.take k ++ Lib.byteCells a.data.toList ++ (Lib.byteCells (List.replicate n 48)).toArray.toList.drop (k + a.size)).toArray)
  refine ⟨_, hr, hc.1, ?_⟩
  have e : ((Lib.byteCells (List.replicate n 48)).toArray.toList.take k ++ Lib.byteCells a.data.toList ++ (Lib.byteCells (List.replicate n 48)).toArray.toList.drop (k + a.size)) = Lib.byteCells (padL n l) := by
    rw [show a.data.toList = l from ha, List.drop_eq_nil_of_le (by simp [Lib.byteCells]; omega), List.append_nil]
    unfold padL Lib.byteCells
    rw [List.map_append, show n - l.length = k from by omega]
    simp
    omega
  have h2 := hc.2
  rw [e] at h2
  unfold BB
  rw [e]
  exact h2
set_option maxRecDepth 100000 in
set_option maxHeartbeats 4000000 in
theorem xwide_any (a : ByteArray) (l : List UInt8) (n : Nat) (z : Int) (ez : z = n) (ha : Tx a l) (hl : l.length ≤ n) (h0 : l ≠ []) (hn : n ≤ 1000000) (w : World) (R : Ending → World → Prop) (hR : ∀ r w', Below w.heap.size w w' → Tx r (padL n l) → R (.returned (.string r)) w') :
    Calls Tryz.prog 183 #[.string a, .int .i64 z] w R := by
  subst ez
  have HR := Lib.hid hR
  have HA := Lib.hid ha
  have hs := ha.size
  have hp := List.length_pos_iff.2 h0
  have hmk := make_bytes n hn w
  obtain ⟨b, hb⟩ : ∃ z, w.heap.size = z := ⟨_, rfl⟩
  obtain ⟨w1, E1, HB1, s1, X1⟩ := box_ex w (Lib.byteCells (List.replicate n 0)).toArray 5
  rw [E1] at hmk
  rw [hb] at HB1 X1 HR hmk
  have S1 : Hid (b < w1.heap.size) := by rw [← hb]; exact s1
  obtain ⟨k, hk⟩ : ∃ k, n - l.length = k := ⟨_, rfl⟩
  have hkl : k + a.size = n := by omega
  have hkn : k < n := by omega
  have hkz : (n : Int) - (a.size : Int) = (k : Int) := by omega
  have HKL : Hid (k + l.length = n) := by unfold Hid; omega
  have X0 : Hid (BB w1 b (List.replicate 0 48 ++ List.replicate (n - 0) 0)) := by unfold Hid BB; simpa using X1.out
  have g1 : (0 : Int) ≤ (k : Int) := by omega
  have g2 : (k : Int) ≤ (n : Int) := by omega
  clear hR ha hl h0 hp hk E1 X1 s1 hs hkl
  go_enter Tryz.func183, Tryz.ntmps183
  go_wp2_with fail
  go_loopw [6] (fun i wr => ∃ j : Nat, i = .int .i64 j ∧ j ≤ n ∧ Hid (Below b w wr) ∧ Hid (BB wr b (List.replicate j 48 ++ List.replicate (n - j) 0)) ∧ Hid (b < wr.heap.size)) (fun i _ => n - (intOf i).toNat)
  case atStart => exact ⟨0, rfl, Nat.zero_le _, HB1, X0, S1⟩
  case round =>
    obtain ⟨j, rfl, hj, HB, HX, HS⟩ := hrel
    by_cases hlt : j < n
    · have K1 : ((j : Int) < (n : Int)) = True := eq_true (by omega)
      have c0 := HX.out.cell (i := j) (by simp; omega)
      have fz := HX.out.frozen j
      obtain ⟨w2, E2⟩ : ∃ z, wr.setCell ⟨b, j, none⟩ (.int .u8 48) = z := ⟨_, rfl⟩
      have X2 : Hid (BB w2 b (List.replicate (j + 1) 48 ++ List.replicate (n - (j + 1)) 0)) := by
        rw [← E2, ← fill_set 48 0 j n hlt]
        exact HX.out.store j 48
      have C2 : Hid (Chg b wr w2) := by rw [← E2]; exact (Chg.refl _ _).setCell _ _
      have B2 : Hid (Below b w w2) := HB.out.trans C2.out.1
      have S2 : Hid (b < w2.heap.size) := by unfold Hid; rw [C2.out.2.1]; exact HS.out
      go_wp2_with (rw [E2])
      exact ⟨⟨j + 1, by go_num, by omega, B2, X2, S2⟩, by simp [intOf]; omega⟩
    · have K1 : ((j : Int) < (n : Int)) = False := eq_false (by omega)
      obtain rfl : j = n := by omega
      have X3 : Hid (BB wr b (List.replicate j 48)) := by have := HX.out; rw [Nat.sub_self, List.replicate_zero, List.append_nil] at this; exact this
      obtain ⟨w4, hcp, hc4, hb4⟩ := copy_pad X3.out HA.out HKL.out
      have B4 : Hid (Below b w w4) := HB.out.trans hc4.1
      have X4 := Lib.hid hb4
      have hcv := X4.out.conv j
      rw [pad_len (by have := HKL.out; omega)] at hcv
      obtain ⟨r, hr⟩ : ∃ z, tB (padL j l) = z := ⟨_, rfl⟩
      have T4 : Hid (Tx r (padL j l)) := by rw [← hr]; exact Tx.of _
      rw [hr] at hcv
      clear hb4 hc4 hr
      go_wp2_with fail
      exact ret_str (HR.out r _ B4.out T4.out) rfl
end Go.Proofs.YtcoombhcdcniiaaGreatDoor
namespace Go.Proofs.YtcoombhcdcniiaaGreatDoor
open Go.RowKit

theorem xcolumn_z (x y c : Nat) (add : Bool) (zx zy zc : Int) (ex : zx = x) (ey : zy = y) (ec : zc = c) (hx : 48 ≤ x ∧ x ≤ 57) (hy : 48 ≤ y ∧ y ≤ 57) (hc : c ≤ 1) (w : World) (R : Ending → World → Prop)
   (hR : ∀ zd ze : Int, Hid (zd = ((48 + (colD (x - 48) (y - 48) c add).1 : Nat) : Int)) → Hid (ze = ((colD (x - 48) (y - 48) c add).2 : Nat)) → R (.returned (.tuple #[.int .u8 zd, .int .i64 ze])) w) :
    Calls Tryz.prog 184 #[.int .u8 zx, .int .u8 zy, .int .i64 zc, .bool add] w R :=
  xcolumn_any x y c add zx zy zc ex ey ec hx hy hc w R (hR _ _ rfl rfl)
theorem zero_set (c : UInt8) (k : Nat) (o : List UInt8) : (List.replicate (k + 1) 0 ++ o).set k c = List.replicate k 0 ++ c :: o := by
  rw [List.set_append_left _ _ (by simp)]
  rw [List.replicate_succ', List.set_append_right _ _ (by simp)]
  simp
theorem pap_fits {u v n : Nat} (hn : max (Lib.decDigits u).length (Lib.decDigits v).length + 1 = n) : u + v < 10 ^ n := by
  have h1 := dv_lt (dgs_dec u)
  have h2 := dv_lt (dgs_dec v)
  rw [dv_dec] at h1 h2
  have h3 : u < 10 ^ (n - 1) := Nat.lt_of_lt_of_le h1 (Nat.pow_le_pow_right (by decide) (by omega))
  have h4 : v < 10 ^ (n - 1) := Nat.lt_of_lt_of_le h2 (Nat.pow_le_pow_right (by decide) (by omega))
  have e : (10 : Nat) ^ n = 10 * 10 ^ (n - 1) := by rw [Nat.mul_comm, ← Nat.pow_succ]; congr 1; omega
  omega
set_option maxRecDepth 100000 in
set_option maxHeartbeats 8000000 in
theorem xpaper_any (a b : ByteArray) (u v : Nat) (add : Bool) (ha : Txt a (u : Nat)) (hb : Txt b (v : Nat)) (hu : lenI (u : Nat) ≤ 3000) (hv : lenI (v : Nat) ≤ 3000) (hs : add = false → v ≤ u) (w : World) (R : Ending → World → Prop)
   (hR : ∀ r w', Below w.heap.size w w' → Txt r ((if add = true then u + v else u - v : Nat) : Int) → R (.returned (.string r)) w') :
    Calls Tryz.prog 154 #[.string a, .string b, .bool add] w R := by
  have HR := Lib.hid hR
  have HA : Hid (Tx a (Lib.decDigits u)) := Txt.dec ha
  have HB : Hid (Tx b (Lib.decDigits v)) := Txt.dec hb
  have la := HA.out.size
  have lb := HB.out.size
  have lu : (Lib.decDigits u).length ≤ 3000 := hu
  have lv : (Lib.decDigits v).length ≤ 3000 := hv
  obtain ⟨n, hn⟩ : ∃ n, max (Lib.decDigits u).length (Lib.decDigits v).length + 1 = n := ⟨_, rfl⟩
  have hn3 : n ≤ 3001 := by omega
  have KMX : max (a.size : Int) (b.size : Int) + 1 = (n : Int) := by omega
  have KMX2 : (if (a.size : Int) < (b.size : Int) then (b.size : Int) else (a.size : Int)) + 1 = (n : Int) := by split <;> omega
  have sa : a.size ≤ 3000 := by omega
  have sb : b.size ≤ 3000 := by omega
  have lua : Hid ((Lib.decDigits u).length ≤ n) := by unfold Hid; omega
  have lub : Hid ((Lib.decDigits v).length ≤ n) := by unfold Hid; omega
  have hfit : Hid (if add = true then dv (padL n (Lib.decDigits u)) + dv (padL n (Lib.decDigits v)) < 10 ^ n else dv (padL n (Lib.decDigits v)) ≤ dv (padL n (Lib.decDigits u))) := by
    unfold Hid
    rw [dv_pad, dv_pad, dv_dec, dv_dec]
    cases add with
    | true => exact pap_fits hn
    | false => exact hs rfl
  have hnp : Hid (0 < n) := by unfold Hid; omega
  clear hR ha hb hu hv hs la lb lu lv hn
  go_enter Tryz.func154, Tryz.ntmps154
  go_wp2_with fail
  with_reducible refine xwide_any a _ n _ (by omega) HA.out lua.out (dec_ne u) (by omega) _ _ fun a1 w1 hb1 ht1 => ?_
  have B1 := Lib.hid hb1
  have T1 := Lib.hid ht1
  clear hb1 ht1
  go_wp2_with fail
  with_reducible refine xwide_any b _ n _ (by omega) HB.out lub.out (dec_ne v) (by omega) _ _ fun b1 w2 hb2 ht2 => ?_
  have B2 : Hid (Below w.heap.size w w2) := B1.out.trans (hb2.mono B1.out.size)
  have T2 := Lib.hid ht2
  clear hb2 ht2
  obtain ⟨A, hA⟩ : ∃ z, padL n (Lib.decDigits u) = z := ⟨_, rfl⟩
  obtain ⟨Bd, hBd⟩ : ∃ z, padL n (Lib.decDigits v) = z := ⟨_, rfl⟩
  have dA : Hid (Dgs A) := by rw [← hA]; exact dgs_pad (dgs_dec u)
  have dB : Hid (Dgs Bd) := by rw [← hBd]; exact dgs_pad (dgs_dec v)
  have lA : Hid (A.length = n) := by rw [← hA]; exact pad_len lua.out
  have lB : Hid (Bd.length = n) := by rw [← hBd]; exact pad_len lub.out
  have vA : Hid (dv A = u) := by rw [← hA]; unfold Hid; rw [dv_pad, dv_dec]
  have vB : Hid (dv Bd = v) := by rw [← hBd]; unfold Hid; rw [dv_pad, dv_dec]
  rw [hA] at T1 hfit
  rw [hBd] at T2 hfit
  have s1 : a1.size = n := T1.out.size.trans lA.out
  have s2 : b1.size = n := T2.out.size.trans lB.out
  have S1 := Lib.hid s1
  have S2 := Lib.hid s2
  have hmk := make_bytes n (by omega) w2
  obtain ⟨bo, hbo⟩ : ∃ z, w2.heap.size = z := ⟨_, rfl⟩
  obtain ⟨w3, E3, HB3, s3, X3⟩ := box_ex w2 (Lib.byteCells (List.replicate n 0)).toArray 5
  rw [E3] at hmk
  rw [hbo] at hmk HB3 X3
  have S3 : Hid (bo < w3.heap.size) := by rw [← hbo]; exact s3
  have B3 : Hid (Below w.heap.size w w3) := B2.out.trans (HB3.out.mono (by rw [← hbo]; exact B2.out.size))
  have LW : Hid (w.heap.size ≤ bo) := by rw [← hbo]; exact B2.out.size
  have X0 : Hid (BB w3 bo (List.replicate n 0 ++ [])) := by unfold Hid BB; rw [List.append_nil]; exact X3.out
  clear s3 E3 X3 KMX KMX2 sa sb hA hBd s1 s2
  go_wp2_with fail
  clear hmk hbo
  go_loopw [9, 10] (fun cr i wr => ∃ (z : Int) (j k c : Nat) (ob : List UInt8), i = .int .i64 z ∧ cr = .int .i64 c ∧ z + 1 = j ∧ j + k = n ∧ c ≤ 1 ∧ Hid (PapI A Bd add k ob c) ∧ Hid (Below w.heap.size w wr) ∧ Hid (BB wr bo (List.replicate j 0 ++ ob)) ∧ Hid (bo < wr.heap.size)) (fun _ i _ => (intOf i + 1).toNat)
  case atStart => exact ⟨(n : Int) - 1, n, 0, 0, [], by go_num, rfl, by omega, by omega, by omega, PapI.start A Bd add, B3, X0, S3⟩
  case round =>
    obtain ⟨z, j, k, c, ob, rfl, rfl, hz, hjk, hc, HI, HBr, HX, HS⟩ := hrel
    cases j with
    | zero =>
      have hz1 : z = -1 := by omega
      subst hz1
      obtain rfl : k = n := by omega
      have hob : Hid (bareL ob = Lib.decDigits (if add = true then dv A + dv Bd else dv A - dv Bd)) := HI.out.done lA.out lB.out hfit.out hnp.out
      have hol := HI.out.len
      have hcv := HX.out.conv k
      rw [List.replicate_zero, List.nil_append, hol] at hcv
      obtain ⟨r0, hr0⟩ : ∃ z, tB ob = z := ⟨_, rfl⟩
      have T0 : Hid (Tx r0 ob) := by rw [← hr0]; exact Tx.of _
      rw [hr0] at hcv
      clear hol hr0 hz
      go_wp2_with fail
      with_reducible refine xbare_any r0 ob T0.out _ _ fun r hr => ?_
      rw [hob.out, vA.out, vB.out] at hr
      have TT : Hid (Txt r ((if add = true then u + v else u - v : Nat) : Int)) := Txt.nat hr
      clear hr
      go_wp2_with fail
      exact ret_str (HR.out r _ HBr.out TT.out) rfl
    | succ i =>
      have hz1 : z = (i : Int) := by omega
      subst hz1
      have hin : i < n := by omega
      have e1 : A.length - (k + 1) = i := by rw [lA.out]; omega
      have e2 : Bd.length - (k + 1) = i := by rw [lB.out]; omega
      have hst := HI.out.step dA.out dB.out (lA.out.trans lB.out.symm) (by rw [lA.out]; omega)
      rw [e1, e2] at hst
      have ga := dA.out.at (i := i) (by rw [lA.out]; omega)
      have gb := dB.out.at (i := i) (by rw [lB.out]; omega)
      have h1 : i < a1.size := by rw [S1.out]; omega
      have h2 : i < b1.size := by rw [S2.out]; omega
      have ea : a1[i] = A.getD i 0 := T1.out.get h1
      have eb : b1[i] = Bd.getD i 0 := T2.out.get h2
      have xa : Hid ((a1[i].toNat : Int) = ((A.getD i 0).toNat : Nat)) := by unfold Hid; rw [ea]
      have xb : Hid ((b1[i].toNat : Int) = ((Bd.getD i 0).toNat : Nat)) := by unfold Hid; rw [eb]
      obtain ⟨x, hx⟩ : ∃ z, (A.getD i 0).toNat = z := ⟨_, rfl⟩
      obtain ⟨y, hy⟩ : ∃ z, (Bd.getD i 0).toNat = z := ⟨_, rfl⟩
      rw [hx] at hst ga xa
      rw [hy] at hst gb xb
      have HST := Lib.hid hst
      have hck := (colD_ok (add := add) (x := x - 48) (y := y - 48) (c := c) (by omega) (by omega) hc)
      obtain ⟨d, hd⟩ : ∃ z, (colD (x - 48) (y - 48) c add).1 = z := ⟨_, rfl⟩
      obtain ⟨c2, hc2⟩ : ∃ z, (colD (x - 48) (y - 48) c add).2 = z := ⟨_, rfl⟩
      rw [hd, hc2] at hck HST
      have HD := Lib.hid hd
      have HC2 := Lib.hid hc2
      have c0 := HX.out.cell (i := i) (by simp; omega)
      have fz := HX.out.frozen i
      have uB : Hid (((UInt8.ofNat (48 + d)).toNat : Int) = ((48 + d : Nat) : Int)) := by unfold Hid; rw [UInt8.toNat_ofNat', Nat.mod_eq_of_lt (by omega)]
      have B0 : Hid (Below w.heap.size w wr.drew) := HBr.out.drew
      have X0' : Hid (BB wr.drew bo (List.replicate (i + 1) 0 ++ ob)) := HX.out
      have S0' : Hid (bo < wr.drew.heap.size) := HS.out
      have Kin : ((i : Int) < (n : Int)) = True := eq_true (by omega)
      clear hst hx hy hd hc2 ea eb hz
      go_wp2_with fail
      refine regionL [0, 1, 2, 3, 4, 5, 6, 7, 8, 9] (fun _ => True) (by kernel_rfl) (trivial) (fun Qn hPQ hQn hS0 => ?_)
      iterate 10 (refine takeL (v := ?_) rfl rfl (by kernel_rfl) (by kernel_rfl) (by kernel_rfl) hPQ hS0 (by kernel_rfl) ?_ ?_; rotate_left; (focus (intro w hSw; (try dsimp only at hSw); go_simp; (try with_reducible rfl))); (try simp only [Act.put, List.setIfInBounds_toArray, List.set_cons_zero, List.set_cons_succ]))
      refine ofL (wpAnyH_ready (rs := [10]) (by kernel_rfl) (by simp) ?_)
      refine AllReadyH.cons (o := _) rfl (fun K hK => ?_) AllReadyH.nil
      go_simp
      with_reducible refine xcolumn_z x y c add _ _ _ xa.out xb.out rfl ga gb hc _ _ fun zd ze hzd hze => ?_
      have ed : Hid (zd = ((48 + d : Nat) : Int)) := by unfold Hid; rw [hzd.out, HD.out]
      have ee : Hid (ze = (c2 : Nat)) := by unfold Hid; rw [hze.out, HC2.out]
      obtain ⟨w5, E5⟩ : ∃ z, wr.setCell ⟨bo, i, none⟩ (.int .u8 zd) = z := ⟨_, rfl⟩
      have X5 : Hid (BB w5.drew bo (List.replicate i 0 ++ UInt8.ofNat (48 + d) :: ob)) := by
        rw [← E5, ed.out, ← uB.out, ← zero_set]
        exact HX.out.store i _
      have C5 : Hid (Chg bo wr w5) := by rw [← E5]; exact (Chg.refl _ _).setCell _ _
      have B5 : Hid (Below w.heap.size w w5.drew) := HBr.out.trans ((C5.out.1.mono LW.out).drew)
      have S5 : Hid (bo < w5.drew.heap.size) := by unfold Hid; rw [show w5.drew.heap.size = wr.heap.size from C5.out.2.1]; exact HS.out
      refine hK.out _ _ (trivial) (fun hS1 => toL [11, 12, 13, 14] ?_)
      clear hK K hS0
      (try simp only [Act.put, List.setIfInBounds_toArray, List.set_cons_zero, List.set_cons_succ])
      iterate 4 (refine takeL (v := ?_) rfl rfl (by kernel_rfl) (by kernel_rfl) (by kernel_rfl) hPQ hS1 (by kernel_rfl) ?_ ?_; rotate_left; (focus (intro w hSw; (try dsimp only at hSw); go_simp; (try with_reducible rfl))); (try simp only [Act.put, List.setIfInBounds_toArray, List.set_cons_zero, List.set_cons_succ]))
      refine ofL (wpAnyH_ready (rs := [15]) (by kernel_rfl) (by simp) ?_)
      refine AllReadyH.cons (o := _) rfl (fun K hK => ?_) AllReadyH.nil
      go_simp
      (try rw [E5])
      refine hK.out _ _ (trivial) (fun hS2 => toL [16] ?_)
      clear hK K hS1
      (try simp only [Act.put, List.setIfInBounds_toArray, List.set_cons_zero, List.set_cons_succ])
      iterate 1 (refine takeL (v := ?_) rfl rfl (by kernel_rfl) (by kernel_rfl) (by kernel_rfl) hPQ hS2 (by kernel_rfl) ?_ ?_; rotate_left; (focus (intro w hSw; (try dsimp only at hSw); go_simp; (try with_reducible rfl))); (try simp only [Act.put, List.setIfInBounds_toArray, List.set_cons_zero, List.set_cons_succ]))
      refine ofL (wpAnyH_done (by kernel_rfl) (hQn.out _ _ ?_) _)
      clear hS2 hPQ hQn Qn
      go_wp2_with fail
      refine ⟨⟨(i : Int) - 1, i, k + 1, c2, UInt8.ofNat (48 + d) :: ob, by go_num, ?_, by omega, by omega, hck.2, HST, B5, X5, S5⟩, ?_⟩
      · rw [ee.out]
      · simp [intOf]
end Go.Proofs.YtcoombhcdcniiaaGreatDoor
namespace Go.Proofs.YtcoombhcdcniiaaGreatDoor
open Go.RowKit

/-- A block that holds these naturals. -/
def IB (w : World) (b : Nat) (l : List Nat) : Prop := w.heap[b]? = some (.cells (l.map wV).toArray 3 (0, 0))
theorem IB.cell {w : World} {b : Nat} {l : List Nat} (h : IB w b l) {i : Nat} (hi : i < l.length) : w.cell? ⟨b, i, none⟩ = some (.int .i64 ((l.getD i 0 : Nat) : Int)) := cell_at h (by simp [List.getD, hi, wV])
theorem IB.frozen {w : World} {b : Nat} {l : List Nat} (h : IB w b l) (i : Nat) : w.frozen? ⟨b, i, none⟩ = false := frozen_at h i
theorem IB.store {w : World} {b : Nat} {l : List Nat} (h : IB w b l) (i x : Nat) : IB (w.setCell ⟨b, i, none⟩ (.int .i64 (x : Int))) b (l.set i x) := by
  refine set_cells h i _ _ ?_
  simp [List.map_set, wV]
theorem IB.below {w w' : World} {b : Nat} {l : List Nat} (h : IB w b l) (hb : Below w.heap.size w w') : IB w' b l := (hb.block b (lt_of_block h)).trans h
theorem IB.chg {w w' : World} {b c : Nat} {l : List Nat} (h : IB w b l) (hc : Chg c w w') (hb : b ≠ c) : IB w' b l := (hc.2.2 b hb).trans h
theorem infoI57 : (Tryz.prog.info? 3).map (fun i => (i.zero, i.size, i.bytes)) = some (some (.int .i64 0), 1, 8) := by kernel_rfl
theorem make_ints (n : Nat) (hn : n ≤ 1000000) (w : World) :
    (Instr.makeSlice 22 (.int .i64 (n : Int)) (.int .i64 (n : Int))).run Tryz.prog w = .ok (.slice (some ⟨w.heap.size, 0, none⟩) n n) (w.alloc (.cells ((List.replicate n 0).map wV).toArray 3)) := by
  rw [make_row (P := Tryz.prog) (t := 22) Tryz.underlying22 infoI57 rfl n (by omega) (by omega) w]
  have : reps n (Value.int .i64 0) = (List.replicate n 0).map wV := by simp [reps, wV]
  rw [this]
theorem dig_prod {x y : Nat} (hx : x ≤ 9) (hy : y ≤ 9) : x * y ≤ 81 := Nat.mul_le_mul hx hy
set_option maxRecDepth 100000 in
set_option maxHeartbeats 8000000 in
theorem xproduct_any (a b : ByteArray) (u v : Nat) (ha : Txt a (u : Nat)) (hb : Txt b (v : Nat)) (hu : lenI (u : Nat) ≤ 3000) (hv : lenI (v : Nat) ≤ 3000) (w : World) (R : Ending → World → Prop)
   (hR : ∀ r w', Below w.heap.size w w' → Txt r ((u * v : Nat) : Int) → R (.returned (.string r)) w') :
    Calls Tryz.prog 156 #[.string a, .string b] w R := by
  have HR := Lib.hid hR
  have HA : Hid (Tx a (Lib.decDigits u)) := Txt.dec ha
  have HB : Hid (Tx b (Lib.decDigits v)) := Txt.dec hb
  obtain ⟨A, hA⟩ : ∃ z, Lib.decDigits u = z := ⟨_, rfl⟩
  obtain ⟨Bd, hBd⟩ : ∃ z, Lib.decDigits v = z := ⟨_, rfl⟩
  have dA : Hid (Dgs A) := by rw [← hA]; exact dgs_dec u
  have dB : Hid (Dgs Bd) := by rw [← hBd]; exact dgs_dec v
  have vA : Hid (dv A = u) := by rw [← hA]; exact dv_dec u
  have vB : Hid (dv Bd = v) := by rw [← hBd]; exact dv_dec v
  have nA : Hid (0 < A.length) := by rw [← hA]; exact List.length_pos_iff.2 (dec_ne u)
  have lu : A.length ≤ 3000 := by rw [← hA]; exact hu
  have lv : Bd.length ≤ 3000 := by rw [← hBd]; exact hv
  rw [hA] at HA
  rw [hBd] at HB
  have SA : Hid (a.size = A.length) := HA.out.size
  have SB : Hid (b.size = Bd.length) := HB.out.size
  have sa : a.size ≤ 3000 := by rw [SA.out]; exact lu
  have sb : b.size ≤ 3000 := by rw [SB.out]; exact lv
  obtain ⟨n, hn⟩ : ∃ n, a.size + b.size = n := ⟨_, rfl⟩
  have hn2 : (a.size : Int) + (b.size : Int) = (n : Int) := by omega
  have hn3 : n ≤ 6000 := by omega
  have HN : Hid (A.length + Bd.length = n) := by unfold Hid; rw [← SA.out, ← SB.out]; exact hn
  have hmk := make_ints n (by omega) w
  obtain ⟨bc, hbc⟩ : ∃ z, w.heap.size = z := ⟨_, rfl⟩
  obtain ⟨w1, E1, HB1, s1, X1⟩ := box_ex w ((List.replicate n 0).map wV).toArray 3
  rw [E1] at hmk
  rw [hbc] at hmk HB1 X1 HR
  have S1 : Hid (bc < w1.heap.size) := by rw [← hbc]; exact s1
  have X0 : Hid (IB w1 bc (List.replicate (A.length + Bd.length) 0)) := by rw [HN.out]; exact X1
  have HBC := Lib.hid hbc
  have LA := Lib.hid lu
  have HNN := Lib.hid hn
  clear hR ha hb hu hv hA hBd lu lv hn E1 X1 s1
  go_enter Tryz.func156, Tryz.ntmps156
  go_wp2_with fail
  clear hmk hbc hn2
  go_loopw [6] (fun i wr => ∃ (j : Nat) (cs : List Nat), i = .int .i64 j ∧ j ≤ a.size ∧ Hid (ColI A Bd j 0 cs) ∧ Hid (Below bc w wr) ∧ Hid (IB wr bc cs) ∧ Hid (bc < wr.heap.size)) (fun i _ => a.size - (intOf i).toNat)
  case atStart => exact ⟨0, _, rfl, Nat.zero_le _, ColI.start A Bd, HB1, X0, S1⟩
  case round =>
    obtain ⟨j, cs, rfl, hj, HI, HBr, HX, HS⟩ := hrel
    by_cases hlt : j < a.size
    · have K1 : ((j : Int) < (a.size : Int)) = True := eq_true (by omega)
      go_wp2_with fail
      go_loopw [7] (fun kk wq => ∃ (k : Nat) (ds : List Nat), kk = .int .i64 k ∧ k ≤ b.size ∧ Hid (ColI A Bd j k ds) ∧ Hid (Below bc w wq) ∧ Hid (IB wq bc ds) ∧ Hid (bc < wq.heap.size)) (fun kk _ => b.size - (intOf kk).toNat)
      case atStart => exact ⟨0, cs, rfl, Nat.zero_le _, HI, HBr, HX, HS⟩
      case round =>
        obtain ⟨k, ds, rfl, hk, HJ, HBq, HY, HSq⟩ := hrel
        by_cases hkl : k < b.size
        · have K2 : ((k : Int) < (b.size : Int)) = True := eq_true (by omega)
          have hjA : j < A.length := by rw [← SA.out]; exact hlt
          have hkB : k < Bd.length := by rw [← SB.out]; exact hkl
          have hst := HJ.out.step dA.out dB.out hjA hkB
          have hln := HJ.out.len
          obtain ⟨p, hp⟩ : ∃ p, j + k + 1 = p := ⟨_, rfl⟩
          have hpl : p < ds.length := by rw [hln]; omega
          have hpi : (j : Int) + (k : Int) + 1 = (p : Int) := by omega
          have hpn : p < n := by rw [hln, HN.out] at hpl; exact hpl
          have hbd := HJ.out.bnd p hpl
          have hbd2 : ds.getD p 0 ≤ 300000 := by
            refine Nat.le_trans hbd ?_
            have h0 : j ≤ 3000 := by omega
            split <;> omega
          have c0 : wr.drew.cell? ⟨bc, p, none⟩ = some (.int .i64 ((ds.getD p 0 : Nat) : Int)) := HY.out.cell hpl
          have fz := HY.out.frozen p
          have d1 := dAt_le dA.out hjA
          have d2 := dAt_le dB.out hkB
          have g1 := dA.out.at hjA
          have g2 := dB.out.at hkB
          have e1 : a[j] = A.getD j 0 := HA.out.get hlt
          have e2 : b[k] = Bd.getD k 0 := HB.out.get hkl
          rw [← e1] at g1
          rw [← e2] at g2
          have f1 : (a[j].toNat : Int) - 48 = (dAt A j : Nat) := by unfold dAt; rw [← e1]; omega
          have f2 : (b[k].toNat : Int) - 48 = (dAt Bd k : Nat) := by unfold dAt; rw [← e2]; omega
          rw [hp] at hst
          obtain ⟨x, hx⟩ : ∃ z, ds.getD p 0 = z := ⟨_, rfl⟩
          obtain ⟨q, hq⟩ : ∃ z, dAt A j = z := ⟨_, rfl⟩
          obtain ⟨r, hr⟩ : ∃ z, dAt Bd k = z := ⟨_, rfl⟩
          rw [hx] at hst c0 hbd2
          rw [hq] at hst d1 f1
          rw [hr] at hst d2 f2
          obtain ⟨y, hy⟩ : ∃ z, q * r = z := ⟨_, rfl⟩
          have hyb : y ≤ 81 := by rw [← hy]; exact dig_prod d1 d2
          have hy2 : (q : Int) * (r : Int) = (y : Int) := by rw [← hy]; push_cast; rfl
          rw [hy] at hst
          have HST := Lib.hid hst
          obtain ⟨w5, E5⟩ : ∃ z, wr.setCell ⟨bc, p, none⟩ (.int .i64 ((x : Int) + (y : Int))) = z := ⟨_, rfl⟩
          have X5 : Hid (IB w5.drew bc (ds.set p (x + y))) := by rw [← E5]; exact HY.out.store p (x + y)
          have C5 : Hid (Chg bc wr w5) := by rw [← E5]; exact (Chg.refl _ _).setCell _ _
          have B5 : Hid (Below bc w w5.drew) := HBq.out.trans C5.out.1.drew
          have S5 : Hid (bc < w5.drew.heap.size) := by unfold Hid; rw [show w5.drew.heap.size = wr.heap.size from C5.out.2.1]; exact HSq.out
          have Kp : ((p : Int) < (n : Int)) = True := eq_true (by omega)
          have KJ1 : IntKind.i64.wrap ((j : Int) + (k : Int)) = (j : Int) + (k : Int) := by rw [IntKind.wrap_i64]; omega
          have KJ3 : IntKind.i64.wrap (p : Int) = (p : Int) := by rw [IntKind.wrap_i64]; omega
          have KU1 : IntKind.u8.wrap (q : Int) = (q : Int) := by rw [IntKind.wrap_u8]; omega
          have KU2 : IntKind.u8.wrap (r : Int) = (r : Int) := by rw [IntKind.wrap_u8]; omega
          have KI1 : IntKind.i64.wrap (q : Int) = (q : Int) := by rw [IntKind.wrap_i64]; omega
          have KI2 : IntKind.i64.wrap (r : Int) = (r : Int) := by rw [IntKind.wrap_i64]; omega
          have KY : IntKind.i64.wrap (y : Int) = (y : Int) := by rw [IntKind.wrap_i64]; omega
          have KXY : IntKind.i64.wrap ((x : Int) + (y : Int)) = (x : Int) + (y : Int) := by rw [IntKind.wrap_i64]; omega
          clear hst hln hp hpl hbd e1 e2 hx hq hr hy
          go_wp2_with fail
          refine regionL [0, 1, 2, 3, 4, 5, 7, 8, 9, 10, 11, 12, 13, 14, 15, 16, 17] (fun _ => True) (by kernel_rfl) (trivial) (fun Qn hPQ hQn hS0 => ?_)
          iterate 17 (refine takeL (v := ?_) rfl rfl (by kernel_rfl) (by kernel_rfl) (by kernel_rfl) hPQ hS0 (by kernel_rfl) ?_ ?_; rotate_left; (focus (intro w hSw; (try dsimp only at hSw); go_simp; (try with_reducible rfl))); (try simp only [Act.put, List.setIfInBounds_toArray, List.set_cons_zero, List.set_cons_succ]))
          refine ofL (wpAnyH_ready (rs := [6]) (by kernel_rfl) (by simp) ?_)
          refine AllReadyH.cons (o := _) rfl (fun K hK => ?_) AllReadyH.nil
          go_simp
          refine hK.out _ _ (trivial) (fun hS1 => toL [18, 19] ?_)
          clear hK K hS0
          (try simp only [Act.put, List.setIfInBounds_toArray, List.set_cons_zero, List.set_cons_succ])
          iterate 2 (refine takeL (v := ?_) rfl rfl (by kernel_rfl) (by kernel_rfl) (by kernel_rfl) hPQ hS1 (by kernel_rfl) ?_ ?_; rotate_left; (focus (intro w hSw; (try dsimp only at hSw); go_simp; (try with_reducible rfl))); (try simp only [Act.put, List.setIfInBounds_toArray, List.set_cons_zero, List.set_cons_succ]))
          refine ofL (wpAnyH_ready (rs := [20]) (by kernel_rfl) (by simp) ?_)
          refine AllReadyH.cons (o := _) rfl (fun K hK => ?_) AllReadyH.nil
          go_simp
          (try rw [E5])
          refine hK.out _ _ (trivial) (fun hS2 => toL [] ?_)
          clear hK K hS1
          (try simp only [Act.put, List.setIfInBounds_toArray, List.set_cons_zero, List.set_cons_succ])
          refine ofL (wpAnyH_done (by kernel_rfl) (hQn.out _ _ ?_) _)
          clear hS2 hPQ hQn Qn
          go_wp2_with fail
          refine ⟨⟨k + 1, ds.set p (x + y), by go_num, by omega, HST, B5, X5, S5⟩, ?_⟩
          simp [intOf]; omega
        · have K2 : ((k : Int) < (b.size : Int)) = False := eq_false (by omega)
          have hkb : k = Bd.length := by rw [← SB.out]; omega
          have HJ2 : Hid (ColI A Bd (j + 1) 0 ds) := by
            have h := HJ.out
            rw [hkb] at h
            exact h.row (by rw [← SA.out]; exact hlt)
          clear hkb
          go_wp2_with fail
          refine ⟨⟨j + 1, ds, by go_num, by omega, HJ2, HBq, HY, HSq⟩, ?_⟩
          simp [intOf]; omega
    · have K1 : ((j : Int) < (a.size : Int)) = False := eq_false (by omega)
      have hja : j = A.length := by rw [← SA.out]; omega
      have HJ : Hid (ColI A Bd A.length 0 cs) := by have := HI.out; rw [hja] at this; exact this
      obtain ⟨hcv, hbnd⟩ := HJ.out.done
      have hln : cs.length = n := by rw [HJ.out.len]; exact HN.out
      have HLN := Lib.hid hln
      have HBN : Hid (∀ j, j < cs.length → cs.getD j 0 ≤ 300000) := fun j hj => Nat.le_trans (hbnd j hj) (by have := LA.out; omega)
      have hvv : Hid (cv cs = u * v) := by unfold Hid; rw [hcv, vA.out, vB.out]
      have hfit : Hid (cv cs < 10 ^ cs.length) := by unfold Hid; rw [hcv, hln, ← HN.out]; exact mul_fits dA.out dB.out
      have hnp : Hid (0 < cs.length) := by unfold Hid; rw [hln, ← HN.out]; have := nA.out; omega
      have hmk := make_bytes n (by omega) wr
      obtain ⟨bo, hbo⟩ : ∃ z, wr.heap.size = z := ⟨_, rfl⟩
      obtain ⟨w3, E3, HB3, s3, X3⟩ := box_ex wr (Lib.byteCells (List.replicate n 0)).toArray 5
      have Y3 := Lib.hid (HX.out.below HB3.out)
      rw [E3] at hmk
      rw [hbo] at hmk HB3 X3
      have S3 : Hid (bo < w3.heap.size) := by rw [← hbo]; exact s3
      have LB : Hid (bc < bo) := by rw [← hbo]; exact HS.out
      have B3 : Hid (Below bc w w3) := HBr.out.trans (HB3.out.mono (Nat.le_of_lt LB.out))
      have X0' : Hid (BB w3 bo (List.replicate n 0 ++ [])) := by unfold Hid BB; rw [List.append_nil]; exact X3.out
      clear hcv hbnd hln hja s3 E3 X3
      go_wp2_with fail
      clear hmk hbo
      go_loopw [9, 10] (fun cr i wq => ∃ (z : Int) (m k c : Nat) (ob : List UInt8), i = .int .i64 z ∧ cr = .int .i64 c ∧ z + 1 = m ∧ m + k = n ∧ c ≤ 300000 ∧ Hid (ComI cs k ob c 300000) ∧ Hid (Below bc w wq) ∧ Hid (BB wq bo (List.replicate m 0 ++ ob)) ∧ Hid (IB wq bc cs)) (fun _ i _ => (intOf i + 1).toNat)
      case atStart => exact ⟨(n : Int) - 1, n, 0, 0, [], by go_num, rfl, by omega, by omega, by omega, ComI.start cs 300000, B3, X0', Y3⟩
      case round =>
        obtain ⟨z, m, k, c, ob, rfl, rfl, hz, hmk2, hc, HK, HBq, HXq, HYq⟩ := hrel
        cases m with
        | zero =>
          have hz1 : z = -1 := by omega
          subst hz1
          have hkc : k = cs.length := by rw [HLN.out]; omega
          have hob : Hid (bareL ob = Lib.decDigits (cv cs)) := by
            have h := HK.out
            rw [hkc] at h
            exact h.done hfit.out hnp.out
          have hol : ob.length = n := by rw [HK.out.len, hkc]; exact HLN.out
          have hcv := HXq.out.conv n
          rw [List.replicate_zero, List.nil_append, hol] at hcv
          obtain ⟨r0, hr0⟩ : ∃ z, tB ob = z := ⟨_, rfl⟩
          have T0 : Hid (Tx r0 ob) := by rw [← hr0]; exact Tx.of _
          rw [hr0] at hcv
          clear hol hr0 hz hkc
          go_wp2_with fail
          with_reducible refine xbare_any r0 ob T0.out _ _ fun r hr => ?_
          rw [hob.out, hvv.out] at hr
          have TT : Hid (Txt r ((u * v : Nat) : Int)) := Txt.nat hr
          clear hr
          go_wp2_with fail
          exact ret_str (HR.out r _ HBq.out TT.out) rfl
        | succ i =>
          have hz1 : z = (i : Int) := by omega
          subst hz1
          have hin : i < n := by omega
          have hil : i < cs.length := by rw [HLN.out]; exact hin
          have hst := HK.out.step (by rw [HLN.out]; omega) (by rw [show cs.length - (k + 1) = i from by rw [HLN.out]; omega]; exact HBN.out i hil)
          rw [show cs.length - (k + 1) = i from by rw [HLN.out]; omega] at hst
          have c0 := HYq.out.cell hil
          have hxb := HBN.out i hil
          obtain ⟨x, hx⟩ : ∃ z, cs.getD i 0 = z := ⟨_, rfl⟩
          rw [hx] at hst c0 hxb
          obtain ⟨s, hs⟩ : ∃ z, c + x = z := ⟨_, rfl⟩
          have hs2 : (c : Int) + (x : Int) = (s : Int) := by omega
          rw [hs] at hst
          obtain ⟨d, hd⟩ : ∃ z, s % 10 = z := ⟨_, rfl⟩
          obtain ⟨q, hq⟩ : ∃ z, s / 10 = z := ⟨_, rfl⟩
          rw [hd, hq] at hst
          have hd10 : d < 10 := by omega
          have hq2 : ((s : Int) / 10) = (q : Int) := by omega
          have hq3 : (s : Int).tdiv 10 = (q : Int) := by rw [Int.tdiv_eq_ediv_of_nonneg (by omega)]; omega
          have hd2 : ((s : Int) % 10) = (d : Int) := by omega
          have htm : (s : Int).tmod 10 = (d : Int) := by rw [Int.tmod_eq_emod_of_nonneg (by omega)]; omega
          have hqb : Hid (q ≤ 300000) := by unfold Hid; omega
          have hsb : s ≤ 600000 := by omega
          have hwd : IntKind.i64.wrap (d : Int) = d := by rw [IntKind.wrap_i64]; omega
          have hwq : IntKind.i64.wrap (q : Int) = q := by rw [IntKind.wrap_i64]; omega
          have cb := HXq.out.cell (i := i) (by simp; omega)
          have fz := HXq.out.frozen i
          obtain ⟨w5, E5⟩ : ∃ z, wr.setCell ⟨bo, i, none⟩ (.int .u8 (48 + (d : Int))) = z := ⟨_, rfl⟩
          have uB : Hid (((UInt8.ofNat (48 + d)).toNat : Int) = 48 + (d : Int)) := by unfold Hid; rw [UInt8.toNat_ofNat', Nat.mod_eq_of_lt (by omega)]; rfl
          have X5 : Hid (BB w5 bo (List.replicate i 0 ++ UInt8.ofNat (48 + d) :: ob)) := by
            rw [← E5, ← uB.out, ← zero_set]
            exact HXq.out.store i _
          have C5 : Hid (Chg bo wr w5) := by rw [← E5]; exact (Chg.refl _ _).setCell _ _
          have Y5 : Hid (IB w5 bc cs) := HYq.out.chg C5.out (by have := LB.out; omega)
          have B5 : Hid (Below bc w w5) := HBq.out.trans (C5.out.1.mono (Nat.le_of_lt LB.out))
          have Kin : ((i : Int) < (n : Int)) = True := eq_true (by omega)
          have HST := Lib.hid hst
          clear hst hx hs hd hq hz
          go_wp2_with (rw [E5])
          refine ⟨⟨(i : Int) - 1, i, k + 1, q, UInt8.ofNat (48 + d) :: ob, by go_num, rfl, by omega, by omega, hqb.out, HST, B5, X5, Y5⟩, ?_⟩
          simp [intOf]
end Go.Proofs.YtcoombhcdcniiaaGreatDoor
namespace Go.Proofs.YtcoombhcdcniiaaGreatDoor
open Go.RowKit

theorem Tx.one {a : ByteArray} {l : List UInt8} (h : Tx a l) {i : Nat} (hi : i < a.size) : Tx (a.extract i (i + 1)) [l.getD i 0] := by
  have hl : i < l.length := by rw [← h.size]; exact hi
  unfold Tx
  rw [Lib.extract_data, show a.data.toList = l from h, show i + 1 - i = 1 from by omega]
  have e : l.drop i = l[i] :: l.drop (i + 1) := List.drop_eq_getElem_cons hl
  rw [e]
  show [l[i]] = [l.getD i 0]
  simp [List.getD, hl]
theorem one_more {k v r x : Nat} (h : k * v + r = x) (hr : v ≤ r) : (k + 1) * v + (r - v) = x := by rw [Nat.succ_mul]; omega
theorem quot_le {k v r x : Nat} (h : k * v + r = x) (hx : x < 10 * v) : k ≤ 9 := by
  have h1 : k * v < 10 * v := by omega
  have := Nat.lt_of_mul_lt_mul_right h1
  omega
set_option exponentiation.threshold 4000 in
theorem len10 {v x : Nat} (hx : x < 10 * v) (hv : lenI (v : Nat) ≤ 2000) : lenI (x : Nat) ≤ 3000 := by
  rw [lenI_le (by decide), Int.natAbs_natCast] at hv ⊢
  have e : (10 : Nat) ^ 2001 = 10 * 10 ^ 2000 := by rw [Nat.mul_comm, ← Nat.pow_succ]
  have h2 : x < 10 ^ 2001 := by rw [e]; omega
  exact Nat.lt_of_lt_of_le h2 (Nat.pow_le_pow_right (by decide) (by decide))
set_option maxRecDepth 100000 in
set_option maxHeartbeats 8000000 in
theorem xdivided_any (a b : ByteArray) (u v : Nat) (ha : Txt a (u : Nat)) (hb : Txt b (v : Nat)) (hu : lenI (u : Nat) ≤ 3000) (hv : lenI (v : Nat) ≤ 2000) (h0 : v ≠ 0) (w : World) (R : Ending → World → Prop)
   (hR : ∀ r1 r2 w', Below w.heap.size w w' → Txt r1 ((u / v : Nat) : Int) → Txt r2 ((u % v : Nat) : Int) → R (.returned (.tuple #[.string r1, .string r2])) w') :
    Calls Tryz.prog 137 #[.string a, .string b] w R := by
  have HR := Lib.hid hR
  have HA : Hid (Tx a (Lib.decDigits u)) := Txt.dec ha
  have HB := Lib.hid hb
  have HV := Lib.hid hv
  have H0 : Hid (0 < v) := Nat.pos_of_ne_zero h0
  obtain ⟨A, hA⟩ : ∃ z, Lib.decDigits u = z := ⟨_, rfl⟩
  have dA : Hid (Dgs A) := by rw [← hA]; exact dgs_dec u
  have vA : Hid (dv A = u) := by rw [← hA]; exact dv_dec u
  have nA : Hid (A ≠ []) := by rw [← hA]; exact dec_ne u
  rw [hA] at HA
  have SA : Hid (a.size = A.length) := HA.out.size
  have sa : a.size ≤ 3000 := by rw [SA.out, ← hA]; exact hu
  clear hR ha hb hu hv h0 hA
  go_enter Tryz.func137, Tryz.ntmps137
  go_wp2_with fail
  go_loopw [6, 7, 8] (fun p q i wr => ∃ (j rn : Nat) (ql : List UInt8) (qs rs : ByteArray), p = .string qs ∧ q = .string rs ∧ i = .int .i64 j ∧ j ≤ a.size ∧ Hid (Tx qs ql) ∧ Hid (Txt rs (rn : Nat)) ∧ Hid (DivI A v j ql rn) ∧ Hid (Below w.heap.size w wr)) (fun _ _ i _ => a.size - (intOf i).toNat)
  case atStart => exact ⟨0, 0, [], ⟨#[]⟩, ⟨#[48]⟩, rfl, rfl, rfl, Nat.zero_le _, rfl, Txt.zero, DivI.start A H0.out, Below.refl _ _⟩
  case round =>
    obtain ⟨j, rn, ql, qs, rs, rfl, rfl, rfl, hj, HQ, HT, HI, HBr⟩ := hrel
    by_cases hlt : j < a.size
    · have K1 : ((j : Int) < (a.size : Int)) = True := eq_true (by omega)
      have hjA : j < A.length := by rw [← SA.out]; exact hlt
      have hd := dAt_le dA.out hjA
      have hdg := dA.out.at hjA
      obtain ⟨d, hdd⟩ : ∃ z, dAt A j = z := ⟨_, rfl⟩
      rw [hdd] at hd
      have h1 := HA.out.one hlt
      have hT : Tx rs (Lib.decDigits rn) := Txt.dec HT.out
      have hrn := HI.out.lt
      have hrl : (Lib.decDigits rn).length ≤ 3000 := by
        have := len10 (v := v) (x := rn) (by omega) HV.out
        exact this
      have had := hT.add_run (P := Tryz.prog) h1 (by simp; omega)
      obtain ⟨t1, ht1⟩ : ∃ z, a.extract j (j + 1) = z := ⟨_, rfl⟩
      obtain ⟨t2, ht2⟩ : ∃ z, tB (Lib.decDigits rn ++ [A.getD j 0]) = z := ⟨_, rfl⟩
      rw [ht1, ht2] at had
      have T2 : Hid (Tx t2 (Lib.decDigits rn ++ [A.getD j 0])) := by rw [← ht2]; exact Tx.of _
      have hbare : Hid (bareL (Lib.decDigits rn ++ [A.getD j 0]) = Lib.decDigits (rn * 10 + d)) := by
        unfold Hid
        rw [bare_can ((dgs_dec rn).append (fun c hc => by obtain rfl := List.mem_singleton.1 hc; exact hdg)) (by simp), dv_snoc, dv_dec, ← hdd]
        rfl
      have hx10 : Hid (rn * 10 + d < 10 * v) := by unfold Hid; omega
      have HDD := Lib.hid hdd
      have g1 : (0 : Int) ≤ (j : Int) := by omega
      have g2 : (j : Int) ≤ (j : Int) + 1 := by omega
      have g3 : (j : Int) + 1 ≤ (a.size : Int) := by omega
      have g4 : ((j : Int) + 1).toNat = j + 1 := by omega
      clear h1 hT hrl ht2 hdg hdd hrn
      go_wp2_with fail
      with_reducible refine xbare_any t2 _ T2.out _ _ fun r1 hr1 => ?_
      rw [hbare.out] at hr1
      have T3 : Hid (Txt r1 ((rn * 10 + d : Nat) : Int)) := Txt.nat hr1
      clear hr1
      go_wp2_with fail
      go_loopw [7, 9] (fun q dg wq => ∃ (k r' : Nat) (rs' : ByteArray), q = .string rs' ∧ dg = .int .u8 (48 + (k : Int)) ∧ k ≤ 9 ∧ Hid (Txt rs' (r' : Nat)) ∧ Hid (k * v + r' = rn * 10 + d) ∧ Hid (Below w.heap.size w wq)) (fun _ dg _ => 58 - (intOf dg).toNat)
      case atStart => exact ⟨0, rn * 10 + d, r1, rfl, rfl, by omega, T3, by unfold Hid; omega, HBr⟩
      case round =>
        obtain ⟨k, r', rs', rfl, rfl, hk, HT', HE, HBq⟩ := hrel
        go_wp2_with fail
        with_reducible refine xless_any rs' b r' v HT'.out HB.out _ _ fun c hc => ?_
        by_cases hrv : r' < v
        · obtain rfl : c = true := by rw [hc.out]; exact decide_eq_true hrv
          have hdv : Hid (DivI A v (j + 1) (ql ++ [UInt8.ofNat (48 + k)]) r') := HI.out.step (by rw [← SA.out]; exact hlt) hk (by rw [HDD.out]; exact HE.out.symm) hrv
          obtain ⟨w4, E4, HB4, s4, X4⟩ := box_ex wr #[.int .u8 (48 + (k : Int))] 5
          have hcv := conv1 (x := 48 + k) (z := 48 + (k : Int)) (by omega) (by omega) X4.out
          have hql : ql.length ≤ 3000 := by rw [HI.out.len]; omega
          have had2 := HQ.out.add_run (P := Tryz.prog) (Tx.of [UInt8.ofNat (48 + k)]) (by simp; omega)
          obtain ⟨t4, ht4⟩ : ∃ z, tB [UInt8.ofNat (48 + k)] = z := ⟨_, rfl⟩
          obtain ⟨t5, ht5⟩ : ∃ z, tB (ql ++ [UInt8.ofNat (48 + k)]) = z := ⟨_, rfl⟩
          rw [ht4] at hcv
          rw [ht4, ht5] at had2
          have T5 : Hid (Tx t5 (ql ++ [UInt8.ofNat (48 + k)])) := by rw [← ht5]; exact Tx.of _
          have B4 : Hid (Below w.heap.size w w4) := HBq.out.trans (HB4.out.mono HBq.out.size)
          clear hc hrv ht4 ht5 s4 hql
          go_wp2_with (rw [E4])
          refine ⟨⟨j + 1, r', _, t5, rs', rfl, rfl, by go_num, by omega, T5, HT', hdv, B4⟩, ?_⟩
          simp [intOf]; omega
        · obtain rfl : c = false := by rw [hc.out]; exact decide_eq_false hrv
          have hE2 := one_more HE.out (Nat.le_of_not_lt hrv)
          have hk9 := quot_le hE2 hx10.out
          have HE2 := Lib.hid hE2
          have lr : Hid (lenI (r' : Nat) ≤ 3000) := len10 (v := v) (by have := HE.out; have := hx10.out; omega) HV.out
          have lv : Hid (lenI (v : Nat) ≤ 3000) := Nat.le_trans HV.out (by decide)
          have hle : Hid (v ≤ r') := Nat.le_of_not_lt hrv
          clear hc hrv hE2
          go_wp2_with fail
          with_reducible refine xpaper_any rs' b r' v false HT'.out HB.out lr.out lv.out (fun _ => hle.out) _ _ fun r6 w6 hb6 hr6 => ?_
          have T6 : Hid (Txt r6 ((r' - v : Nat) : Int)) := hr6
          have B6 : Hid (Below w.heap.size w w6) := HBq.out.trans (hb6.mono HBq.out.size)
          clear hb6 hr6
          go_wp2_with fail
          refine ⟨⟨k + 1, r' - v, r6, rfl, ?_, hk9, T6, HE2, B6⟩, ?_⟩
          · first | (congr 1; done) | (congr 1; push_cast; omega) | go_num
          · simp [intOf]; omega
    · have K1 : ((j : Int) < (a.size : Int)) = False := eq_false (by omega)
      have hja : j = A.length := by rw [← SA.out]; omega
      have hdn : Hid (bareL ql = Lib.decDigits (u / v) ∧ rn = u % v) := by
        have h := HI.out
        rw [hja] at h
        have := h.done nA.out
        rw [vA.out] at this
        exact this
      clear hja
      go_wp2_with fail
      with_reducible refine xbare_any qs ql HQ.out _ _ fun r7 hr7 => ?_
      rw [hdn.out.1] at hr7
      have T7 : Hid (Txt r7 ((u / v : Nat) : Int)) := Txt.nat hr7
      have T8 : Hid (Txt rs ((u % v : Nat) : Int)) := by unfold Hid; rw [← hdn.out.2]; exact HT.out
      clear hr7
      go_wp2_with fail
      exact HR.out _ _ _ HBr.out T7.out T8.out
end Go.Proofs.YtcoombhcdcniiaaGreatDoor
namespace Go.Proofs.YtcoombhcdcniiaaGreatDoor
open Go.RowKit

theorem abs18 {n : Int} (h : lenI n ≤ 18) : n.natAbs < 1000000000000000000 := (lenI_le (k := 18) (by decide)).1 h
theorem lenA {n : Int} {k : Nat} (h : lenI n ≤ k) : lenI (n.natAbs : Nat) ≤ k := by unfold lenI; rw [Int.natAbs_natCast]; exact h
theorem lenV {s : Bool} {v k : Nat} (h : lenI (v : Nat) ≤ k) : lenI (sV s v) ≤ k := by unfold lenI sV at *; cases s <;> simpa using h
theorem len_sum {u v : Nat} {k : Nat} (hk : 0 < k) (hu : lenI (u : Nat) ≤ k) (hv : lenI (v : Nat) ≤ k) : lenI ((u + v : Nat) : Int) ≤ k + 1 := by
  rw [lenI_le (by omega), Int.natAbs_natCast] at *
  rw [Nat.pow_succ]; omega
theorem len_le {u v k : Nat} (h : u ≤ v) (hk : 0 < k) (hv : lenI (v : Nat) ≤ k) : lenI (u : Nat) ≤ k := by
  rw [lenI_le hk, Int.natAbs_natCast] at *
  omega
set_option maxRecDepth 100000 in
set_option maxHeartbeats 8000000 in
theorem xplus_any (a b : ByteArray) (m n : Int) (ha : Txt a m) (hb : Txt b n) (hm : lenI m ≤ 1500) (hn : lenI n ≤ 1500) (w : World) (R : Ending → World → Prop) (hR : ∀ r w', Below w.heap.size w w' → Txt r (m + n) → R (.returned (.string r)) w') :
    Calls Tryz.prog 117 #[.string a, .string b] w R := by
  have HR := Lib.hid hR
  have HA := Lib.hid ha
  have HB := Lib.hid hb
  have LM : Hid (lenI (m.natAbs : Nat) ≤ 3000) := Nat.le_trans (lenA hm) (by decide)
  have LN : Hid (lenI (n.natAbs : Nat) ≤ 3000) := Nat.le_trans (lenA hn) (by decide)
  have LS : Hid (lenI ((m.natAbs + n.natAbs : Nat) : Int) ≤ 3000) := Nat.le_trans (len_sum (by decide) (lenA hm) (lenA hn)) (by decide)
  have hval := plS_val (decide (m < 0)) (decide (n < 0)) m.natAbs n.natAbs
  rw [sV_abs, sV_abs] at hval
  have HV := Lib.hid hval
  clear hR ha hb hm hn hval
  go_enter Tryz.func117, Tryz.ntmps117
  go_wp2_with fail
  with_reducible refine xbrief_any a b m n HA.out HB.out _ _ ?_
  by_cases hs : lenI m ≤ 18 ∧ lenI n ≤ 18
  · refine ⟨fun _ => ?_, fun h => absurd hs h⟩
    have b1 := abs18 hs.1
    have b2 := abs18 hs.2
    obtain ⟨z, hz⟩ : ∃ z, m + n = z := ⟨_, rfl⟩
    have hz1 : -4611686018427387904 ≤ z := by omega
    have hz2 : z ≤ 4611686018427387904 := by omega
    clear hs b1 b2
    go_wp2_with fail
    with_reducible refine xof_any z hz1 hz2 _ _ fun r w1 hb1 hr1 => ?_
    rw [← hz] at hr1
    have B1 := Lib.hid hb1
    have T1 := Lib.hid hr1
    clear hb1 hr1 hz
    go_wp2_with fail
    exact ret_str (HR.out r _ B1.out T1.out) rfl
  · refine ⟨fun h => absurd h hs, fun _ => ?_⟩
    clear hs
    go_wp2_with fail
    with_reducible refine xsize_any a m HA.out _ _ fun x hx => ?_
    have TX := Lib.hid hx
    clear hx
    go_wp2_with fail
    with_reducible refine xsize_any b n HB.out _ _ fun y hy => ?_
    have TY := Lib.hid hy
    clear hy
    go_wp2_with fail
    with_reducible refine xbelow_any a m HA.out _ _ fun sa hsa => ?_
    go_wp2_with fail
    with_reducible refine xbelow_any b n HB.out _ _ fun sb hsb => ?_
    rw [← hsa.out, ← hsb.out] at HV
    by_cases he : sa = sb
    · have K : (sa == sb) = true := by simp [he]
      have hv2 : Hid (sV sa (m.natAbs + n.natAbs) = m + n) := by
        have := HV.out
        unfold plS at this
        rw [if_pos he] at this; exact this
      clear he
      go_wp2_with fail
      with_reducible refine xpaper_any x y m.natAbs n.natAbs true TX.out TY.out LM.out LN.out (fun h => absurd h (by decide)) _ _ fun p w3 hb3 hp => ?_
      have TP : Hid (Txt p ((m.natAbs + n.natAbs : Nat) : Int)) := hp
      have B3 := Lib.hid hb3
      clear hp hb3
      go_wp2_with fail
      with_reducible refine xbelow_any a m HA.out _ _ fun s3 hs3 => ?_
      obtain rfl : s3 = sa := hs3.out.trans hsa.out.symm
      go_wp2_with fail
      with_reducible refine xsigned_any p (m.natAbs + n.natAbs) s3 TP.out LS.out _ _ fun r hr => ?_
      rw [hv2.out] at hr
      have TR := Lib.hid hr
      clear hr
      go_wp2_with fail
      exact ret_str (HR.out r _ B3.out TR.out) rfl
    · have K : (sa == sb) = false := by simp [he]
      have HNE := Lib.hid he
      clear he
      go_wp2_with fail
      with_reducible refine xless_any x y m.natAbs n.natAbs TX.out TY.out _ _ fun c hc => ?_
      by_cases hlt : m.natAbs < n.natAbs
      · obtain rfl : c = true := by rw [hc.out]; exact decide_eq_true hlt
        have hv2 : Hid (sV sb (n.natAbs - m.natAbs) = m + n) := by
          have := HV.out
          unfold plS at this
          rw [if_neg HNE.out, if_neg (by omega)] at this; exact this
        have hle : Hid (m.natAbs ≤ n.natAbs) := Nat.le_of_lt hlt
        have LD : Hid (lenI ((n.natAbs - m.natAbs : Nat) : Int) ≤ 3000) := len_le (Nat.sub_le _ _) (by decide) LN.out
        clear hc hlt
        go_wp2_with fail
        with_reducible refine xpaper_any y x n.natAbs m.natAbs false TY.out TX.out LN.out LM.out (fun _ => hle.out) _ _ fun p w3 hb3 hp => ?_
        have TP : Hid (Txt p ((n.natAbs - m.natAbs : Nat) : Int)) := hp
        have B3 := Lib.hid hb3
        clear hp hb3
        go_wp2_with fail
        with_reducible refine xbelow_any b n HB.out _ _ fun s3 hs3 => ?_
        obtain rfl : s3 = sb := hs3.out.trans hsb.out.symm
        go_wp2_with fail
        with_reducible refine xsigned_any p (n.natAbs - m.natAbs) s3 TP.out LD.out _ _ fun r hr => ?_
        rw [hv2.out] at hr
        have TR := Lib.hid hr
        clear hr
        go_wp2_with fail
        exact ret_str (HR.out r _ B3.out TR.out) rfl
      · obtain rfl : c = false := by rw [hc.out]; exact decide_eq_false hlt
        have hv2 : Hid (sV sa (m.natAbs - n.natAbs) = m + n) := by
          have := HV.out
          unfold plS at this
          rw [if_neg HNE.out, if_pos (by omega)] at this; exact this
        have hle : Hid (n.natAbs ≤ m.natAbs) := Nat.le_of_not_lt hlt
        have LD : Hid (lenI ((m.natAbs - n.natAbs : Nat) : Int) ≤ 3000) := len_le (Nat.sub_le _ _) (by decide) LM.out
        clear hc hlt
        go_wp2_with fail
        with_reducible refine xpaper_any x y m.natAbs n.natAbs false TX.out TY.out LM.out LN.out (fun _ => hle.out) _ _ fun p w3 hb3 hp => ?_
        have TP : Hid (Txt p ((m.natAbs - n.natAbs : Nat) : Int)) := hp
        have B3 := Lib.hid hb3
        clear hp hb3
        go_wp2_with fail
        with_reducible refine xbelow_any a m HA.out _ _ fun s3 hs3 => ?_
        obtain rfl : s3 = sa := hs3.out.trans hsa.out.symm
        go_wp2_with fail
        with_reducible refine xsigned_any p (m.natAbs - n.natAbs) s3 TP.out LD.out _ _ fun r hr => ?_
        rw [hv2.out] at hr
        have TR := Lib.hid hr
        clear hr
        go_wp2_with fail
        exact ret_str (HR.out r _ B3.out TR.out) rfl
set_option maxHeartbeats 2000000 in
theorem xminus_any (a b : ByteArray) (m n : Int) (ha : Txt a m) (hb : Txt b n) (hm : lenI m ≤ 1500) (hn : lenI n ≤ 1500) (w : World) (R : Ending → World → Prop) (hR : ∀ r w', Below w.heap.size w w' → Txt r (m - n) → R (.returned (.string r)) w') :
    Calls Tryz.prog 116 #[.string a, .string b] w R := by
  have HR := Lib.hid hR
  have HA := Lib.hid ha
  have HM := Lib.hid hm
  have HN : Hid (lenI (-n) ≤ 1500) := by unfold Hid; rw [lenI_neg]; exact hn
  have HN2 : Hid (lenI n ≤ 3000) := Nat.le_trans hn (by decide)
  have HB := Lib.hid hb
  clear hR ha hm hn hb
  go_enter Tryz.func116, Tryz.ntmps116
  go_wp2_with fail
  with_reducible refine xturned_any b n HB.out HN2.out _ _ fun r hr => ?_
  have T1 := Lib.hid hr
  clear hr
  go_wp2_with fail
  with_reducible refine xplus_any a r m (-n) HA.out T1.out HM.out HN.out _ _ fun r2 w2 hb2 hr2 => ?_
  have B2 := Lib.hid hb2
  have T2 : Hid (Txt r2 (m - n)) := hr2
  clear hb2 hr2
  go_wp2_with fail
  exact ret_str (HR.out r2 _ B2.out T2.out) rfl
theorem mul18 {a b : ByteArray} {m n : Int} (ha : Txt a m) (hb : Txt b n) (h : a.size + b.size ≤ 18) : (m * n).natAbs < 1000000000000000000 := by
  have h1 := ha.size
  have h2 := hb.size
  have l1 : lenI m ≤ a.size := by omega
  have l2 : lenI n ≤ b.size := by omega
  have m1 := (lenI_le ha.pos).1 l1
  have m2 := (lenI_le hb.pos).1 l2
  rw [Int.natAbs_mul]
  have h3 : m.natAbs * n.natAbs < 10 ^ a.size * 10 ^ b.size := Nat.mul_lt_mul'' m1 m2
  rw [← Nat.pow_add] at h3
  exact Nat.lt_of_lt_of_le h3 (Nat.pow_le_pow_right (by decide) h)
set_option exponentiation.threshold 4000 in
set_option maxRecDepth 100000 in
set_option maxHeartbeats 8000000 in
theorem xtimes_any (a b : ByteArray) (m n : Int) (ha : Txt a m) (hb : Txt b n) (hm : lenI m ≤ 1500) (hn : lenI n ≤ 1500) (w : World) (R : Ending → World → Prop) (hR : ∀ r w', Below w.heap.size w w' → Txt r (m * n) → R (.returned (.string r)) w') :
    Calls Tryz.prog 121 #[.string a, .string b] w R := by
  have HR := Lib.hid hR
  have HA := Lib.hid ha
  have HB := Lib.hid hb
  have LM : Hid (lenI (m.natAbs : Nat) ≤ 3000) := Nat.le_trans (lenA hm) (by decide)
  have LN : Hid (lenI (n.natAbs : Nat) ≤ 3000) := Nat.le_trans (lenA hn) (by decide)
  have LP : Hid (lenI ((m.natAbs * n.natAbs : Nat) : Int) ≤ 3000) := by
    have h1 := (lenI_le (by decide)).1 hm
    have h2 := (lenI_le (by decide)).1 hn
    unfold Hid
    rw [lenI_le (by decide), Int.natAbs_natCast]
    have := Nat.mul_lt_mul'' h1 h2
    rw [← Nat.pow_add] at this
    exact this
  have hval := sV_mul m n
  have HV := Lib.hid hval
  have sza : a.size ≤ 2000 := by have := ha.size; split at this <;> omega
  have szb : b.size ≤ 2000 := by have := hb.size; split at this <;> omega
  clear hR ha hb hm hn hval
  go_enter Tryz.func121, Tryz.ntmps121
  go_wp2_with fail
  with_reducible refine xbrief_any a b m n HA.out HB.out _ _ ?_
  have hcase : (lenI m ≤ 18 ∧ lenI n ≤ 18) ∧ a.size + b.size ≤ 18 ∨ (lenI m ≤ 18 ∧ lenI n ≤ 18) ∧ ¬ a.size + b.size ≤ 18 ∨ ¬ (lenI m ≤ 18 ∧ lenI n ≤ 18) := by omega
  rcases hcase with ⟨hs, hz⟩ | ⟨hs, hz⟩ | hs
  · refine ⟨fun _ => ?_, fun h => absurd hs h⟩
    have K : ((a.size : Int) + (b.size : Int) ≤ 18) = True := eq_true (by omega)
    have hbd := mul18 HA.out HB.out hz
    obtain ⟨z, hzz⟩ : ∃ z, m * n = z := ⟨_, rfl⟩
    rw [hzz] at hbd
    have hz1 : -4611686018427387904 ≤ z := by omega
    have hz2 : z ≤ 4611686018427387904 := by omega
    clear hs hz
    go_wp2_with fail
    with_reducible refine xof_any z hz1 hz2 _ _ fun r w1 hb1 hr1 => ?_
    rw [← hzz] at hr1
    have B1 := Lib.hid hb1
    have T1 := Lib.hid hr1
    clear hb1 hr1 hzz
    go_wp2_with fail
    exact ret_str (HR.out r _ B1.out T1.out) rfl
  · refine ⟨fun _ => ?_, fun h => absurd hs h⟩
    have K : ((a.size : Int) + (b.size : Int) ≤ 18) = False := eq_false (by omega)
    clear hs hz
    go_wp2_with fail
    with_reducible refine xsize_any a m HA.out _ _ fun x hx => ?_
    have TX := Lib.hid hx
    clear hx
    go_wp2_with fail
    with_reducible refine xsize_any b n HB.out _ _ fun y hy => ?_
    have TY := Lib.hid hy
    clear hy
    go_wp2_with fail
    with_reducible refine xproduct_any x y m.natAbs n.natAbs TX.out TY.out LM.out LN.out _ _ fun p w3 hb3 hp => ?_
    have TP := Lib.hid hp
    have B3 := Lib.hid hb3
    clear hp hb3
    go_wp2_with fail
    with_reducible refine xbelow_any a m HA.out _ _ fun sa hsa => ?_
    go_wp2_with fail
    with_reducible refine xbelow_any b n HB.out _ _ fun sb hsb => ?_
    rw [← hsa.out, ← hsb.out] at HV
    go_wp2_with fail
    with_reducible refine xsigned_any p (m.natAbs * n.natAbs) (!(sa == sb)) TP.out LP.out _ _ fun r hr => ?_
    rw [HV.out] at hr
    have TR := Lib.hid hr
    clear hr
    go_wp2_with fail
    exact ret_str (HR.out r _ B3.out TR.out) rfl
  · refine ⟨fun h => absurd h hs, fun _ => ?_⟩
    clear hs
    go_wp2_with fail
    with_reducible refine xsize_any a m HA.out _ _ fun x hx => ?_
    have TX := Lib.hid hx
    clear hx
    go_wp2_with fail
    with_reducible refine xsize_any b n HB.out _ _ fun y hy => ?_
    have TY := Lib.hid hy
    clear hy
    go_wp2_with fail
    with_reducible refine xproduct_any x y m.natAbs n.natAbs TX.out TY.out LM.out LN.out _ _ fun p w3 hb3 hp => ?_
    have TP := Lib.hid hp
    have B3 := Lib.hid hb3
    clear hp hb3
    go_wp2_with fail
    with_reducible refine xbelow_any a m HA.out _ _ fun sa hsa => ?_
    go_wp2_with fail
    with_reducible refine xbelow_any b n HB.out _ _ fun sb hsb => ?_
    rw [← hsa.out, ← hsb.out] at HV
    go_wp2_with fail
    with_reducible refine xsigned_any p (m.natAbs * n.natAbs) (!(sa == sb)) TP.out LP.out _ _ fun r hr => ?_
    rw [HV.out] at hr
    have TR := Lib.hid hr
    clear hr
    go_wp2_with fail
    exact ret_str (HR.out r _ B3.out TR.out) rfl
set_option maxHeartbeats 2000000 in
theorem xorder_any (a b : ByteArray) (m n : Int) (ha : Txt a m) (hb : Txt b n) (hm : lenI m ≤ 1500) (hn : lenI n ≤ 1500) (w : World) (R : Ending → World → Prop) (hR : ∀ w', Below w.heap.size w w' → R (.returned (.int .i64 (cmpI m n))) w') :
    Calls Tryz.prog 94 #[.string a, .string b] w R := by
  have HR := Lib.hid hR
  clear hR
  go_enter Tryz.func94, Tryz.ntmps94
  go_wp2_with fail
  with_reducible refine xminus_any a b m n ha hb hm hn _ _ fun r w1 hb1 hr1 => ?_
  have B1 := Lib.hid hb1
  have T1 := Lib.hid hr1
  have KZ := hr1.beqL 0 itoa_0
  clear hb1 hr1 ha hb hm hn
  by_cases hz : m - n = 0
  · rw [decide_eq_true hz] at KZ
    have hc : Hid (cmpI m n = 0) := by unfold Hid cmpI; rw [if_neg (by omega), if_neg (by omega)]
    clear hz
    go_wp2_with fail
    exact ret_i (HR.out _ B1.out) rfl hc.out
  · rw [decide_eq_false hz] at KZ
    have HZ := Lib.hid hz
    clear hz
    go_wp2_with fail
    with_reducible refine xbelow_any r (m - n) T1.out _ _ fun s hs => ?_
    by_cases hl : m - n < 0
    · obtain rfl : s = true := by rw [hs.out]; exact decide_eq_true hl
      have hc : Hid (cmpI m n = -1) := by unfold Hid cmpI; rw [if_pos (by omega)]
      clear hl hs
      go_wp2_with fail
      exact ret_i (HR.out _ B1.out) rfl hc.out
    · obtain rfl : s = false := by rw [hs.out]; exact decide_eq_false hl
      have hc : Hid (cmpI m n = 1) := by unfold Hid cmpI; have := HZ.out; rw [if_neg (by omega), if_pos (by omega)]
      clear hl hs
      go_wp2_with fail
      exact ret_i (HR.out _ B1.out) rfl hc.out
end Go.Proofs.YtcoombhcdcniiaaGreatDoor
