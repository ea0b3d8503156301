/- read: a text becomes a wide number. (Printed by gen_read.py.) text: a wide number becomes a text. (Printed by gen_text.py.) limited, all, sum, Add, Mul, opposite, Sub of package whole, at integers whose results are not too long. Add, Mul, opposite, Sub of package whole. parted, Quo of package whole. (Printed by gen_part.py.) Quo, order, Compare of package whole. Gcd of package whole. (Printed by gen_gcd.py.) -/
import Derived.Test.YtcmhompbdanpdaaGreatDoorWx
import Derived.Test.YtcmhompbdanpdaaGreatDoorMwr
import Derived.Test.YtcmhompbdanpdaaGreatDoorMwza
import Derived.Test.YtcmhompbdanpdaaGreatDoorMwa
namespace Go.Proofs.YtcmhompbdanpdaaGreatDoor
open Go.RowKit

def RdF (v k : Nat) (f : Nat → Nat) : Prop := ∀ i, i < 232 → f i = if i < k then wd v i else 0
theorem RdF.step {v k : Nat} {f : Nat → Nat} (h : RdF v k f) : RdF v (k + 1) (fun i => if i = k then wd v k else f i) := fun i hi => by
  show (if i = k then _ else _) = _
  by_cases e : i = k
  · subst e; rw [if_pos rfl, if_pos (by omega)]
  · rw [if_neg e, h i hi]
    by_cases e2 : i < k
    · rw [if_pos e2, if_pos (by omega)]
    · rw [if_neg e2, if_neg (by omega)]
set_option maxRecDepth 100000 in
set_option maxHeartbeats 8000000 in
theorem read_any (a : ByteArray) (n : Int) (ha : Txt a n) (hl : lenI n ≤ 2000) (w : World) (R : Ending → World → Prop)
   (hR : ∀ w', Below w.heap.size w w' → Wide w' w.heap.size (decide (n < 0)) n.natAbs → w.heap.size < w'.heap.size → R (.returned (.pointer (some ⟨w.heap.size, 0, none⟩))) w') :
    Calls Tryz.prog 108 #[.string a] w R := by
  have HR := Lib.hid hR
  have HA : Hid (Tx a (Lib.itoa n)) := ha
  have hp := ha.pos
  have hh := ha.head_b hp
  obtain ⟨sg, hsg⟩ : ∃ s, decide (n < 0) = s := ⟨_, rfl⟩
  rw [hsg] at hh HR
  have hmi : Tx ⟨#[45]⟩ [45] := rfl
  obtain ⟨v, hv⟩ : ∃ v, n.natAbs = v := ⟨_, rfl⟩
  have hbody := body_itoa n
  have hll : lenI n = (Lib.decDigits n.natAbs).length := rfl
  rw [hv] at HR hbody hll
  obtain ⟨bk, hbk⟩ : ∃ b, w.heap.size = b := ⟨_, rfl⟩
  obtain ⟨w1, E1, HB1, s1, X1⟩ := box_ex w (Tryz.zeroCells184.setIfInBounds 0 (.bool sg)) 184
  have W1 : Hid (Wide w1 bk sg 0) := by
    unfold Hid Wide; rw [← hbk, ← zero_sign]; exact X1.out
  have HB := HB1
  rw [hbk] at HB1 HR s1
  have H0 : Hid (RdI v 0 (Lib.decDigits v) (lenI n)) := by
    have := RdI.start (dgs_dec v)
    rw [dv_dec, ← hll] at this; exact this
  have HS1 := Lib.hid s1
  have HBK := Lib.hid hbk
  clear hR ha s1 HB hsg hv
  go_enter Tryz.func108, Tryz.ntmps108
  go_wp2_with (rw [E1])
  clear hbk
  with_reducible refine trimP_any a ⟨#[45]⟩ (Lib.itoa n) HA.out hmi _ _ fun r hr => ?_
  rw [hbody] at hr
  have HRr := Lib.hid hr
  clear hr hmi hbody hll hh
  go_wp2_with fail
  go_loopw [3] (fun s wr => ∃ (r : ByteArray) (l : List UInt8) (k : Nat) (f : Nat → Nat), s = .string r ∧ Hid (Tx r l) ∧ Hid (RdI v k l (lenI n)) ∧ Hid (Below bk w wr) ∧ Hid (WideM wr bk sg k f) ∧ Hid (RdF v k f) ∧ Hid (bk < wr.heap.size)) (fun s _ => match s with | .string r => r.size | _ => 0)
  case atStart => exact ⟨r, Lib.decDigits v, 0, _, rfl, HRr, H0, HB1, by have := W1.out; unfold Wide at this; rw [wdC_zero] at this; exact this, fun i _ => by rw [if_neg (by omega)], HS1⟩
  case round =>
    obtain ⟨r, l, k, f, rfl, HT, HI, HB, HW, HF, HS⟩ := hrel
    have hrs := HT.out.size
    have hk : k ≤ 223 := by have := HI.out.len; omega
    by_cases hz : l = []
    · subst hz
      have K0 : (0 < r.size) = False := eq_false (by rw [hrs]; simp)
      have K1 : ((0 : Int) < (r.size : Int)) = False := eq_false (by rw [hrs]; simp)
      have hnv : Hid (nw v ≤ k) := HI.out.done
      have hfv : Hid (∀ i, i < 232 → f i = wd v i) := fun i hi => by
        rw [HF.out i hi]
        by_cases e : i < k
        · rw [if_pos e]
        · rw [if_neg e, wd_high (by have := hnv.out; omega)]
      clear hrs
      go_wp2_with fail
      with_reducible refine trimmed_any bk v k sg f _ _ HW.out (by omega) hnv.out hfv.out fun w3 hc hw => ?_
      have HB3 : Hid (Below bk w w3) := HB.out.trans hc.1
      have HW3 := Lib.hid hw
      have HS3 : Hid (bk < w3.heap.size) := by unfold Hid; rw [hc.2.1]; exact HS.out
      clear hc hw
      go_wp2_with fail
      exact HR.out _ HB3.out HW3.out HS3.out
    · obtain ⟨HI2, hx, hxn, hxd⟩ := HI.out.step hz
      have hlp := List.length_pos_iff.2 hz
      obtain ⟨q, hq⟩ : ∃ q, l.length - 9 = q := ⟨_, rfl⟩
      rw [hq] at HI2 hx hxn hxd
      obtain ⟨x, hxx⟩ : ∃ x, wd v k = x := ⟨_, rfl⟩
      rw [hxx] at hx
      have HT1 := Lib.hid (HT.out.drop q)
      have HT2 := Lib.hid (HT.out.take q)
      have ea : Lib.atoi (r.extract q r.size).data.toList = some (x : Int) := by
        rw [show (r.extract q r.size).data.toList = l.drop q from HT1.out, atoi_dgs hxd hxn, hx]
      have EA := Lib.hid ea
      have hes : (r.extract q r.size).size ≤ 18 := by rw [HT1.out.size, List.length_drop]; omega
      obtain ⟨r1, hr1⟩ : ∃ z, r.extract q r.size = z := ⟨_, rfl⟩
      obtain ⟨r2, hr2⟩ : ∃ z, r.extract 0 q = z := ⟨_, rfl⟩
      have hr2s : r2.size < r.size := by rw [← hr2, HT2.out.size, List.length_take, hrs]; omega
      have HM := Lib.hid hr2s
      rw [hr1] at EA hes HT1
      rw [hr2] at HT2
      have HI3 := Lib.hid HI2
      have XX := Lib.hid hxx
      have hqr : q ≤ r.size := by omega
      have g1 : (0 : Int) ≤ (q : Int) := by omega
      have g2 : (q : Int) ≤ (r.size : Int) := by omega
      have c0 : wr.drew.cell? ⟨bk, 1, none⟩ = some (.int .i64 (k : Int)) := HW.out.c1
      have KK : ((k : Int) < 232) = True := eq_true (by omega)
      have hk232 : k < 232 := by omega
      have HF3 : Hid (RdF v (k + 1) (fun i => if i = k then x else f i)) := by have := HF.out.step; rw [hxx] at this; exact this
      have K0 : (0 < r.size) = True := eq_true (by omega)
      have K1 : ((0 : Int) < (r.size : Int)) = True := eq_true (by omega)
      have KMX : max (0 : Int) ((r.size : Int) - 9) = (q : Int) := by omega
      have hrb : r.size ≤ 3000 := by have := HI.out.len; have := HI.out.at_ hz; omega
      clear HI2 hx hxn hxd hxx hq hrs ea hr2s hlp
      go_wp2_with fail
      refine regionL [0, 1, 2, 3, 4, 5, 6, 7, 12, 13] (fun w' => w'.cell? ⟨bk, 1, none⟩ = some (.int .i64 (k : Int)) ∧ True) (by kernel_rfl) (⟨c0, trivial⟩) (fun Qn hPQ hQn hS0 => ?_)
      iterate 10 (refine takeL (v := ?_) rfl rfl (by kernel_rfl) (by kernel_rfl) (by kernel_rfl) hPQ hS0 (by kernel_rfl) ?_ ?_; rotate_left; (focus (intro w hSw; (try dsimp only at hSw); obtain ⟨k0, _⟩ := hSw; go_simp; (try with_reducible rfl))); (try simp only [Act.put, List.setIfInBounds_toArray, List.set_cons_zero, List.set_cons_succ]))
      refine ofL (wpAnyH_ready (rs := [8]) (by kernel_rfl) (by simp) ?_)
      refine AllReadyH.cons (o := _) rfl (fun K hK => ?_) AllReadyH.nil
      go_simp
      have hSb : Below wr.heap.size wr wr.drew := (Below.refl _ _).drew
      with_reducible refine atoi_any r1 (x : Int) _ _ hes EA.out fun w2 hb => ?_
      have HB2 : Hid (Below wr.heap.size wr w2) := hSb.trans (hb.mono hSb.size)
      have HW2 : Hid (WideM w2 bk sg k f) := (HB2.out.block _ HS.out).trans HW.out
      have c2 := HW2.out.c1
      have cx := HW2.out.cw hk232
      have fz2 := HW2.out.frozen (2 + k)
      have HWa : Hid (WideM (w2.setCell ⟨bk, 2 + k, none⟩ (.int .i64 (x : Int))) bk sg k (fun i => if i = k then x else f i)) := HW2.out.setW hk232 x
      have n3 := HWa.out.c1
      have fz3 := HWa.out.frozen 1
      have HWb : Hid (WideM ((w2.setCell ⟨bk, 2 + k, none⟩ (.int .i64 (x : Int))).setCell ⟨bk, 1, none⟩ (.int .i64 ((k : Int) + 1))) bk sg (k + 1) (fun i => if i = k then x else f i)) := HWa.out.setN (k + 1)
      have HBb : Hid (Below bk w ((w2.setCell ⟨bk, 2 + k, none⟩ (.int .i64 (x : Int))).setCell ⟨bk, 1, none⟩ (.int .i64 ((k : Int) + 1)))) := (HB.out.trans (HB2.out.mono (Nat.le_of_lt HS.out))).trans (((Chg.refl bk w2).setCell _ _).setCell _ _).1
      have HSb : Hid (bk < ((w2.setCell ⟨bk, 2 + k, none⟩ (.int .i64 (x : Int))).setCell ⟨bk, 1, none⟩ (.int .i64 ((k : Int) + 1))).heap.size) := by
        unfold Hid; rw [(((Chg.refl bk w2).setCell (2 + k) (.int .i64 (x : Int))).setCell 1 (.int .i64 ((k : Int) + 1))).2.1]; exact Nat.lt_of_lt_of_le HS.out HB2.out.size
      clear hb hSb
      refine hK.out _ _ (⟨c2, trivial⟩) (fun hS1 => toL [9, 10, 11, 14] ?_)
      clear hK K hS0
      (try simp only [Act.put, List.setIfInBounds_toArray, List.set_cons_zero, List.set_cons_succ])
      iterate 4 (refine takeL (v := ?_) rfl rfl (by kernel_rfl) (by kernel_rfl) (by kernel_rfl) hPQ hS1 (by kernel_rfl) ?_ ?_; rotate_left; (focus (intro w hSw; (try dsimp only at hSw); obtain ⟨k0, _⟩ := hSw; go_simp; (try with_reducible rfl))); (try simp only [Act.put, List.setIfInBounds_toArray, List.set_cons_zero, List.set_cons_succ]))
      refine ofL (wpAnyH_ready (rs := [15]) (by kernel_rfl) (by simp) ?_)
      refine AllReadyH.cons (o := _) rfl (fun K hK => ?_) AllReadyH.nil
      go_simp
      refine hK.out _ _ (⟨n3, trivial⟩) (fun hS2 => toL [] ?_)
      clear hK K hS1
      (try simp only [Act.put, List.setIfInBounds_toArray, List.set_cons_zero, List.set_cons_succ])
      refine ofL (wpAnyH_done (by kernel_rfl) (hQn.out _ _ ?_) _)
      clear hS2 hPQ hQn Qn
      go_wp2_with fail
      refine ⟨⟨r2, l.take q, k + 1, (fun i => if i = k then x else f i), ?_, HT2, HI3, ?_, ?_, HF3, ?_⟩, ?_⟩
      · with_reducible rfl
      · with_reducible exact HBb
      · with_reducible exact HWb
      · with_reducible exact HSb
      · exact HM.out
end Go.Proofs.YtcmhompbdanpdaaGreatDoor
namespace Go.Proofs.YtcmhompbdanpdaaGreatDoor
open Go.RowKit

/-- A builder of ours that holds bytes. -/
def Bld (B b : Nat) (l : List UInt8) (w : World) : Prop := Lib.IsBuilder 222 5 B b (Lib.byteCells l) w
theorem Bld.below {B b : Nat} {l : List UInt8} {w w' : World} (h : Bld B b l w) (hb : Below w.heap.size w w') : Bld B b l w' := by
  have key : ∀ p, Lib.BuilderAt 222 5 B b p (Lib.byteCells l) w → Lib.BuilderAt 222 5 B b p (Lib.byteCells l) w' := fun p h => by
    have hlt := h.lt
    obtain ⟨hB, v, hbk, hown, hne⟩ := h
    refine ⟨hB, v, (hb.block b hlt).trans hbk, ?_, hne⟩
    exact hown.kept (row := none) ⟨hb.os, hb.tape, hb.output, hb.size, fun k hk _ => hb.block k hk⟩ (by cases e : v.ownBlock with
      | none => exact .inl rfl
      | some k => exact .inr (by simp))
  rcases h with h | h
  · exact .inl (key _ h)
  · exact .inr (key _ h)
theorem Bld.drew {B b : Nat} {l : List UInt8} {w : World} (h : Bld B b l w) : Bld B b l w.drew := h.below (Below.refl _ _).drew
theorem bld_write (B b : Nat) (l m : List UInt8) (s : ByteArray) (hs : Tx s m) (w : World) (R : Ending → World → Prop) (h : Bld B b l w) (hlen : l.length + m.length ≤ 140737488355328) (hBw : B ≤ w.heap.size)
   (hR : ∀ w', Bld B b (l ++ m) w' → Below B w w' → R (.returned (.tuple #[.int .i64 s.size, .nilIface])) w') :
    Calls Tryz.prog 219 #[.pointer (some ⟨b, 0, none⟩), .string s] w R := by
  refine (writeString_any B b _ s w h (by rw [Lib.byteCells_length, hs.size]; exact hlen) hBw).mono ?_
  rintro e w' ⟨rfl, h1, h2⟩
  refine hR w' (.inr ?_) h2
  rw [Lib.strCells_eq, show s.data.toList = m from hs, ← Lib.byteCells_append] at h1
  exact h1
theorem bld_byte (B b : Nat) (l : List UInt8) (c : UInt8) (z : Int) (hz : z = c.toNat) (w : World) (R : Ending → World → Prop) (h : Bld B b l w) (hlen : l.length + 1 ≤ 140737488355328) (hBw : B ≤ w.heap.size)
   (hR : ∀ w', Bld B b (l ++ [c]) w' → Below B w w' → R (.returned .nilIface) w') :
    Calls Tryz.prog 218 #[.pointer (some ⟨b, 0, none⟩), .int .u8 z] w R := by
  subst hz
  refine (writeByte_any B b _ _ w h (by rw [Lib.byteCells_length]; exact hlen) hBw).mono ?_
  rintro e w' ⟨rfl, h1, h2⟩
  refine hR w' (.inr ?_) h2
  rw [Lib.byteCells_append]
  exact h1
theorem bld_string (B b : Nat) (l : List UInt8) (w : World) (R : Ending → World → Prop) (h : Bld B b l w) (hBw : B ≤ w.heap.size) (hR : ∀ r w', Tx r l → Below B w w' → R (.returned (.string r)) w') :
    Calls Tryz.prog 220 #[.pointer (some ⟨b, 0, none⟩)] w R := by
  refine (Tryz.Builder_String_any B b l w h hBw).mono ?_
  rintro e w' ⟨rfl, h2⟩
  exact hR _ w' (Tx.of l) h2
theorem bld_fresh (w : World) : Bld w.heap.size w.heap.size [] (w.alloc (.cells #[.pointer none, .slice none 0 0] 222)) := Lib.fresh_isBuilder _ _ w
theorem padL_run (m : List UInt8) (s : ByteArray) (hs : Tx s m) (_hm : m.length ≤ 9) : Tx ((⟨#[48, 48, 48, 48, 48, 48, 48, 48, 48]⟩ : ByteArray).extract m.length 9 ++ s) (padL 9 m) := by
  have h9 : Tx ⟨#[48, 48, 48, 48, 48, 48, 48, 48, 48]⟩ (List.replicate 9 48) := rfl
  have := (h9.drop m.length).add hs
  rw [List.drop_replicate] at this
  exact this
set_option exponentiation.threshold 4000 in
theorem pre_len {p : List UInt8} {v j : Nat} (h : nw v ≤ 232) (hp : p.length ≤ 1 := by simp) : (p ++ Lib.decDigits (v / bB ^ j)).length ≤ 1000000 := by
  have h1 : v / bB ^ j < 10 ^ 2088 := by
    refine Nat.lt_of_le_of_lt (Nat.div_le_self _ _) ?_
    have := (nw_le 232 v).1 h
    rw [← pow9, ← Nat.pow_mul] at this
    exact this
  have := dec_len_lt h1 (by decide)
  rw [List.length_append]; omega
theorem env_low {w w1 w2 : World} {bb : Nat} (_h1 : Env w1) (hb : Below bb w1 w2) (e : w.heap.size = bb) (h : Env w) (hb1 : Below bb w w1) : Env w2 := h.below (by rw [e]; exact hb1.trans hb)
set_option maxRecDepth 100000 in
set_option maxHeartbeats 8000000 in
theorem text_any (b v : Nat) (s : Bool) (w : World) (R : Ending → World → Prop) (hx : Wide w b s v) (hn : nw v ≤ 232) (hE : Env w) (hR : ∀ r w', Below w.heap.size w w' → Txt r (sV s v) → R (.returned (.string r)) w') :
    Calls Tryz.prog 170 #[.pointer (some ⟨b, 0, none⟩)] w R := by
  have HR := Lib.hid hR
  have HX := Lib.hid hx
  have HN := Lib.hid hn
  have HE := Lib.hid hE
  have c1 := hx.m.c1
  by_cases hz : v = 0
  · subst hz
    have hz0 : Hid (sV s 0 = 0) := by unfold Hid sV; split <;> rfl
    rw [nw_zero] at c1
    have c1' : w.cell? ⟨b, 1, none⟩ = some (.int .i64 0) := c1
    clear hR hx hn hE c1
    go_enter Tryz.func170, Tryz.ntmps170
    go_wp2_with fail
    exact ret_str (HR.out _ _ (Below.refl _ _) (by rw [hz0.out]; exact Txt.zero)) rfl
  · have HZ := Lib.hid hz
    have htop := top_word hz
    obtain ⟨n, hnn⟩ : ∃ n, nw v = n + 1 := ⟨nw v - 1, by have := mt (nw_eq_zero (v := v)).1 hz; omega⟩
    have HNN := Lib.hid hnn
    rw [hnn] at c1 hn htop
    rw [Nat.add_sub_cancel] at htop
    have hits : Hid (Lib.itoa (sV s v) = (if s = true then [45] else []) ++ Lib.decDigits v) := by
      unfold Hid; rw [itoa_sV]; congr 1
      by_cases e : s = true
      · rw [if_pos ⟨e, hz⟩, if_pos e]
      · rw [if_neg (fun h => e h.1), if_neg e]
    have K0 : ((n : Int) + 1 == 0) = false := by simpa using (by omega : ¬ (n : Int) + 1 = 0)
    obtain ⟨bb, hbb⟩ : ∃ z, w.heap.size = z := ⟨_, rfl⟩
    obtain ⟨w1, E1, HB1, s1, X1⟩ := box_ex w #[.pointer none, .slice none 0 0] 222
    have B1 : Hid (Bld bb bb [] w1) := by have := bld_fresh w; rw [E1, hbb] at this; exact this
    have HX1 : Hid (Wide w1 b s v) := HX.out.below HB1.out
    have c0 := HX1.out.m.c0
    have HE1 : Hid (Env w1) := HE.out.below HB1.out
    have HBW : Hid (Below bb w w1) := by rw [← hbb]; exact HB1.out
    have HS1 : Hid (bb ≤ w1.heap.size) := by rw [← hbb]; exact Nat.le_of_lt s1
    have HRb : Hid (∀ r w', Below bb w w' → Txt r (sV s v) → R (.returned (.string r)) w') := by rw [← hbb]; exact HR.out
    have HBB := Lib.hid hbb
    have HTop := Lib.hid htop
    have hn231 : n ≤ 231 := by omega
    clear hR hx hE hn hz hnn s1 HB1 htop
    cases s with
    | true =>
      go_enter Tryz.func170, Tryz.ntmps170
      go_wp2_with (rw [E1])
      clear hbb
      with_reducible refine bld_byte bb bb [] 45 45 rfl _ _ B1.out (by simp) HS1.out fun w2 hb2 hw2 => ?_
      have B2 : Hid (Bld bb bb [45] w2) := hb2
      have HW2 := Lib.hid hw2
      clear hb2 hw2
      have HX2 : Hid (Wide w2 b true v) := (HW2.out.block b (by have := HBB.out; have := lt_of_block HX.out; omega)).trans HX1.out
      have HE2 : Hid (Env w2) := env_low HE1.out HW2.out HBB.out HE.out HBW.out
      have HS2 : Hid (bb ≤ w2.heap.size) := Nat.le_trans HS1.out HW2.out.size
      have n2 : w2.drew.cell? ⟨b, 1, none⟩ = some (.int .i64 ((n + 1 : Nat) : Int)) := by have := HX2.out.m.c1; rw [HNN.out] at this; exact this
      obtain ⟨x, hxx⟩ : ∃ x, wd v n = x := ⟨_, rfl⟩
      have x2 : w2.drew.cell? ⟨b, 2 + n, none⟩ = some (.int .i64 (x : Int)) := by have := HX2.out.m.cw (i := n) (by omega); rw [hxx] at this; exact this
      have hxl : x < 1000000000 := by rw [← hxx]; exact wd_lt v n
      have hxB : Hid (x < bB) := hxl
      have KN : ((n : Int) < 232) = True := eq_true (by omega)
      have KW : IntKind.i64.wrap (n : Int) = n := by rw [IntKind.wrap_i64]; omega
      have XX := Lib.hid hxx
      clear hxx
      go_wp2_with fail
      refine regionL [0, 1, 2, 3, 4, 5, 6, 7, 8, 9] (fun w' => w'.cell? ⟨b, 1, none⟩ = some (.int .i64 ((n + 1 : Nat) : Int)) ∧ w'.cell? ⟨b, 2 + n, none⟩ = some (.int .i64 (x : Int))) (by kernel_rfl) (⟨n2, x2⟩) (fun Qn hPQ hQn hS0 => ?_)
      iterate 10 (refine takeL (v := ?_) rfl rfl (by kernel_rfl) (by kernel_rfl) (by kernel_rfl) hPQ hS0 (by kernel_rfl) ?_ ?_; rotate_left; (focus (intro w hSw; (try dsimp only at hSw); obtain ⟨k0, k1⟩ := hSw; go_simp; (try with_reducible rfl))); (try simp only [Act.put, List.setIfInBounds_toArray, List.set_cons_zero, List.set_cons_succ]))
      refine ofL (wpAnyH_ready (rs := [10]) (by kernel_rfl) (by simp) ?_)
      refine AllReadyH.cons (o := _) rfl (fun K hK => ?_) AllReadyH.nil
      go_simp
      with_reducible refine itoa_any (x : Int) _ _ (by omega) (by omega) HE2.out.drew fun r3 w3 hb3 hr3 => ?_
      have HB3 : Hid (Below w2.heap.size w2 w3) := (Below.refl _ _).drew.trans hb3
      have HR3 : Hid (Tx r3 (Lib.decDigits x)) := Txt.dec hr3
      have B3 : Hid (Bld bb bb [45] w3) := B2.out.below HB3.out
      have HX3 : Hid (Wide w3 b true v) := HX2.out.below HB3.out
      have n3 : w3.cell? ⟨b, 1, none⟩ = some (.int .i64 ((n + 1 : Nat) : Int)) := by have := HX3.out.m.c1; rw [HNN.out] at this; exact this
      have x3 : w3.cell? ⟨b, 2 + n, none⟩ = some (.int .i64 (x : Int)) := by have := HX3.out.m.cw (i := n) (by omega); rw [XX.out] at this; exact this
      have HS3 : Hid (bb ≤ w3.heap.size) := Nat.le_trans HS2.out HB3.out.size
      clear hb3 hr3
      refine hK.out _ _ (⟨n3, x3⟩) (fun hS1 => toL [] ?_)
      clear hK K hS0
      (try simp only [Act.put, List.setIfInBounds_toArray, List.set_cons_zero, List.set_cons_succ])
      refine ofL (wpAnyH_ready (rs := [11]) (by kernel_rfl) (by simp) ?_)
      refine AllReadyH.cons (o := _) rfl (fun K hK => ?_) AllReadyH.nil
      go_simp
      with_reducible refine bld_write bb bb [45] (Lib.decDigits x) r3 HR3.out _ _ B3.out (by have := word_len (x := x) hxB.out; simp; omega) HS3.out fun w4 hb4 hw4 => ?_
      have B4 : Hid (Bld bb bb ([45] ++ Lib.decDigits x) w4) := hb4
      have HW4 := Lib.hid hw4
      have HX4 : Hid (Wide w4 b true v) := (HW4.out.block b (by have := HBB.out; have := lt_of_block HX.out; omega)).trans HX3.out
      have n4 : w4.cell? ⟨b, 1, none⟩ = some (.int .i64 ((n + 1 : Nat) : Int)) := by have := HX4.out.m.c1; rw [HNN.out] at this; exact this
      have x4 : w4.cell? ⟨b, 2 + n, none⟩ = some (.int .i64 (x : Int)) := by have := HX4.out.m.cw (i := n) (by omega); rw [XX.out] at this; exact this
      clear hb4 hw4
      refine hK.out _ _ (⟨n4, x4⟩) (fun hS2 => toL [] ?_)
      clear hK K hS1
      (try simp only [Act.put, List.setIfInBounds_toArray, List.set_cons_zero, List.set_cons_succ])
      refine ofL (wpAnyH_done (by kernel_rfl) (hQn.out _ _ ?_) _)
      clear hS2 hPQ hQn Qn
      have HB4 : Hid (Below bb w w4) := (HBW.out.trans HW2.out).trans ((HB3.out.mono HS2.out).trans HW4.out)
      have HE4 : Hid (Env w4) := HE.out.below (by rw [HBB.out]; exact HB4.out)
      have KW2 : IntKind.i64.wrap ((n : Int) - 1) = (n : Int) - 1 := by rw [IntKind.wrap_i64]; omega
      have KS : ((n : Int) + 1 - 2) = (n : Int) - 1 := by omega
      go_wp2_with fail
      clear KS KW2 n2 x2 n3 x3 n4 x4 KN
      go_loopw [4] (fun i wr => ∃ (z : Int) (j : Nat), i = .int .i64 z ∧ z + 1 = j ∧ j ≤ n ∧ Hid (Below bb w wr) ∧ Hid (Bld bb bb ([45] ++ Lib.decDigits (v / bB ^ j)) wr)) (fun i _ => (intOf i + 1).toNat)
      case atStart => exact ⟨(n : Int) - 1, n, by go_num, by omega, Nat.le_refl _, HB4, by rw [← HTop.out, XX.out]; exact B4⟩
      case round =>
        obtain ⟨z, j, rfl, hz, hj, HB, HBl⟩ := hrel
        have HSr : Hid (bb ≤ wr.heap.size) := by have := HB.out.size; rw [HBB.out] at this; exact this
        cases j with
        | zero =>
          have hz1 : z = -1 := by omega
          subst hz1
          go_wp2_with fail
          with_reducible refine bld_string bb bb ([45] ++ Lib.decDigits (v / bB ^ 0)) _ _ HBl.out HSr.out fun r5 w5 hr5 hb5 => ?_
          have HT5 : Hid (Txt r5 (sV true v)) := by unfold Hid Txt; rw [hits.out]; rw [Nat.pow_zero, Nat.div_one] at hr5; exact hr5
          have HB5 : Hid (Below bb w w5) := HB.out.trans hb5
          clear hb5 hr5
          go_wp2_with fail
          exact ret_str (HRb.out _ _ HB5.out HT5.out) rfl
        | succ k =>
          have hz1 : z = (k : Int) := by omega
          subst hz1
          clear hz
          have HXr : Hid (Wide wr b true v) := (HB.out.block b (by have := HBB.out; have := lt_of_block HX.out; omega)).trans HX.out
          have HEr : Hid (Env wr) := HE.out.below (by rw [HBB.out]; exact HB.out)
          obtain ⟨y, hyy⟩ : ∃ x, wd v k = x := ⟨_, rfl⟩
          have y2 : wr.cell? ⟨b, 2 + k, none⟩ = some (.int .i64 (y : Int)) := by have := HXr.out.m.cw (i := k) (by omega); rw [hyy] at this; exact this
          have hyl : y < 1000000000 := by rw [← hyy]; exact wd_lt v k
          have hyB : Hid (y < bB) := hyl
          have KN : ((k : Int) < 232) = True := eq_true (by omega)
          have hstep := text_step (v := v) (i := k) (by rw [HNN.out]; omega)
          rw [hyy] at hstep
          have HST := Lib.hid hstep
          clear hyy hstep
          go_wp2_with fail
          with_reducible refine itoa_any (y : Int) _ _ (by omega) (by omega) HEr.out fun r5 w5 hb5 hr5 => ?_
          have HR5 : Hid (Tx r5 (Lib.decDigits y)) := Txt.dec hr5
          have B5 : Hid (Bld bb bb ([45] ++ Lib.decDigits (v / bB ^ (k + 1))) w5) := HBl.out.below hb5
          have HB5 : Hid (Below bb w w5) := HB.out.trans (hb5.mono HSr.out)
          have HS5 : Hid (bb ≤ w5.heap.size) := Nat.le_trans HSr.out hb5.size
          have hsz5 := HR5.out.size
          have hm9 := word_len (x := y) hyB.out
          have hs9 : r5.size ≤ 9 := by omega
          obtain ⟨e1, he1⟩ : ∃ e, (⟨#[48, 48, 48, 48, 48, 48, 48, 48, 48]⟩ : ByteArray).extract r5.size 9 = e := ⟨_, rfl⟩
          have ht1 : Tx e1 (List.replicate (9 - (Lib.decDigits y).length) 48) := by
            have h9 : Tx ⟨#[48, 48, 48, 48, 48, 48, 48, 48, 48]⟩ (List.replicate 9 48) := rfl
            have := h9.drop (Lib.decDigits y).length
            rw [List.drop_replicate, ← hsz5] at this
            rw [← he1, ← hsz5]; exact this
          have hadd := ht1.add_run (P := Tryz.prog) HR5.out (by simp; omega)
          obtain ⟨s6, hs6⟩ : ∃ e, tB (List.replicate (9 - (Lib.decDigits y).length) 48 ++ Lib.decDigits y) = e := ⟨_, rfl⟩
          rw [hs6] at hadd
          have HT6 : Hid (Tx s6 (padL 9 (Lib.decDigits y))) := by rw [← hs6]; exact Tx.of _
          have hp9 : (padL 9 (Lib.decDigits y)).length = 9 := pad_len hm9
          have HP9 := Lib.hid hp9
          have hlen : ([45] ++ Lib.decDigits (v / bB ^ (k + 1)) : List UInt8).length ≤ 1000000 := pre_len (by rw [HNN.out]; omega)
          have HLEN := Lib.hid hlen
          clear hb5 hr5 hm9 ht1 hs6 hp9 hsz5 hlen
          go_wp2_with fail
          with_reducible refine bld_write bb bb ([45] ++ Lib.decDigits (v / bB ^ (k + 1))) (padL 9 (Lib.decDigits y)) s6 HT6.out _ _ B5.out (by have := HP9.out; have := HLEN.out; omega) HS5.out fun w6 hb6 hw6 => ?_
          have B6 : Hid (Bld bb bb ([45] ++ Lib.decDigits (v / bB ^ k)) w6) := by unfold Hid; rw [HST.out, ← List.append_assoc]; exact hb6
          have HB6 : Hid (Below bb w w6) := HB5.out.trans hw6
          clear hb6 hw6
          go_wp2_with fail
          refine ⟨⟨(k : Int) - 1, k, ?_, by omega, by omega, HB6, B6⟩, ?_⟩
          · go_num
          · simp [intOf]
    | false =>
      go_enter Tryz.func170, Tryz.ntmps170
      go_wp2_with (rw [E1])
      clear hbb
      have HW2 : Hid (Below bb w1 w1) := Below.refl _ _
      have B2 : Hid (Bld bb bb [] w1) := B1
      have HX2 : Hid (Wide w1 b false v) := (HW2.out.block b (by have := HBB.out; have := lt_of_block HX.out; omega)).trans HX1.out
      have HE2 : Hid (Env w1) := env_low HE1.out HW2.out HBB.out HE.out HBW.out
      have HS2 : Hid (bb ≤ w1.heap.size) := Nat.le_trans HS1.out HW2.out.size
      have n2 : w1.drew.cell? ⟨b, 1, none⟩ = some (.int .i64 ((n + 1 : Nat) : Int)) := by have := HX2.out.m.c1; rw [HNN.out] at this; exact this
      obtain ⟨x, hxx⟩ : ∃ x, wd v n = x := ⟨_, rfl⟩
      have x2 : w1.drew.cell? ⟨b, 2 + n, none⟩ = some (.int .i64 (x : Int)) := by have := HX2.out.m.cw (i := n) (by omega); rw [hxx] at this; exact this
      have hxl : x < 1000000000 := by rw [← hxx]; exact wd_lt v n
      have hxB : Hid (x < bB) := hxl
      have KN : ((n : Int) < 232) = True := eq_true (by omega)
      have KW : IntKind.i64.wrap (n : Int) = n := by rw [IntKind.wrap_i64]; omega
      have XX := Lib.hid hxx
      clear hxx
      refine regionL [0, 1, 2, 3, 4, 5, 6, 7, 8, 9] (fun w' => w'.cell? ⟨b, 1, none⟩ = some (.int .i64 ((n + 1 : Nat) : Int)) ∧ w'.cell? ⟨b, 2 + n, none⟩ = some (.int .i64 (x : Int))) (by kernel_rfl) (⟨n2, x2⟩) (fun Qn hPQ hQn hS0 => ?_)
      iterate 10 (refine takeL (v := ?_) rfl rfl (by kernel_rfl) (by kernel_rfl) (by kernel_rfl) hPQ hS0 (by kernel_rfl) ?_ ?_; rotate_left; (focus (intro w hSw; (try dsimp only at hSw); obtain ⟨k0, k1⟩ := hSw; go_simp; (try with_reducible rfl))); (try simp only [Act.put, List.setIfInBounds_toArray, List.set_cons_zero, List.set_cons_succ]))
      refine ofL (wpAnyH_ready (rs := [10]) (by kernel_rfl) (by simp) ?_)
      refine AllReadyH.cons (o := _) rfl (fun K hK => ?_) AllReadyH.nil
      go_simp
      with_reducible refine itoa_any (x : Int) _ _ (by omega) (by omega) HE2.out.drew fun r3 w3 hb3 hr3 => ?_
      have HB3 : Hid (Below w1.heap.size w1 w3) := (Below.refl _ _).drew.trans hb3
      have HR3 : Hid (Tx r3 (Lib.decDigits x)) := Txt.dec hr3
      have B3 : Hid (Bld bb bb [] w3) := B2.out.below HB3.out
      have HX3 : Hid (Wide w3 b false v) := HX2.out.below HB3.out
      have n3 : w3.cell? ⟨b, 1, none⟩ = some (.int .i64 ((n + 1 : Nat) : Int)) := by have := HX3.out.m.c1; rw [HNN.out] at this; exact this
      have x3 : w3.cell? ⟨b, 2 + n, none⟩ = some (.int .i64 (x : Int)) := by have := HX3.out.m.cw (i := n) (by omega); rw [XX.out] at this; exact this
      have HS3 : Hid (bb ≤ w3.heap.size) := Nat.le_trans HS2.out HB3.out.size
      clear hb3 hr3
      refine hK.out _ _ (⟨n3, x3⟩) (fun hS1 => toL [] ?_)
      clear hK K hS0
      (try simp only [Act.put, List.setIfInBounds_toArray, List.set_cons_zero, List.set_cons_succ])
      refine ofL (wpAnyH_ready (rs := [11]) (by kernel_rfl) (by simp) ?_)
      refine AllReadyH.cons (o := _) rfl (fun K hK => ?_) AllReadyH.nil
      go_simp
      with_reducible refine bld_write bb bb [] (Lib.decDigits x) r3 HR3.out _ _ B3.out (by have := word_len (x := x) hxB.out; simp; omega) HS3.out fun w4 hb4 hw4 => ?_
      have B4 : Hid (Bld bb bb ([] ++ Lib.decDigits x) w4) := hb4
      have HW4 := Lib.hid hw4
      have HX4 : Hid (Wide w4 b false v) := (HW4.out.block b (by have := HBB.out; have := lt_of_block HX.out; omega)).trans HX3.out
      have n4 : w4.cell? ⟨b, 1, none⟩ = some (.int .i64 ((n + 1 : Nat) : Int)) := by have := HX4.out.m.c1; rw [HNN.out] at this; exact this
      have x4 : w4.cell? ⟨b, 2 + n, none⟩ = some (.int .i64 (x : Int)) := by have := HX4.out.m.cw (i := n) (by omega); rw [XX.out] at this; exact this
      clear hb4 hw4
      refine hK.out _ _ (⟨n4, x4⟩) (fun hS2 => toL [] ?_)
      clear hK K hS1
      (try simp only [Act.put, List.setIfInBounds_toArray, List.set_cons_zero, List.set_cons_succ])
      refine ofL (wpAnyH_done (by kernel_rfl) (hQn.out _ _ ?_) _)
      clear hS2 hPQ hQn Qn
      have HB4 : Hid (Below bb w w4) := (HBW.out.trans HW2.out).trans ((HB3.out.mono HS2.out).trans HW4.out)
      have HE4 : Hid (Env w4) := HE.out.below (by rw [HBB.out]; exact HB4.out)
      have KW2 : IntKind.i64.wrap ((n : Int) - 1) = (n : Int) - 1 := by rw [IntKind.wrap_i64]; omega
      have KS : ((n : Int) + 1 - 2) = (n : Int) - 1 := by omega
      go_wp2_with fail
      clear KS KW2 n2 x2 n3 x3 n4 x4 KN
      go_loopw [4] (fun i wr => ∃ (z : Int) (j : Nat), i = .int .i64 z ∧ z + 1 = j ∧ j ≤ n ∧ Hid (Below bb w wr) ∧ Hid (Bld bb bb ([] ++ Lib.decDigits (v / bB ^ j)) wr)) (fun i _ => (intOf i + 1).toNat)
      case atStart => exact ⟨(n : Int) - 1, n, by go_num, by omega, Nat.le_refl _, HB4, by rw [← HTop.out, XX.out]; exact B4⟩
      case round =>
        obtain ⟨z, j, rfl, hz, hj, HB, HBl⟩ := hrel
        have HSr : Hid (bb ≤ wr.heap.size) := by have := HB.out.size; rw [HBB.out] at this; exact this
        cases j with
        | zero =>
          have hz1 : z = -1 := by omega
          subst hz1
          go_wp2_with fail
          with_reducible refine bld_string bb bb ([] ++ Lib.decDigits (v / bB ^ 0)) _ _ HBl.out HSr.out fun r5 w5 hr5 hb5 => ?_
          have HT5 : Hid (Txt r5 (sV false v)) := by unfold Hid Txt; rw [hits.out]; rw [Nat.pow_zero, Nat.div_one] at hr5; exact hr5
          have HB5 : Hid (Below bb w w5) := HB.out.trans hb5
          clear hb5 hr5
          go_wp2_with fail
          exact ret_str (HRb.out _ _ HB5.out HT5.out) rfl
        | succ k =>
          have hz1 : z = (k : Int) := by omega
          subst hz1
          clear hz
          have HXr : Hid (Wide wr b false v) := (HB.out.block b (by have := HBB.out; have := lt_of_block HX.out; omega)).trans HX.out
          have HEr : Hid (Env wr) := HE.out.below (by rw [HBB.out]; exact HB.out)
          obtain ⟨y, hyy⟩ : ∃ x, wd v k = x := ⟨_, rfl⟩
          have y2 : wr.cell? ⟨b, 2 + k, none⟩ = some (.int .i64 (y : Int)) := by have := HXr.out.m.cw (i := k) (by omega); rw [hyy] at this; exact this
          have hyl : y < 1000000000 := by rw [← hyy]; exact wd_lt v k
          have hyB : Hid (y < bB) := hyl
          have KN : ((k : Int) < 232) = True := eq_true (by omega)
          have hstep := text_step (v := v) (i := k) (by rw [HNN.out]; omega)
          rw [hyy] at hstep
          have HST := Lib.hid hstep
          clear hyy hstep
          go_wp2_with fail
          with_reducible refine itoa_any (y : Int) _ _ (by omega) (by omega) HEr.out fun r5 w5 hb5 hr5 => ?_
          have HR5 : Hid (Tx r5 (Lib.decDigits y)) := Txt.dec hr5
          have B5 : Hid (Bld bb bb ([] ++ Lib.decDigits (v / bB ^ (k + 1))) w5) := HBl.out.below hb5
          have HB5 : Hid (Below bb w w5) := HB.out.trans (hb5.mono HSr.out)
          have HS5 : Hid (bb ≤ w5.heap.size) := Nat.le_trans HSr.out hb5.size
          have hsz5 := HR5.out.size
          have hm9 := word_len (x := y) hyB.out
          have hs9 : r5.size ≤ 9 := by omega
          obtain ⟨e1, he1⟩ : ∃ e, (⟨#[48, 48, 48, 48, 48, 48, 48, 48, 48]⟩ : ByteArray).extract r5.size 9 = e := ⟨_, rfl⟩
          have ht1 : Tx e1 (List.replicate (9 - (Lib.decDigits y).length) 48) := by
            have h9 : Tx ⟨#[48, 48, 48, 48, 48, 48, 48, 48, 48]⟩ (List.replicate 9 48) := rfl
            have := h9.drop (Lib.decDigits y).length
            rw [List.drop_replicate, ← hsz5] at this
            rw [← he1, ← hsz5]; exact this
          have hadd := ht1.add_run (P := Tryz.prog) HR5.out (by simp; omega)
          obtain ⟨s6, hs6⟩ : ∃ e, tB (List.replicate (9 - (Lib.decDigits y).length) 48 ++ Lib.decDigits y) = e := ⟨_, rfl⟩
          rw [hs6] at hadd
          have HT6 : Hid (Tx s6 (padL 9 (Lib.decDigits y))) := by rw [← hs6]; exact Tx.of _
          have hp9 : (padL 9 (Lib.decDigits y)).length = 9 := pad_len hm9
          have HP9 := Lib.hid hp9
          have hlen : ([] ++ Lib.decDigits (v / bB ^ (k + 1)) : List UInt8).length ≤ 1000000 := pre_len (by rw [HNN.out]; omega)
          have HLEN := Lib.hid hlen
          clear hb5 hr5 hm9 ht1 hs6 hp9 hsz5 hlen
          go_wp2_with fail
          with_reducible refine bld_write bb bb ([] ++ Lib.decDigits (v / bB ^ (k + 1))) (padL 9 (Lib.decDigits y)) s6 HT6.out _ _ B5.out (by have := HP9.out; have := HLEN.out; omega) HS5.out fun w6 hb6 hw6 => ?_
          have B6 : Hid (Bld bb bb ([] ++ Lib.decDigits (v / bB ^ k)) w6) := by unfold Hid; rw [HST.out, ← List.append_assoc]; exact hb6
          have HB6 : Hid (Below bb w w6) := HB5.out.trans hw6
          clear hb6 hw6
          go_wp2_with fail
          refine ⟨⟨(k : Int) - 1, k, ?_, by omega, by omega, HB6, B6⟩, ?_⟩
          · go_num
          · simp [intOf]
end Go.Proofs.YtcmhompbdanpdaaGreatDoor
namespace Go.Proofs.YtcmhompbdanpdaaGreatDoor
open Go.RowKit

theorem wcheckI_any (a : ByteArray) (n : Int) (ha : Txt a n) (hl : lenI n ≤ 1024) (w : World) (R : Ending → World → Prop) (hR : ∀ w', Below w.heap.size w w' → R (.returned (.int .i64 0)) w') :
    Calls Tryz.prog 154 #[.string a] w R := by
  refine wcheck_any a _ ha (by rw [ha.size]; split <;> omega) w R fun w' hb => ?_
  rw [ckT_itoa, if_pos hl]
  exact hR w' hb
theorem nw_len {n : Int} {k : Nat} (h : lenI n ≤ 9 * k) (hk : 0 < k) : nw n.natAbs ≤ k := nw_digits ((lenI_le (by omega)).1 h)
theorem small_abs {a : ByteArray} {n : Int} (h : Txt a n) (hs : a.size ≤ 9) : n.natAbs < 1000000000 := by
  have h1 : lenI n ≤ 9 := by have := h.size; omega
  have := (lenI_le (by decide)).1 h1
  rwa [pow9] at this
set_option maxHeartbeats 1000000 in
theorem limited_any (b v : Nat) (s : Bool) (w : World) (R : Ending → World → Prop) (hx : Wide w b s v) (hn : nw v ≤ 232) (hE : Env w) (hl : lenI (sV s v) ≤ 1024) (hR : ∀ r w', Below w.heap.size w w' → Txt r (sV s v) → R (.returned (.tuple #[.string r, .int .i64 0])) w') :
    Calls Tryz.prog 110 #[.pointer (some ⟨b, 0, none⟩)] w R := by
  have HR := Lib.hid hR
  have HL := Lib.hid hl
  clear hR hl
  go_enter Tryz.func110, Tryz.ntmps110
  go_wp2_with fail
  with_reducible refine text_any b v s _ _ hx hn hE fun r w1 hb hr => ?_
  have B1 := Lib.hid hb
  have T1 := Lib.hid hr
  clear hb hr hx hE
  go_wp2_with fail
  with_reducible refine wcheckI_any r _ T1.out HL.out _ _ fun w2 hb => ?_
  have B2 : Hid (Below w.heap.size w w2) := B1.out.trans (hb.mono B1.out.size)
  clear hb
  go_wp2_with fail
  exact HR.out _ _ B2.out T1.out
set_option maxHeartbeats 1000000 in
theorem wall_any (bk : Nat) (a b : ByteArray) (m n : Int) (ha : Txt a m) (hb : Txt b n) (hm : lenI m ≤ 1024) (hn : lenI n ≤ 1024) (w : World) (R : Ending → World → Prop) (h : w.heap[bk]? = some (.cells #[.string a, .string b] 61 (0, 0)))
   (hR : ∀ w', Below w.heap.size w w' → R (.returned (.int .i64 0)) w') :
    Calls Tryz.prog 105 #[.slice (some ⟨bk, 0, none⟩) 2 2] w R := by
  have HR := Lib.hid hR
  have HA := Lib.hid ha
  have HB := Lib.hid hb
  have HM := Lib.hid hm
  have HN := Lib.hid hn
  have HH := Lib.hid h
  have hlt := lt_of_block h
  clear hR ha hb hm hn h
  go_enter Tryz.func105, Tryz.ntmps105
  go_wp2_with fail
  go_loopw [8] (fun i wr => ∃ k : Nat, i = .int .i64 k ∧ k ≤ 2 ∧ Hid (Below w.heap.size w wr)) (fun i _ => 2 - (intOf i).toNat)
  case atStart => exact ⟨0, rfl, by omega, Below.refl _ _⟩
  case round =>
    obtain ⟨k, rfl, hk, HBr⟩ := hrel
    have HHr : Hid (wr.heap[bk]? = some (.cells #[.string a, .string b] 61 (0, 0))) := (HBr.out.block bk hlt).trans HH.out
    rcases (show k = 0 ∨ k = 1 ∨ k = 2 by omega) with rfl | rfl | rfl
    · skip
      have c0 := cell_at HHr.out (j := 0) (v := .string a) rfl
      go_wp2_with fail
      with_reducible refine wcheckI_any a m HA.out HM.out _ _ fun w1 hb1 => ?_
      have B1 : Hid (Below w.heap.size w w1) := HBr.out.trans (hb1.mono HBr.out.size)
      clear hb1
      go_wp2_with fail
      exact ⟨⟨1, by go_num, by omega, B1⟩, by simp [intOf]⟩
    · skip
      have c1 := cell_at HHr.out (j := 1) (v := .string b) rfl
      go_wp2_with fail
      with_reducible refine wcheckI_any b n HB.out HN.out _ _ fun w1 hb1 => ?_
      have B1 : Hid (Below w.heap.size w w1) := HBr.out.trans (hb1.mono HBr.out.size)
      clear hb1
      go_wp2_with fail
      exact ⟨⟨2, by go_num, by omega, B1⟩, by simp [intOf]⟩
    · skip
      go_wp2_with fail
      exact ret_i (HR.out _ HBr.out) rfl rfl
theorem sV_times (s t : Bool) (v u : Nat) : sV (!(s == t)) (v * u) = sV s v * sV t u := by
  cases s <;> cases t <;> simp [sV, Int.neg_mul, Int.mul_neg]
theorem sV_mul (m n : Int) : sV (!(decide (m < 0) == decide (n < 0))) (m.natAbs * n.natAbs) = m * n := by
  rw [sV_times, sV_abs, sV_abs]
theorem plS_le (s t : Bool) (v u : Nat) : (plS s t v u).2 ≤ v + u := by
  unfold plS
  split
  · exact Nat.le_refl _
  · split
    · exact Nat.le_trans (Nat.sub_le _ _) (by omega)
    · exact Nat.le_trans (Nat.sub_le _ _) (by omega)
theorem sV_zero {s : Bool} {v : Nat} (h : sV s v = 0) : v = 0 := by
  unfold sV at h
  split at h <;> omega
set_option maxHeartbeats 2000000 in
theorem wsum_any (bk : Nat) (a b : ByteArray) (m n : Int) (ha : Txt a m) (hb : Txt b n) (hm : lenI m ≤ 1024) (hn : lenI n ≤ 1024) (hmn : lenI (m + n) ≤ 1024) (w : World) (R : Ending → World → Prop) (h : w.heap[bk]? = some (.cells #[.string a, .string b] 61 (0, 0))) (hE : Env w)
   (hR : ∀ r w', Below w.heap.size w w' → Txt r (m + n) → R (.returned (.tuple #[.string r, .int .i64 0])) w') :
    Calls Tryz.prog 159 #[.slice (some ⟨bk, 0, none⟩) 2 2] w R := by
  have HR := Lib.hid hR
  have HA := Lib.hid ha
  have HB := Lib.hid hb
  have HM := Lib.hid hm
  have HN := Lib.hid hn
  have HMN := Lib.hid hmn
  have HE := Lib.hid hE
  have HH := Lib.hid h
  have hlt := lt_of_block h
  obtain ⟨bx, hbx⟩ : ∃ z, w.heap.size = z := ⟨_, rfl⟩
  obtain ⟨w1, E1, HB1, s1, X1⟩ := box_ex w Tryz.zeroCells184 184
  have W1 : Hid (Wide w1 bx false 0) := by have := zero_wide X1.out; rw [hbx] at this; exact this
  rw [hbx] at HB1 HR hlt s1
  have HLT := Lib.hid hlt
  have HBX := Lib.hid hbx
  have HS1 := Lib.hid s1
  have nm : Hid (nw m.natAbs ≤ 114) := nw_len (by omega) (by omega)
  have nn : Hid (nw n.natAbs ≤ 114) := nw_len (by omega) (by omega)
  clear hR ha hb hm hn hmn h hE s1 hlt
  go_enter Tryz.func159, Tryz.ntmps159
  go_wp2_with (rw [E1])
  clear hbx
  go_loopw [11] (fun i wr => ∃ (k : Nat) (s : Bool) (v : Nat), i = .int .i64 k ∧ k ≤ 2 ∧ Hid (Below bx w wr) ∧ Hid (Wide wr bx s v) ∧ Hid (nw v ≤ 114 + k) ∧ Hid (sV s v = if k = 0 then 0 else if k = 1 then m else m + n)) (fun i _ => 2 - (intOf i).toNat)
  case atStart => exact ⟨0, false, 0, rfl, by omega, HB1, W1, by unfold Hid; rw [nw_zero]; omega, rfl⟩
  case round =>
    obtain ⟨k, s, v, rfl, hk, HBr, HW, HNV, HV⟩ := hrel
    have HHr : Hid (wr.heap[bk]? = some (.cells #[.string a, .string b] 61 (0, 0))) := (HBr.out.block bk HLT.out).trans HH.out
    have BXr := Lib.hid (lt_of_block HW.out)
    rcases (show k = 0 ∨ k = 1 ∨ k = 2 by omega) with rfl | rfl | rfl
    · skip
      have c0 := cell_at HHr.out (j := 0) (v := .string a) rfl
      have HV0 : Hid (sV s v = 0) := HV.out
      go_wp2_with fail
      with_reducible refine read_any a m HA.out (by have := HM.out; omega) _ _ fun w2 hb2 hw2 hs2 => ?_
      have HW2 : Hid (Wide w2 bx s v) := HW.out.below hb2
      have HY2 := Lib.hid hw2
      have B2 : Hid (Below bx w w2) := HBr.out.trans (hb2.mono (Nat.le_of_lt BXr.out))
      clear hb2 hw2 hs2
      go_wp2_with fail
      with_reducible refine plus_any bx _ v m.natAbs s _ _ _ HW2.out HY2.out (Nat.ne_of_gt BXr.out) (by have := HNV.out; omega) (by have := nm.out; omega) fun w3 hm3 hw3 => ?_
      have HW3 := Lib.hid hw3
      have B3 : Hid (Below bx w w3) := B2.out.trans hm3.1
      have hv3 : Hid (sV (plS s (decide (m < 0)) v m.natAbs).1 (plS s (decide (m < 0)) v m.natAbs).2 = m) := by
        unfold Hid; rw [plS_val, HV0.out, sV_abs, Int.zero_add]
      have hn3 : Hid (nw (plS s (decide (m < 0)) v m.natAbs).2 ≤ 114 + 1) := by
        have := plS_le s (decide (m < 0)) v m.natAbs
        have hv0 : v = 0 := sV_zero HV0.out
        subst hv0
        unfold Hid
        have h2 := nw_mono this
        rw [Nat.zero_add] at h2
        have := nm.out; omega
      clear hm3 hw3
      go_wp2_with fail
      exact ⟨⟨1, _, _, by go_num, by omega, B3, HW3, hn3, by unfold Hid; rw [hv3.out]; rfl⟩, by simp [intOf]⟩
    · skip
      have c1 := cell_at HHr.out (j := 1) (v := .string b) rfl
      have HV1 : Hid (sV s v = m) := HV.out
      go_wp2_with fail
      with_reducible refine read_any b n HB.out (by have := HN.out; omega) _ _ fun w2 hb2 hw2 hs2 => ?_
      have HW2 : Hid (Wide w2 bx s v) := HW.out.below hb2
      have HY2 := Lib.hid hw2
      have B2 : Hid (Below bx w w2) := HBr.out.trans (hb2.mono (Nat.le_of_lt BXr.out))
      clear hb2 hw2 hs2
      go_wp2_with fail
      with_reducible refine plus_any bx _ v n.natAbs s _ _ _ HW2.out HY2.out (Nat.ne_of_gt BXr.out) (by have := HNV.out; omega) (by have := nn.out; omega) fun w3 hm3 hw3 => ?_
      have HW3 := Lib.hid hw3
      have B3 : Hid (Below bx w w3) := B2.out.trans hm3.1
      have hv3 : Hid (sV (plS s (decide (n < 0)) v n.natAbs).1 (plS s (decide (n < 0)) v n.natAbs).2 = m + n) := by
        unfold Hid; rw [plS_val, HV1.out, sV_abs]
      have hn3 : Hid (nw (plS s (decide (n < 0)) v n.natAbs).2 ≤ 114 + 2) := by
        have := plS_le s (decide (n < 0)) v n.natAbs
        have h2 := Nat.le_trans (nw_mono this) (nw_add _ _)
        have h3 := nn.out
        have h4 := HNV.out
        unfold Hid
        omega
      clear hm3 hw3
      go_wp2_with fail
      exact ⟨⟨2, _, _, by go_num, by omega, B3, HW3, hn3, by unfold Hid; rw [hv3.out]; rfl⟩, by simp [intOf]⟩
    · skip
      have HV2 : Hid (sV s v = m + n) := HV.out
      have HEr : Hid (Env wr) := HE.out.below (by rw [HBX.out]; exact HBr.out)
      go_wp2_with fail
      with_reducible refine limited_any bx v s _ _ HW.out (by have := HNV.out; omega) HEr.out (by rw [HV2.out]; exact HMN.out) fun r w2 hb2 hr2 => ?_
      rw [HV2.out] at hr2
      have T2 := Lib.hid hr2
      have B2 : Hid (Below bx w w2) := HBr.out.trans (hb2.mono (Nat.le_of_lt BXr.out))
      clear hb2 hr2
      go_wp2_with fail
      exact HR.out _ _ B2.out T2.out
end Go.Proofs.YtcmhompbdanpdaaGreatDoor
namespace Go.Proofs.YtcmhompbdanpdaaGreatDoor
open Go.RowKit

theorem mul_small {m n : Int} (h : m.natAbs < 1000000000) (h' : n.natAbs < 1000000000) : (m * n).natAbs ≤ 999999998000000001 := by
  rw [Int.natAbs_mul]
  have h1 : m.natAbs ≤ 999999999 := by omega
  have h2 : n.natAbs ≤ 999999999 := by omega
  exact Nat.le_trans (Nat.mul_le_mul h1 h2) (by decide)
set_option maxHeartbeats 2000000 in
theorem wadd_any (a b : ByteArray) (m n : Int) (ha : Txt a m) (hb : Txt b n) (hm : lenI m ≤ 1024) (hn : lenI n ≤ 1024) (hmn : lenI (m + n) ≤ 1024) (w : World) (R : Ending → World → Prop) (hE : Env w)
   (hR : ∀ r w', Below w.heap.size w w' → Txt r (m + n) → R (.returned (.tuple #[.string r, .int .i64 0])) w') :
    Calls Tryz.prog 95 #[.string a, .string b] w R := by
  have HR := Lib.hid hR
  have HA := Lib.hid ha
  have HB := Lib.hid hb
  have HM := Lib.hid hm
  have HN := Lib.hid hn
  have HMN := Lib.hid hmn
  have HE := Lib.hid hE
  obtain ⟨w1, E1, HB1, s1, X1⟩ := box_ex w #[.string a, .string b] 61
  clear hR ha hb hm hn hmn hE s1
  go_enter Tryz.func95, Tryz.ntmps95
  go_wp2_with (rw [E1])
  with_reducible refine wall_any _ a b m n HA.out HB.out HM.out HN.out _ _ X1.out fun w2 hb2 => ?_
  have B2 : Hid (Below w.heap.size w w2) := HB1.out.trans (hb2.mono HB1.out.size)
  clear hb2
  go_wp2_with fail
  with_reducible refine wsmall_any a b m n HA.out HB.out _ _ fun w3 hb3 => ?_
  have B3 : Hid (Below w.heap.size w w3) := B2.out.trans (hb3.mono B2.out.size)
  clear hb3
  by_cases hs : a.size ≤ 9 ∧ b.size ≤ 9
  · refine ⟨fun _ => ?_, fun h => absurd hs h⟩
    have b1 := small_abs HA.out hs.1
    have b2 := small_abs HB.out hs.2
    have HE3 := Lib.hid (HE.out.below B3.out)
    clear hs
    go_wp2_with fail
    with_reducible refine wresult_any (m + n) _ _ (by omega) (by omega) HE3.out fun r w4 hb4 hr => ?_
    have B4 : Hid (Below w.heap.size w w4) := B3.out.trans (hb4.mono B3.out.size)
    have T4 := Lib.hid hr
    clear hb4 hr
    go_wp2_with fail
    exact HR.out _ _ B4.out T4.out
  · refine ⟨fun h => absurd h hs, fun _ => ?_⟩
    obtain ⟨w5, E5, HB5, s5, X5⟩ := box_ex w3 #[.string a, .string b] 61
    have B5 : Hid (Below w.heap.size w w5) := B3.out.trans (HB5.out.mono B3.out.size)
    have HE5 := Lib.hid (HE.out.below B5.out)
    clear hs s5
    go_wp2_with (rw [E5])
    with_reducible refine wsum_any _ a b m n HA.out HB.out HM.out HN.out HMN.out _ _ X5.out HE5.out fun r w6 hb6 hr => ?_
    have B6 : Hid (Below w.heap.size w w6) := B5.out.trans (hb6.mono B5.out.size)
    have T6 := Lib.hid hr
    clear hb6 hr
    go_wp2_with fail
    exact HR.out _ _ B6.out T6.out
set_option maxHeartbeats 2000000 in
theorem wmul_any (a b : ByteArray) (m n : Int) (ha : Txt a m) (hb : Txt b n) (hm : lenI m ≤ 1024) (hn : lenI n ≤ 1024) (hmn : lenI (m * n) ≤ 1024) (w : World) (R : Ending → World → Prop) (hE : Env w)
   (hR : ∀ r w', Below w.heap.size w w' → Txt r (m * n) → R (.returned (.tuple #[.string r, .int .i64 0])) w') :
    Calls Tryz.prog 37 #[.string a, .string b] w R := by
  have HR := Lib.hid hR
  have HA := Lib.hid ha
  have HB := Lib.hid hb
  have HM := Lib.hid hm
  have HN := Lib.hid hn
  have HMN := Lib.hid hmn
  have HE := Lib.hid hE
  have nm : Hid (nw m.natAbs ≤ 114) := nw_len (by omega) (by omega)
  have nn : Hid (nw n.natAbs ≤ 114) := nw_len (by omega) (by omega)
  obtain ⟨w1, E1, HB1, s1, X1⟩ := box_ex w #[.string a, .string b] 61
  clear hR ha hb hm hn hmn hE s1
  go_enter Tryz.func37, Tryz.ntmps37
  go_wp2_with (rw [E1])
  with_reducible refine wall_any _ a b m n HA.out HB.out HM.out HN.out _ _ X1.out fun w2 hb2 => ?_
  have B2 : Hid (Below w.heap.size w w2) := HB1.out.trans (hb2.mono HB1.out.size)
  clear hb2
  go_wp2_with fail
  with_reducible refine wsmall_any a b m n HA.out HB.out _ _ fun w3 hb3 => ?_
  have B3 : Hid (Below w.heap.size w w3) := B2.out.trans (hb3.mono B2.out.size)
  clear hb3
  by_cases hs : a.size ≤ 9 ∧ b.size ≤ 9
  · refine ⟨fun _ => ?_, fun h => absurd hs h⟩
    have b1 := small_abs HA.out hs.1
    have b2 := small_abs HB.out hs.2
    have hbd := mul_small b1 b2
    obtain ⟨p, hp⟩ : ∃ p, m * n = p := ⟨_, rfl⟩
    rw [hp] at hbd HR
    have HE3 := Lib.hid (HE.out.below B3.out)
    clear hs
    go_wp2_with fail
    with_reducible refine wresult_any p _ _ (by omega) (by omega) HE3.out fun r w4 hb4 hr => ?_
    have B4 : Hid (Below w.heap.size w w4) := B3.out.trans (hb4.mono B3.out.size)
    have T4 := Lib.hid hr
    clear hb4 hr
    go_wp2_with fail
    exact HR.out _ _ B4.out T4.out
  · refine ⟨fun h => absurd h hs, fun _ => ?_⟩
    clear hs
    go_wp2_with fail
    with_reducible refine read_any a m HA.out (by have := HM.out; omega) _ _ fun w5 hb5 hw5 hs5 => ?_
    have B5 : Hid (Below w.heap.size w w5) := B3.out.trans (hb5.mono B3.out.size)
    have HX5 := Lib.hid hw5
    clear hb5 hw5
    have L5 := Lib.hid hs5
    clear hs5
    go_wp2_with fail
    with_reducible refine read_any b n HB.out (by have := HN.out; omega) _ _ fun w6 hb6 hw6 hs6 => ?_
    have B6 : Hid (Below w.heap.size w w6) := B5.out.trans (hb6.mono B5.out.size)
    have HX6 := Lib.hid (HX5.out.below hb6)
    have HY6 := Lib.hid hw6
    clear hb6 hw6 hs6
    go_wp2_with fail
    with_reducible refine times_any _ _ m.natAbs n.natAbs _ _ _ _ HX6.out HY6.out (by have := nm.out; have := nn.out; omega) fun w7 hb7 hw7 => ?_
    have B7 : Hid (Below w.heap.size w w7) := B6.out.trans (hb7.mono B6.out.size)
    have HZ7 := Lib.hid hw7
    have HE7 := Lib.hid (HE.out.below B7.out)
    have HSV : Hid (sV (!(decide (m < 0) == decide (n < 0))) (m.natAbs * n.natAbs) = m * n) := sV_mul m n
    clear hb7 hw7
    go_wp2_with fail
    with_reducible refine limited_any _ (m.natAbs * n.natAbs) _ _ _ HZ7.out (Nat.le_trans (nw_mul _ _) (by have := nm.out; have := nn.out; omega)) HE7.out (by rw [HSV.out]; exact HMN.out) fun r w8 hb8 hr8 => ?_
    rw [HSV.out] at hr8
    have B8 : Hid (Below w.heap.size w w8) := B7.out.trans (hb8.mono B7.out.size)
    have T8 := Lib.hid hr8
    clear hb8 hr8
    go_wp2_with fail
    exact HR.out _ _ B8.out T8.out
theorem itoa_tail' {n : Int} (h : n < 0) : (Lib.itoa n).drop 1 = Lib.itoa (-n) := by rw [itoa_tail h]; congr 1; omega
set_option maxHeartbeats 1000000 in
theorem wopp_any (a : ByteArray) (n : Int) (ha : Txt a n) (hl : lenI n ≤ 1024) (w : World) (R : Ending → World → Prop) (hR : ∀ r, Txt r (-n) → R (.returned (.string r)) w) :
    Calls Tryz.prog 160 #[.string a] w R := by
  have HR := Lib.hid hR
  have HA := Lib.hid ha
  have hp := ha.pos
  rcases Int.lt_trichotomy n 0 with h | h | h
  · have e : n.sign = -1 := Int.sign_eq_neg_one_of_neg h
    have ht : Hid (Tx (a.extract 1 a.size) (Lib.itoa (-n))) := by unfold Hid; rw [← itoa_tail' h]; exact Tx.drop ha 1
    obtain ⟨r, hr⟩ : ∃ r, a.extract 1 a.size = r := ⟨_, rfl⟩
    rw [hr] at ht
    have g : 1 ≤ a.size := hp
    clear hR ha
    go_enter Tryz.func160, Tryz.ntmps160
    go_wp2_with fail
    with_reducible refine wsign_any a n HA.out _ _ ?_
    rw [e]
    go_wp2_with fail
    exact ret_str (HR.out r ht.out) rfl
  · subst h
    clear hR ha
    go_enter Tryz.func160, Tryz.ntmps160
    go_wp2_with fail
    with_reducible refine wsign_any a 0 HA.out _ _ ?_
    go_wp2_with fail
    exact ret_str (HR.out a (by rw [Int.neg_zero]; exact HA.out)) rfl
  · have e : n.sign = 1 := Int.sign_eq_one_of_pos h
    have had := ha.minus_run h (by omega) (P := Tryz.prog)
    obtain ⟨r, hr⟩ : ∃ r, tB (Lib.itoa (-n)) = r := ⟨_, rfl⟩
    have ht : Hid (Txt r (-n)) := by rw [← hr]; exact Txt.of _
    rw [hr] at had
    clear hR ha
    go_enter Tryz.func160, Tryz.ntmps160
    go_wp2_with fail
    with_reducible refine wsign_any a n HA.out _ _ ?_
    rw [e]
    go_wp2_with fail
    exact ret_str (HR.out r ht.out) rfl
theorem lenI_neg (n : Int) : lenI (-n) = lenI n := by unfold lenI; rw [Int.natAbs_neg]
set_option maxHeartbeats 2000000 in
theorem wsub_any (a b : ByteArray) (m n : Int) (ha : Txt a m) (hb : Txt b n) (hm : lenI m ≤ 1024) (hn : lenI n ≤ 1024) (hmn : lenI (m - n) ≤ 1024) (w : World) (R : Ending → World → Prop) (hE : Env w)
   (hR : ∀ r w', Below w.heap.size w w' → Txt r (m - n) → R (.returned (.tuple #[.string r, .int .i64 0])) w') :
    Calls Tryz.prog 96 #[.string a, .string b] w R := by
  have HR := Lib.hid hR
  have HA := Lib.hid ha
  have HB := Lib.hid hb
  have HM := Lib.hid hm
  have HN := Lib.hid hn
  have HMN := Lib.hid hmn
  have HE := Lib.hid hE
  have HN2 : Hid (lenI (-n) ≤ 1024) := by unfold Hid; rw [lenI_neg]; exact hn
  have HMN2 : Hid (lenI (m + -n) ≤ 1024) := hmn
  obtain ⟨w1, E1, HB1, s1, X1⟩ := box_ex w #[.string a, .string b] 61
  clear hR ha hb hm hn hmn hE s1
  go_enter Tryz.func96, Tryz.ntmps96
  go_wp2_with (rw [E1])
  with_reducible refine wall_any _ a b m n HA.out HB.out HM.out HN.out _ _ X1.out fun w2 hb2 => ?_
  have B2 : Hid (Below w.heap.size w w2) := HB1.out.trans (hb2.mono HB1.out.size)
  clear hb2
  go_wp2_with fail
  with_reducible refine wopp_any b n HB.out HN.out _ _ fun r hr => ?_
  have HE2 := Lib.hid (HE.out.below B2.out)
  have T2 := Lib.hid hr
  clear hr
  go_wp2_with fail
  with_reducible refine wadd_any a r m (-n) HA.out T2.out HM.out HN2.out HMN2.out _ _ HE2.out fun r3 w3 hb3 hr3 => ?_
  have B3 : Hid (Below w.heap.size w w3) := B2.out.trans (hb3.mono B2.out.size)
  have T3 : Hid (Txt r3 (m - n)) := hr3
  clear hb3 hr3
  go_wp2_with fail
  exact HR.out _ _ B3.out T3.out
end Go.Proofs.YtcmhompbdanpdaaGreatDoor
namespace Go.Proofs.YtcmhompbdanpdaaGreatDoor
open Go.RowKit

theorem tmod_bounds {m n r : Int} (hr : m.tmod n = r) (hn : n ≠ 0) : r.natAbs < n.natAbs ∧ (0 ≤ m → 0 ≤ r) ∧ (m ≤ 0 → r ≤ 0) := by
  subst hr
  refine ⟨?_, fun h => Int.tmod_nonneg _ h, fun h => ?_⟩
  · rw [Int.natAbs_tmod]; exact Nat.mod_lt _ (by omega)
  · have := Int.tmod_nonneg n (show 0 ≤ -m by omega)
    rw [Int.neg_tmod] at this; omega
theorem part_small {m n q r : Int} (hq : m.tdiv n = q) (hr : m.tmod n = r) (hn : n ≠ 0) :
    (r = 0 → m.fdiv n = q ∧ m.fmod n = r) ∧ (r ≠ 0 → (r < 0 ↔ n < 0) → m.fdiv n = q ∧ m.fmod n = r) ∧ (r ≠ 0 → ¬ (r < 0 ↔ n < 0) → m.fdiv n = q - 1 ∧ m.fmod n = r + n) := by
  have hm : m = q * n + r := by rw [← hq, ← hr, Int.mul_comm]; exact (Int.mul_tdiv_add_tmod m n).symm
  obtain ⟨hb, _, _⟩ := tmod_bounds hr hn
  refine ⟨fun h => fdiv_of hm (by omega), fun h h2 => fdiv_of hm (by omega), fun h h2 => fdiv_of ?_ (by omega)⟩
  rw [Int.sub_mul, Int.one_mul]; omega
theorem part_big (sx sy : Bool) (vx vy : Nat) (h0 : vy ≠ 0) :
    ((sx == sy) = true → (sV sx vx).fdiv (sV sy vy) = ((vx / vy : Nat) : Int) ∧ (sV sx vx).fmod (sV sy vy) = sV sx (vx % vy)) ∧
    ((sx == sy) = false → vx % vy = 0 → (sV sx vx).fdiv (sV sy vy) = -((vx / vy : Nat) : Int) ∧ (sV sx vx).fmod (sV sy vy) = 0) ∧
    ((sx == sy) = false → vx % vy ≠ 0 → (sV sx vx).fdiv (sV sy vy) = -((vx / vy : Nat) : Int) - 1 ∧ (sV sx vx).fmod (sV sy vy) = sV sx (vx % vy) + sV sy vy) := by
  have hv : (vx : Int) = ((vx / vy : Nat) : Int) * (vy : Int) + ((vx % vy : Nat) : Int) := by
    have := Nat.div_add_mod vx vy
    rw [Nat.mul_comm] at this
    exact_mod_cast this.symm
  have hr := Nat.mod_lt vx (Nat.pos_of_ne_zero h0)
  obtain ⟨q, hq⟩ : ∃ q, vx / vy = q := ⟨_, rfl⟩
  obtain ⟨r, hrr⟩ : ∃ q, vx % vy = q := ⟨_, rfl⟩
  rw [hq, hrr] at hv
  rw [hrr] at hr
  rw [hq, hrr]
  obtain ⟨p, hp⟩ : ∃ p, (q : Int) * (vy : Int) = p := ⟨_, rfl⟩
  rw [hp] at hv
  refine ⟨fun h => ?_, fun h hz => ?_, fun h hz => ?_⟩
  · obtain rfl : sx = sy := by simpa using h
    refine fdiv_of ?_ ?_
    · cases sx <;> simp only [sV, if_true] <;> (try simp) <;> (try rw [Int.mul_neg]) <;> rw [hp] <;> omega
    · cases sx <;> simp [sV] <;> omega
  · refine fdiv_of ?_ (by cases sy <;> simp [sV] <;> omega)
    cases sx <;> cases sy <;> simp at h <;> simp [sV, Int.neg_mul, Int.mul_neg] <;> rw [hp] <;> omega
  · refine fdiv_of ?_ (by cases sx <;> cases sy <;> simp at h <;> simp [sV] <;> omega)
    rw [Int.sub_mul, Int.one_mul]
    cases sx <;> cases sy <;> simp at h <;> simp [sV, Int.neg_mul, Int.mul_neg] <;> rw [hp] <;> omega
theorem one_nw : nw 1 ≤ 231 := by rw [nw_pos (by decide), show 1 / bB = 0 from by decide, nw_zero]; omega
theorem Wide.setS {w : World} {b v : Nat} {s : Bool} (h : Wide w b s v) (s' : Bool) : Wide (w.setCell ⟨b, 0, none⟩ (.bool s')) b s' v := set_cells h 0 _ _ (wdM_set0 _ _ _ _)
theorem one_cells : (((Tryz.zeroCells184.setIfInBounds 0 (.bool true)).setIfInBounds 1 (.int .i64 1)).setIfInBounds 2 (.int .i64 1)) = wdC true 1 := by
  rw [zero_cells, wdM_set0]
  have := wdM_set1 true (0 : Nat) (1 : Nat) (fun _ => 0)
  rw [show (Value.int .i64 (1 : Int)) = .int .i64 ((1 : Nat) : Int) from rfl, show ((0 : Int)) = ((0 : Nat) : Int) from rfl, this]
  have h2 := wdM_setw true ((1 : Nat) : Int) (fun _ => 0) (i := 0) (by decide) 1
  rw [show (2 : Nat) = 2 + 0 from rfl, h2]
  refine wdC_of (n := 1) ?_ fun i _ => ?_
  · rw [nw_pos (by decide), show 1 / bB = 0 from by decide, nw_zero]
  · show (if i = 0 then 1 else 0) = _
    by_cases e : i = 0
    · subst e; rw [if_pos rfl, wd_zero]; rfl
    · rw [if_neg e, wd_high]; rw [nw_pos (by decide), show 1 / bB = 0 from by decide, nw_zero]; omega

set_option maxRecDepth 100000 in
set_option maxHeartbeats 8000000 in
theorem parted_any (a b : ByteArray) (m n : Int) (ha : Txt a m) (hb : Txt b n) (hm : lenI m ≤ 1024) (hn : lenI n ≤ 1024) (h0 : n ≠ 0) (w : World) (R : Ending → World → Prop) (hE : Env w)
   (hR : ∀ q r w', Below w.heap.size w w' → Txt q (m.fdiv n) → Txt r (m.fmod n) → R (.returned (.tuple #[.string q, .string r, .int .i64 0])) w') :
    Calls Tryz.prog 244 #[.string a, .string b] w R := by
  have HR := Lib.hid hR
  have HA := Lib.hid ha
  have HB := Lib.hid hb
  have HM := Lib.hid hm
  have HN := Lib.hid hn
  have HE := Lib.hid hE
  have H0 := Lib.hid h0
  have KZ := hb.beqL 0 itoa_0
  rw [decide_eq_false h0] at KZ
  obtain ⟨w1, E1, HB1, s1, X1⟩ := box_ex w #[.string a, .string b] 61
  clear hR ha hb hm hn hE s1 h0
  go_enter Tryz.func244, Tryz.ntmps244
  go_wp2_with (rw [E1])
  with_reducible refine wall_any _ a b m n HA.out HB.out HM.out HN.out _ _ X1.out fun w2 hb2 => ?_
  have B2 : Hid (Below w.heap.size w w2) := HB1.out.trans (hb2.mono HB1.out.size)
  clear hb2
  go_wp2_with fail
  with_reducible refine wsmall_any a b m n HA.out HB.out _ _ fun w3 hb3 => ?_
  have B3 : Hid (Below w.heap.size w w3) := B2.out.trans (hb3.mono B2.out.size)
  clear hb3
  by_cases hs : a.size ≤ 9 ∧ b.size ≤ 9
  · refine ⟨fun _ => ?_, fun h => absurd hs h⟩
    have b1 := small_abs HA.out hs.1
    have b2 := small_abs HB.out hs.2
    have HE3 := Lib.hid (HE.out.below B3.out)
    obtain ⟨q, hq⟩ : ∃ q, m.tdiv n = q := ⟨_, rfl⟩
    obtain ⟨r, hr⟩ : ∃ r, m.tmod n = r := ⟨_, rfl⟩
    have bq : q.natAbs < 1000000000 := by rw [← hq, Int.natAbs_tdiv]; exact Nat.lt_of_le_of_lt (Nat.div_le_self _ _) b1
    obtain ⟨br, _, _⟩ := tmod_bounds hr H0.out
    have hp := part_small hq hr H0.out
    have HP := Lib.hid hp
    have hnz := H0.out
    have B3d : Hid (Below w.heap.size w w3.drew) := B3.out.drew
    have HE3d : Hid (Env w3.drew) := HE3.out.drew
    have KQ : IntKind.i64.wrap q = q := by rw [IntKind.wrap_i64]; omega
    clear hs hp
    go_wp2_with fail
    refine regionL [0, 1, 2, 3, 4, 5, 6, 7] (fun _ => True) (by kernel_rfl) (trivial) (fun Qn hPQ hQn hS0 => ?_)
    iterate 8 (refine takeL (v := ?_) rfl rfl (by kernel_rfl) (by kernel_rfl) (by kernel_rfl) hPQ hS0 (by kernel_rfl) ?_ ?_; rotate_left; (focus (intro w hSw; (try dsimp only at hSw); go_simp; (try with_reducible rfl))); (try simp only [Act.put, List.setIfInBounds_toArray, List.set_cons_zero, List.set_cons_succ]))
    refine ofL (wpAnyH_done (by kernel_rfl) (hQn.out _ _ ?_) _)
    clear hS0 hPQ hQn Qn
    have hqr : Hid (m.tdiv n = q ∧ m.tmod n = r) := ⟨hq, hr⟩
    clear hq hr
    by_cases hr0 : r = 0
    · subst hr0
      replace HP := Lib.hid (HP.out.1 rfl)
      go_wp2_with fail
      with_reducible refine wof_any _ _ _ (by omega) (by omega) HE3d.out fun tq w4 hb4 htq => ?_
      have B4 : Hid (Below w.heap.size w w4) := B3d.out.trans (hb4.mono B3d.out.size)
      have TQ : Hid (Txt tq (m.fdiv n)) := by unfold Hid; rw [HP.out.1]; exact htq
      have HE4 := Lib.hid (HE.out.below B4.out)
      clear hb4 htq
      go_wp2_with fail
      with_reducible refine wof_any _ _ _ (by omega) (by omega) HE4.out fun tr w5 hb5 htr => ?_
      have B5 : Hid (Below w.heap.size w w5) := B4.out.trans (hb5.mono B4.out.size)
      have TR : Hid (Txt tr (m.fmod n)) := by unfold Hid; rw [HP.out.2]; exact htr
      clear hb5 htr
      go_wp2_with fail
      go_ret3
      exact HR.out _ _ _ B5.out TQ.out TR.out
    · have KR : (r == 0) = false := by simpa using hr0
      by_cases hsn : (r < 0 ↔ n < 0)
      · replace HP := Lib.hid (HP.out.2.1 hr0 hsn)
        by_cases hn0 : n < 0
        · have K1 : (n < 0) = True := eq_true hn0
          have K2 : (r < 0) = True := eq_true (hsn.2 hn0)
          clear hsn
          go_wp2_with fail
          with_reducible refine wof_any _ _ _ (by omega) (by omega) HE3d.out fun tq w4 hb4 htq => ?_
          have B4 : Hid (Below w.heap.size w w4) := B3d.out.trans (hb4.mono B3d.out.size)
          have TQ : Hid (Txt tq (m.fdiv n)) := by unfold Hid; rw [HP.out.1]; exact htq
          have HE4 := Lib.hid (HE.out.below B4.out)
          clear hb4 htq
          go_wp2_with fail
          with_reducible refine wof_any _ _ _ (by omega) (by omega) HE4.out fun tr w5 hb5 htr => ?_
          have B5 : Hid (Below w.heap.size w w5) := B4.out.trans (hb5.mono B4.out.size)
          have TR : Hid (Txt tr (m.fmod n)) := by unfold Hid; rw [HP.out.2]; exact htr
          clear hb5 htr
          go_wp2_with fail
          go_ret3
          exact HR.out _ _ _ B5.out TQ.out TR.out
        · have K1 : (n < 0) = False := eq_false hn0
          have K2 : (r < 0) = False := eq_false (fun h => hn0 (hsn.1 h))
          clear hsn
          go_wp2_with fail
          with_reducible refine wof_any _ _ _ (by omega) (by omega) HE3d.out fun tq w4 hb4 htq => ?_
          have B4 : Hid (Below w.heap.size w w4) := B3d.out.trans (hb4.mono B3d.out.size)
          have TQ : Hid (Txt tq (m.fdiv n)) := by unfold Hid; rw [HP.out.1]; exact htq
          have HE4 := Lib.hid (HE.out.below B4.out)
          clear hb4 htq
          go_wp2_with fail
          with_reducible refine wof_any _ _ _ (by omega) (by omega) HE4.out fun tr w5 hb5 htr => ?_
          have B5 : Hid (Below w.heap.size w w5) := B4.out.trans (hb5.mono B4.out.size)
          have TR : Hid (Txt tr (m.fmod n)) := by unfold Hid; rw [HP.out.2]; exact htr
          clear hb5 htr
          go_wp2_with fail
          go_ret3
          exact HR.out _ _ _ B5.out TQ.out TR.out
      · replace HP := Lib.hid (HP.out.2.2 hr0 hsn)
        by_cases hn0 : n < 0
        · have K1 : (n < 0) = True := eq_true hn0
          have K2 : (r < 0) = False := eq_false (fun h => hsn ⟨fun _ => hn0, fun _ => h⟩)
          clear hsn
          go_wp2_with fail
          with_reducible refine wof_any _ _ _ (by omega) (by omega) HE3d.out fun tq w4 hb4 htq => ?_
          have B4 : Hid (Below w.heap.size w w4) := B3d.out.trans (hb4.mono B3d.out.size)
          have TQ : Hid (Txt tq (m.fdiv n)) := by unfold Hid; rw [HP.out.1]; exact htq
          have HE4 := Lib.hid (HE.out.below B4.out)
          clear hb4 htq
          go_wp2_with fail
          with_reducible refine wof_any _ _ _ (by omega) (by omega) HE4.out fun tr w5 hb5 htr => ?_
          have B5 : Hid (Below w.heap.size w w5) := B4.out.trans (hb5.mono B4.out.size)
          have TR : Hid (Txt tr (m.fmod n)) := by unfold Hid; rw [HP.out.2]; exact htr
          clear hb5 htr
          go_wp2_with fail
          go_ret3
          exact HR.out _ _ _ B5.out TQ.out TR.out
        · have K1 : (n < 0) = False := eq_false hn0
          have K2 : (r < 0) = True := eq_true (by omega)
          clear hsn
          go_wp2_with fail
          with_reducible refine wof_any _ _ _ (by omega) (by omega) HE3d.out fun tq w4 hb4 htq => ?_
          have B4 : Hid (Below w.heap.size w w4) := B3d.out.trans (hb4.mono B3d.out.size)
          have TQ : Hid (Txt tq (m.fdiv n)) := by unfold Hid; rw [HP.out.1]; exact htq
          have HE4 := Lib.hid (HE.out.below B4.out)
          clear hb4 htq
          go_wp2_with fail
          with_reducible refine wof_any _ _ _ (by omega) (by omega) HE4.out fun tr w5 hb5 htr => ?_
          have B5 : Hid (Below w.heap.size w w5) := B4.out.trans (hb5.mono B4.out.size)
          have TR : Hid (Txt tr (m.fmod n)) := by unfold Hid; rw [HP.out.2]; exact htr
          clear hb5 htr
          go_wp2_with fail
          go_ret3
          exact HR.out _ _ _ B5.out TQ.out TR.out
  · refine ⟨fun h => absurd h hs, fun _ => ?_⟩
    clear hs
    have nm : Hid (nw m.natAbs ≤ 114) := nw_len (by have := HM.out; omega) (by omega)
    have nn : Hid (nw n.natAbs ≤ 114) := nw_len (by have := HN.out; omega) (by omega)
    go_wp2_with fail
    with_reducible refine read_any a m HA.out (by have := HM.out; omega) _ _ fun w5 hb5 hw5 hs5 => ?_
    have B5 : Hid (Below w.heap.size w w5) := B3.out.trans (hb5.mono B3.out.size)
    have HX5 := Lib.hid hw5
    have L5 := Lib.hid hs5
    clear hb5 hw5 hs5
    go_wp2_with fail
    with_reducible refine read_any b n HB.out (by have := HN.out; omega) _ _ fun w6 hb6 hw6 hs6 => ?_
    have B6 : Hid (Below w.heap.size w w6) := B5.out.trans (hb6.mono B5.out.size)
    have HX6 := Lib.hid (HX5.out.below hb6)
    have HY6 := Lib.hid hw6
    have L6 := Lib.hid hs6
    have L56 : Hid (w5.heap.size ≤ w6.heap.size) := hb6.size
    clear hb6 hw6 hs6
    go_wp2_with fail
    with_reducible refine divided_any _ _ m.natAbs n.natAbs _ _ _ _ HX6.out HY6.out (by have := nm.out; omega) (by have := nn.out; omega) (by have := H0.out; omega) fun w7 hb7 hq7 hr7 hs7 => ?_
    obtain ⟨bx, hbx⟩ : ∃ z, w3.heap.size = z := ⟨_, rfl⟩
    obtain ⟨by_, hby⟩ : ∃ z, w5.heap.size = z := ⟨_, rfl⟩
    obtain ⟨bq, hbq⟩ : ∃ z, w6.heap.size = z := ⟨_, rfl⟩
    have B7 : Hid (Below w.heap.size w w7) := B6.out.trans (hb7.mono B6.out.size)
    have HX7 := Lib.hid (HX6.out.below hb7)
    have HY7 := Lib.hid (HY6.out.below hb7)
    rw [hbx] at HX7 L5
    rw [hby] at HY7 L5 L6
    rw [hbq] at hq7 hr7 hs7 L6
    have HQ7 := Lib.hid hq7
    have HR7 := Lib.hid hr7
    have LQ := Lib.hid hs7
    have LW : Hid (w.heap.size ≤ bx) := by unfold Hid; rw [← hbx]; exact B3.out.size
    obtain ⟨vx, hvx⟩ : ∃ z, m.natAbs = z := ⟨_, rfl⟩
    obtain ⟨vy, hvy⟩ : ∃ z, n.natAbs = z := ⟨_, rfl⟩
    obtain ⟨sx, hsx⟩ : ∃ z, decide (m < 0) = z := ⟨_, rfl⟩
    obtain ⟨sy, hsy⟩ : ∃ z, decide (n < 0) = z := ⟨_, rfl⟩
    have em := sV_abs m
    have en := sV_abs n
    rw [hvx, hsx] at HX7 em
    rw [hvy, hsy] at HY7 en
    rw [hvx, hvy] at HQ7 HR7
    rw [hvx] at nm
    rw [hvy] at nn
    have EM := Lib.hid em
    have EN := Lib.hid en
    have HVY : Hid (vy ≠ 0) := by have := H0.out; unfold Hid; omega
    have PB := Lib.hid (part_big sx sy vx vy HVY.out)
    rw [em, en] at PB
    have x0 : w7.drew.cell? ⟨bx, 0, none⟩ = some (.bool sx) := HX7.out.m.c0
    have y0 : w7.drew.cell? ⟨by_, 0, none⟩ = some (.bool sy) := HY7.out.m.c0
    have q0 : w7.drew.cell? ⟨bq, 0, none⟩ = some (.bool false) := HQ7.out.m.c0
    have fzq := HQ7.out.m.frozen 0
    obtain ⟨w8, E8⟩ : ∃ z, w7.setCell ⟨bq, 0, none⟩ (.bool (!(sx == sy))) = z := ⟨_, rfl⟩
    have C8 : Hid (Chg bq w7 w8) := by rw [← E8]; exact (Chg.refl _ _).setCell _ _
    have HQ8 : Hid (Wide w8 bq (!(sx == sy)) (vx / vy)) := by rw [← E8]; exact HQ7.out.setS _
    have HX8 : Hid (Wide w8 bx sx vx) := HX7.out.chg C8.out (by have := L5.out; have := L6.out; omega)
    have HY8 : Hid (Wide w8 by_ sy vy) := HY7.out.chg C8.out (by have := L6.out; omega)
    have HR8 : Hid (Wide w8 (bq + 1) false (vx % vy)) := HR7.out.chg C8.out (by omega)
    have x1 : w8.drew.cell? ⟨bx, 0, none⟩ = some (.bool sx) := HX8.out.m.c0
    have y1 : w8.drew.cell? ⟨by_, 0, none⟩ = some (.bool sy) := HY8.out.m.c0
    have r1 : w8.drew.cell? ⟨bq + 1, 0, none⟩ = some (.bool false) := HR8.out.m.c0
    have fzr := HR8.out.m.frozen 0
    obtain ⟨w9, E9⟩ : ∃ z, w8.setCell ⟨bq + 1, 0, none⟩ (.bool sx) = z := ⟨_, rfl⟩
    have C9 : Hid (Chg (bq + 1) w8 w9) := by rw [← E9]; exact (Chg.refl _ _).setCell _ _
    have HQ9 : Hid (Wide w9 bq (!(sx == sy)) (vx / vy)) := HQ8.out.chg C9.out (by omega)
    have HX9 : Hid (Wide w9 bx sx vx) := HX8.out.chg C9.out (by have := L5.out; have := L6.out; omega)
    have HY9 : Hid (Wide w9 by_ sy vy) := HY8.out.chg C9.out (by have := L6.out; omega)
    have HR9 : Hid (Wide w9 (bq + 1) sx (vx % vy)) := by rw [← E9]; exact HR8.out.setS _
    have x2 : w9.drew.cell? ⟨bx, 0, none⟩ = some (.bool sx) := HX9.out.m.c0
    have y2 : w9.drew.cell? ⟨by_, 0, none⟩ = some (.bool sy) := HY9.out.m.c0
    have B9 : Hid (Below w.heap.size w w9) := B7.out.trans ((C8.out.1.mono (by have := LW.out; have := L5.out; have := L6.out; omega)).trans (C9.out.1.mono (by have := LW.out; have := L5.out; have := L6.out; omega)))
    have LQ9 : Hid (bq + 1 < w9.heap.size) := by unfold Hid; rw [C9.out.2.1, C8.out.2.1]; exact LQ.out
    have hnq : Hid (nw (vx / vy) ≤ 114) := Nat.le_trans (nw_mono (Nat.div_le_self _ _)) nm.out
    have hnr : Hid (nw (vx % vy) ≤ 114) := Nat.le_trans (nw_mono (Nat.mod_le _ _)) nm.out
    have L5' := Lib.hid L5.out
    clear hb7 hq7 hr7 hs7 hvx hvy hsx hsy em en
    go_wp2_with fail
    clear hbx hby hbq
    refine regionL [0, 1, 2, 3, 4, 5, 6, 7, 8, 9, 10, 11, 12, 13, 14, 15, 16] (fun w' => w'.cell? ⟨bx, 0, none⟩ = some (.bool sx) ∧ w'.cell? ⟨by_, 0, none⟩ = some (.bool sy)) (by kernel_rfl) (⟨x0, y0⟩) (fun Qn hPQ hQn hS0 => ?_)
    iterate 17 (refine takeL (v := ?_) rfl rfl (by kernel_rfl) (by kernel_rfl) (by kernel_rfl) hPQ hS0 (by kernel_rfl) ?_ ?_; rotate_left; (focus (intro w hSw; (try dsimp only at hSw); obtain ⟨k0, k1⟩ := hSw; go_simp; (try with_reducible rfl))); (try simp only [Act.put, List.setIfInBounds_toArray, List.set_cons_zero, List.set_cons_succ]))
    refine ofL (wpAnyH_ready (rs := [17]) (by kernel_rfl) (by simp) ?_)
    refine AllReadyH.cons (o := _) rfl (fun K hK => ?_) AllReadyH.nil
    go_simp
    (try rw [E8])
    refine hK.out _ _ (⟨x1, y1⟩) (fun hS1 => toL [18, 19] ?_)
    clear hK K hS0
    (try simp only [Act.put, List.setIfInBounds_toArray, List.set_cons_zero, List.set_cons_succ])
    iterate 2 (refine takeL (v := ?_) rfl rfl (by kernel_rfl) (by kernel_rfl) (by kernel_rfl) hPQ hS1 (by kernel_rfl) ?_ ?_; rotate_left; (focus (intro w hSw; (try dsimp only at hSw); obtain ⟨k0, k1⟩ := hSw; go_simp; (try with_reducible rfl))); (try simp only [Act.put, List.setIfInBounds_toArray, List.set_cons_zero, List.set_cons_succ]))
    refine ofL (wpAnyH_ready (rs := [20]) (by kernel_rfl) (by simp) ?_)
    refine AllReadyH.cons (o := _) rfl (fun K hK => ?_) AllReadyH.nil
    go_simp
    (try rw [E9])
    refine hK.out _ _ (⟨x2, y2⟩) (fun hS2 => toL [] ?_)
    clear hK K hS1
    (try simp only [Act.put, List.setIfInBounds_toArray, List.set_cons_zero, List.set_cons_succ])
    refine ofL (wpAnyH_done (by kernel_rfl) (hQn.out _ _ ?_) _)
    clear hS2 hPQ hQn Qn
    obtain ⟨v9, hv9⟩ : ∃ z, w9.drew = z := ⟨_, rfl⟩
    rw [hv9]
    have HQ := Lib.hid (show Wide v9 bq (!(sx == sy)) (vx / vy) by rw [← hv9]; exact HQ9.out)
    have HRr := Lib.hid (show Wide v9 (bq + 1) sx (vx % vy) by rw [← hv9]; exact HR9.out)
    have HX := Lib.hid (show Wide v9 bx sx vx by rw [← hv9]; exact HX9.out)
    have HY := Lib.hid (show Wide v9 by_ sy vy by rw [← hv9]; exact HY9.out)
    have BV := Lib.hid (show Below w.heap.size w v9 by rw [← hv9]; exact B9.out.drew)
    have LV := Lib.hid (show bq + 1 < v9.heap.size by rw [← hv9]; exact LQ9.out)
    have HQd : Hid (Wide v9.drew bq (!(sx == sy)) (vx / vy)) := HQ.out
    have xx : v9.drew.cell? ⟨bx, 0, none⟩ = some (.bool sx) := HX.out.m.c0
    have yy : v9.drew.cell? ⟨by_, 0, none⟩ = some (.bool sy) := HY.out.m.c0
    have BVd : Hid (Below w.heap.size w v9.drew) := BV.out.drew
    have HEv : Hid (Env v9.drew) := HE.out.below BVd.out
    clear x0 y0 q0 x1 y1 r1 x2 y2 E8 E9 hv9
    by_cases hrz : vx % vy = 0
    · skip
      have rr : v9.drew.cell? ⟨bq + 1, 1, none⟩ = some (.int .i64 0) := by have := HRr.out.m.c1; rw [hrz, nw_zero] at this; exact this
      have hfin : Hid (sV (!(sx == sy)) (vx / vy) = m.fdiv n ∧ sV sx (vx % vy) = m.fmod n) := by
        cases e : (sx == sy) with
        | true => have h := PB.out.1 e; refine ⟨?_, h.2.symm⟩; rw [h.1]; rfl
        | false => have h := PB.out.2.1 e hrz; refine ⟨?_, ?_⟩
                   · rw [h.1]; rfl
                   · rw [h.2, hrz]; unfold sV; split <;> rfl
      clear hrz
      go_wp2_with fail
      refine regionL [0, 1, 2, 3, 4, 5, 6, 7, 8, 9, 10, 11, 12, 13, 14, 15] (fun w' => (w'.cell? ⟨bx, 0, none⟩ = some (.bool sx) ∧ w'.cell? ⟨by_, 0, none⟩ = some (.bool sy)) ∧ w'.cell? ⟨bq + 1, 1, none⟩ = some (.int .i64 0)) (by kernel_rfl) (⟨⟨xx, yy⟩, rr⟩) (fun Qn hPQ hQn hS0 => ?_)
      iterate 6 (refine takeL (v := ?_) rfl rfl (by kernel_rfl) (by kernel_rfl) (by kernel_rfl) hPQ hS0 (by kernel_rfl) ?_ ?_; rotate_left; (focus (intro w hSw; (try dsimp only at hSw); obtain ⟨⟨k0, k1⟩, k2⟩ := hSw; go_simp; (try with_reducible rfl))); (try simp only [Act.put, List.setIfInBounds_toArray, List.set_cons_zero, List.set_cons_succ]))
      iterate 9 ((first | refine skipL rfl rfl (by kernel_rfl) (by kernel_rfl) (by kernel_rfl) hPQ hS0 (by kernel_rfl) ?_ | refine skipN rfl rfl (by kernel_rfl) (by kernel_rfl) (by kernel_rfl) hPQ hS0 (by kernel_rfl) ?_); (try simp only [Act.put, List.setIfInBounds_toArray, List.set_cons_zero, List.set_cons_succ]))
      iterate 1 (refine takeL (v := ?_) rfl rfl (by kernel_rfl) (by kernel_rfl) (by kernel_rfl) hPQ hS0 (by kernel_rfl) ?_ ?_; rotate_left; (focus (intro w hSw; (try dsimp only at hSw); obtain ⟨⟨k0, k1⟩, k2⟩ := hSw; go_simp; (try with_reducible rfl))); (try simp only [Act.put, List.setIfInBounds_toArray, List.set_cons_zero, List.set_cons_succ]))
      refine ofL (wpAnyH_done (by kernel_rfl) (hQn.out _ _ ?_) _)
      clear hS0 hPQ hQn Qn
      go_wp2_with fail
      with_reducible refine text_any bq (vx / vy) (!(sx == sy)) _ _ HQd.out (by have := hnq.out; omega) HEv.out fun tq w12 hb12 htq => ?_
      have TQ : Hid (Txt tq (m.fdiv n)) := by rw [← hfin.out.1]; exact htq
      have B12 : Hid (Below w.heap.size w w12) := BVd.out.trans (hb12.mono BVd.out.size)
      have HR12 : Hid (Wide w12 (bq + 1) sx (vx % vy)) := Wide.below (w := v9.drew) HRr.out hb12
      have HE12 := Lib.hid (HE.out.below B12.out)
      clear hb12 htq
      go_wp2_with fail
      with_reducible refine text_any (bq + 1) (vx % vy) sx _ _ HR12.out (by have := hnr.out; omega) HE12.out fun tr w13 hb13 htr => ?_
      have TR : Hid (Txt tr (m.fmod n)) := by rw [← hfin.out.2]; exact htr
      have B13 : Hid (Below w.heap.size w w13) := B12.out.trans (hb13.mono B12.out.size)
      clear hb13 htr
      go_wp2_with fail
      go_ret3
      exact HR.out _ _ _ B13.out TQ.out TR.out
    · obtain ⟨nr, hnr0⟩ : ∃ z, nw (vx % vy) = z := ⟨_, rfl⟩
      have hnrp : 0 < nr := by rw [← hnr0]; have := mt (nw_eq_zero (v := vx % vy)).1 hrz; omega
      have rr : v9.drew.cell? ⟨bq + 1, 1, none⟩ = some (.int .i64 (nr : Int)) := by have := HRr.out.m.c1; rw [hnr0] at this; exact this
      have KP : ((0 : Int) < (nr : Int)) = True := eq_true (by omega)
      cases e : (sx == sy) with
      | true =>
        have hfin : Hid (sV (!(sx == sy)) (vx / vy) = m.fdiv n ∧ sV sx (vx % vy) = m.fmod n) := by
          have h := PB.out.1 e; refine ⟨?_, h.2.symm⟩; rw [h.1, e]; rfl
        have HSQ : Hid (Wide v9.drew bq false (vx / vy)) := by have := HQ.out; rw [e] at this; exact this
        have hfin2 : Hid (sV false (vx / vy) = m.fdiv n) := by have := hfin.out.1; rw [e] at this; exact this
        clear hnr0 hrz
        go_wp2_with fail
        refine regionL [0, 1, 2, 3, 4, 5, 6, 7, 8, 9, 10, 11, 12, 13, 14, 15] (fun w' => (w'.cell? ⟨bx, 0, none⟩ = some (.bool sx) ∧ w'.cell? ⟨by_, 0, none⟩ = some (.bool sy)) ∧ w'.cell? ⟨bq + 1, 1, none⟩ = some (.int .i64 (nr : Int))) (by kernel_rfl) (⟨⟨xx, yy⟩, rr⟩) (fun Qn hPQ hQn hS0 => ?_)
        iterate 16 (refine takeL (v := ?_) rfl rfl (by kernel_rfl) (by kernel_rfl) (by kernel_rfl) hPQ hS0 (by kernel_rfl) ?_ ?_; rotate_left; (focus (intro w hSw; (try dsimp only at hSw); obtain ⟨⟨k0, k1⟩, k2⟩ := hSw; go_simp; (try with_reducible rfl))); (try simp only [Act.put, List.setIfInBounds_toArray, List.set_cons_zero, List.set_cons_succ]))
        refine ofL (wpAnyH_done (by kernel_rfl) (hQn.out _ _ ?_) _)
        clear hS0 hPQ hQn Qn
        go_wp2_with fail
        with_reducible refine text_any bq (vx / vy) false _ _ HSQ.out (by have := hnq.out; omega) HEv.out fun tq w12 hb12 htq => ?_
        have TQ : Hid (Txt tq (m.fdiv n)) := by rw [← hfin2.out]; exact htq
        have B12 : Hid (Below w.heap.size w w12) := BVd.out.trans (hb12.mono BVd.out.size)
        have HR12 : Hid (Wide w12 (bq + 1) sx (vx % vy)) := Wide.below (w := v9.drew) HRr.out hb12
        have HE12 := Lib.hid (HE.out.below B12.out)
        clear hb12 htq
        go_wp2_with fail
        with_reducible refine text_any (bq + 1) (vx % vy) sx _ _ HR12.out (by have := hnr.out; omega) HE12.out fun tr w13 hb13 htr => ?_
        have TR : Hid (Txt tr (m.fmod n)) := by rw [← hfin.out.2]; exact htr
        have B13 : Hid (Below w.heap.size w w13) := B12.out.trans (hb13.mono B12.out.size)
        clear hb13 htr
        go_wp2_with fail
        go_ret3
        exact HR.out _ _ _ B13.out TQ.out TR.out
      | false =>
        have h := PB.out.2.2 e hrz
        have hfq : Hid (sV (plS true true (vx / vy) 1).1 (plS true true (vx / vy) 1).2 = m.fdiv n) := by unfold Hid; rw [plS_val, h.1]; simp [sV]; omega
        have hfr : Hid (sV (plS sx sy (vx % vy) vy).1 (plS sx sy (vx % vy) vy).2 = m.fmod n) := by unfold Hid; rw [plS_val, h.2, EN.out]
        have HQ10 : Hid (Wide v9.drew bq true (vx / vy)) := by have := HQ.out; rw [e] at this; exact this
        obtain ⟨w10, E10, HB10, s10, X10⟩ := box_ex v9.drew ((Tryz.zeroCells184.setIfInBounds 0 (.bool true)).setIfInBounds 1 (.int .i64 1)) 184
        obtain ⟨bo, hbo⟩ : ∃ z, v9.heap.size = z := ⟨_, rfl⟩
        have X10' : Hid (w10.heap[bo]? = some (.cells ((Tryz.zeroCells184.setIfInBounds 0 (.bool true)).setIfInBounds 1 (.int .i64 1)) 184 (0, 0))) := by rw [← hbo]; exact X10.out
        have o2 : w10.cell? ⟨bo, 2, none⟩ = some (.int .i64 0) := cell_at X10'.out (by kernel_rfl)
        have fo2 := frozen_at X10'.out 2
        obtain ⟨w11, E11⟩ : ∃ z, w10.setCell ⟨bo, 2, none⟩ (.int .i64 1) = z := ⟨_, rfl⟩
        have HO11 : Hid (Wide w11 bo true 1) := by unfold Hid Wide; rw [← E11, ← one_cells]; exact heap_setCell_same w10 bo 2 _ _ _ X10'.out
        have C11 : Hid (Chg bo w10 w11) := by rw [← E11]; exact (Chg.refl _ _).setCell _ _
        have LB : Hid (bq + 1 < bo) := by rw [← hbo]; exact LV.out
        have HQ11 : Hid (Wide w11 bq true (vx / vy)) := (HQ10.out.below HB10.out).chg C11.out (by have := LB.out; omega)
        have HR11 : Hid (Wide w11 (bq + 1) sx (vx % vy)) := ((show Wide v9.drew (bq + 1) sx (vx % vy) from HRr.out).below HB10.out).chg C11.out (by have := LB.out; omega)
        have HY11 : Hid (Wide w11 by_ sy vy) := ((show Wide v9.drew by_ sy vy from HY.out).below HB10.out).chg C11.out (by have := LB.out; have := L6.out; omega)
        have B11 : Hid (Below w.heap.size w w11) := BVd.out.trans ((HB10.out.mono BVd.out.size).trans (C11.out.1.mono (by have := LB.out; have := LW.out; have := L5.out; have := L6.out; omega)))
        have q11 := HQ11.out.m.c0
        have fq11 := HQ11.out.m.frozen 0
        obtain ⟨w12, E12⟩ : ∃ z, w11.setCell ⟨bq, 0, none⟩ (.bool true) = z := ⟨_, rfl⟩
        have C12 : Hid (Chg bq w11 w12) := by rw [← E12]; exact (Chg.refl _ _).setCell _ _
        have HQ12 : Hid (Wide w12 bq true (vx / vy)) := by rw [← E12]; exact HQ11.out.setS _
        have HO12 : Hid (Wide w12 bo true 1) := HO11.out.chg C12.out (by have := LB.out; omega)
        have HR12 : Hid (Wide w12 (bq + 1) sx (vx % vy)) := HR11.out.chg C12.out (by omega)
        have HY12 : Hid (Wide w12 by_ sy vy) := HY11.out.chg C12.out (by have := L6.out; omega)
        have LWq : Hid (w.heap.size ≤ bq) := by have := LW.out; have := L5.out; have := L6.out; unfold Hid; omega
        have B12' : Hid (Below w.heap.size w w12) := B11.out.trans (C12.out.1.mono LWq.out)
        clear hnr0 hrz h
        go_wp2_with fail
        refine regionL [0, 1, 2, 3, 4, 5, 6, 7, 8, 9, 10, 11, 12, 13, 14, 15] (fun w' => (w'.cell? ⟨bx, 0, none⟩ = some (.bool sx) ∧ w'.cell? ⟨by_, 0, none⟩ = some (.bool sy)) ∧ w'.cell? ⟨bq + 1, 1, none⟩ = some (.int .i64 (nr : Int))) (by kernel_rfl) (⟨⟨xx, yy⟩, rr⟩) (fun Qn hPQ hQn hS0 => ?_)
        iterate 16 (refine takeL (v := ?_) rfl rfl (by kernel_rfl) (by kernel_rfl) (by kernel_rfl) hPQ hS0 (by kernel_rfl) ?_ ?_; rotate_left; (focus (intro w hSw; (try dsimp only at hSw); obtain ⟨⟨k0, k1⟩, k2⟩ := hSw; go_simp; (try with_reducible rfl))); (try simp only [Act.put, List.setIfInBounds_toArray, List.set_cons_zero, List.set_cons_succ]))
        refine ofL (wpAnyH_done (by kernel_rfl) (hQn.out _ _ ?_) _)
        clear hS0 hPQ hQn Qn
        go_wp2_with (rw [E10])
        with_reducible refine plus_any bq bo (vx / vy) 1 true true _ _ HQ12.out HO12.out (by have := LB.out; omega) (by have := hnq.out; omega) one_nw fun w14 hm14 hw14 => ?_
        have HQ14 := Lib.hid hw14
        have HR14 : Hid (Wide w14 (bq + 1) sx (vx % vy)) := hm14.wide HR12.out (by omega)
        have HY14 : Hid (Wide w14 by_ sy vy) := hm14.wide HY12.out (by have := L6.out; omega)
        have B14 : Hid (Below w.heap.size w w14) := B12'.out.trans (hm14.1.mono LWq.out)
        clear hm14 hw14
        go_wp2_with fail
        with_reducible refine plus_any (bq + 1) by_ (vx % vy) vy sx sy _ _ HR14.out HY14.out (by have := L6.out; omega) (by have := hnr.out; omega) (by have := nn.out; omega) fun w15 hm15 hw15 => ?_
        have HQ15 : Hid (Wide w15 bq (plS true true (vx / vy) 1).1 (plS true true (vx / vy) 1).2) := hm15.wide HQ14.out (by omega)
        have HR15 := Lib.hid hw15
        have B15 : Hid (Below w.heap.size w w15) := B14.out.trans (hm15.1.mono (by have := LWq.out; omega))
        have HE15 := Lib.hid (HE.out.below B15.out)
        have hq5 : Hid (nw (plS true true (vx / vy) 1).2 ≤ 232) := Nat.le_trans (nw_mono (plS_le _ _ _ _)) (plus_le (by have := hnq.out; omega) one_nw)
        have hr5 : Hid (nw (plS sx sy (vx % vy) vy).2 ≤ 232) := Nat.le_trans (nw_mono (plS_le _ _ _ _)) (plus_le (by have := hnr.out; omega) (by have := nn.out; omega))
        clear hm15 hw15
        go_wp2_with fail
        with_reducible refine text_any bq (plS true true (vx / vy) 1).2 (plS true true (vx / vy) 1).1 _ _ HQ15.out hq5.out HE15.out fun tq w12 hb12 htq => ?_
        have TQ : Hid (Txt tq (m.fdiv n)) := by rw [← hfq.out]; exact htq
        have B12 : Hid (Below w.heap.size w w12) := B15.out.trans (hb12.mono B15.out.size)
        have HR12 : Hid (Wide w12 (bq + 1) (plS sx sy (vx % vy) vy).1 (plS sx sy (vx % vy) vy).2) := Wide.below (w := w15) HR15.out hb12
        have HE12 := Lib.hid (HE.out.below B12.out)
        clear hb12 htq
        go_wp2_with fail
        with_reducible refine text_any (bq + 1) (plS sx sy (vx % vy) vy).2 (plS sx sy (vx % vy) vy).1 _ _ HR12.out hr5.out HE12.out fun tr w13 hb13 htr => ?_
        have TR : Hid (Txt tr (m.fmod n)) := by rw [← hfr.out]; exact htr
        have B13 : Hid (Below w.heap.size w w13) := B12.out.trans (hb13.mono B12.out.size)
        clear hb13 htr
        go_wp2_with fail
        go_ret3
        exact HR.out _ _ _ B13.out TQ.out TR.out
end Go.Proofs.YtcmhompbdanpdaaGreatDoor
namespace Go.Proofs.YtcmhompbdanpdaaGreatDoor
open Go.RowKit

set_option maxHeartbeats 1000000 in
theorem wquo_any (a b : ByteArray) (m n : Int) (ha : Txt a m) (hb : Txt b n) (hm : lenI m ≤ 1024) (hn : lenI n ≤ 1024) (h0 : n ≠ 0) (hq : lenI (m.fdiv n) ≤ 1024) (w : World) (R : Ending → World → Prop) (hE : Env w)
   (hR : ∀ q w', Below w.heap.size w w' → Txt q (m.fdiv n) → R (.returned (.tuple #[.string q, .int .i64 0])) w') :
    Calls Tryz.prog 212 #[.string a, .string b] w R := by
  have HR := Lib.hid hR
  have HQ := Lib.hid hq
  clear hR hq
  go_enter Tryz.func212, Tryz.ntmps212
  go_wp2_with fail
  with_reducible refine parted_any a b m n ha hb hm hn h0 _ _ hE fun q r w2 hb2 hq2 hr2 => ?_
  have B2 := Lib.hid hb2
  have T2 := Lib.hid hq2
  clear hb2 hq2 hr2 ha hb hm hn h0 hE
  go_wp2_with fail
  with_reducible refine wcheckI_any q _ T2.out HQ.out _ _ fun w3 hb3 => ?_
  have B3 : Hid (Below w.heap.size w w3) := B2.out.trans (hb3.mono B2.out.size)
  clear hb3
  go_wp2_with fail
  exact HR.out _ _ B3.out T2.out
def cmpI (m n : Int) : Int := if m < n then -1 else if n < m then 1 else 0
theorem cmpB_eq : ∀ a b : List UInt8, Lib.compareBytes a b = if a < b then -1 else if b < a then 1 else 0
  | [], [] => by simp [Lib.compareBytes]
  | [], _ :: _ => by simp [Lib.compareBytes]
  | _ :: _, [] => by simp [Lib.compareBytes]
  | x :: xs, y :: bs => by
    unfold Lib.compareBytes
    rw [cmpB_eq xs bs]
    simp only [List.cons_lt_cons_iff]
    by_cases h1 : x < y
    · rw [if_pos h1, if_pos (.inl h1)]
    · by_cases h2 : y < x
      · have hne : ¬ x = y := fun e => by subst e; exact h1 h2
        rw [if_neg h1, if_pos h2, if_neg (fun h => h.elim h1 (fun h => hne h.1)), if_pos (.inl h2)]
      · have e : x = y := UInt8.le_antisymm (UInt8.not_lt.1 h2) (UInt8.not_lt.1 h1)
        subst e
        rw [if_neg h1, if_neg h1]
        simp
theorem cmpB_dv {a b : List UInt8} (ha : Dgs a) (hb : Dgs b) (hl : a.length = b.length) : Lib.compareBytes a b = cmpI (dv a) (dv b) := by
  unfold cmpI
  have h1 := lex_dv ha hb hl
  have h2 := lex_dv hb ha hl.symm
  rw [cmpB_eq]
  by_cases e1 : dv a < dv b
  · rw [if_pos (show (dv a : Int) < dv b by omega)]
    rw [if_pos (h1.2 e1)]
  · rw [if_neg (show ¬ (dv a : Int) < dv b by omega)]
    by_cases e2 : dv b < dv a
    · rw [if_pos (show (dv b : Int) < dv a by omega)]
      have h3 : ¬ a < b := fun h => e1 (h1.1 h)
      rw [if_neg h3, if_pos (h2.2 e2)]
    · rw [if_neg (show ¬ (dv b : Int) < dv a by omega)]
      rw [if_neg (fun h => e1 (h1.1 h)), if_neg (fun h => e2 (h2.1 h))]
set_option maxHeartbeats 1000000 in
theorem worder_any (a b : ByteArray) (u v : Nat) (ha : Tx a (Lib.decDigits u)) (hb : Tx b (Lib.decDigits v)) (_hu : (Lib.decDigits u).length ≤ 1024) (_hv : (Lib.decDigits v).length ≤ 1024) (w : World) (R : Ending → World → Prop) (hR : R (.returned (.int .i64 (cmpI u v))) w) :
    Calls Tryz.prog 174 #[.string a, .string b] w R := by
  have HR := Lib.hid hR
  have HA := Lib.hid ha
  have HB := Lib.hid hb
  have sa := ha.size
  have sb := hb.size
  have key : ∀ x y : Nat, (Lib.decDigits x).length < (Lib.decDigits y).length → x < y := fun x y h => by
    have := can_short (can_dec x) (can_dec y) h
    rwa [dv_dec, dv_dec] at this
  clear hR ha hb
  by_cases he : a.size = b.size
  · have K1 : ((a.size : Int) == (b.size : Int)) = true := by simp [he]
    have hc : Lib.compareBytes a.data.toList b.data.toList = cmpI u v := by
      rw [show a.data.toList = Lib.decDigits u from HA.out, show b.data.toList = Lib.decDigits v from HB.out, cmpB_dv (dgs_dec u) (dgs_dec v) (by omega), dv_dec, dv_dec]
    have HC := Lib.hid hc
    clear hc he sa sb
    go_enter Tryz.func174, Tryz.ntmps174
    go_wp2_with fail
    refine (Tryz.strings_Compare a b _).mono fun e w' h => ?_
    obtain ⟨rfl, rfl⟩ := h
    rw [HC.out]
    go_wp2_with fail
    exact ret_i HR.out rfl rfl
  · have K1 : ((a.size : Int) == (b.size : Int)) = false := by simp; omega
    by_cases hl : a.size < b.size
    · have K2 : ((a.size : Int) < (b.size : Int)) = True := eq_true (by omega)
      have hc : Hid (cmpI u v = -1) := by unfold Hid cmpI; rw [if_pos]; have := key u v (by omega); omega
      clear he hl sa sb
      go_enter Tryz.func174, Tryz.ntmps174
      go_wp2_with fail
      exact ret_i HR.out rfl hc.out
    · have K2 : ((a.size : Int) < (b.size : Int)) = False := eq_false (by omega)
      have hc : Hid (cmpI u v = 1) := by
        have := key v u (by omega)
        unfold Hid cmpI; rw [if_neg (by omega), if_pos (by omega)]
      clear he hl sa sb
      go_enter Tryz.func174, Tryz.ntmps174
      go_wp2_with fail
      exact ret_i HR.out rfl hc.out
theorem cmpI_bounds (m n : Int) : -1 ≤ cmpI m n ∧ cmpI m n ≤ 1 := by unfold cmpI; split; · omega
                                                                     split <;> omega
theorem cmp_sign {m n : Int} : (m.sign < n.sign → cmpI m n = -1) ∧ (n.sign < m.sign → cmpI m n = 1) ∧ (m.sign = n.sign → m.sign * cmpI m.natAbs n.natAbs = cmpI m n) := by
  have hm : m.sign = if m < 0 then -1 else if m = 0 then 0 else 1 := by
    rcases Int.lt_trichotomy m 0 with h | h | h
    · rw [if_pos h, Int.sign_eq_neg_one_of_neg h]
    · subst h; rfl
    · rw [if_neg (by omega), if_neg (by omega), Int.sign_eq_one_of_pos h]
  have hn : n.sign = if n < 0 then -1 else if n = 0 then 0 else 1 := by
    rcases Int.lt_trichotomy n 0 with h | h | h
    · rw [if_pos h, Int.sign_eq_neg_one_of_neg h]
    · subst h; rfl
    · rw [if_neg (by omega), if_neg (by omega), Int.sign_eq_one_of_pos h]
  rw [hm, hn]
  unfold cmpI
  refine ⟨fun h => ?_, fun h => ?_, fun h => ?_⟩
  · rw [if_pos]; split at h <;> split at h <;> (try split at h) <;> (try split at h) <;> omega
  · rw [if_neg, if_pos] <;> split at h <;> split at h <;> (try split at h) <;> (try split at h) <;> omega
  · by_cases h1 : m < 0
    · rw [if_pos h1] at h ⊢
      have h2 : n < 0 := by split at h; · assumption
                            split at h <;> omega
      by_cases e1 : m < n
      · rw [if_neg (by omega), if_pos (by omega), if_pos e1]; rfl
      · by_cases e2 : n < m
        · rw [if_pos (by omega), if_neg e1, if_pos e2]; rfl
        · rw [if_neg (by omega), if_neg (by omega), if_neg e1, if_neg e2]; rfl
    · rw [if_neg h1] at h ⊢
      by_cases h0 : m = 0
      · rw [if_pos h0] at h ⊢
        have h2 : n = 0 := by split at h; · omega
                              split at h <;> omega
        rw [Int.zero_mul, if_neg (by omega), if_neg (by omega)]
      · rw [if_neg h0] at h ⊢
        have h2 : 0 < n := by split at h; · omega
                              split at h <;> omega
        rw [Int.one_mul]
        by_cases e1 : m < n
        · rw [if_pos (by omega), if_pos e1]
        · by_cases e2 : n < m
          · rw [if_neg (by omega), if_pos (by omega), if_neg e1, if_pos e2]
          · rw [if_neg (by omega), if_neg (by omega), if_neg e1, if_neg e2]
theorem sign_bounds (m : Int) : -1 ≤ m.sign ∧ m.sign ≤ 1 := by
  rcases Int.lt_trichotomy m 0 with h | h | h
  · rw [Int.sign_eq_neg_one_of_neg h]; omega
  · subst h; decide
  · rw [Int.sign_eq_one_of_pos h]; omega
set_option maxHeartbeats 2000000 in
theorem wcompare_any (a b : ByteArray) (m n : Int) (ha : Txt a m) (hb : Txt b n) (hm : lenI m ≤ 1024) (hn : lenI n ≤ 1024) (w : World) (R : Ending → World → Prop) (hR : ∀ w', Below w.heap.size w w' → R (.returned (.tuple #[.int .i64 (cmpI m n), .int .i64 0])) w') :
    Calls Tryz.prog 114 #[.string a, .string b] w R := by
  have HR := Lib.hid hR
  have HA := Lib.hid ha
  have HB := Lib.hid hb
  have HA' : Hid (Tx a (Lib.itoa m)) := ha
  have HB' : Hid (Tx b (Lib.itoa n)) := hb
  have HM := Lib.hid hm
  have HN := Lib.hid hn
  have HM' : Hid ((Lib.decDigits m.natAbs).length ≤ 1024) := hm
  have HN' : Hid ((Lib.decDigits n.natAbs).length ≤ 1024) := hn
  have hmi : Tx ⟨#[45]⟩ [45] := rfl
  have hcs := cmp_sign (m := m) (n := n)
  have HCS := Lib.hid hcs
  have s1 : -1 ≤ m.sign ∧ m.sign ≤ 1 := sign_bounds m
  have bm := body_itoa m
  have bn := body_itoa n
  obtain ⟨sm, hsm⟩ : ∃ z, m.sign = z := ⟨_, rfl⟩
  obtain ⟨sn, hsn⟩ : ∃ z, n.sign = z := ⟨_, rfl⟩
  rw [hsm, hsn] at HCS
  rw [hsm] at s1
  have HSM := Lib.hid hsm
  have HSN := Lib.hid hsn
  have BM := Lib.hid bm
  have BN := Lib.hid bn
  obtain ⟨w1, E1, HB1, z1, X1⟩ := box_ex w #[.string a, .string b] 61
  have cb := cmpI_bounds m.natAbs n.natAbs
  obtain ⟨c, hc⟩ : ∃ z, cmpI m.natAbs n.natAbs = z := ⟨_, rfl⟩
  rw [hc] at cb HCS
  have HC := Lib.hid hc
  clear hR ha hb hm hn hcs hsm hsn bm bn z1 hc
  go_enter Tryz.func114, Tryz.ntmps114
  go_wp2_with (rw [E1])
  with_reducible refine wall_any _ a b m n HA.out HB.out HM.out HN.out _ _ X1.out fun w2 hb2 => ?_
  have B2 : Hid (Below w.heap.size w w2) := HB1.out.trans (hb2.mono HB1.out.size)
  clear hb2
  go_wp2_with fail
  with_reducible refine wsign_any a m HA.out _ _ ?_
  rw [HSM.out]
  go_wp2_with fail
  with_reducible refine wsign_any b n HB.out _ _ ?_
  rw [HSN.out]
  rcases Int.lt_trichotomy sm sn with h | h | h
  · have K : (sm < sn) = True := eq_true h
    have e : Hid (cmpI m n = -1) := HCS.out.1 h
    clear h
    go_wp2_with fail
    have := HR.out _ B2.out
    rw [e.out] at this
    exact this
  · subst h
    have e : Hid (sm * c = cmpI m n) := HCS.out.2.2 rfl
    have K : (sm < sm) = False := eq_false (Int.lt_irrefl _)
    obtain ⟨p, hp⟩ : ∃ p, sm * c = p := ⟨_, rfl⟩
    have hpb : -1 ≤ p ∧ p ≤ 1 := by
      have h3 : sm = -1 ∨ sm = 0 ∨ sm = 1 := by omega
      rw [← hp]
      rcases h3 with rfl | rfl | rfl <;> omega
    have EP : Hid (cmpI m n = p) := by unfold Hid; rw [← e.out]; exact hp
    go_wp2_with fail
    with_reducible refine wsign_any b n HB.out _ _ ?_
    rw [HSN.out]
    go_wp2_with fail
    with_reducible refine trimP_any a ⟨#[45]⟩ _ HA'.out hmi _ _ fun r hr => ?_
    rw [BM.out] at hr
    have T1 := Lib.hid hr
    clear hr
    go_wp2_with fail
    with_reducible refine trimP_any b ⟨#[45]⟩ _ HB'.out hmi _ _ fun r2 hr2 => ?_
    rw [BN.out] at hr2
    have T2 := Lib.hid hr2
    clear hr2
    go_wp2_with fail
    with_reducible refine worder_any r r2 m.natAbs n.natAbs T1.out T2.out HM'.out HN'.out _ _ ?_
    rw [HC.out]
    go_wp2_with fail
    have := HR.out _ B2.out
    rw [EP.out] at this
    exact this
  · have K : (sm < sn) = False := eq_false (by omega)
    have K2 : (sn < sm) = True := eq_true h
    have e : Hid (cmpI m n = 1) := HCS.out.2.1 h
    clear h
    go_wp2_with fail
    with_reducible refine wsign_any b n HB.out _ _ ?_
    rw [HSN.out]
    go_wp2_with fail
    have := HR.out _ B2.out
    rw [e.out] at this
    exact this
end Go.Proofs.YtcmhompbdanpdaaGreatDoor
namespace Go.Proofs.YtcmhompbdanpdaaGreatDoor
open Go.RowKit

theorem vwd_wd (v : Nat) : ∀ n, vwd (wd v) n = v % bB ^ n := by
  intro n
  induction n with
  | zero => rw [Nat.pow_zero, Nat.mod_one]; rfl
  | succ n ih => rw [mod_succ, ← ih]; rfl
/-- The number that a block holds. -/
def vOf (b : Nat) (w : World) : Nat := match w.heap[b]? with
  | some (.cells cs _ _) => vwd (fun i => (intOf (cs.getD (2 + i) undef)).toNat) 232
  | _ => 0
theorem vwd_congr {f g : Nat → Nat} : ∀ n, (∀ i, i < n → f i = g i) → vwd f n = vwd g n := by
  intro n
  induction n with
  | zero => intro _; rfl
  | succ n ih => intro h; unfold vwd; rw [ih (fun i hi => h i (by omega)), h n (by omega)]
theorem vOf_eq {w : World} {b v : Nat} {s : Bool} (h : Wide w b s v) (hn : nw v ≤ 232) : vOf b w = v := by
  unfold vOf
  unfold Wide at h
  rw [h]
  show vwd (fun i => (intOf ((wdC s v).getD (2 + i) undef)).toNat) 232 = v
  rw [vwd_congr (g := wd v) 232 (fun i hi => ?_), vwd_wd, Nat.mod_eq_of_lt ((nw_le _ _).1 hn)]
  have e : (wdC s v).getD (2 + i) undef = .int .i64 (wd v i) := by
    rw [Array.getD_eq_getD_getElem?]
    unfold wdC
    rw [wdM_w _ _ _ hi]; rfl
  rw [e]; simp [intOf]
def blkOf : Value → Nat
  | .pointer (some a) => a.block
  | _ => 0
theorem word_small {v : Nat} (h : nw v ≤ 1) : wd v 0 = v := by
  rw [wd_zero]
  have := (nw_le 1 v).1 h
  rw [Nat.pow_one] at this
  exact Nat.mod_eq_of_lt this
set_option maxRecDepth 100000 in
set_option maxHeartbeats 8000000 in
theorem wgcd_any (a b : ByteArray) (m n : Int) (ha : Txt a m) (hb : Txt b n) (hm : lenI m ≤ 1024) (hn : lenI n ≤ 1024) (w : World) (R : Ending → World → Prop) (hE : Env w)
   (hR : ∀ r w', Below w.heap.size w w' → Txt r (Nat.gcd m.natAbs n.natAbs : Nat) → R (.returned (.tuple #[.string r, .int .i64 0])) w') :
    Calls Tryz.prog 202 #[.string a, .string b] w R := by
  have HR := Lib.hid hR
  have HA := Lib.hid ha
  have HB := Lib.hid hb
  have HM := Lib.hid hm
  have HN := Lib.hid hn
  have HE := Lib.hid hE
  have nm : Hid (nw m.natAbs ≤ 114) := nw_len (by omega) (by omega)
  have nn : Hid (nw n.natAbs ≤ 114) := nw_len (by omega) (by omega)
  obtain ⟨w1, E1, HB1, z1, X1⟩ := box_ex w #[.string a, .string b] 61
  clear hR ha hb hm hn hE z1
  go_enter Tryz.func202, Tryz.ntmps202
  go_wp2_with (rw [E1])
  with_reducible refine wall_any _ a b m n HA.out HB.out HM.out HN.out _ _ X1.out fun w2 hb2 => ?_
  have B2 : Hid (Below w.heap.size w w2) := HB1.out.trans (hb2.mono HB1.out.size)
  clear hb2
  go_wp2_with fail
  with_reducible refine read_any a m HA.out (by have := HM.out; omega) _ _ fun w5 hb5 hw5 hs5 => ?_
  have B5 : Hid (Below w.heap.size w w5) := B2.out.trans (hb5.mono B2.out.size)
  have HX5 := Lib.hid hw5
  have L5 := Lib.hid hs5
  have LW : Hid (w.heap.size ≤ w2.heap.size) := B2.out.size
  clear hb5 hw5 hs5
  go_wp2_with fail
  with_reducible refine read_any b n HB.out (by have := HN.out; omega) _ _ fun w6 hb6 hw6 hs6 => ?_
  have B6 : Hid (Below w.heap.size w w6) := B5.out.trans (hb6.mono B5.out.size)
  have HX6 := Lib.hid (HX5.out.below hb6)
  have HY6 := Lib.hid hw6
  clear hb6 hw6 hs6
  go_wp2_with fail
  obtain ⟨G, hG⟩ : ∃ G, Nat.gcd m.natAbs n.natAbs = G := ⟨_, rfl⟩
  rw [hG] at HR
  have HG := Lib.hid hG
  clear hG
  go_loopw [7, 8] (fun p q wr => ∃ (bx by_ vx vy : Nat) (sx sy : Bool), p = .pointer (some ⟨bx, 0, none⟩) ∧ q = .pointer (some ⟨by_, 0, none⟩) ∧ Hid (Below w.heap.size w wr) ∧ Hid (Wide wr bx sx vx) ∧ Hid (Wide wr by_ sy vy) ∧ Hid (w.heap.size ≤ bx) ∧ Hid (w.heap.size ≤ by_) ∧ Hid (Nat.gcd vx vy = G) ∧ Hid (nw vx ≤ 114) ∧ Hid (nw vy ≤ 114)) (fun _ q wr => vOf (blkOf q) wr)
  case atStart => exact ⟨_, _, m.natAbs, n.natAbs, _, _, rfl, rfl, B6, HX6, HY6, LW, B5.out.size, HG, nm, nn⟩
  case round =>
    obtain ⟨bx, by_, vx, vy, sx, sy, rfl, rfl, HBr, HX, HY, LB, LBy, HGr, NX, NY⟩ := hrel
    have hvo : vOf (blkOf (.pointer (some ⟨by_, 0, none⟩))) wr = vy := vOf_eq HY.out (by have := NY.out; omega)
    have HVO := Lib.hid hvo
    have x1 := HX.out.m.c1
    have y1 := HY.out.m.c1
    obtain ⟨nx, hnx⟩ : ∃ z, nw vx = z := ⟨_, rfl⟩
    obtain ⟨ny, hny⟩ : ∃ z, nw vy = z := ⟨_, rfl⟩
    rw [hnx] at x1
    rw [hny] at y1
    have HNX := Lib.hid hnx
    have HNY := Lib.hid hny
    clear hvo hnx hny
    by_cases h0 : 0 < ny
    · have hvy0 : Hid (vy ≠ 0) := by
        have h := HNY.out
        unfold Hid
        intro e
        subst e
        rw [nw_zero] at h; omega
      have K0 : ((0 : Int) < (ny : Int)) = True := eq_true (by omega)
      by_cases h1 : nx ≤ 1 ∧ ny ≤ 1
      · have K1 : ((nx : Int) ≤ 1) = True := eq_true (by omega)
        have K2 : ((ny : Int) ≤ 1) = True := eq_true (by omega)
        have x2 : wr.drew.cell? ⟨bx, 2, none⟩ = some (.int .i64 (vx : Int)) := by have := HX.out.m.cw (i := 0) (by decide); rw [word_small (by rw [HNX.out]; exact h1.1)] at this; exact this
        have y2 : wr.drew.cell? ⟨by_, 2, none⟩ = some (.int .i64 (vy : Int)) := by have := HY.out.m.cw (i := 0) (by decide); rw [word_small (by rw [HNY.out]; exact h1.2)] at this; exact this
        have bvx : Hid (vx < 1000000000) := by have := (nw_le 1 vx).1 (by rw [HNX.out]; exact h1.1); rw [Nat.pow_one] at this; exact this
        have bvy : Hid (vy < 1000000000) := by have := (nw_le 1 vy).1 (by rw [HNY.out]; exact h1.2); rw [Nat.pow_one] at this; exact this
        have Bd : Hid (Below w.heap.size w wr.drew) := HBr.out.drew
        clear h1
        go_wp2_with fail
        refine regionL [0, 1, 2, 3, 4, 5, 6, 7, 8, 9, 10, 11] (fun w' => w'.cell? ⟨bx, 2, none⟩ = some (.int .i64 (vx : Int)) ∧ w'.cell? ⟨by_, 2, none⟩ = some (.int .i64 (vy : Int))) (by kernel_rfl) (⟨x2, y2⟩) (fun Qn hPQ hQn hS0 => ?_)
        iterate 12 (refine takeL (v := ?_) rfl rfl (by kernel_rfl) (by kernel_rfl) (by kernel_rfl) hPQ hS0 (by kernel_rfl) ?_ ?_; rotate_left; (focus (intro w hSw; (try dsimp only at hSw); obtain ⟨k0, k1⟩ := hSw; go_simp; (try with_reducible rfl))); (try simp only [Act.put, List.setIfInBounds_toArray, List.set_cons_zero, List.set_cons_succ]))
        refine ofL (wpAnyH_done (by kernel_rfl) (hQn.out _ _ ?_) _)
        clear hS0 hPQ hQn Qn
        go_wp2_with fail
        obtain ⟨wd0, hwd0⟩ : ∃ z, wr.drew = z := ⟨_, rfl⟩
        rw [hwd0] at Bd ⊢
        go_loopw [9, 10] (fun p q wq => ∃ x y : Nat, p = .int .i64 x ∧ q = .int .i64 y ∧ Hid (Nat.gcd x y = G) ∧ x < 1000000000 ∧ y < 1000000000 ∧ Hid (Below w.heap.size w wq)) (fun _ q _ => (intOf q).toNat)
        case atStart => exact ⟨vx, vy, rfl, rfl, HGr, bvx.out, bvy.out, Bd⟩
        case round =>
          obtain ⟨x, y, rfl, rfl, hg, hx, hy, HBq⟩ := hrel
          by_cases hy0 : y = 0
          · subst hy0
            have hgx : Hid (x = G) := by have := hg.out; rw [Nat.gcd_zero_right] at this; exact this
            have HEq := Lib.hid (HE.out.below HBq.out)
            go_wp2_with fail
            with_reducible refine wof_any _ _ _ (by omega) (by omega) HEq.out fun r w7 hb7 hr7 => ?_
            rw [hgx.out] at hr7
            have B7 : Hid (Below w.heap.size w w7) := HBq.out.trans (hb7.mono HBq.out.size)
            have T7 := Lib.hid hr7
            clear hb7 hr7
            go_wp2_with fail
            exact HR.out _ _ B7.out T7.out
          · have KY : ((y : Int) == 0) = false := by simpa using hy0
            have KY2 : ((y : Int) = 0) = False := eq_false (by omega)
            obtain ⟨z, hz⟩ : ∃ z, x % y = z := ⟨_, rfl⟩
            have hzy : z < y := by rw [← hz]; exact Nat.mod_lt _ (by omega)
            have KM : ((x : Int) % (y : Int)) = (z : Int) := by rw [← hz]; rfl
            have KM2 : (x : Int).tmod (y : Int) = (z : Int) := by rw [Int.tmod_eq_emod_of_nonneg (by omega)]; exact KM
            have hg2 : Hid (Nat.gcd y z = G) := by unfold Hid; rw [← hz, ← hg.out, Nat.gcd_comm x y, Nat.gcd_rec y x, Nat.gcd_comm]
            have Bqd : Hid (Below w.heap.size w wr.drew) := HBq.out.drew
            clear hz
            go_wp2_with fail
            refine regionL [0, 1, 2, 3, 4, 5] (fun _ => True) (by kernel_rfl) (trivial) (fun Qn hPQ hQn hS0 => ?_)
            iterate 6 (refine takeL (v := ?_) rfl rfl (by kernel_rfl) (by kernel_rfl) (by kernel_rfl) hPQ hS0 (by kernel_rfl) ?_ ?_; rotate_left; (focus (intro w hSw; (try dsimp only at hSw); go_simp; (try with_reducible rfl))); (try simp only [Act.put, List.setIfInBounds_toArray, List.set_cons_zero, List.set_cons_succ]))
            refine ofL (wpAnyH_done (by kernel_rfl) (hQn.out _ _ ?_) _)
            clear hS0 hPQ hQn Qn
            go_wp2_with fail
            exact ⟨⟨y, z, rfl, rfl, hg2, hy, by omega, Bqd⟩, by simp [intOf]; omega⟩
      · by_cases hx1 : nx ≤ 1
        · have K1 : ((nx : Int) ≤ 1) = True := eq_true (by omega)
          have K2 : ((ny : Int) ≤ 1) = False := eq_false (by omega)
          clear h1
          go_wp2_with fail
          with_reducible refine divided_any bx by_ vx vy sx sy _ _ HX.out HY.out (by have := NX.out; omega) (by have := NY.out; omega) hvy0.out fun w7 hb7 hq7 hr7 hs7 => ?_
          have B7 : Hid (Below w.heap.size w w7) := HBr.out.trans (hb7.mono HBr.out.size)
          have HY7 := Lib.hid (HY.out.below hb7)
          have HR7 := Lib.hid hr7
          have LB7 : Hid (w.heap.size ≤ by_) := LBy.out
          have hlt := Nat.mod_lt vx (Nat.pos_of_ne_zero hvy0.out)
          have hg2 : Hid (Nat.gcd vy (vx % vy) = G) := by unfold Hid; rw [← HGr.out, Nat.gcd_comm vx vy, Nat.gcd_rec vy vx, Nat.gcd_comm]
          have NZ : Hid (nw (vx % vy) ≤ 114) := Nat.le_trans (nw_mono (Nat.mod_le _ _)) NX.out
          have hvo7 : vOf (blkOf (.pointer (some ⟨wr.heap.size + 1, 0, none⟩))) w7 = vx % vy := vOf_eq HR7.out (by have := NZ.out; omega)
          have HV7 := Lib.hid hvo7
          have HLT := Lib.hid hlt
          clear hb7 hq7 hr7 hs7 hlt hvo7
          go_wp2_with fail
          refine ⟨⟨by_, _, vy, vx % vy, _, _, rfl, rfl, B7, HY7, HR7, LB7, Nat.le_trans HBr.out.size (Nat.le_succ _), hg2, NY, NZ⟩, ?_⟩
          rw [HVO.out, HV7.out]; exact HLT.out
        · have K1 : ((nx : Int) ≤ 1) = False := eq_false (by omega)
          clear h1
          go_wp2_with fail
          with_reducible refine divided_any bx by_ vx vy sx sy _ _ HX.out HY.out (by have := NX.out; omega) (by have := NY.out; omega) hvy0.out fun w7 hb7 hq7 hr7 hs7 => ?_
          have B7 : Hid (Below w.heap.size w w7) := HBr.out.trans (hb7.mono HBr.out.size)
          have HY7 := Lib.hid (HY.out.below hb7)
          have HR7 := Lib.hid hr7
          have LB7 : Hid (w.heap.size ≤ by_) := LBy.out
          have hlt := Nat.mod_lt vx (Nat.pos_of_ne_zero hvy0.out)
          have hg2 : Hid (Nat.gcd vy (vx % vy) = G) := by unfold Hid; rw [← HGr.out, Nat.gcd_comm vx vy, Nat.gcd_rec vy vx, Nat.gcd_comm]
          have NZ : Hid (nw (vx % vy) ≤ 114) := Nat.le_trans (nw_mono (Nat.mod_le _ _)) NX.out
          have hvo7 : vOf (blkOf (.pointer (some ⟨wr.heap.size + 1, 0, none⟩))) w7 = vx % vy := vOf_eq HR7.out (by have := NZ.out; omega)
          have HV7 := Lib.hid hvo7
          have HLT := Lib.hid hlt
          clear hb7 hq7 hr7 hs7 hlt hvo7
          go_wp2_with fail
          refine ⟨⟨by_, _, vy, vx % vy, _, _, rfl, rfl, B7, HY7, HR7, LB7, Nat.le_trans HBr.out.size (Nat.le_succ _), hg2, NY, NZ⟩, ?_⟩
          rw [HVO.out, HV7.out]; exact HLT.out
    · have K0 : ((0 : Int) < (ny : Int)) = False := eq_false (by omega)
      have hvy0 : vy = 0 := nw_eq_zero.1 (by rw [HNY.out]; omega)
      have hgx : Hid (vx = G) := by have := HGr.out; rw [hvy0, Nat.gcd_zero_right] at this; exact this
      have x0 := HX.out.m.c0
      have fz := HX.out.m.frozen 0
      obtain ⟨w7, E7⟩ : ∃ z, wr.setCell ⟨bx, 0, none⟩ (.bool false) = z := ⟨_, rfl⟩
      have HX7 : Hid (Wide w7 bx false vx) := by rw [← E7]; exact HX.out.setS _
      have B7 : Hid (Below w.heap.size w w7) := by rw [← E7]; exact HBr.out.trans (((Chg.refl bx wr).setCell _ _).1.mono LB.out)
      have HE7 := Lib.hid (HE.out.below B7.out)
      clear hvy0
      go_wp2_with (rw [E7])
      with_reducible refine text_any bx vx false _ _ HX7.out (by have := NX.out; omega) HE7.out fun r w8 hb8 hr8 => ?_
      have T8 : Hid (Txt r (G : Nat)) := by unfold Hid; rw [← hgx.out]; exact hr8
      have B8 : Hid (Below w.heap.size w w8) := B7.out.trans (hb8.mono B7.out.size)
      clear hb8 hr8
      go_wp2_with fail
      exact HR.out _ _ B8.out T8.out
end Go.Proofs.YtcmhompbdanpdaaGreatDoor
