/- The walk of the law StockHolds. -/
import Derived.Test.YteoniejpfmeibaaDoorSad
import Derived.Test.YteoniejpfmeibaaDoorSm
import Derived.Test.YteoniejpfmeibaaDoorSp
namespace Go.Proofs.YteoniejpfmeibaaDoor
open Go.RowKit Go.Shelf

theorem neqBlkS (b : B5) (w : World) : (binOp .neq 66 (.agg #[.int .i64 b.l, .int .i64 b.w, .int .i64 b.u, .string b.h]) (.agg #[.int .i64 b.l, .int .i64 b.w, .int .i64 b.u, .string b.h])).run Tryd.prog w = .ok (.bool false) w := by
  have hu : Tryd.prog.underlying 66 = some (.struct (Tryd.prog.fieldsOf 66)) := by kernel_rfl
  have hp : Tryd.prog.stoodInHeld 66 = false := by kernel_rfl
  have u3 := Tryd.underlying3
  have a3 := Tryd.isAgg3
  have z3 := Tryd.sizeOf3
  have u9 := Tryd.underlying9
  have a9 := Tryd.isAgg9
  have z9 := Tryd.sizeOf9
  rw [run_neq_struct, show (10000 : Nat) = 9999 + 1 from rfl, run_equalIn_agg w 9999 66 _ _ hu hp]
  simp only [Program.fieldsOf, Tryd.underlying66]
  go_simp
theorem RightS.psum_bd {m : Int} {bs : List B5} (h : RightS m bs) (O : List Int) : ∀ k, k ≤ bs.length → 0 ≤ psum (fun i => (bAt bs i).l) O k ∧ psum (fun i => (bAt bs i).l) O k ≤ k * 100000
  | 0, _ => by simp [psum]
  | k + 1, hk => by
    have h1 := RightS.psum_bd h O k (by omega)
    have h2 := (h.2.2 k (by omega)).1.1
    rw [psum]
    split
    · omega
    · omega

set_option maxRecDepth 100000 in
set_option maxHeartbeats 8000000 in
theorem lawHolds (m : Int) (ao : Option Addr) (bs : List B5) (c : Nat) (who : ByteArray) (x : Int) (w : World) (R : Ending → World → Prop)
   (hl : bs.length * 40 ≤ 140737488355328) (hb : BSl w ao c bs) (hs : StrOk bs) (hw : who.size ≤ 9223372036854775807) (hR : ∀ w', Below w.heap.size w w' → R (.returned (.bool true)) w') :
    Calls Tryd.prog 7 #[.agg #[.int .i64 m, .slice ao bs.length c], .string who, .int .i64 x] w R := by
  have HR := Lib.hid hR
  have HS0 := Lib.hid hb
  clear hR hb
  obtain ⟨w1, E1, HB1, s1, b0, b1⟩ := box2 w (.int .i64 m) (.slice ao bs.length c) 24
  have S1 := Lib.hid (HS0.out.below HB1.out)
  have p0 := Lib.hid b0
  have p1 := Lib.hid b1
  rw [← E1.out] at b0 b1
  cases hg : rgB m bs with
  | false =>
    have HG := Lib.hid hg
    clear hg
    go_enter Tryd.func7, Tryd.ntmps7
    go_wp2_with fail
    rw [E1.out]
    refine right51_any m ao bs c _ _ hl S1.out.1 hs ?_
    intro w2 hb2
    have B2 := Lib.hid (HB1.out.trans (hb2.mono (by omega)))
    have V2 := Lib.hid hb2
    clear hb2
    rw [HG.out]
    go_wp2_with fail
    refine awake_any _ _ ?_
    intro wz hbz
    have HBz := Lib.hid (B2.out.trans (hbz.mono B2.out.size))
    clear hbz
    go_wp2_with fail
    exact HR.out _ HBz.out
  | true =>
    have HG := Lib.hid hg
    obtain ⟨h8, hRS⟩ := rgB_iff.1 hg
    have hchk : chkS m bs = 0 := (chkS_zero _ _).2 hRS
    clear hg
    by_cases hn : namE who = 0
    · have HN := Lib.hid hn
      have hnm : nmS m bs who = 0 := by unfold nmS; rw [if_pos hchk]; exact hn
      have HK := Lib.hid hchk
      have HRS := Lib.hid hRS
      obtain ⟨FL, hFL⟩ : ∃ FL, Hid (pickL (freeP m) bs = FL) := ⟨_, rfl⟩
      have hfr : Hid (frL m bs = FL) := by unfold Hid frL; rw [if_pos hchk]; exact hFL.out
      have hFl : FL.length ≤ 8 := by rw [← hFL.out]; exact Nat.le_trans (pickTo_length _ _ _) h8
      clear hn hnm hchk hRS
      by_cases ht : tkE m bs who x = 0
      · have HT := Lib.hid ht
        have TK := Lib.hid (took ht)
        clear ht
        obtain ⟨B, hB⟩ : ∃ B, Hid (tkB m bs who x = B) := ⟨_, rfl⟩
        obtain ⟨O, hO⟩ : ∃ O, Hid (tkO m bs who x = O) := ⟨_, rfl⟩
        rw [hB.out, hO.out] at TK
        have hM : Hid (okM m 0 = m) := rfl
        have hBl : B.length ≤ 8 := by have := TK.out.len; omega
        have hOl : O.length ≤ 8 := by have h1 := TK.out.fewl; have h2 := fewL_length' (tkSet m bs) x; have h3 : (tkSet m bs).length ≤ bs.length := Nat.le_trans (Nat.le_of_eq (lensTo_length _ _ _)) (pickTo_length _ _ _); omega
        have hsB : StrOk B := by
          intro i hi
          rw [TK.out.at1 i]
          split
          · exact hw
          · exact hs i (by have := TK.out.len; omega)
        have hKB : Hid (chkS m B = 0) := (chkS_zero _ _).2 TK.out.right
        go_enter Tryd.func7, Tryd.ntmps7
        go_wp2_with fail
        rw [E1.out]
        refine right51_any m ao bs c _ _ hl S1.out.1 hs ?_
        intro w2 hb2
        have B2 := Lib.hid (HB1.out.trans (hb2.mono (by omega)))
        have V2 := Lib.hid hb2
        clear hb2
        rw [HG.out]
        go_wp2_with fail
        refine name_any who _ _ hw ?_
        rw [HN.out]
        have b0 := cellB V2.out p0.out s1
        have b1 := cellB V2.out p1.out s1
        have S2 := Lib.hid (S1.out.below V2.out)
        go_wp2_with fail
        refine freeS_any m ao bs c _ _ (by omega) S2.out.2 S2.out.1 hs ?_
        rw [hfr.out, HK.out]
        intro vF w4 hb4 ho4
        obtain ⟨aF, cF, rfl, rF, _⟩ := ho4.read
        have V4 := Lib.hid (V2.out.trans (hb4.mono V2.out.size))
        have F4 := Lib.hid rF
        have S4 := Lib.hid (S1.out.below V4.out)
        clear b0 b1
        have b0 := cellB V4.out p0.out s1
        have b1 := cellB V4.out p1.out s1
        clear hb4 ho4 rF
        go_wp2_with fail
        refine takeS_any m ao bs c who x _ _ (by omega) S4.out.2 S4.out.1 hs hw ?_
        rw [hB.out, hO.out, HT.out, hM.out]
        intro a5 c5 a6 c6 w5 hb5 hs5 ho5 _ _
        have V5' := Lib.hid (V4.out.trans (hb5.mono V4.out.size))
        obtain ⟨W, E6, HB6, t6, n0', n1'⟩ := box2 w5 (.int .i64 m) (.slice a5 B.length c5) 24
        have n0 := Lib.hid n0'
        have n1 := Lib.hid n1'
        have V6 := Lib.hid (V5'.out.trans (HB6.out.mono V5'.out.size))
        have D6 := Lib.hid (hs5.below HB6.out)
        have O6 := Lib.hid (ho5.below HB6.out)
        have F6 := Lib.hid ((F4.out.below hb5).below HB6.out)
        have S6 := Lib.hid (S1.out.below V6.out)
        clear b0 b1
        have b0 := cellB V6.out p0.out s1
        have b1 := cellB V6.out p1.out s1
        rw [← E6.out] at b0 b1 n0' n1'
        clear hb5 hs5 ho5
        go_wp2_with fail
        rw [E6.out]
        refine check51_any m a5 B c5 _ _ (by omega) D6.out.1 hsB ?_
        rw [hKB.out]
        intro w7 hb7
        have U7 := Lib.hid hb7
        have V7 := Lib.hid (V6.out.trans (hb7.mono V6.out.size))
        have D7 := Lib.hid (D6.out.below hb7)
        have O7 := Lib.hid (O6.out.below hb7)
        have F7 := Lib.hid (F6.out.below hb7)
        have S7 := Lib.hid (S1.out.below V7.out)
        clear b0 b1 n0' n1'
        have b0 := cellB V7.out p0.out s1
        have b1 := cellB V7.out p1.out s1
        have n0' := cellB U7.out n0.out t6
        have n1' := cellB U7.out n1.out t6
        have HBB : Hid (B.length = bs.length) := TK.out.len
        have hBB' : ((B.length : Int) == (bs.length : Int)) = true := by rw [HBB.out]; simp
        have hBB'' : ((B.length : Int) != (bs.length : Int)) = false := by rw [HBB.out]; simp
        clear hb7
        have hq := neqBlkS
        go_wp2_with fail
        go_loopw [62, 12] (fun i sm wr => ∃ k : Nat, k ≤ B.length ∧ i = .int .i64 k ∧ sm = .int .i64 (psum (fun i => (bAt bs i).l) O k) ∧ Hid (Below w7.heap.size w7 wr)) (fun i _ _ => B.length - (intOf i).toNat)
        case atStart => exact ⟨0, Nat.zero_le _, rfl, rfl, Below.refl _ _⟩
        case round =>
          obtain ⟨k, hk, rfl, rfl, HB⟩ := hrel
          have hkb : k ≤ bs.length := by have := HBB.out; omega
          have Vr := Lib.hid (V7.out.trans (HB.out.mono V7.out.size))
          have sr := HB.out.size
          have szr := Vr.out.size
          clear b0 b1 n0' n1'
          have b0 := cellB Vr.out p0.out s1
          have b1 := cellB Vr.out p1.out s1
          by_cases hlt : k < B.length
          · have Sr := Lib.hid (S1.out.below Vr.out)
            have hltb : k < bs.length := by have := HBB.out; omega
            have Dr := Lib.hid (D7.out.below HB.out)
            have Or := Lib.hid (O7.out.below HB.out)
            have Fr := Lib.hid (F7.out.below HB.out)
            have hat := TK.out.at1 k
            have hpd : psum (fun i => (bAt bs i).l) O (k + 1) = psum (fun i => (bAt bs i).l) O k + if (k : Int) ∈ O then (bAt bs k).l else 0 := rfl
            have hbd := HRS.out.psum_bd O k (by omega)
            have hlb := (HRS.out.2.2 k (by omega)).1.1
            obtain ⟨⟨ol, ow, ou, oh⟩, hob⟩ : ∃ b, bAt bs k = b := ⟨_, rfl⟩
            obtain ⟨bS, oS, rfl, hbS, hcS⟩ := Sr.out.1.blks (by omega)
            obtain ⟨d0, d1, d2, d3⟩ := hcS k (by omega)
            obtain ⟨bB, oB, rfl, hbB, hcB⟩ := Dr.out.1.blks (by omega)
            obtain ⟨c0, c1, c2, c3⟩ := hcB k hlt
            rw [hob] at hat hpd hlb d0 d1 d2 d3
            have HOB := Lib.hid hob
            obtain ⟨P, hP⟩ : ∃ P, psum (fun i => (bAt bs i).l) O k = P := ⟨_, rfl⟩
            obtain ⟨Q, hQ⟩ : ∃ Q, psum (fun i => (bAt bs i).l) O (k + 1) = Q := ⟨_, rfl⟩
            rw [hP] at hbd hpd ⊢
            rw [hQ] at hpd
            have HQ := Lib.hid hQ
            simp only at hlb hpd d0 d1 d2 d3
            clear hcS hcB hob hQ
            by_cases hm : (k : Int) ∈ O
            · rw [if_pos hm] at hat hpd
              simp only at hat
              obtain ⟨hmF', hoh⟩ : (k : Int) ∈ FL ∧ oh = ⟨#[]⟩ := by
                obtain ⟨i, e1, _, h3⟩ := TK.out.mem _ hm
                obtain rfl : k = i := by omega
                obtain ⟨i, _, e2, h4⟩ := (pickTo_mem _).1 h3
                obtain rfl : k = i := by omega
                rw [HOB.out] at h4
                exact ⟨by rw [← hFL.out]; exact h3, bytes_nil (freeP_iff.1 h4).1⟩
              subst hoh
              rw [hat] at c0 c1 c2 c3
              have HM : Hid (decide ((k : Int) ∈ O) = true) := decide_eq_true hm
              have hmF : Hid (decide ((k : Int) ∈ FL) = true) := decide_eq_true hmF'
              have HPD : Hid (Q = P + ol) := hpd
              have hww : wrap64 (P + ol) = Q := by rw [hpd]; unfold wrap64; omega
              have hwe : (who.toList == who.toList) = true := by simp
              have hwe2 : (who.toList != who.toList) = false := by simp
              obtain ⟨w8, E8', HB8, s8, X8⟩ := box_ex wr #[.int .i64 ol, .int .i64 ow, .int .i64 ou, .string who] 66
              have E8 := Lib.hid E8'
              clear hat hpd hm E8' hmF'
              have e0 := cellB HB8.out b1 (by omega)
              have f0 := cellB HB8.out d0 hbS
              have f1 := cellB HB8.out d1 hbS
              have f2 := cellB HB8.out d2 hbS
              have f3 := cellB HB8.out d3 hbS
              rw [← E8.out] at e0 f0 f1 f2 f3
              go_wp2_with fail
              rw [E8.out]
              obtain ⟨w9, E9', HB9, s9, X9⟩ := box_ex w8 #[.int .i64 ol, .int .i64 ow, .int .i64 ou, .string ⟨#[]⟩] 66
              have hz8 : w8.heap.size = wr.heap.size + 1 := by rw [← E8.out, World.size_alloc]
              have E9 := Lib.hid E9'
              rw [E9.out]
              rw [hz8] at X9
              clear E9' e0 f0 f1 f2 f3
              have Y9 := Lib.hid (heap_below X8.out HB9.out (by omega))
              have B9 : Hid (Below wr.heap.size wr w9) := HB8.out.trans (HB9.out.mono (by omega))
              refine contains_any a6 O c6 k _ _ (by omega) (Or.out.below B9.out) ?_
              rw [HM.out]
              intro w10 hd10
              have D10 : Hid (Below w9.heap.size w9 w10) := hd10.below _
              have X10 := Lib.hid (heap_below X9.out D10.out (by omega))
              have Y10 := Lib.hid (heap_below Y9.out D10.out (by omega))
              have B10 : Hid (Below wr.heap.size wr w10) := B9.out.trans (D10.out.mono (by omega))
              have s10 := D10.out.size
              have g0 := cell_at Y10.out (j := 0) (v := .int .i64 ol) rfl
              have g3 := cell_at Y10.out (j := 3) (v := .string who) rfl
              clear hd10
              go_wp2_with fail
              refine contains_any aF FL cF k _ _ (by omega) (Fr.out.below B10.out) ?_
              rw [hmF.out]
              intro w11 hd11
              have D11 : Hid (Below w10.heap.size w10 w11) := hd11.below _
              have X11 := Lib.hid (heap_below X10.out D11.out (by omega))
              have Y11 := Lib.hid (heap_below Y10.out D11.out (by omega))
              have B11 : Hid (Below wr.heap.size wr w11) := B10.out.trans (D11.out.mono (by omega))
              have s11 := D11.out.size
              clear g0 g3 hd11
              have g0 := cell_at Y11.out (j := 0) (v := .int .i64 ol) rfl
              have g1 := cell_at Y11.out (j := 1) (v := .int .i64 ow) rfl
              have g2 := cell_at Y11.out (j := 2) (v := .int .i64 ou) rfl
              have g3 := cell_at Y11.out (j := 3) (v := .string who) rfl
              have gf := frozen_at Y11.out 3
              have h0 := cell_at X11.out (j := 0) (v := .int .i64 ol) rfl
              have h1 := cell_at X11.out (j := 1) (v := .int .i64 ow) rfl
              have h2 := cell_at X11.out (j := 2) (v := .int .i64 ou) rfl
              have h3 := cell_at X11.out (j := 3) (v := .string ⟨#[]⟩) rfl
              go_wp2_with fail
              have hst : Below w7.heap.size w7 (w11.setCell ⟨wr.heap.size, 3, none⟩ (.string ⟨#[]⟩)) := (HB.out.trans (B11.out.mono sr)).setCell (p := ⟨wr.heap.size, 3, none⟩) (by show w7.heap.size ≤ wr.heap.size; omega) _
              exact ⟨⟨k + 1, by omega, by go_num, by rw [HQ.out, HPD.out], hst⟩, by simp [intOf]; omega⟩
            · rw [if_neg hm] at hat hpd
              rw [hat] at c0 c1 c2 c3
              simp only at c0 c1 c2 c3
              have HM : Hid (decide ((k : Int) ∈ O) = false) := decide_eq_false hm
              have HPD : Hid (Q = P) := by unfold Hid; omega
              obtain ⟨w8, E8', HB8, s8, X8⟩ := box_ex wr #[.int .i64 ol, .int .i64 ow, .int .i64 ou, .string oh] 66
              have E8 := Lib.hid E8'
              clear hat hpd hm E8'
              have e0 := cellB HB8.out b1 (by omega)
              have f0 := cellB HB8.out d0 hbS
              have f1 := cellB HB8.out d1 hbS
              have f2 := cellB HB8.out d2 hbS
              have f3 := cellB HB8.out d3 hbS
              rw [← E8.out] at e0 f0 f1 f2 f3
              go_wp2_with fail
              rw [E8.out]
              obtain ⟨w9, E9', HB9, s9, X9⟩ := box_ex w8 #[.int .i64 ol, .int .i64 ow, .int .i64 ou, .string oh] 66
              have hz8 : w8.heap.size = wr.heap.size + 1 := by rw [← E8.out, World.size_alloc]
              have E9 := Lib.hid E9'
              rw [E9.out]
              rw [hz8] at X9
              clear E9' e0 f0 f1 f2 f3
              have Y9 := Lib.hid (heap_below X8.out HB9.out (by omega))
              have B9 : Hid (Below wr.heap.size wr w9) := HB8.out.trans (HB9.out.mono (by omega))
              refine contains_any a6 O c6 k _ _ (by omega) (Or.out.below B9.out) ?_
              rw [HM.out]
              intro w11 hd11
              have D11 : Hid (Below w9.heap.size w9 w11) := hd11.below _
              have X11 := Lib.hid (heap_below X9.out D11.out (by omega))
              have Y11 := Lib.hid (heap_below Y9.out D11.out (by omega))
              have B11 : Hid (Below wr.heap.size wr w11) := B9.out.trans (D11.out.mono (by omega))
              have s11 := D11.out.size
              clear hd11
              have g0 := cell_at Y11.out (j := 0) (v := .int .i64 ol) rfl
              have g1 := cell_at Y11.out (j := 1) (v := .int .i64 ow) rfl
              have g2 := cell_at Y11.out (j := 2) (v := .int .i64 ou) rfl
              have g3 := cell_at Y11.out (j := 3) (v := .string oh) rfl
              have h0 := cell_at X11.out (j := 0) (v := .int .i64 ol) rfl
              have h1 := cell_at X11.out (j := 1) (v := .int .i64 ow) rfl
              have h2 := cell_at X11.out (j := 2) (v := .int .i64 ou) rfl
              have h3 := cell_at X11.out (j := 3) (v := .string oh) rfl
              go_wp2_with fail
              exact ⟨⟨k + 1, by omega, by go_num, by rw [HQ.out, HPD.out], HB.out.trans (B11.out.mono sr)⟩, by simp [intOf]; omega⟩
          · obtain rfl : k = B.length := by omega
            have hsum : psum (fun i => (bAt bs i).l) O B.length = x := by rw [HBB.out]; exact TK.out.sum
            rw [hsum]
            clear hsum
            obtain ⟨wL, rfl⟩ : ∃ wL, wL = wr := ⟨wr, rfl⟩
            have VL := Lib.hid (V7.out.trans (HB.out.mono V7.out.size))
            have FLc := Lib.hid (F7.out.below HB.out)
            have SL := Lib.hid (S1.out.below VL.out)
            have hFb : Hid (∀ j, j < FL.length → ∃ i : Nat, at0 FL j = i ∧ i < bs.length) := by
              unfold Hid; rw [← hFL.out]; intro j hj; obtain ⟨i, h1, h2, _⟩ := pick_bd hj; exact ⟨i, h1, h2⟩
            obtain ⟨Z, hZ⟩ : ∃ Z, Hid (tkSet m bs = Z) := ⟨_, rfl⟩
            have hZF : Hid (lensTo bs FL FL.length = Z) := by unfold Hid; rw [← hZ.out, ← hFL.out]; rfl
            have hfw : Hid (fewE Z x = 0) := by rw [← hZ.out]; exact TK.out.few
            have hfl : Hid ((fewL Z x).length = O.length) := by rw [← hZ.out]; exact TK.out.fewl
            go_wp2_with fail
            go_loopw [96, 16] (fun i v wr => ∃ k : Nat, k ≤ FL.length ∧ i = .int .i64 k ∧ Hid (Below wL.heap.size wL wr) ∧ Hid (OwnL wr wL.heap.size 3 1 v (lensTo bs FL k).length (I64s (lensTo bs FL k)))) (fun i _ _ => FL.length - (intOf i).toNat)
            case atStart => exact ⟨0, Nat.zero_le _, rfl, Below.refl _ _, OwnL.nil _ _ _ _⟩
            case round =>
              obtain ⟨k, hk, rfl, HBq, HO⟩ := hrel
              have Vq := Lib.hid (VL.out.trans (HBq.out.mono VL.out.size))
              have sq := HBq.out.size
              have szq := Vq.out.size
              clear b0 b1
              have b0 := cellB Vq.out p0.out s1
              have b1 := cellB Vq.out p1.out s1
              by_cases hlt2 : k < FL.length
              · obtain ⟨i, hi1, hi2⟩ := hFb.out k hlt2
                obtain ⟨bF, oF, rfl, _, hcl⟩ := (FLc.out.below HBq.out).ints (by omega)
                have d0 := hcl k hlt2
                rw [hi1] at d0
                obtain ⟨bb, ob, rfl, _, hcell⟩ := (SL.out.1.below HBq.out).blks (by omega)
                obtain ⟨d1, _, _, _⟩ := hcell i hi2
                have HT : Hid (lensTo bs FL (k + 1) = lensTo bs FL k ++ [(bAt bs i).l]) := by unfold Hid; rw [lensTo, hi1, Int.toNat_natCast]
                have hll : (lensTo bs FL k).length ≤ 8 := by rw [lensTo_length]; omega
                clear hcl hcell hi1
                obtain ⟨y, hy⟩ : ∃ y, (bAt bs i).l = y := ⟨_, rfl⟩
                rw [hy] at d1 HT
                clear hy
                have hz1 : decide ((i : Int) < 0) = false := by rw [decide_eq_false_iff_not]; omega
                have hz2 : decide ((bs.length : Int) ≤ (i : Int)) = false := by rw [decide_eq_false_iff_not]; omega
                go_wp2_with (at_builtin; refine wp_append1 rfl (.tmp 109) (.tmp 116) 31 rfl wL.heap.size 3 Tryd.underlying31 Tryd.infoInt rfl (by decide) (by decide) u16 (lensTo bs FL k).length (I64s (lensTo bs FL k)) rfl (HO.out.alloc _) wr.heap.size [.int .i64 y] rfl rfl (new1 _ _ _) (one1 _ rfl) (by omega) (by simp; omega) ?_; intro v6 w6 hown6 hb6; have H6 := Lib.hid hown6; have Hb6 : Hid (Below wL.heap.size wL w6) := ((HBq.out.alloc HBq.out.size _).trans hb6); clear hown6 hb6)
                exact ⟨⟨k + 1, by omega, by go_num, Hb6, by unfold Hid; rw [HT.out]; simpa [I64s] using H6.out⟩, by simp [intOf]; omega⟩
              · obtain rfl : k = FL.length := by omega
                rw [hZF.out] at HO
                obtain ⟨aZ, cZ, rfl, rZ, _, _⟩ := HO.out.read
                have HZC := Lib.hid rZ
                have hZlen : Z.length ≤ 8 := by rw [← hZF.out, lensTo_length]; exact hFl
                clear rZ
                go_wp2_with fail
                refine fewestX_any aZ Z cZ x _ _ (by omega) HZC.out ?_
                rw [hfw.out, hfl.out]
                intro aS cS wf hbf _ _
                have Bf := Lib.hid (HB1.out.trans ((Vq.out.trans (hbf.mono Vq.out.size)).mono (by omega)))
                clear hbf
                go_wp2_with fail
                refine awake_any _ _ ?_
                intro wz hbz
                have HBz := Lib.hid (Bf.out.trans (hbz.mono Bf.out.size))
                clear hbz
                go_wp2_with fail
                exact HR.out _ HBz.out
      · have hTT : (tkE m bs who x == 0) = false := by simpa using ht
        have hTT' : (tkE m bs who x != 0) = true := by simpa using ht
        clear ht
        go_enter Tryd.func7, Tryd.ntmps7
        go_wp2_with fail
        rw [E1.out]
        refine right51_any m ao bs c _ _ hl S1.out.1 hs ?_
        intro w2 hb2
        have B2 := Lib.hid (HB1.out.trans (hb2.mono (by omega)))
        have V2 := Lib.hid hb2
        clear hb2
        rw [HG.out]
        go_wp2_with fail
        refine name_any who _ _ hw ?_
        rw [HN.out]
        have b0 := cellB V2.out p0.out s1
        have b1 := cellB V2.out p1.out s1
        have S2 := Lib.hid (S1.out.below V2.out)
        go_wp2_with fail
        refine freeS_any m ao bs c _ _ (by omega) S2.out.2 S2.out.1 hs ?_
        rw [hfr.out, HK.out]
        intro vF w4 hb4 ho4
        obtain ⟨aF, cF, rfl, rF, _⟩ := ho4.read
        have V4 := Lib.hid (V2.out.trans (hb4.mono V2.out.size))
        have F4 := Lib.hid rF
        have S4 := Lib.hid (S1.out.below V4.out)
        clear b0 b1
        have b0 := cellB V4.out p0.out s1
        have b1 := cellB V4.out p1.out s1
        clear hb4 ho4 rF
        go_wp2_with fail
        refine takeS_any m ao bs c who x _ _ (by omega) S4.out.2 S4.out.1 hs hw ?_
        intro a5 c5 a6 c6 w5 hb5 _ _ _ _
        have V5' := Lib.hid (V4.out.trans (hb5.mono V4.out.size))
        obtain ⟨W, E6, HB6, t6, _, _⟩ := box2 w5 (.int .i64 (okM m (tkE m bs who x))) (.slice a5 (tkB m bs who x).length c5) 24
        have V6 := Lib.hid (V5'.out.trans (HB6.out.mono V5'.out.size))
        have B6 := Lib.hid (HB1.out.trans (V6.out.mono (by omega)))
        clear hb5
        go_wp2_with fail
        rw [E6.out]
        refine awake_any _ _ ?_
        intro wz hbz
        have HBz := Lib.hid (B6.out.trans (hbz.mono B6.out.size))
        clear hbz
        go_wp2_with fail
        exact HR.out _ HBz.out
    · have hN1 : (namE who == 0) = false := by simpa using hn
      have hN2 : (namE who != 0) = true := by simpa using hn
      clear hn
      go_enter Tryd.func7, Tryd.ntmps7
      go_wp2_with fail
      rw [E1.out]
      refine right51_any m ao bs c _ _ hl S1.out.1 hs ?_
      intro w2 hb2
      have B2 := Lib.hid (HB1.out.trans (hb2.mono (by omega)))
      have V2 := Lib.hid hb2
      clear hb2
      rw [HG.out]
      go_wp2_with fail
      refine name_any who _ _ hw ?_
      go_wp2_with fail
      refine awake_any _ _ ?_
      intro wz hbz
      have HBz := Lib.hid (B2.out.trans (hbz.mono B2.out.size))
      clear hbz
      go_wp2_with fail
      exact HR.out _ HBz.out
end Go.Proofs.YteoniejpfmeibaaDoor
