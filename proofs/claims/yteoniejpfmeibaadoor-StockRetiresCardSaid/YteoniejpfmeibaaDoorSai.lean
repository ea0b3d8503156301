/- The walk of the law StockRetires. -/
import Derived.Test.YteoniejpfmeibaaDoorSae
import Derived.Test.YteoniejpfmeibaaDoorSag
import Derived.Test.YteoniejpfmeibaaDoorSah
import Derived.Test.YteoniejpfmeibaaDoorSk
import Derived.Test.YteoniejpfmeibaaDoorSw
import Derived.Test.YteoniejpfmeibaaDoorA
namespace Go.Proofs.YteoniejpfmeibaaDoor
open Go.RowKit Go.Shelf

set_option maxRecDepth 100000 in
set_option maxHeartbeats 8000000 in
theorem lawRetires (m : Int) (ao : Option Addr) (bs : List B5) (c : Nat) (who : ByteArray) (x : Int) (w : World) (R : Ending → World → Prop)
   (hl : bs.length * 40 ≤ 140737488355328) (hb : BSl w ao c bs) (hs : StrOk bs) (hw : who.size ≤ 9223372036854775807) (hR : ∀ w', Below w.heap.size w w' → R (.returned (.bool true)) w') :
    Calls Tryd.prog 9 #[.agg #[.int .i64 m, .slice ao bs.length c], .string who, .int .i64 x] w R := by
  have HR := Lib.hid hR
  have HS0 := Lib.hid hb
  clear hR hb
  obtain ⟨w1, E1, HB1, s1, b0, b1⟩ := box2 w (.int .i64 m) (.slice ao bs.length c) 24
  have S1 := Lib.hid (HS0.out.below HB1.out)
  have p0 := Lib.hid b0
  have p1 := Lib.hid b1
  rw [← E1.out] at b0 b1
  cases hg : rgB m bs with
  | false =>
    have HG := Lib.hid hg
    clear hg
    go_enter Tryd.func9, Tryd.ntmps9
    go_wp2_with fail
    rw [E1.out]
    refine right51_any m ao bs c _ _ hl S1.out.1 hs ?_
    intro w2 hb2
    have B2 := Lib.hid (HB1.out.trans (hb2.mono (by omega)))
    have V2 := Lib.hid hb2
    clear hb2
    rw [HG.out]
    go_wp2_with fail
    refine awake_any _ _ ?_
    intro wz hbz
    have HBz := Lib.hid (B2.out.trans (hbz.mono B2.out.size))
    clear hbz
    go_wp2_with fail
    exact HR.out _ HBz.out
  | true =>
    have HG := Lib.hid hg
    obtain ⟨h8, hRS⟩ := rgB_iff.1 hg
    have hchk : chkS m bs = 0 := (chkS_zero _ _).2 hRS
    clear hg
    by_cases hn : namE who = 0
    · have HN := Lib.hid hn
      have HK := Lib.hid hchk
      have HRS := Lib.hid hRS
      clear hn hchk hRS
      by_cases h5 : m < 50000
      case neg =>
        have h5' : decide ((50000 : Int) ≤ m) = true := by rw [decide_eq_true_eq]; omega

        go_enter Tryd.func9, Tryd.ntmps9
        go_wp2_with fail
        rw [E1.out]
        refine right51_any m ao bs c _ _ hl S1.out.1 hs ?_
        intro w2 hb2
        have B2 := Lib.hid (HB1.out.trans (hb2.mono (by omega)))
        have V2 := Lib.hid hb2
        clear hb2
        rw [HG.out]
        go_wp2_with fail
        refine name_any who _ _ hw ?_
        rw [HN.out]
        have b0 := cellB V2.out p0.out s1
        have b1 := cellB V2.out p1.out s1
        have S2 := Lib.hid (S1.out.below V2.out)
        go_wp2_with fail
        refine awake_any _ _ ?_
        intro wz hbz
        have HBz := Lib.hid (B2.out.trans (hbz.mono B2.out.size))
        clear hbz
        go_wp2_with fail
        exact HR.out _ HBz.out
      have h5' : decide ((50000 : Int) ≤ m) = false := by rw [decide_eq_false_iff_not]; omega
      have hm0 : 0 ≤ m := HRS.out.1.1
      by_cases ht : tkE m bs who x = 0
      · have HT := Lib.hid ht
        have TK := Lib.hid (took ht)
        clear ht
        obtain ⟨B, hB⟩ : ∃ B, Hid (tkB m bs who x = B) := ⟨_, rfl⟩
        obtain ⟨O, hO⟩ : ∃ O, Hid (tkO m bs who x = O) := ⟨_, rfl⟩
        rw [hB.out, hO.out] at TK
        have hM : Hid (okM m 0 = m) := rfl
        have HBB : Hid (B.length = bs.length) := TK.out.len
        have hBl : B.length ≤ 8 := by have := TK.out.len; omega
        have hOl : O.length ≤ 8 := by have h1 := TK.out.fewl; have h2 := fewL_length' (tkSet m bs) x; have h3 : (tkSet m bs).length ≤ bs.length := Nat.le_trans (Nat.le_of_eq (lensTo_length _ _ _)) (pickTo_length _ _ _); omega
        have hsB : StrOk B := by
          intro i hi
          rw [TK.out.at1 i]
          split
          · exact hw
          · exact hs i (by have := TK.out.len; omega)
        have hx1 : 0 ≤ m + 1 ∧ m + 1 ≤ 100000 := by omega
        have hmm : wrap64 (m + 1) = m + 1 := by unfold wrap64; omega
        by_cases hre : rtE m B who (m + 1) = 11
        · have HRE := Lib.hid hre
          clear hre
          go_enter Tryd.func9, Tryd.ntmps9
          go_wp2_with fail
          rw [E1.out]
          refine right51_any m ao bs c _ _ hl S1.out.1 hs ?_
          intro w2 hb2
          have B2 := Lib.hid (HB1.out.trans (hb2.mono (by omega)))
          have V2 := Lib.hid hb2
          clear hb2
          rw [HG.out]
          go_wp2_with fail
          refine name_any who _ _ hw ?_
          rw [HN.out]
          have b0 := cellB V2.out p0.out s1
          have b1 := cellB V2.out p1.out s1
          have S2 := Lib.hid (S1.out.below V2.out)
          go_wp2_with fail
          refine takeS_any m ao bs c who x _ _ (by omega) S2.out.2 S2.out.1 hs hw ?_
          rw [hB.out, hO.out, HT.out, hM.out]
          intro a5 c5 a6 c6 w5 hb5 hs5 ho5 _ _
          have V5' := Lib.hid (V2.out.trans (hb5.mono V2.out.size))
          obtain ⟨W, E6, HB6, t6, n0', n1'⟩ := box2 w5 (.int .i64 m) (.slice a5 B.length c5) 24
          have n0 := Lib.hid n0'
          have n1 := Lib.hid n1'
          have V6 := Lib.hid (V5'.out.trans (HB6.out.mono V5'.out.size))
          have D6 := Lib.hid (hs5.below HB6.out)
          have O6 := Lib.hid (ho5.below HB6.out)
          have S6 := Lib.hid (S1.out.below V6.out)
          clear b0 b1
          have b0 := cellB V6.out p0.out s1
          have b1 := cellB V6.out p1.out s1
          rw [← E6.out] at n0' n1' b0 b1
          clear hb5 hs5 ho5
          go_wp2_with fail
          rw [E6.out]
          have D7 := D6
          have O7 := O6
          have V7 := V6
          refine returnS_any m a5 B c5 who (m + 1) _ _ (by omega) D7.out.2 D7.out.1 hsB hw ?_
          rw [HRE.out]
          intro a8 c8 w8 hb8 _ _
          have V8' := Lib.hid (V7.out.trans (hb8.mono V7.out.size))
          obtain ⟨W9, E9, HB9, t9, _, _⟩ := box2 w8 (.int .i64 (okM m 11)) (.slice a8 (rtB m B who (m + 1)).length c8) 24
          have V9 := Lib.hid (V8'.out.trans (HB9.out.mono V8'.out.size))
          have B9 := Lib.hid (HB1.out.trans (V9.out.mono (by omega)))
          clear hb8
          go_wp2_with fail
          rw [E9.out]
          refine awake_any _ _ ?_
          intro wz hbz
          have HBz := Lib.hid (B9.out.trans (hbz.mono B9.out.size))
          clear hbz
          go_wp2_with fail
          exact HR.out _ HBz.out
        · obtain ⟨G, BK, hre, hgb⟩ : ∃ G, Hid (Back B G O (m + 1)) ∧ Hid (rtE m B who (m + 1) = 0) ∧ Hid (rtB m B who (m + 1) = G) := by
            rcases TK.out.ret hx1 with ⟨G, h1, h2, h3⟩ | h
            · exact ⟨G, h1, h2, h3⟩
            · exact absurd h hre
          have HGB : Hid (G.length = bs.length) := BK.out.len.trans HBB.out
          have hGl : G.length ≤ 8 := by have := HGB.out; omega
          have HRE := hre
          clear hre
          go_enter Tryd.func9, Tryd.ntmps9
          go_wp2_with fail
          rw [E1.out]
          refine right51_any m ao bs c _ _ hl S1.out.1 hs ?_
          intro w2 hb2
          have B2 := Lib.hid (HB1.out.trans (hb2.mono (by omega)))
          have V2 := Lib.hid hb2
          clear hb2
          rw [HG.out]
          go_wp2_with fail
          refine name_any who _ _ hw ?_
          rw [HN.out]
          have b0 := cellB V2.out p0.out s1
          have b1 := cellB V2.out p1.out s1
          have S2 := Lib.hid (S1.out.below V2.out)
          go_wp2_with fail
          refine takeS_any m ao bs c who x _ _ (by omega) S2.out.2 S2.out.1 hs hw ?_
          rw [hB.out, hO.out, HT.out, hM.out]
          intro a5 c5 a6 c6 w5 hb5 hs5 ho5 _ _
          have V5' := Lib.hid (V2.out.trans (hb5.mono V2.out.size))
          obtain ⟨W, E6, HB6, t6, n0', n1'⟩ := box2 w5 (.int .i64 m) (.slice a5 B.length c5) 24
          have n0 := Lib.hid n0'
          have n1 := Lib.hid n1'
          have V6 := Lib.hid (V5'.out.trans (HB6.out.mono V5'.out.size))
          have D6 := Lib.hid (hs5.below HB6.out)
          have O6 := Lib.hid (ho5.below HB6.out)
          have S6 := Lib.hid (S1.out.below V6.out)
          clear b0 b1
          have b0 := cellB V6.out p0.out s1
          have b1 := cellB V6.out p1.out s1
          rw [← E6.out] at n0' n1' b0 b1
          clear hb5 hs5 ho5
          go_wp2_with fail
          rw [E6.out]
          have D7 := D6
          have O7 := O6
          have V7 := V6
          refine returnS_any m a5 B c5 who (m + 1) _ _ (by omega) D7.out.2 D7.out.1 hsB hw ?_
          rw [HRE.out, hgb.out, hM.out]
          intro a8 c8 w8 hb8 hs8 _
          have V8' := Lib.hid (V7.out.trans (hb8.mono V7.out.size))
          have z8 := V8'.out.size
          obtain ⟨W9, E9', HB9, t9, X9⟩ := box_ex w8 #[.int .i64 m, .slice a8 G.length c8] 24
          have E9 := Lib.hid E9'
          have V9 := Lib.hid (V8'.out.trans (HB9.out.mono V8'.out.size))
          have K9 := Lib.hid (hs8.below HB9.out)
          have O8 := Lib.hid (O7.out.below hb8)
          have b0 := cellB V9.out p0.out s1
          have b1 := cellB V9.out p1.out s1
          have k0 := cell_at X9.out (j := 0) (v := .int .i64 m) rfl
          have k1 := cell_at X9.out (j := 1) (v := .slice a8 G.length c8) rfl
          rw [← E9.out] at b0 b1 k0 k1
          have RP := Lib.hid (TK.out.rep BK.out hx1)
          have hsG : StrOk G := RP.out.right.strOk
          obtain ⟨FG, hFG⟩ : ∃ FG, Hid (pickL (freeP m) G = FG) := ⟨_, rfl⟩
          have hfg : Hid (frL m G = FG) := by unfold Hid frL; rw [if_pos ((chkS_zero _ _).2 RP.out.right)]; exact hFG.out
          have hkg : Hid (chkS m G = 0) := (chkS_zero _ _).2 RP.out.right
          have hFGl : FG.length ≤ 8 := by rw [← hFG.out]; exact Nat.le_trans (pickTo_length _ _ _) hGl
          clear hb8 hs8 E9'
          go_wp2_with fail
          rw [E9.out]
          refine freeS_any m a8 G c8 _ _ (by omega) K9.out.2 K9.out.1 hsG ?_
          rw [hfg.out, hkg.out]
          intro vF w10 hb10 ho10
          obtain ⟨aF, cF, rfl, rF, hFbase, _⟩ := ho10.read
          have B10 : Hid (Below w8.heap.size w8 w10) := HB9.out.trans (hb10.mono (by omega))
          have X10 := Lib.hid (heap_below X9.out hb10 (by omega))
          have K10 := Lib.hid (K9.out.below hb10)
          have F10 := Lib.hid rF
          have s10 := hb10.size
          have HFB := Lib.hid hFbase
          clear hb10 ho10 rF hFbase b0 b1 k0 k1
          have X10' : Hid (w10.heap[w8.heap.size]? = some (.cells #[.int .i64 m, .slice a8 (rpTo bs G O 0).length c8] 24 (0, 0))) := X10
          have K10' : Hid (BSl w10 a8 c8 (rpTo bs G O 0)) := K10
          have V8 := V8'
          go_wp2_with fail
          go_loopw [65] (fun i wr => ∃ (k : Nat) (a' : Option Addr) (c' : Nat), k ≤ O.length ∧ i = .int .i64 k ∧ Hid (Below w8.heap.size w8 wr) ∧ w10.heap.size ≤ wr.heap.size ∧ Hid (wr.heap[w8.heap.size]? = some (.cells #[.int .i64 m, .slice a' (rpTo bs G O k).length c'] 24 (0, 0))) ∧ Hid (BSl wr a' c' (rpTo bs G O k)) ∧ Hid (CellsAt wr aF (I64s FG))) (fun i _ => O.length - (intOf i).toNat)
          case atStart => exact ⟨0, a8, c8, Nat.zero_le _, rfl, B10, Nat.le_refl _, X10', K10', F10⟩
          case round =>
            obtain ⟨k, a', c', hk, rfl, HB, sr, XR, KR, FR⟩ := hrel
            have Vr := Lib.hid (V8.out.trans (HB.out.mono V8.out.size))
            have szr := Vr.out.size
            have hrl : (rpTo bs G O k).length ≤ 8 := by rw [rpTo_length]; exact hGl
            have hsR : StrOk (rpTo bs G O k) := (RP.out.rights hk).strOk
            have k0 := cell_at XR.out (j := 0) (v := .int .i64 m) rfl
            have k1 := cell_at XR.out (j := 1) (v := .slice a' (rpTo bs G O k).length c') rfl
            by_cases hlt : k < O.length
            · have Sr := Lib.hid (S1.out.below Vr.out)
              have Or := Lib.hid (O8.out.below HB.out)
              have hym : at0 O k ∈ O := by rw [at0_get hlt]; exact List.getElem_mem _
              obtain ⟨i, hi1, hi2, _⟩ := TK.out.mem _ hym
              obtain ⟨hst1, hst2⟩ := RP.out.step hlt hi1
              have hnf : Hid (decide ((i : Int) ∈ FG) = false) := decide_eq_false (by rw [← hFG.out, ← hi1]; exact TK.out.worn BK.out hx1 hym)
              obtain ⟨bS, oS, rfl, hbS, hcS⟩ := Sr.out.1.blks (by omega)
              obtain ⟨d0, _, _, _⟩ := hcS i hi2
              obtain ⟨bO, oO, rfl, hbO, hcO⟩ := Or.out.ints (by omega)
              have q0 := hcO k hlt
              rw [hi1] at q0
              have b0 := cellB Vr.out p0.out s1
              have b1 := cellB Vr.out p1.out s1
              obtain ⟨y, hy⟩ : ∃ y, (bAt bs i).l = y := ⟨_, rfl⟩
              rw [hy] at d0 hst1 hst2
              have HS1 := Lib.hid hst1
              have HS2 := Lib.hid hst2
              have hz1 : decide ((i : Int) < 0) = false := by rw [decide_eq_false_iff_not]; omega
              have hz2 : decide ((bs.length : Int) ≤ (i : Int)) = false := by rw [decide_eq_false_iff_not]; omega
              clear hcS hcO hi1 hy hst1 hst2 hym
              go_wp2_with fail
              refine contains_any aF FG cF i _ _ (by omega) FR.out ?_
              rw [hnf.out]
              intro w11 hd11
              have D11 : Hid (Below wr.heap.size wr w11) := hd11.below _
              have s11 := D11.out.size
              have X11 := Lib.hid (heap_below XR.out D11.out (by omega))
              have K11 := Lib.hid (KR.out.below D11.out)
              have F11 := Lib.hid (FR.out.below D11.out)
              have b0' := cellB D11.out b0 (by omega)
              have b1' := cellB D11.out b1 (by omega)
              have d0' := cellB D11.out d0 hbS
              have k0' := cellB D11.out k0 (by omega)
              have k1' := cellB D11.out k1 (by omega)
              have HBD : Hid (Below w11.heap.size w11 w11.drew) := (Below.refl _ _).drew
              clear hd11 b0 b1 d0 k0 k1 q0
              go_wp2_with fail
              go_region_with ((go_at_call 31; refine replace_any m a' (rpTo bs G O k) c' y _ _ (by omega) (K11.out.2) (K11.out.1.below HBD.out) hsR ?_; rw [HS1.out, HS2.out, hM.out]; intro a12 c12 w12 hb12 hs12 hf12; have U12 : Hid (Below w11.heap.size w11 w12) := HBD.out.trans (hb12.mono (Nat.le_refl _)); have X12 := Lib.hid (heap_below X11.out U12.out (by omega)); have K12 := Lib.hid hs12; have FF12 : Hid (Fresh w11.heap.size a12) := hf12; have F12 := Lib.hid (F11.out.below U12.out); have s12 := U12.out.size; have gf0 := frozen_at X12.out 0; have gf1 := frozen_at X12.out 1; have h0 := cell_at X12.out (j := 0) (v := .int .i64 m) rfl; have h1 := cell_at X12.out (j := 1) (v := .slice a' (rpTo bs G O k).length c') rfl; have e0 := cellB U12.out b0' (by omega); have e1 := cellB U12.out b1' (by omega); have e2 := cellB U12.out d0' (by omega); clear hb12 hs12 hf12))
              all_goals
                go_wp2_with fail
                have hS := (K12.out.set FF12.out (p := ⟨w8.heap.size, 0, none⟩) (by show w8.heap.size < w11.heap.size; omega) (.int .i64 m)).set FF12.out (p := ⟨w8.heap.size, 1, none⟩) (by show w8.heap.size < w11.heap.size; omega) (.slice a12 (rpTo bs G O (k + 1)).length c12)
                have hne : ∀ b o, aF = some ⟨b, o, none⟩ → w8.heap.size ≠ b := fun b o e => by have := HFB.out b o e; omega
                have hBl2 : Below w8.heap.size w8 w12 := (HB.out.trans (D11.out.mono (by omega))).trans (U12.out.mono (by omega))
                exact ⟨⟨k + 1, a12, c12, by omega, by go_num, (hBl2.setCell (p := ⟨w8.heap.size, 0, none⟩) (Nat.le_refl _) _).setCell (p := ⟨w8.heap.size, 1, none⟩) (Nat.le_refl _) _, by simp; omega, box_set2 X12.out, hS, (F12.out.setOther' (a := ⟨w8.heap.size, 0, none⟩) hne _).setOther' (a := ⟨w8.heap.size, 1, none⟩) hne _⟩, by simp [intOf]; omega⟩
            · obtain rfl : k = O.length := by omega
              obtain ⟨hE2, hO2⟩ := TK.out.again hO.out BK.out hx1
              have HE2 := Lib.hid hE2
              have HO2 := Lib.hid hO2
              have Or := Lib.hid (O8.out.below HB.out)
              have Br := Lib.hid (HB1.out.trans (Vr.out.mono (by omega)))
              clear hE2 hO2
              go_wp2_with fail
              refine takeS_any m a' (rpTo bs G O O.length) c' who x _ _ (by omega) KR.out.2 KR.out.1 hsR hw ?_
              rw [HE2.out, HO2.out]
              intro a12 c12 aM cM w12 hb12 _ hoM _ _
              have M12 := Lib.hid hoM
              have O12 := Lib.hid (Or.out.below hb12)
              have B12 := Lib.hid (Br.out.trans (hb12.mono Br.out.size))
              obtain ⟨w13, E13', HB13, t13, _⟩ := box_ex w12 #[.int .i64 (okM m 0), .slice a12 (tkB m (rpTo bs G O O.length) who x).length c12] 24
              have E13 := Lib.hid E13'
              have M13 := Lib.hid (M12.out.below HB13.out)
              have O13 := Lib.hid (O12.out.below HB13.out)
              have B13 := Lib.hid (B12.out.trans (HB13.out.mono B12.out.size))
              clear hb12 hoM E13'
              go_wp2_with fail
              rw [E13.out]
              refine same_any a6 aM O O c6 cM _ _ (by omega) (by omega) O13.out M13.out ?_
              rw [(eqL_iff O O).2 rfl]
              intro w14 hd14
              have B14 := Lib.hid (B13.out.trans (hd14.below _))
              clear hd14
              go_wp2_with fail
              refine awake_any _ _ ?_
              intro wz hbz
              have HBz := Lib.hid (B14.out.trans (hbz.mono B14.out.size))
              clear hbz
              go_wp2_with fail
              exact HR.out _ HBz.out
      · have hTT : (tkE m bs who x == 0) = false := by simpa using ht
        have hTT' : (tkE m bs who x != 0) = true := by simpa using ht
        clear ht
        go_enter Tryd.func9, Tryd.ntmps9
        go_wp2_with fail
        rw [E1.out]
        refine right51_any m ao bs c _ _ hl S1.out.1 hs ?_
        intro w2 hb2
        have B2 := Lib.hid (HB1.out.trans (hb2.mono (by omega)))
        have V2 := Lib.hid hb2
        clear hb2
        rw [HG.out]
        go_wp2_with fail
        refine name_any who _ _ hw ?_
        rw [HN.out]
        have b0 := cellB V2.out p0.out s1
        have b1 := cellB V2.out p1.out s1
        have S2 := Lib.hid (S1.out.below V2.out)
        go_wp2_with fail
        refine takeS_any m ao bs c who x _ _ (by omega) S2.out.2 S2.out.1 hs hw ?_
        intro a5 c5 a6 c6 w5 hb5 _ _ _ _
        have V5' := Lib.hid (V2.out.trans (hb5.mono V2.out.size))
        obtain ⟨W, E6, HB6, t6, _, _⟩ := box2 w5 (.int .i64 (okM m (tkE m bs who x))) (.slice a5 (tkB m bs who x).length c5) 24
        have V6 := Lib.hid (V5'.out.trans (HB6.out.mono V5'.out.size))
        have B6 := Lib.hid (HB1.out.trans (V6.out.mono (by omega)))
        clear hb5
        go_wp2_with fail
        rw [E6.out]
        refine awake_any _ _ ?_
        intro wz hbz
        have HBz := Lib.hid (B6.out.trans (hbz.mono B6.out.size))
        clear hbz
        go_wp2_with fail
        exact HR.out _ HBz.out
    · have hN1 : (namE who == 0) = false := by simpa using hn
      have hN2 : (namE who != 0) = true := by simpa using hn
      clear hn
      go_enter Tryd.func9, Tryd.ntmps9
      go_wp2_with fail
      rw [E1.out]
      refine right51_any m ao bs c _ _ hl S1.out.1 hs ?_
      intro w2 hb2
      have B2 := Lib.hid (HB1.out.trans (hb2.mono (by omega)))
      have V2 := Lib.hid hb2
      clear hb2
      rw [HG.out]
      go_wp2_with fail
      refine name_any who _ _ hw ?_
      go_wp2_with fail
      refine awake_any _ _ ?_
      intro wz hbz
      have HBz := Lib.hid (B2.out.trans (hbz.mono B2.out.size))
      clear hbz
      go_wp2_with fail
      exact HR.out _ HBz.out
end Go.Proofs.YteoniejpfmeibaaDoor
