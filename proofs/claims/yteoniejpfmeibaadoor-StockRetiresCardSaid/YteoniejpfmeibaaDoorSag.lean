/- The walk of the law StockReturns. -/
import Derived.Test.YteoniejpfmeibaaDoorSae
import Derived.Test.YteoniejpfmeibaaDoorSaf
import Derived.Test.YteoniejpfmeibaaDoorSl
namespace Go.Proofs.YteoniejpfmeibaaDoor
open Go.RowKit Go.Shelf

theorem RightS.psum_wbd {m : Int} {bs : List B5} (h : RightS m bs) (O : List Int) : ∀ k, k ≤ bs.length → 0 ≤ psum (fun i => (bAt bs i).w) O k ∧ psum (fun i => (bAt bs i).w) O k ≤ k * 100000
  | 0, _ => by simp [psum]
  | k + 1, hk => by
    have h1 := RightS.psum_wbd h O k (by omega)
    have h2 := (h.2.2 k (by omega)).1.2.1
    rw [psum]
    split
    · omega
    · omega

set_option maxRecDepth 100000 in
set_option maxHeartbeats 8000000 in
theorem lawReturns (m : Int) (ao : Option Addr) (bs : List B5) (c : Nat) (who : ByteArray) (x : Int) (w : World) (R : Ending → World → Prop)
   (hl : bs.length * 40 ≤ 140737488355328) (hb : BSl w ao c bs) (hs : StrOk bs) (hw : who.size ≤ 9223372036854775807) (hR : ∀ w', Below w.heap.size w w' → R (.returned (.bool true)) w') :
    Calls Tryd.prog 8 #[.agg #[.int .i64 m, .slice ao bs.length c], .string who, .int .i64 x] w R := by
  have HR := Lib.hid hR
  have HS0 := Lib.hid hb
  clear hR hb
  obtain ⟨w1, E1, HB1, s1, b0, b1⟩ := box2 w (.int .i64 m) (.slice ao bs.length c) 24
  have S1 := Lib.hid (HS0.out.below HB1.out)
  have p0 := Lib.hid b0
  have p1 := Lib.hid b1
  rw [← E1.out] at b0 b1
  cases hg : rgB m bs with
  | false =>
    have HG := Lib.hid hg
    clear hg
    go_enter Tryd.func8, Tryd.ntmps8
    go_wp2_with fail
    rw [E1.out]
    refine right51_any m ao bs c _ _ hl S1.out.1 hs ?_
    intro w2 hb2
    have B2 := Lib.hid (HB1.out.trans (hb2.mono (by omega)))
    have V2 := Lib.hid hb2
    clear hb2
    rw [HG.out]
    go_wp2_with fail
    refine awake_any _ _ ?_
    intro wz hbz
    have HBz := Lib.hid (B2.out.trans (hbz.mono B2.out.size))
    clear hbz
    go_wp2_with fail
    exact HR.out _ HBz.out
  | true =>
    have HG := Lib.hid hg
    obtain ⟨h8, hRS⟩ := rgB_iff.1 hg
    have hchk : chkS m bs = 0 := (chkS_zero _ _).2 hRS
    clear hg
    by_cases hn : namE who = 0
    · have HN := Lib.hid hn
      have HK := Lib.hid hchk
      have HRS := Lib.hid hRS
      clear hn hchk hRS
      by_cases ht : tkE m bs who x = 0
      · have HT := Lib.hid ht
        have TK := Lib.hid (took ht)
        clear ht
        obtain ⟨B, hB⟩ : ∃ B, Hid (tkB m bs who x = B) := ⟨_, rfl⟩
        obtain ⟨O, hO⟩ : ∃ O, Hid (tkO m bs who x = O) := ⟨_, rfl⟩
        rw [hB.out, hO.out] at TK
        have hM : Hid (okM m 0 = m) := rfl
        have HBB : Hid (B.length = bs.length) := TK.out.len
        have hBl : B.length ≤ 8 := by have := TK.out.len; omega
        have hOl : O.length ≤ 8 := by have h1 := TK.out.fewl; have h2 := fewL_length' (tkSet m bs) x; have h3 : (tkSet m bs).length ≤ bs.length := Nat.le_trans (Nat.le_of_eq (lensTo_length _ _ _)) (pickTo_length _ _ _); omega
        have hsB : StrOk B := by
          intro i hi
          rw [TK.out.at1 i]
          split
          · exact hw
          · exact hs i (by have := TK.out.len; omega)
        obtain ⟨N, hN⟩ : ∃ N, Hid (devN m B who = N) := ⟨_, rfl⟩
        have hDE : Hid (devE m B who = 0) := TK.out.dev.1
        have hDN : Hid (psum (fun i => (bAt bs i).w) O bs.length = N) := by rw [← hN.out]; exact TK.out.dev.2.symm
        by_cases hre : rtE m B who 0 = 11
        · have HRE := Lib.hid hre
          clear hre
          go_enter Tryd.func8, Tryd.ntmps8
          go_wp2_with fail
          rw [E1.out]
          refine right51_any m ao bs c _ _ hl S1.out.1 hs ?_
          intro w2 hb2
          have B2 := Lib.hid (HB1.out.trans (hb2.mono (by omega)))
          have V2 := Lib.hid hb2
          clear hb2
          rw [HG.out]
          go_wp2_with fail
          refine name_any who _ _ hw ?_
          rw [HN.out]
          have b0 := cellB V2.out p0.out s1
          have b1 := cellB V2.out p1.out s1
          have S2 := Lib.hid (S1.out.below V2.out)
          go_wp2_with fail
          refine takeS_any m ao bs c who x _ _ (by omega) S2.out.2 S2.out.1 hs hw ?_
          rw [hB.out, hO.out, HT.out, hM.out]
          intro a5 c5 a6 c6 w5 hb5 hs5 ho5 _ _
          have V5' := Lib.hid (V2.out.trans (hb5.mono V2.out.size))
          obtain ⟨W, E6, HB6, t6, n0', n1'⟩ := box2 w5 (.int .i64 m) (.slice a5 B.length c5) 24
          have n0 := Lib.hid n0'
          have n1 := Lib.hid n1'
          have V6 := Lib.hid (V5'.out.trans (HB6.out.mono V5'.out.size))
          have D6 := Lib.hid (hs5.below HB6.out)
          have O6 := Lib.hid (ho5.below HB6.out)
          have S6 := Lib.hid (S1.out.below V6.out)
          clear b0 b1
          rw [← E6.out] at n0' n1'
          clear hb5 hs5 ho5
          go_wp2_with fail
          rw [E6.out]
          refine devS_any m a5 B c5 who _ _ (by omega) D6.out.2 D6.out.1 hsB hw ?_
          rw [hN.out, hDE.out]
          intro w7 hb7
          have U7 := Lib.hid hb7
          have V7 := Lib.hid (V6.out.trans (hb7.mono V6.out.size))
          have D7 := Lib.hid (D6.out.below hb7)
          have O7 := Lib.hid (O6.out.below hb7)
          clear n0' n1'
          have n0' := cellB U7.out n0.out t6
          have n1' := cellB U7.out n1.out t6
          clear hb7
          go_wp2_with fail
          refine returnS_any m a5 B c5 who 0 _ _ (by omega) D7.out.2 D7.out.1 hsB hw ?_
          rw [HRE.out]
          intro a8 c8 w8 hb8 _ _
          have V8' := Lib.hid (V7.out.trans (hb8.mono V7.out.size))
          obtain ⟨W9, E9, HB9, t9, _, _⟩ := box2 w8 (.int .i64 (okM m 11)) (.slice a8 (rtB m B who 0).length c8) 24
          have V9 := Lib.hid (V8'.out.trans (HB9.out.mono V8'.out.size))
          have B9 := Lib.hid (HB1.out.trans (V9.out.mono (by omega)))
          clear hb8
          go_wp2_with fail
          rw [E9.out]
          refine awake_any _ _ ?_
          intro wz hbz
          have HBz := Lib.hid (B9.out.trans (hbz.mono B9.out.size))
          clear hbz
          go_wp2_with fail
          exact HR.out _ HBz.out
        · obtain ⟨G, BK, hre, hgb⟩ : ∃ G, Hid (Back B G O 0) ∧ Hid (rtE m B who 0 = 0) ∧ Hid (rtB m B who 0 = G) := by
            rcases TK.out.ret (x := 0) (by omega) with ⟨G, h1, h2, h3⟩ | h
            · exact ⟨G, h1, h2, h3⟩
            · exact absurd h hre
          have HGB : Hid (G.length = bs.length) := BK.out.len.trans HBB.out
          have hGl : G.length ≤ 8 := by have := HGB.out; omega
          have HRE := hre
          clear hre
          go_enter Tryd.func8, Tryd.ntmps8
          go_wp2_with fail
          rw [E1.out]
          refine right51_any m ao bs c _ _ hl S1.out.1 hs ?_
          intro w2 hb2
          have B2 := Lib.hid (HB1.out.trans (hb2.mono (by omega)))
          have V2 := Lib.hid hb2
          clear hb2
          rw [HG.out]
          go_wp2_with fail
          refine name_any who _ _ hw ?_
          rw [HN.out]
          have b0 := cellB V2.out p0.out s1
          have b1 := cellB V2.out p1.out s1
          have S2 := Lib.hid (S1.out.below V2.out)
          go_wp2_with fail
          refine takeS_any m ao bs c who x _ _ (by omega) S2.out.2 S2.out.1 hs hw ?_
          rw [hB.out, hO.out, HT.out, hM.out]
          intro a5 c5 a6 c6 w5 hb5 hs5 ho5 _ _
          have V5' := Lib.hid (V2.out.trans (hb5.mono V2.out.size))
          obtain ⟨W, E6, HB6, t6, n0', n1'⟩ := box2 w5 (.int .i64 m) (.slice a5 B.length c5) 24
          have n0 := Lib.hid n0'
          have n1 := Lib.hid n1'
          have V6 := Lib.hid (V5'.out.trans (HB6.out.mono V5'.out.size))
          have D6 := Lib.hid (hs5.below HB6.out)
          have O6 := Lib.hid (ho5.below HB6.out)
          have S6 := Lib.hid (S1.out.below V6.out)
          clear b0 b1
          rw [← E6.out] at n0' n1'
          clear hb5 hs5 ho5
          go_wp2_with fail
          rw [E6.out]
          refine devS_any m a5 B c5 who _ _ (by omega) D6.out.2 D6.out.1 hsB hw ?_
          rw [hN.out, hDE.out]
          intro w7 hb7
          have U7 := Lib.hid hb7
          have V7 := Lib.hid (V6.out.trans (hb7.mono V6.out.size))
          have D7 := Lib.hid (D6.out.below hb7)
          have O7 := Lib.hid (O6.out.below hb7)
          clear n0' n1'
          have n0' := cellB U7.out n0.out t6
          have n1' := cellB U7.out n1.out t6
          clear hb7
          go_wp2_with fail
          refine returnS_any m a5 B c5 who 0 _ _ (by omega) D7.out.2 D7.out.1 hsB hw ?_
          rw [HRE.out, hgb.out, hM.out]
          intro a8 c8 w8 hb8 hs8 _
          have V8' := Lib.hid (V7.out.trans (hb8.mono V7.out.size))
          obtain ⟨W9, E9, HB9, t9, k0', k1'⟩ := box2 w8 (.int .i64 m) (.slice a8 G.length c8) 24
          have V9 := Lib.hid (V8'.out.trans (HB9.out.mono V8'.out.size))
          have B9 := Lib.hid (HB1.out.trans (V9.out.mono (by omega)))
          have K9 := Lib.hid (hs8.below HB9.out)
          have O9 := Lib.hid ((O7.out.below hb8).below HB9.out)
          have hGG' : ((G.length : Int) == (bs.length : Int)) = true := by rw [HGB.out]; simp
          have hGG'' : ((G.length : Int) != (bs.length : Int)) = false := by rw [HGB.out]; simp
          have b0 := cellB V9.out p0.out s1
          have b1 := cellB V9.out p1.out s1
          rw [← E9.out] at b0 b1 k0' k1'
          clear hb8 hs8
          have hq := neqBlkS
          go_wp2_with fail
          rw [E9.out]
          go_loopw [71, 13] (fun i sm wr => ∃ k : Nat, k ≤ G.length ∧ i = .int .i64 k ∧ sm = .int .i64 (psum (fun i => (bAt bs i).w) O k) ∧ Hid (Below W9.heap.size W9 wr)) (fun i _ _ => G.length - (intOf i).toNat)
          case atStart => exact ⟨0, Nat.zero_le _, rfl, rfl, Below.refl _ _⟩
          case round =>
            obtain ⟨k, hk, rfl, rfl, HB⟩ := hrel
            have hkb : k ≤ bs.length := by have := HGB.out; omega
            have Vr := Lib.hid (V9.out.trans (HB.out.mono V9.out.size))
            have sr := HB.out.size
            have szr := Vr.out.size
            clear b0 b1 k0' k1'
            by_cases hlt : k < G.length
            · have Sr := Lib.hid (S1.out.below Vr.out)
              have hltb : k < bs.length := by have := HGB.out; omega
              have Kr := Lib.hid (K9.out.below HB.out)
              have Or := Lib.hid (O9.out.below HB.out)
              have hat := TK.out.at1 k
              have hgat := BK.out.at1 k
              have hpd : psum (fun i => (bAt bs i).w) O (k + 1) = psum (fun i => (bAt bs i).w) O k + if (k : Int) ∈ O then (bAt bs k).w else 0 := rfl
              have hbd := HRS.out.psum_wbd O k (by omega)
              have hlb := (HRS.out.2.2 k (by omega)).1.2.1
              have hub := (HRS.out.2.2 k (by omega)).1.2.2.1
              obtain ⟨⟨ol, ow, ou, oh⟩, hob⟩ : ∃ b, bAt bs k = b := ⟨_, rfl⟩
              obtain ⟨bS, oS, rfl, hbS, hcS⟩ := Sr.out.1.blks (by omega)
              obtain ⟨d0, d1, d2, d3⟩ := hcS k (by omega)
              obtain ⟨bB, oB, rfl, hbB, hcB⟩ := Kr.out.1.blks (by omega)
              obtain ⟨c0, c1, c2, c3⟩ := hcB k hlt
              rw [hob] at hat hpd hlb hub d0 d1 d2 d3
              have HOB := Lib.hid hob
              have b0 := cellB Vr.out p0.out s1
              have b1 := cellB Vr.out p1.out s1
              obtain ⟨P, hP⟩ : ∃ P, psum (fun i => (bAt bs i).w) O k = P := ⟨_, rfl⟩
              obtain ⟨Q, hQ⟩ : ∃ Q, psum (fun i => (bAt bs i).w) O (k + 1) = Q := ⟨_, rfl⟩
              rw [hP] at hbd hpd ⊢
              rw [hQ] at hpd
              have HQ := Lib.hid hQ
              simp only at hlb hub hpd d0 d1 d2 d3
              clear hcS hcB hob hQ
              by_cases hm : (k : Int) ∈ O
              · rw [if_pos hm] at hat hpd hgat
                have hwz : wrap64 (ow + 0) = ow := by unfold wrap64; omega
                have huz : wrap64 (ou + 1) = ou + 1 := by unfold wrap64; omega
                rw [hat] at hgat
                simp only [hwz, huz] at hgat
                clear hwz huz
                obtain rfl : oh = ⟨#[]⟩ := by
                  obtain ⟨i, e1, _, h3⟩ := TK.out.mem _ hm
                  obtain rfl : k = i := by omega
                  obtain ⟨i, _, e2, h4⟩ := (pickTo_mem _).1 h3
                  obtain rfl : k = i := by omega
                  rw [HOB.out] at h4
                  exact bytes_nil (freeP_iff.1 h4).1
                obtain ⟨q, hq1⟩ : ∃ q, ou + 1 = q := ⟨_, rfl⟩
                rw [hq1] at hgat
                rw [hgat] at c0 c1 c2 c3
                simp only at c0 c1 c2 c3
                have HM : Hid (decide ((k : Int) ∈ O) = true) := decide_eq_true hm
                have HPD : Hid (Q = P + ow) := hpd
                have hqq : wrap64 (q - 1) = ou := by unfold wrap64; omega
                have hqq2 : q - 1 = ou := by omega
                have hww : wrap64 (P + ow) = Q := by rw [hpd]; unfold wrap64; omega
                have HQ1 := Lib.hid hq1
                obtain ⟨w8', E8', HB8, s8, X8⟩ := box_ex wr #[.int .i64 ol, .int .i64 ow, .int .i64 q, .string ⟨#[]⟩] 66
                have E8 := Lib.hid E8'
                clear hat hpd hm E8' hgat hq1
                go_wp2_with fail
                rw [E8.out]
                refine contains_any a6 O c6 k _ _ (by omega) (Or.out.below HB8.out) ?_
                rw [HM.out]
                intro w11 hd11
                have D11 : Hid (Below w8'.heap.size w8' w11) := hd11.below _
                have Y11 := Lib.hid (heap_below X8.out D11.out (by omega))
                have s11 := D11.out.size
                obtain ⟨w12, E12⟩ : ∃ w12, Hid (w11.setCell ⟨wr.heap.size, 2, none⟩ (.int .i64 ou) = w12) := ⟨_, rfl⟩
                have X12 : Hid (w12.heap[wr.heap.size]? = some (.cells #[.int .i64 ol, .int .i64 ow, .int .i64 ou, .string ⟨#[]⟩] 66 (0, 0))) := by unfold Hid; rw [← E12.out]; exact heap_setCell_same _ _ 2 _ _ _ Y11.out
                have B12 : Hid (Below wr.heap.size wr w12) := by rw [← E12.out]; exact (HB8.out.trans (D11.out.mono (by omega))).setCell (p := ⟨wr.heap.size, 2, none⟩) (Nat.le_refl _) _
                clear hd11
                have g1 := cell_at Y11.out (j := 1) (v := .int .i64 ow) rfl
                have g2 := cell_at Y11.out (j := 2) (v := .int .i64 q) rfl
                have gf := frozen_at Y11.out 2
                have r0 := cell_at X12.out (j := 0) (v := .int .i64 ol) rfl
                have r1 := cell_at X12.out (j := 1) (v := .int .i64 ow) rfl
                have r2 := cell_at X12.out (j := 2) (v := .int .i64 ou) rfl
                have r3 := cell_at X12.out (j := 3) (v := .string ⟨#[]⟩) rfl
                have e1 := cellB B12.out b1 (by omega)
                have f0 := cellB B12.out d0 hbS
                have f1 := cellB B12.out d1 hbS
                have f2 := cellB B12.out d2 hbS
                have f3 := cellB B12.out d3 hbS
                rw [← E12.out] at r0 r1 r2 r3 e1 f0 f1 f2 f3
                clear b0 b1 d0 d1 d2 d3 c0 c1 c2 c3
                go_wp2_with fail
                rw [E12.out] at r0 r1 r2 r3 e1 f0 f1 f2 f3 ⊢
                go_quiet (fail)
                go_wp2_with fail
                exact ⟨⟨k + 1, by omega, by go_num, by rw [HQ.out, HPD.out], (HB.out.trans (B12.out.mono sr)).trans ((by repeat first | exact Drew.refl _ | apply Drew.drewN : Drew _ _).below _)⟩, by simp [intOf]; omega⟩
              · rw [if_neg hm] at hat hpd hgat
                rw [hat] at hgat
                rw [hgat] at c0 c1 c2 c3
                simp only at c0 c1 c2 c3
                have HM : Hid (decide ((k : Int) ∈ O) = false) := decide_eq_false hm
                have HPD : Hid (Q = P) := by unfold Hid; omega
                obtain ⟨w8', E8', HB8, s8, X8⟩ := box_ex wr #[.int .i64 ol, .int .i64 ow, .int .i64 ou, .string oh] 66
                have E8 := Lib.hid E8'
                clear hat hpd hm E8' hgat
                go_wp2_with fail
                rw [E8.out]
                refine contains_any a6 O c6 k _ _ (by omega) (Or.out.below HB8.out) ?_
                rw [HM.out]
                intro w11 hd11
                have D11 : Hid (Below w8'.heap.size w8' w11) := hd11.below _
                have Y11 := Lib.hid (heap_below X8.out D11.out (by omega))
                have s11 := D11.out.size
                have B12 : Hid (Below wr.heap.size wr w11) := HB8.out.trans (D11.out.mono (by omega))
                clear hd11
                have r0 := cell_at Y11.out (j := 0) (v := .int .i64 ol) rfl
                have r1 := cell_at Y11.out (j := 1) (v := .int .i64 ow) rfl
                have r2 := cell_at Y11.out (j := 2) (v := .int .i64 ou) rfl
                have r3 := cell_at Y11.out (j := 3) (v := .string oh) rfl
                have e1 := cellB B12.out b1 (by omega)
                have f0 := cellB B12.out d0 hbS
                have f1 := cellB B12.out d1 hbS
                have f2 := cellB B12.out d2 hbS
                have f3 := cellB B12.out d3 hbS
                clear b0 b1 d0 d1 d2 d3 c0 c1 c2 c3
                go_wp2_with fail
                go_quiet (fail)
                go_wp2_with fail
                exact ⟨⟨k + 1, by omega, by go_num, by rw [HQ.out, HPD.out], (HB.out.trans (B12.out.mono sr)).trans ((by repeat first | exact Drew.refl _ | apply Drew.drewN : Drew _ _).below _)⟩, by simp [intOf]; omega⟩
            · obtain rfl : k = G.length := by omega
              have hsum : psum (fun i => (bAt bs i).w) O G.length = N := by rw [HGB.out]; exact hDN.out
              rw [hsum]
              clear hsum
              have Br := Lib.hid (HB1.out.trans (Vr.out.mono (by omega)))
              go_wp2_with fail
              refine awake_any _ _ ?_
              intro wz hbz
              have HBz := Lib.hid (Br.out.trans (hbz.mono Br.out.size))
              clear hbz
              go_wp2_with fail
              exact HR.out _ HBz.out
      · have hTT : (tkE m bs who x == 0) = false := by simpa using ht
        have hTT' : (tkE m bs who x != 0) = true := by simpa using ht
        clear ht
        go_enter Tryd.func8, Tryd.ntmps8
        go_wp2_with fail
        rw [E1.out]
        refine right51_any m ao bs c _ _ hl S1.out.1 hs ?_
        intro w2 hb2
        have B2 := Lib.hid (HB1.out.trans (hb2.mono (by omega)))
        have V2 := Lib.hid hb2
        clear hb2
        rw [HG.out]
        go_wp2_with fail
        refine name_any who _ _ hw ?_
        rw [HN.out]
        have b0 := cellB V2.out p0.out s1
        have b1 := cellB V2.out p1.out s1
        have S2 := Lib.hid (S1.out.below V2.out)
        go_wp2_with fail
        refine takeS_any m ao bs c who x _ _ (by omega) S2.out.2 S2.out.1 hs hw ?_
        intro a5 c5 a6 c6 w5 hb5 _ _ _ _
        have V5' := Lib.hid (V2.out.trans (hb5.mono V2.out.size))
        obtain ⟨W, E6, HB6, t6, _, _⟩ := box2 w5 (.int .i64 (okM m (tkE m bs who x))) (.slice a5 (tkB m bs who x).length c5) 24
        have V6 := Lib.hid (V5'.out.trans (HB6.out.mono V5'.out.size))
        have B6 := Lib.hid (HB1.out.trans (V6.out.mono (by omega)))
        clear hb5
        go_wp2_with fail
        rw [E6.out]
        refine awake_any _ _ ?_
        intro wz hbz
        have HBz := Lib.hid (B6.out.trans (hbz.mono B6.out.size))
        clear hbz
        go_wp2_with fail
        exact HR.out _ HBz.out
    · have hN1 : (namE who == 0) = false := by simpa using hn
      have hN2 : (namE who != 0) = true := by simpa using hn
      clear hn
      go_enter Tryd.func8, Tryd.ntmps8
      go_wp2_with fail
      rw [E1.out]
      refine right51_any m ao bs c _ _ hl S1.out.1 hs ?_
      intro w2 hb2
      have B2 := Lib.hid (HB1.out.trans (hb2.mono (by omega)))
      have V2 := Lib.hid hb2
      clear hb2
      rw [HG.out]
      go_wp2_with fail
      refine name_any who _ _ hw ?_
      go_wp2_with fail
      refine awake_any _ _ ?_
      intro wz hbz
      have HBz := Lib.hid (B2.out.trans (hbz.mono B2.out.size))
      clear hbz
      go_wp2_with fail
      exact HR.out _ HBz.out
end Go.Proofs.YteoniejpfmeibaaDoor
