/- The walk of the law StockCounts. -/
import Derived.Test.YteoniejpfmeibaaDoorSad
import Derived.Test.YteoniejpfmeibaaDoorSal
import Derived.Test.YteoniejpfmeibaaDoorSp
namespace Go.Proofs.YteoniejpfmeibaaDoor
open Go.RowKit Go.Shelf

set_option maxRecDepth 100000 in
set_option maxHeartbeats 8000000 in
theorem lawCounts (m : Int) (ao : Option Addr) (bs : List B5) (c : Nat) (ae : Option Addr) (vs : List V5) (ce : Nat) (w : World) (R : Ending → World → Prop)
   (hl : bs.length * 40 ≤ 140737488355328) (hb : BSl w ao c bs) (hs : StrOk bs) (hvl : vs.length * 40 ≤ 140737488355328) (hv : CellsAt w ae (vC vs)) (hvw : WhoOk vs) (hR : ∀ w', Below w.heap.size w w' → R (.returned (.bool true)) w') :
    Calls Tryd.prog 11 #[.agg #[.int .i64 m, .slice ao bs.length c], .slice ae vs.length ce] w R := by
  have HR := Lib.hid hR
  have HS0 := Lib.hid hb
  have HV0 := Lib.hid hv
  clear hR hb hv
  obtain ⟨w1, E1, HB1, s1, b0, b1⟩ := box2 w (.int .i64 m) (.slice ao bs.length c) 24
  have S1 := Lib.hid (HS0.out.below HB1.out)
  have L1 := Lib.hid (HV0.out.below HB1.out)
  have p0 := Lib.hid b0
  have p1 := Lib.hid b1
  clear b0 b1
  cases hg : rgB m bs with
  | false =>
    have HG := Lib.hid hg
    clear hg
    go_enter Tryd.func11, Tryd.ntmps11
    go_wp2_with fail
    rw [E1.out]
    refine right51_any m ao bs c _ _ hl S1.out.1 hs ?_
    rw [HG.out]
    intro w2 hb2
    have B2 := Lib.hid (HB1.out.trans (hb2.mono (by omega)))
    have V2 := Lib.hid hb2
    clear hb2
    go_wp2_with fail
    refine awake_any _ _ ?_
    intro wz hbz
    have HBz := Lib.hid (B2.out.trans (hbz.mono B2.out.size))
    clear hbz
    go_wp2_with fail
    exact HR.out _ HBz.out
  | true =>
    have HG := Lib.hid hg
    obtain ⟨h8, hRS⟩ := rgB_iff.1 hg
    clear hg
    by_cases h24 : 24 < vs.length
    · have h24' : decide ((24 : Int) < (vs.length : Int)) = true := by rw [decide_eq_true_eq]; omega
      go_enter Tryd.func11, Tryd.ntmps11
      go_wp2_with fail
      rw [E1.out]
      refine right51_any m ao bs c _ _ hl S1.out.1 hs ?_
      rw [HG.out]
      intro w2 hb2
      have B2 := Lib.hid (HB1.out.trans (hb2.mono (by omega)))
      have V2 := Lib.hid hb2
      clear hb2
      go_wp2_with fail
      refine awake_any _ _ ?_
      intro wz hbz
      have HBz := Lib.hid (B2.out.trans (hbz.mono B2.out.size))
      clear hbz
      go_wp2_with fail
      exact HR.out _ HBz.out
    · have h24' : decide ((24 : Int) < (vs.length : Int)) = false := by rw [decide_eq_false_iff_not]; omega
      by_cases he : rnE m bs vs = 0
      · have HE := Lib.hid he
        have KK := Lib.hid (rn_kin he)
        obtain ⟨B, hB⟩ : ∃ B, Hid (rnB m bs vs = B) := ⟨_, rfl⟩
        rw [hB.out] at KK
        clear he
        have hM : Hid (okM m 0 = m) := rfl
        have HBB : Hid (B.length = bs.length) := KK.out.len
        have hBl : B.length ≤ 8 := by have := HBB.out; omega
        have hsB : StrOk B := KK.out.right.strOk
        have hKB : Hid (chkS m B = 0) := (chkS_zero _ _).2 KK.out.right
        obtain ⟨FL, hFL⟩ : ∃ FL, Hid (pickL (freeP m) B = FL) := ⟨_, rfl⟩
        have hfr : Hid (frL m B = FL) := by unfold Hid frL; rw [if_pos hKB.out]; exact hFL.out
        have hFl : FL.length ≤ 8 := by rw [← hFL.out]; exact Nat.le_trans (pickTo_length _ _ _) hBl
        have hBB' : ((B.length : Int) == (bs.length : Int)) = true := by rw [HBB.out]; simp
        have hBB'' : ((B.length : Int) != (bs.length : Int)) = false := by rw [HBB.out]; simp
        have hmm1 : (m == m) = true := by simp
        have hmm2 : (m != m) = false := by simp
        go_enter Tryd.func11, Tryd.ntmps11
        go_wp2_with fail
        rw [E1.out]
        refine right51_any m ao bs c _ _ hl S1.out.1 hs ?_
        rw [HG.out]
        intro w2 hb2
        have B2 := Lib.hid (HB1.out.trans (hb2.mono (by omega)))
        have V2 := Lib.hid hb2
        clear hb2
        have b0 := cellB V2.out p0.out s1
        have b1 := cellB V2.out p1.out s1
        go_wp2_with fail
        have S2 := Lib.hid (S1.out.below V2.out)
        have L2 := Lib.hid (L1.out.below V2.out)
        have b0 := cellB V2.out p0.out s1
        have b1 := cellB V2.out p1.out s1
        refine run_any m ao bs c ae vs ce _ _ (by omega) S2.out.2 S2.out.1 hs (by omega) L2.out hvw ?_
        rw [hB.out, HE.out, hM.out]
        intro a5 c5 w5 hb5 hs5 _
        have V5' := Lib.hid (V2.out.trans (hb5.mono V2.out.size))
        obtain ⟨W, E6, HB6, t6, n0', n1'⟩ := box2 w5 (.int .i64 m) (.slice a5 B.length c5) 24
        have n0 := Lib.hid n0'
        have n1 := Lib.hid n1'
        have V6 := Lib.hid (V5'.out.trans (HB6.out.mono V5'.out.size))
        have D6 := Lib.hid (hs5.below HB6.out)
        clear b0 b1
        have b0 := cellB V6.out p0.out s1
        have b1 := cellB V6.out p1.out s1
        rw [← E6.out] at b0 b1 n0' n1'
        clear hb5 hs5
        go_wp2_with fail
        rw [E6.out]
        refine freeS_any m a5 B c5 _ _ (by omega) D6.out.2 D6.out.1 hsB ?_
        rw [hfr.out, hKB.out]
        intro vF w7 hb7 ho7
        obtain ⟨aF, cF, rfl, rF, _⟩ := ho7.read
        have U7 := Lib.hid hb7
        have V7 := Lib.hid (V6.out.trans (hb7.mono V6.out.size))
        have F7 := Lib.hid rF
        have D7 := Lib.hid (D6.out.below hb7)
        clear b0 b1 n0' n1' hb7 ho7 rF
        have b0 := cellB V7.out p0.out s1
        have b1 := cellB V7.out p1.out s1
        have n0' := cellB U7.out n0.out t6
        have n1' := cellB U7.out n1.out t6
        go_wp2_with fail
        refine check51_any m a5 B c5 _ _ (by omega) D7.out.1 hsB ?_
        rw [hKB.out]
        intro w8 hb8
        have U8 := Lib.hid (U7.out.trans (hb8.mono U7.out.size))
        have V8 := Lib.hid (V7.out.trans (hb8.mono V7.out.size))
        have D8 := Lib.hid (D7.out.below hb8)
        have F8 := Lib.hid (F7.out.below hb8)
        clear b0 b1 n0' n1' hb8
        have b0 := cellB V8.out p0.out s1
        have b1 := cellB V8.out p1.out s1
        have n0' := cellB U8.out n0.out t6
        have n1' := cellB U8.out n1.out t6
        go_wp2_with fail
        go_loopw [65, 10] (fun i sm wr => ∃ k : Nat, k ≤ B.length ∧ i = .int .i64 k ∧ sm = .int .i64 ((pickTo (freeP m) B k).length : Int) ∧ Hid (Below w8.heap.size w8 wr)) (fun i _ _ => B.length - (intOf i).toNat)
        case atStart => exact ⟨0, Nat.zero_le _, rfl, rfl, Below.refl _ _⟩
        case round =>
          obtain ⟨k, hk, rfl, rfl, HB⟩ := hrel
          have Vr := Lib.hid (V8.out.trans (HB.out.mono V8.out.size))
          have Ur := Lib.hid (U8.out.trans (HB.out.mono U8.out.size))
          have sr := HB.out.size
          have szr := Vr.out.size
          have zu := Ur.out.size
          have hpl := pickTo_length (freeP m) B k
          clear b0 b1 n0' n1'
          by_cases hlt : k < B.length
          · have hltb : k < bs.length := by have := HBB.out; omega
            have Sr := Lib.hid (S1.out.below Vr.out)
            have Dr := Lib.hid (D8.out.below HB.out)
            have Fr := Lib.hid (F8.out.below HB.out)
            obtain ⟨bS, oS, rfl, hbS, hcS⟩ := Sr.out.1.blks (by omega)
            obtain ⟨d0, _, _, _⟩ := hcS k hltb
            obtain ⟨bB, oB, rfl, hbB, hcB⟩ := Dr.out.1.blks (by omega)
            obtain ⟨c0, c1, c2, c3⟩ := hcB k hlt
            have hll := KK.out.lens k hltb
            have hok := (KK.out.right.2.2 k hlt).1.2.2.2.2
            obtain ⟨⟨ol, ow, ou, oh⟩, hob'⟩ : ∃ b, bAt B k = b := ⟨_, rfl⟩
            have hob := Lib.hid hob'
            rw [hob'] at hll hok c0 c1 c2 c3
            rw [← hll] at d0
            simp only at d0 hok c0 c1 c2 c3
            obtain ⟨w9, E9', HB9, s9, X9⟩ := box_ex wr #[.int .i64 ol, .int .i64 ow, .int .i64 ou, .string oh] 66
            have E9 := Lib.hid E9'
            have x0 := cell_at X9.out (j := 0) (v := .int .i64 ol) rfl
            have x1 := cell_at X9.out (j := 1) (v := .int .i64 ow) rfl
            have x3 := cell_at X9.out (j := 3) (v := .string oh) rfl
            have e1 := cellB HB9.out (cellB Vr.out p1.out s1) (by omega)
            have f0 := cellB HB9.out d0 hbS
            have g0 := cellB HB9.out (cellB Ur.out n0.out t6) (by omega)
            rw [← E9.out] at x0 x1 x3 e1 f0 g0
            clear hcS hcB hll hob' E9'
            by_cases hh : oh.size = 0
            · by_cases hr : ow ≤ m
              · have hcnt : Hid ((pickTo (freeP m) B (k + 1)).length = (pickTo (freeP m) B k).length + 1) := by unfold Hid; rw [pickTo, hob.out, if_pos (freeP_yes hh hr), List.length_append]; rfl
                have hin : Hid (decide ((k : Int) ∈ FL) = true) := decide_eq_true (by rw [← hFL.out]; exact (pickTo_mem _).2 ⟨k, hlt, rfl, by rw [hob.out]; exact freeP_yes hh hr⟩)
                have q1 : oh.toList.isEmpty = true := empty_of hh
                have q4 : decide (m < ow) = false := by rw [decide_eq_false_iff_not]; omega
                go_wp2_with fail
                go_quiet (fail)
                go_wp2_with fail
                go_quiet (fail)
                go_wp2_with fail
                refine contains_any aF FL cF k _ _ (by omega) (Fr.out.below (Below.trans ((Below.refl _ _).alloc (Nat.le_refl _) _) ((by repeat first | exact Drew.refl _ | apply Drew.drewN : Drew _ _).below _))) ?_
                rw [hin.out]
                intro w10 hd10
                have D10 : Hid (Below w8.heap.size w8 w10) := ((HB.out.alloc sr _).trans ((by repeat first | exact Drew.refl _ | apply Drew.drewN : Drew _ _).below _)).trans (hd10.below _)
                clear hd10
                go_wp2_with fail
                exact ⟨⟨k + 1, by omega, by go_num, by rw [hcnt.out]; simp, D10⟩, by simp [intOf]; omega⟩
              · have hcnt : Hid ((pickTo (freeP m) B (k + 1)).length = (pickTo (freeP m) B k).length) := by unfold Hid; rw [pickTo, hob.out, if_neg (by rw [freeP_no2 hr]; simp), List.append_nil]
                have q1 : oh.toList.isEmpty = true := empty_of hh
                have q4 : decide (m < ow) = true := by rw [decide_eq_true_eq]; omega
                go_wp2_with fail
                go_quiet (fail)
                go_wp2_with fail
                go_quiet (fail)
                go_wp2_with fail
                exact ⟨⟨k + 1, by omega, by go_num, by rw [hcnt.out], (HB.out.alloc sr _).trans ((by repeat first | exact Drew.refl _ | apply Drew.drewN : Drew _ _).below _)⟩, by simp [intOf]; omega⟩
            · have hcnt : Hid ((pickTo (freeP m) B (k + 1)).length = (pickTo (freeP m) B k).length) := by unfold Hid; rw [pickTo, hob.out, if_neg (by rw [freeP_no hh]; simp), List.append_nil]
              have q1 : oh.toList.isEmpty = false := nempty_of hh
              have q4 : decide (m < ow) = false := by rw [decide_eq_false_iff_not]; exact fun h => hh (hok h)
              go_wp2_with fail
              go_quiet (fail)
              go_wp2_with fail
              go_quiet (fail)
              go_wp2_with fail
              exact ⟨⟨k + 1, by omega, by go_num, by rw [hcnt.out], (HB.out.alloc sr _).trans ((by repeat first | exact Drew.refl _ | apply Drew.drewN : Drew _ _).below _)⟩, by simp [intOf]; omega⟩
          · obtain rfl : k = B.length := by omega
            have hfl : pickTo (freeP m) B B.length = FL := hFL.out
            rw [hfl]
            have Br := Lib.hid (HB1.out.trans (Vr.out.mono (by omega)))
            clear hfl
            go_wp2_with fail
            refine awake_any _ _ ?_
            intro wz hbz
            have HBz := Lib.hid (Br.out.trans (hbz.mono Br.out.size))
            clear hbz
            go_wp2_with fail
            exact HR.out _ HBz.out
      · have he1 : (rnE m bs vs == 0) = false := by simpa using he
        have he2 : (rnE m bs vs != 0) = true := by simpa using he
        clear he
        go_enter Tryd.func11, Tryd.ntmps11
        go_wp2_with fail
        rw [E1.out]
        refine right51_any m ao bs c _ _ hl S1.out.1 hs ?_
        rw [HG.out]
        intro w2 hb2
        have B2 := Lib.hid (HB1.out.trans (hb2.mono (by omega)))
        have V2 := Lib.hid hb2
        clear hb2
        have b0 := cellB V2.out p0.out s1
        have b1 := cellB V2.out p1.out s1
        go_wp2_with fail
        have S2 := Lib.hid (S1.out.below V2.out)
        have L2 := Lib.hid (L1.out.below V2.out)
        have b0 := cellB V2.out p0.out s1
        have b1 := cellB V2.out p1.out s1
        refine run_any m ao bs c ae vs ce _ _ (by omega) S2.out.2 S2.out.1 hs (by omega) L2.out hvw ?_
        intro a5 c5 w5 hb5 _ _
        have V5' := Lib.hid (V2.out.trans (hb5.mono V2.out.size))
        obtain ⟨W, E6, HB6, t6, _, _⟩ := box2 w5 (.int .i64 (okM m (rnE m bs vs))) (.slice a5 (rnB m bs vs).length c5) 24
        have V6 := Lib.hid (V5'.out.trans (HB6.out.mono V5'.out.size))
        have B6 := Lib.hid (HB1.out.trans (V6.out.mono (by omega)))
        clear hb5
        go_wp2_with fail
        rw [E6.out]
        refine awake_any _ _ ?_
        intro wz hbz
        have HBz := Lib.hid (B6.out.trans (hbz.mono B6.out.size))
        clear hbz
        go_wp2_with fail
        exact HR.out _ HBz.out
end Go.Proofs.YteoniejpfmeibaaDoor
