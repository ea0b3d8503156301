/- The texts of frames, and what is read from a text, are those of the reference: the law FrameTexts of layer 19. (Printed by gen_law19c.py.) All of reference 19. (Printed by gen_rall.py.) -/
import Derived.Test.YtciokmjhdbcmpaaGreatDoorMfzh
namespace Go.Proofs.YtciokmjhdbcmpaaGreatDoor
open Go.RowKit

theorem paX_len (l : List UInt8) : (paX l).ds.length ≤ 1000000 := by
  by_cases h : ∃ x, plE x = 0 ∧ txL x = l
  · unfold paX; rw [dif_pos h]; have := plE_few h.choose_spec.1; omega
  · unfold paX; rw [dif_neg h]; show (0 : Nat) ≤ _; omega
set_option maxRecDepth 100000 in
set_option maxHeartbeats 16000000 in
theorem lawFrameTexts (x y : Fm) (da ea : Option Addr) (dc ec : Nat) (s : ByteArray) (w : World) (R : Ending → World → Prop) (hox : FmOk w x da dc) (hoy : FmOk w y ea ec) (hE : Env w)
   (hR : ∀ w', Below w.heap.size w w' → R (.returned (.bool true)) w') :
    Calls Tryz.prog 6 #[fmV x da dc, fmV y ea ec, .string s] w R := by
  have HR := Lib.hid hR
  have HOX := Lib.hid hox
  have HOY := Lib.hid hoy
  have HEV := Lib.hid hE
  clear hR hox hoy hE
  have HXV : Hid (fmV x da dc = .agg #[.int .i64 x.k, .bool x.d, .int .i64 x.t, .int .i64 x.m, .slice da x.ds.length dc]) := rfl
  have HYV : Hid (fmV y ea ec = .agg #[.int .i64 y.k, .bool y.d, .int .i64 y.t, .int .i64 y.m, .slice ea y.ds.length ec]) := rfl
  rw [HXV.out, HYV.out]
  obtain ⟨w1, E1, HB1, s1, X1⟩ := box_ex w #[.int .i64 x.k, .bool x.d, .int .i64 x.t, .int .i64 x.m, .slice da x.ds.length dc] 31
  obtain ⟨w2, E2, HB2, s2, X2⟩ := box_ex w1 #[.int .i64 y.k, .bool y.d, .int .i64 y.t, .int .i64 y.m, .slice ea y.ds.length ec] 31
  have BW0 : Hid (Below w.heap.size w w2) := HB1.out.trans (HB2.out.mono (Nat.le_of_lt s1))
  have HX1 := Lib.hid ((HB2.out.block _ s1).trans X1.out)
  have HX2 := X2
  clear X1 X2
  have p0 := cell_at HX1.out (j := 0) (v := .int .i64 x.k) rfl
  have p1 := cell_at HX1.out (j := 1) (v := .bool x.d) rfl
  have p2 := cell_at HX1.out (j := 2) (v := .int .i64 x.t) rfl
  have p3 := cell_at HX1.out (j := 3) (v := .int .i64 x.m) rfl
  have p4 := cell_at HX1.out (j := 4) (v := .slice da x.ds.length dc) rfl
  have o0 := cell_at HX2.out (j := 0) (v := .int .i64 y.k) rfl
  have o1 := cell_at HX2.out (j := 1) (v := .bool y.d) rfl
  have o2 := cell_at HX2.out (j := 2) (v := .int .i64 y.t) rfl
  have o3 := cell_at HX2.out (j := 3) (v := .int .i64 y.m) rfl
  have o4 := cell_at HX2.out (j := 4) (v := .slice ea y.ds.length ec) rfl
  go_enter Tryz.func6, Tryz.ntmps6
  obtain ⟨FX, hFX⟩ : ∃ b, fewF x = b := ⟨_, rfl⟩
  obtain ⟨FY, hFY⟩ : ∃ b, fewF y = b := ⟨_, rfl⟩
  have HFX := Lib.hid hFX
  have HFY := Lib.hid hFY
  clear hFX hFY
  obtain ⟨E, hEE⟩ : ∃ E, plE x = E := ⟨_, rfl⟩
  obtain ⟨TX, hTX⟩ : ∃ t, teS x = t := ⟨_, rfl⟩
  have HEE := Lib.hid hEE
  have HTX := Lib.hid hTX
  clear hEE hTX
  go_wp2_with (first | rw [E1] | rw [E2])
  rw [← HXV.out]
  refine few19_any x da dc _ _ (HOX.out.below BW0.out) fun W1 hb => ?_
  rw [HFX.out]
  have BW1 : Hid (Below w.heap.size w W1) := BW0.out.trans (hb.mono BW0.out.size)
  have HX1 := Lib.hid ((hb.block _ (lt_of_block HX1.out)).trans HX1.out)
  have HX2 := Lib.hid ((hb.block _ (lt_of_block HX2.out)).trans HX2.out)
  clear hb
  clear p0 p1 p2 p3 p4 o0 o1 o2 o3 o4
  have p0 := cell_at HX1.out (j := 0) (v := .int .i64 x.k) rfl
  have p1 := cell_at HX1.out (j := 1) (v := .bool x.d) rfl
  have p2 := cell_at HX1.out (j := 2) (v := .int .i64 x.t) rfl
  have p3 := cell_at HX1.out (j := 3) (v := .int .i64 x.m) rfl
  have p4 := cell_at HX1.out (j := 4) (v := .slice da x.ds.length dc) rfl
  have o0 := cell_at HX2.out (j := 0) (v := .int .i64 y.k) rfl
  have o1 := cell_at HX2.out (j := 1) (v := .bool y.d) rfl
  have o2 := cell_at HX2.out (j := 2) (v := .int .i64 y.t) rfl
  have o3 := cell_at HX2.out (j := 3) (v := .int .i64 y.m) rfl
  have o4 := cell_at HX2.out (j := 4) (v := .slice ea y.ds.length ec) rfl
  clear E1 E2
  cases FX with
  | false =>
    go_wp2_with fail
    refine awake19_any _ _ (HEV.out.below BW1.out) fun WZ hb => ?_
    have BZ : Hid (Below w.heap.size w WZ) := BW1.out.trans (hb.mono BW1.out.size)
    clear p0 p1 p2 p3 p4 o0 o1 o2 o3 o4
    clear hb
    go_wp2_with fail
    exact HR.out _ BZ.out
  | true =>
    go_wp2_with fail
    rw [← HYV.out]
    refine few19_any y ea ec _ _ (HOY.out.below BW1.out) fun W2 hb => ?_
    rw [HFY.out]
    have BW2 : Hid (Below w.heap.size w W2) := BW1.out.trans (hb.mono BW1.out.size)
    have HX1 := Lib.hid ((hb.block _ (lt_of_block HX1.out)).trans HX1.out)
    have HX2 := Lib.hid ((hb.block _ (lt_of_block HX2.out)).trans HX2.out)
    clear hb
    clear p0 p1 p2 p3 p4 o0 o1 o2 o3 o4
    have p0 := cell_at HX1.out (j := 0) (v := .int .i64 x.k) rfl
    have p1 := cell_at HX1.out (j := 1) (v := .bool x.d) rfl
    have p2 := cell_at HX1.out (j := 2) (v := .int .i64 x.t) rfl
    have p3 := cell_at HX1.out (j := 3) (v := .int .i64 x.m) rfl
    have p4 := cell_at HX1.out (j := 4) (v := .slice da x.ds.length dc) rfl
    have o0 := cell_at HX2.out (j := 0) (v := .int .i64 y.k) rfl
    have o1 := cell_at HX2.out (j := 1) (v := .bool y.d) rfl
    have o2 := cell_at HX2.out (j := 2) (v := .int .i64 y.t) rfl
    have o3 := cell_at HX2.out (j := 3) (v := .int .i64 y.m) rfl
    have o4 := cell_at HX2.out (j := 4) (v := .slice ea y.ds.length ec) rfl
    cases FY with
    | false =>
      go_wp2_with fail
      refine awake19_any _ _ (HEV.out.below BW2.out) fun WZ hb => ?_
      have BZ : Hid (Below w.heap.size w WZ) := BW2.out.trans (hb.mono BW2.out.size)
      clear p0 p1 p2 p3 p4 o0 o1 o2 o3 o4
      clear hb
      go_wp2_with fail
      exact HR.out _ BZ.out
    | true =>
      have hlx := fewF_len HFX.out
      have hly := fewF_len HFY.out
      by_cases h8 : 8192 < s.size
      · have K1 : ((300 : Int) < (s.size : Int)) = True := eq_true (by omega)
        have K2 : ((s.size : Int) ≤ 4096) = False := eq_false (by omega)
        have K3 : ((8192 : Int) < (s.size : Int)) = True := eq_true (by omega)
        clear h8
        go_wp2_with fail
        refine awake19_any _ _ (HEV.out.below BW2.out) fun WZ hb => ?_
        have BZ : Hid (Below w.heap.size w WZ) := BW2.out.trans (hb.mono BW2.out.size)
        clear p0 p1 p2 p3 p4 o0 o1 o2 o3 o4
        clear hb
        go_wp2_with fail
        exact HR.out _ BZ.out
      have K3 : ((8192 : Int) < (s.size : Int)) = False := eq_false (by omega)
      rcases (by omega : (300 < s.size ∧ s.size ≤ 4096) ∨ (300 < s.size ∧ 4096 < s.size) ∨ s.size ≤ 300) with h1 | h1 | h1
      · have K1 : ((300 : Int) < (s.size : Int)) = True := eq_true (by omega)
        have K2 : ((s.size : Int) ≤ 4096) = True := eq_true (by omega)
        clear h8 h1
        go_wp2_with fail
        refine awake19_any _ _ (HEV.out.below BW2.out) fun WZ hb => ?_
        have BZ : Hid (Below w.heap.size w WZ) := BW2.out.trans (hb.mono BW2.out.size)
        clear p0 p1 p2 p3 p4 o0 o1 o2 o3 o4
        clear hb
        go_wp2_with fail
        exact HR.out _ BZ.out
      all_goals
        first | (have K1 : ((300 : Int) < (s.size : Int)) = True := eq_true (by omega)) | (have K1 : ((300 : Int) < (s.size : Int)) = False := eq_false (by omega))
        first | (have K2 : ((s.size : Int) ≤ 4096) = True := eq_true (by omega)) | (have K2 : ((s.size : Int) ≤ 4096) = False := eq_false (by omega))
        have hsz : s.size ≤ 1000000 := by omega
        clear h8 h1
        obtain ⟨PX, hPX⟩ : ∃ p, paX s.data.toList = p := ⟨_, rfl⟩
        obtain ⟨PE, hPE⟩ : ∃ p, paE s.data.toList = p := ⟨_, rfl⟩
        have hpl : PX.ds.length ≤ 1000000 := by rw [← hPX]; exact paX_len _
        have HPX := Lib.hid hPX
        have HPE := Lib.hid hPE
        have HSX := Lib.hid (smB_self PX)
        obtain ⟨Q, hQ⟩ : ∃ q, smB x y = q := ⟨_, rfl⟩
        have HQ := Lib.hid hQ
        clear hPX hPE hQ
        go_wp2_with fail
        rw [← HXV.out]
        refine ftext_any x da dc _ _ (HOX.out.below BW2.out) (HEV.out.below BW2.out) fun W3 hb => ?_
        rw [HTX.out, HEE.out]
        have BW3 : Hid (Below w.heap.size w W3) := BW2.out.trans (hb.mono BW2.out.size)
        have HX1 := Lib.hid ((hb.block _ (lt_of_block HX1.out)).trans HX1.out)
        have HX2 := Lib.hid ((hb.block _ (lt_of_block HX2.out)).trans HX2.out)
        clear hb
        clear p0 p1 p2 p3 p4 o0 o1 o2 o3 o4
        have p0 := cell_at HX1.out (j := 0) (v := .int .i64 x.k) rfl
        have p1 := cell_at HX1.out (j := 1) (v := .bool x.d) rfl
        have p2 := cell_at HX1.out (j := 2) (v := .int .i64 x.t) rfl
        have p3 := cell_at HX1.out (j := 3) (v := .int .i64 x.m) rfl
        have p4 := cell_at HX1.out (j := 4) (v := .slice da x.ds.length dc) rfl
        have o0 := cell_at HX2.out (j := 0) (v := .int .i64 y.k) rfl
        have o1 := cell_at HX2.out (j := 1) (v := .bool y.d) rfl
        have o2 := cell_at HX2.out (j := 2) (v := .int .i64 y.t) rfl
        have o3 := cell_at HX2.out (j := 3) (v := .int .i64 y.m) rfl
        have o4 := cell_at HX2.out (j := 4) (v := .slice ea y.ds.length ec) rfl
        go_wp2_with fail
        rw [← HXV.out]
        refine rtext_any x da dc _ _ (HOX.out.below BW3.out) fun W4 hb => ?_
        rw [HTX.out, HEE.out]
        have BW4 : Hid (Below w.heap.size w W4) := BW3.out.trans (hb.mono BW3.out.size)
        have HX1 := Lib.hid ((hb.block _ (lt_of_block HX1.out)).trans HX1.out)
        have HX2 := Lib.hid ((hb.block _ (lt_of_block HX2.out)).trans HX2.out)
        clear hb
        clear p0 p1 p2 p3 p4 o0 o1 o2 o3 o4
        have p0 := cell_at HX1.out (j := 0) (v := .int .i64 x.k) rfl
        have p1 := cell_at HX1.out (j := 1) (v := .bool x.d) rfl
        have p2 := cell_at HX1.out (j := 2) (v := .int .i64 x.t) rfl
        have p3 := cell_at HX1.out (j := 3) (v := .int .i64 x.m) rfl
        have p4 := cell_at HX1.out (j := 4) (v := .slice da x.ds.length dc) rfl
        have o0 := cell_at HX2.out (j := 0) (v := .int .i64 y.k) rfl
        have o1 := cell_at HX2.out (j := 1) (v := .bool y.d) rfl
        have o2 := cell_at HX2.out (j := 2) (v := .int .i64 y.t) rfl
        have o3 := cell_at HX2.out (j := 3) (v := .int .i64 y.m) rfl
        have o4 := cell_at HX2.out (j := 4) (v := .slice ea y.ds.length ec) rfl
        go_wp2_with fail
        refine fparse_any s _ _ hsz (HEV.out.below BW4.out) fun ba bc W5 hb hfm => ?_
        rw [HPX.out, HPE.out]
        rw [HPX.out] at hfm
        have HOB := Lib.hid hfm
        clear hfm
        have HBV : Hid (fmV PX ba bc = .agg #[.int .i64 PX.k, .bool PX.d, .int .i64 PX.t, .int .i64 PX.m, .slice ba PX.ds.length bc]) := rfl
        rw [HBV.out]
        have BW5 : Hid (Below w.heap.size w W5) := BW4.out.trans (hb.mono BW4.out.size)
        have HX1 := Lib.hid ((hb.block _ (lt_of_block HX1.out)).trans HX1.out)
        have HX2 := Lib.hid ((hb.block _ (lt_of_block HX2.out)).trans HX2.out)
        clear hb
        clear p0 p1 p2 p3 p4 o0 o1 o2 o3 o4
        have p0 := cell_at HX1.out (j := 0) (v := .int .i64 x.k) rfl
        have p1 := cell_at HX1.out (j := 1) (v := .bool x.d) rfl
        have p2 := cell_at HX1.out (j := 2) (v := .int .i64 x.t) rfl
        have p3 := cell_at HX1.out (j := 3) (v := .int .i64 x.m) rfl
        have p4 := cell_at HX1.out (j := 4) (v := .slice da x.ds.length dc) rfl
        have o0 := cell_at HX2.out (j := 0) (v := .int .i64 y.k) rfl
        have o1 := cell_at HX2.out (j := 1) (v := .bool y.d) rfl
        have o2 := cell_at HX2.out (j := 2) (v := .int .i64 y.t) rfl
        have o3 := cell_at HX2.out (j := 3) (v := .int .i64 y.m) rfl
        have o4 := cell_at HX2.out (j := 4) (v := .slice ea y.ds.length ec) rfl
        obtain ⟨wA3, EA, HBA, sA, XA⟩ := box_ex W5 #[.int .i64 0, .bool false, .int .i64 0, .int .i64 0, .slice none 0 0] 31
        obtain ⟨W6, EB, HBB, KB, XB⟩ := set5 wA3 W5.heap.size _ _ _ _ _ (.int .i64 PX.k) (.bool PX.d) (.int .i64 PX.t) (.int .i64 PX.m) (.slice ba PX.ds.length bc) _ XA.out
        have s0 := cell_at XA.out (j := 0) (v := .int .i64 0) rfl
        have s1 := cell_at XA.out (j := 1) (v := .bool false) rfl
        have s2 := cell_at XA.out (j := 2) (v := .int .i64 0) rfl
        have s3 := cell_at XA.out (j := 3) (v := .int .i64 0) rfl
        have s4 := cell_at XA.out (j := 4) (v := .slice none 0 0) rfl
        have y0 := frozen_at XA.out 0
        have y1 := frozen_at XA.out 1
        have y2 := frozen_at XA.out 2
        have y3 := frozen_at XA.out 3
        have y4 := frozen_at XA.out 4
        have BWA : Hid (Below W5.heap.size W5 W6) := HBA.out.trans HBB.out
        have BW6 : Hid (Below w.heap.size w W6) := BW5.out.trans (BWA.out.mono BW5.out.size)
        have HOB := Lib.hid (HOB.out.below BWA.out)
        clear p0 p1 p2 p3 p4 o0 o1 o2 o3 o4
        have HX1 := Lib.hid ((BWA.out.block _ (lt_of_block HX1.out)).trans HX1.out)
        have HX2 := Lib.hid ((BWA.out.block _ (lt_of_block HX2.out)).trans HX2.out)
        have HX3 := XB
        clear XB KB HBA HBB
        have p0 := cell_at HX1.out (j := 0) (v := .int .i64 x.k) rfl
        have p1 := cell_at HX1.out (j := 1) (v := .bool x.d) rfl
        have p2 := cell_at HX1.out (j := 2) (v := .int .i64 x.t) rfl
        have p3 := cell_at HX1.out (j := 3) (v := .int .i64 x.m) rfl
        have p4 := cell_at HX1.out (j := 4) (v := .slice da x.ds.length dc) rfl
        have o0 := cell_at HX2.out (j := 0) (v := .int .i64 y.k) rfl
        have o1 := cell_at HX2.out (j := 1) (v := .bool y.d) rfl
        have o2 := cell_at HX2.out (j := 2) (v := .int .i64 y.t) rfl
        have o3 := cell_at HX2.out (j := 3) (v := .int .i64 y.m) rfl
        have o4 := cell_at HX2.out (j := 4) (v := .slice ea y.ds.length ec) rfl
        have v0 := cell_at HX3.out (j := 0) (v := .int .i64 PX.k) rfl
        have v1 := cell_at HX3.out (j := 1) (v := .bool PX.d) rfl
        have v2 := cell_at HX3.out (j := 2) (v := .int .i64 PX.t) rfl
        have v3 := cell_at HX3.out (j := 3) (v := .int .i64 PX.m) rfl
        have v4 := cell_at HX3.out (j := 4) (v := .slice ba PX.ds.length bc) rfl
        go_wp2_with (first | rw [EA] | rw [EB])
        clear EA EB BWA s0 y0 s1 y1 s2 y2 s3 y3 s4 y4
        refine rparse_any s _ _ hsz fun ca cc W7 hb hfm => ?_
        rw [HPX.out, HPE.out]
        rw [HPX.out] at hfm
        have HOC := Lib.hid hfm
        have HOB := Lib.hid (HOB.out.below hb)
        clear hfm
        have HCV : Hid (fmV PX ca cc = .agg #[.int .i64 PX.k, .bool PX.d, .int .i64 PX.t, .int .i64 PX.m, .slice ca PX.ds.length cc]) := rfl
        rw [HCV.out]
        have BW7 : Hid (Below w.heap.size w W7) := BW6.out.trans (hb.mono BW6.out.size)
        have HX1 := Lib.hid ((hb.block _ (lt_of_block HX1.out)).trans HX1.out)
        have HX2 := Lib.hid ((hb.block _ (lt_of_block HX2.out)).trans HX2.out)
        have HX3 := Lib.hid ((hb.block _ (lt_of_block HX3.out)).trans HX3.out)
        clear hb
        clear p0 p1 p2 p3 p4 o0 o1 o2 o3 o4 v0 v1 v2 v3 v4
        have p0 := cell_at HX1.out (j := 0) (v := .int .i64 x.k) rfl
        have p1 := cell_at HX1.out (j := 1) (v := .bool x.d) rfl
        have p2 := cell_at HX1.out (j := 2) (v := .int .i64 x.t) rfl
        have p3 := cell_at HX1.out (j := 3) (v := .int .i64 x.m) rfl
        have p4 := cell_at HX1.out (j := 4) (v := .slice da x.ds.length dc) rfl
        have o0 := cell_at HX2.out (j := 0) (v := .int .i64 y.k) rfl
        have o1 := cell_at HX2.out (j := 1) (v := .bool y.d) rfl
        have o2 := cell_at HX2.out (j := 2) (v := .int .i64 y.t) rfl
        have o3 := cell_at HX2.out (j := 3) (v := .int .i64 y.m) rfl
        have o4 := cell_at HX2.out (j := 4) (v := .slice ea y.ds.length ec) rfl
        have v0 := cell_at HX3.out (j := 0) (v := .int .i64 PX.k) rfl
        have v1 := cell_at HX3.out (j := 1) (v := .bool PX.d) rfl
        have v2 := cell_at HX3.out (j := 2) (v := .int .i64 PX.t) rfl
        have v3 := cell_at HX3.out (j := 3) (v := .int .i64 PX.m) rfl
        have v4 := cell_at HX3.out (j := 4) (v := .slice ba PX.ds.length bc) rfl
        obtain ⟨wA4, EA, HBA, sA4, XA⟩ := box_ex W7 #[.int .i64 0, .bool false, .int .i64 0, .int .i64 0, .slice none 0 0] 31
        obtain ⟨W8, EB, HBB, KB, XB⟩ := set5 wA4 W7.heap.size _ _ _ _ _ (.int .i64 PX.k) (.bool PX.d) (.int .i64 PX.t) (.int .i64 PX.m) (.slice ca PX.ds.length cc) _ XA.out
        have s0 := cell_at XA.out (j := 0) (v := .int .i64 0) rfl
        have s1 := cell_at XA.out (j := 1) (v := .bool false) rfl
        have s2 := cell_at XA.out (j := 2) (v := .int .i64 0) rfl
        have s3 := cell_at XA.out (j := 3) (v := .int .i64 0) rfl
        have s4 := cell_at XA.out (j := 4) (v := .slice none 0 0) rfl
        have y0 := frozen_at XA.out 0
        have y1 := frozen_at XA.out 1
        have y2 := frozen_at XA.out 2
        have y3 := frozen_at XA.out 3
        have y4 := frozen_at XA.out 4
        have BWA : Hid (Below W7.heap.size W7 W8) := HBA.out.trans HBB.out
        have BW8 : Hid (Below w.heap.size w W8) := BW7.out.trans (BWA.out.mono BW7.out.size)
        have HOB := Lib.hid (HOB.out.below BWA.out)
        have HOC := Lib.hid (HOC.out.below BWA.out)
        clear p0 p1 p2 p3 p4 o0 o1 o2 o3 o4 v0 v1 v2 v3 v4
        have HX1 := Lib.hid ((BWA.out.block _ (lt_of_block HX1.out)).trans HX1.out)
        have HX2 := Lib.hid ((BWA.out.block _ (lt_of_block HX2.out)).trans HX2.out)
        have HX3 := Lib.hid ((BWA.out.block _ (lt_of_block HX3.out)).trans HX3.out)
        have HX4 := XB
        clear XB KB HBA HBB
        have p0 := cell_at HX1.out (j := 0) (v := .int .i64 x.k) rfl
        have p1 := cell_at HX1.out (j := 1) (v := .bool x.d) rfl
        have p2 := cell_at HX1.out (j := 2) (v := .int .i64 x.t) rfl
        have p3 := cell_at HX1.out (j := 3) (v := .int .i64 x.m) rfl
        have p4 := cell_at HX1.out (j := 4) (v := .slice da x.ds.length dc) rfl
        have o0 := cell_at HX2.out (j := 0) (v := .int .i64 y.k) rfl
        have o1 := cell_at HX2.out (j := 1) (v := .bool y.d) rfl
        have o2 := cell_at HX2.out (j := 2) (v := .int .i64 y.t) rfl
        have o3 := cell_at HX2.out (j := 3) (v := .int .i64 y.m) rfl
        have o4 := cell_at HX2.out (j := 4) (v := .slice ea y.ds.length ec) rfl
        have v0 := cell_at HX3.out (j := 0) (v := .int .i64 PX.k) rfl
        have v1 := cell_at HX3.out (j := 1) (v := .bool PX.d) rfl
        have v2 := cell_at HX3.out (j := 2) (v := .int .i64 PX.t) rfl
        have v3 := cell_at HX3.out (j := 3) (v := .int .i64 PX.m) rfl
        have v4 := cell_at HX3.out (j := 4) (v := .slice ba PX.ds.length bc) rfl
        have z0 := cell_at HX4.out (j := 0) (v := .int .i64 PX.k) rfl
        have z1 := cell_at HX4.out (j := 1) (v := .bool PX.d) rfl
        have z2 := cell_at HX4.out (j := 2) (v := .int .i64 PX.t) rfl
        have z3 := cell_at HX4.out (j := 3) (v := .int .i64 PX.m) rfl
        have z4 := cell_at HX4.out (j := 4) (v := .slice ca PX.ds.length cc) rfl
        go_wp2_with (first | rw [EA] | rw [EB])
        clear EA EB BWA s0 y0 s1 y1 s2 y2 s3 y3 s4 y4
        clear p0 p1 p2 p3 p4 o0 o1 o2 o3 o4 v0 v1 v2 v3 v4 z0 z1 z2 z3 z4
        have BD : Hid (Below w.heap.size w W8.drew) := BW8.out.drew
        have BD2 : Hid (Below W8.heap.size W8 W8.drew) := (Below.refl _ _).drew
        have p0 : W8.drew.cell? ⟨w.heap.size, 0, none⟩ = some (.int .i64 x.k) := cell_at HX1.out (j := 0) rfl
        have p1 : W8.drew.cell? ⟨w.heap.size, 1, none⟩ = some (.bool x.d) := cell_at HX1.out (j := 1) rfl
        have p2 : W8.drew.cell? ⟨w.heap.size, 2, none⟩ = some (.int .i64 x.t) := cell_at HX1.out (j := 2) rfl
        have p3 : W8.drew.cell? ⟨w.heap.size, 3, none⟩ = some (.int .i64 x.m) := cell_at HX1.out (j := 3) rfl
        have p4 : W8.drew.cell? ⟨w.heap.size, 4, none⟩ = some (.slice da x.ds.length dc) := cell_at HX1.out (j := 4) rfl
        have o0 : W8.drew.cell? ⟨w1.heap.size, 0, none⟩ = some (.int .i64 y.k) := cell_at HX2.out (j := 0) rfl
        have o1 : W8.drew.cell? ⟨w1.heap.size, 1, none⟩ = some (.bool y.d) := cell_at HX2.out (j := 1) rfl
        have o2 : W8.drew.cell? ⟨w1.heap.size, 2, none⟩ = some (.int .i64 y.t) := cell_at HX2.out (j := 2) rfl
        have o3 : W8.drew.cell? ⟨w1.heap.size, 3, none⟩ = some (.int .i64 y.m) := cell_at HX2.out (j := 3) rfl
        have o4 : W8.drew.cell? ⟨w1.heap.size, 4, none⟩ = some (.slice ea y.ds.length ec) := cell_at HX2.out (j := 4) rfl
        have v0 : W8.drew.cell? ⟨W5.heap.size, 0, none⟩ = some (.int .i64 PX.k) := cell_at HX3.out (j := 0) rfl
        have v1 : W8.drew.cell? ⟨W5.heap.size, 1, none⟩ = some (.bool PX.d) := cell_at HX3.out (j := 1) rfl
        have v2 : W8.drew.cell? ⟨W5.heap.size, 2, none⟩ = some (.int .i64 PX.t) := cell_at HX3.out (j := 2) rfl
        have v3 : W8.drew.cell? ⟨W5.heap.size, 3, none⟩ = some (.int .i64 PX.m) := cell_at HX3.out (j := 3) rfl
        have v4 : W8.drew.cell? ⟨W5.heap.size, 4, none⟩ = some (.slice ba PX.ds.length bc) := cell_at HX3.out (j := 4) rfl
        have z0 : W8.drew.cell? ⟨W7.heap.size, 0, none⟩ = some (.int .i64 PX.k) := cell_at HX4.out (j := 0) rfl
        have z1 : W8.drew.cell? ⟨W7.heap.size, 1, none⟩ = some (.bool PX.d) := cell_at HX4.out (j := 1) rfl
        have z2 : W8.drew.cell? ⟨W7.heap.size, 2, none⟩ = some (.int .i64 PX.t) := cell_at HX4.out (j := 2) rfl
        have z3 : W8.drew.cell? ⟨W7.heap.size, 3, none⟩ = some (.int .i64 PX.m) := cell_at HX4.out (j := 3) rfl
        have z4 : W8.drew.cell? ⟨W7.heap.size, 4, none⟩ = some (.slice ca PX.ds.length cc) := cell_at HX4.out (j := 4) rfl
        refine regionQ (fun w' => w'.cell? ⟨w.heap.size, 0, none⟩ = some (.int .i64 x.k) ∧ w'.cell? ⟨w.heap.size, 1, none⟩ = some (.bool x.d) ∧ w'.cell? ⟨w.heap.size, 2, none⟩ = some (.int .i64 x.t) ∧ w'.cell? ⟨w.heap.size, 3, none⟩ = some (.int .i64 x.m) ∧ w'.cell? ⟨w.heap.size, 4, none⟩ = some (.slice da x.ds.length dc) ∧ w'.cell? ⟨w1.heap.size, 0, none⟩ = some (.int .i64 y.k) ∧ w'.cell? ⟨w1.heap.size, 1, none⟩ = some (.bool y.d) ∧ w'.cell? ⟨w1.heap.size, 2, none⟩ = some (.int .i64 y.t) ∧ w'.cell? ⟨w1.heap.size, 3, none⟩ = some (.int .i64 y.m) ∧ w'.cell? ⟨w1.heap.size, 4, none⟩ = some (.slice ea y.ds.length ec) ∧ w'.cell? ⟨W5.heap.size, 0, none⟩ = some (.int .i64 PX.k) ∧ w'.cell? ⟨W5.heap.size, 1, none⟩ = some (.bool PX.d) ∧ w'.cell? ⟨W5.heap.size, 2, none⟩ = some (.int .i64 PX.t) ∧ w'.cell? ⟨W5.heap.size, 3, none⟩ = some (.int .i64 PX.m) ∧ w'.cell? ⟨W5.heap.size, 4, none⟩ = some (.slice ba PX.ds.length bc) ∧ w'.cell? ⟨W7.heap.size, 0, none⟩ = some (.int .i64 PX.k) ∧ w'.cell? ⟨W7.heap.size, 1, none⟩ = some (.bool PX.d) ∧ w'.cell? ⟨W7.heap.size, 2, none⟩ = some (.int .i64 PX.t) ∧ w'.cell? ⟨W7.heap.size, 3, none⟩ = some (.int .i64 PX.m) ∧ w'.cell? ⟨W7.heap.size, 4, none⟩ = some (.slice ca PX.ds.length cc)) (by kernel_rfl) (⟨p0, p1, p2, p3, p4, o0, o1, o2, o3, o4, v0, v1, v2, v3, v4, z0, z1, z2, z3, z4⟩) (fun Qn hPQ hQn hS0 => ?_)
        refine wpAnyH_ready (rs := [0]) (by kernel_rfl) (by simp) ?_
        refine AllReadyH.cons (o := _) rfl (fun K hK => ?_) AllReadyH.nil
        go_simp
        refine awake19_any _ _ (HEV.out.below BD.out) fun VA hb => ?_
        have BA : Hid (Below w.heap.size w VA) := BD.out.trans (hb.mono BD.out.size)
        have BA2 : Hid (Below W8.heap.size W8 VA) := BD2.out.trans (hb.mono BD2.out.size)
        have pa0 := cellB hb p0 (lt_of_cell p0)
        have pa1 := cellB hb p1 (lt_of_cell p1)
        have pa2 := cellB hb p2 (lt_of_cell p2)
        have pa3 := cellB hb p3 (lt_of_cell p3)
        have pa4 := cellB hb p4 (lt_of_cell p4)
        have oa0 := cellB hb o0 (lt_of_cell o0)
        have oa1 := cellB hb o1 (lt_of_cell o1)
        have oa2 := cellB hb o2 (lt_of_cell o2)
        have oa3 := cellB hb o3 (lt_of_cell o3)
        have oa4 := cellB hb o4 (lt_of_cell o4)
        have va0 := cellB hb v0 (lt_of_cell v0)
        have va1 := cellB hb v1 (lt_of_cell v1)
        have va2 := cellB hb v2 (lt_of_cell v2)
        have va3 := cellB hb v3 (lt_of_cell v3)
        have va4 := cellB hb v4 (lt_of_cell v4)
        have za0 := cellB hb z0 (lt_of_cell z0)
        have za1 := cellB hb z1 (lt_of_cell z1)
        have za2 := cellB hb z2 (lt_of_cell z2)
        have za3 := cellB hb z3 (lt_of_cell z3)
        have za4 := cellB hb z4 (lt_of_cell z4)
        clear hb p0 p1 p2 p3 p4 o0 o1 o2 o3 o4 v0 v1 v2 v3 v4 z0 z1 z2 z3 z4
        refine hK.out _ _ (⟨pa0, pa1, pa2, pa3, pa4, oa0, oa1, oa2, oa3, oa4, va0, va1, va2, va3, va4, za0, za1, za2, za3, za4⟩) (fun hS1 => ?_)
        clear hK K hS0
        (try simp only [Act.put, List.setIfInBounds_toArray, List.set_cons_zero, List.set_cons_succ])
        refine takeQ (i := 1) (d := some 60) (v := ?_) rfl rfl (by kernel_rfl) (by kernel_rfl) (by kernel_rfl) hPQ hS1 (by kernel_rfl) ?_ ?_
        rotate_left
        · (intro w hSw; (try dsimp only at hSw); obtain ⟨k0, k1, k2, k3, k4, l0, l1, l2, l3, l4, m0, m1, m2, m3, m4, q0, q1, q2, q3, q4⟩ := hSw; go_simp; (try with_reducible rfl))
        (try simp only [Act.put, List.setIfInBounds_toArray, List.set_cons_zero, List.set_cons_succ])
        refine takeQ (i := 2) (d := some 61) (v := ?_) rfl rfl (by kernel_rfl) (by kernel_rfl) (by kernel_rfl) hPQ hS1 (by kernel_rfl) ?_ ?_
        rotate_left
        · (intro w hSw; (try dsimp only at hSw); obtain ⟨k0, k1, k2, k3, k4, l0, l1, l2, l3, l4, m0, m1, m2, m3, m4, q0, q1, q2, q3, q4⟩ := hSw; go_simp; (try with_reducible rfl))
        (try simp only [Act.put, List.setIfInBounds_toArray, List.set_cons_zero, List.set_cons_succ])
        refine takeQ (i := 3) (d := some 62) (v := ?_) rfl rfl (by kernel_rfl) (by kernel_rfl) (by kernel_rfl) hPQ hS1 (by kernel_rfl) ?_ ?_
        rotate_left
        · (intro w hSw; (try dsimp only at hSw); obtain ⟨k0, k1, k2, k3, k4, l0, l1, l2, l3, l4, m0, m1, m2, m3, m4, q0, q1, q2, q3, q4⟩ := hSw; go_simp; (try with_reducible rfl))
        (try simp only [Act.put, List.setIfInBounds_toArray, List.set_cons_zero, List.set_cons_succ])
        refine takeQ (i := 4) (d := some 63) (v := ?_) rfl rfl (by kernel_rfl) (by kernel_rfl) (by kernel_rfl) hPQ hS1 (by kernel_rfl) ?_ ?_
        rotate_left
        · (intro w hSw; (try dsimp only at hSw); obtain ⟨k0, k1, k2, k3, k4, l0, l1, l2, l3, l4, m0, m1, m2, m3, m4, q0, q1, q2, q3, q4⟩ := hSw; go_simp; (try with_reducible rfl))
        (try simp only [Act.put, List.setIfInBounds_toArray, List.set_cons_zero, List.set_cons_succ])
        refine takeQ (i := 5) (d := some 64) (v := ?_) rfl rfl (by kernel_rfl) (by kernel_rfl) (by kernel_rfl) hPQ hS1 (by kernel_rfl) ?_ ?_
        rotate_left
        · (intro w hSw; (try dsimp only at hSw); obtain ⟨k0, k1, k2, k3, k4, l0, l1, l2, l3, l4, m0, m1, m2, m3, m4, q0, q1, q2, q3, q4⟩ := hSw; go_simp; (try with_reducible rfl))
        (try simp only [Act.put, List.setIfInBounds_toArray, List.set_cons_zero, List.set_cons_succ])
        refine takeQ (i := 6) (d := some 65) (v := ?_) rfl rfl (by kernel_rfl) (by kernel_rfl) (by kernel_rfl) hPQ hS1 (by kernel_rfl) ?_ ?_
        rotate_left
        · (intro w hSw; (try dsimp only at hSw); obtain ⟨k0, k1, k2, k3, k4, l0, l1, l2, l3, l4, m0, m1, m2, m3, m4, q0, q1, q2, q3, q4⟩ := hSw; go_simp; (try with_reducible rfl))
        (try simp only [Act.put, List.setIfInBounds_toArray, List.set_cons_zero, List.set_cons_succ])
        refine takeQ (i := 7) (d := some 66) (v := ?_) rfl rfl (by kernel_rfl) (by kernel_rfl) (by kernel_rfl) hPQ hS1 (by kernel_rfl) ?_ ?_
        rotate_left
        · (intro w hSw; (try dsimp only at hSw); obtain ⟨k0, k1, k2, k3, k4, l0, l1, l2, l3, l4, m0, m1, m2, m3, m4, q0, q1, q2, q3, q4⟩ := hSw; go_simp; (try with_reducible rfl))
        (try simp only [Act.put, List.setIfInBounds_toArray, List.set_cons_zero, List.set_cons_succ])
        refine takeQ (i := 8) (d := some 67) (v := ?_) rfl rfl (by kernel_rfl) (by kernel_rfl) (by kernel_rfl) hPQ hS1 (by kernel_rfl) ?_ ?_
        rotate_left
        · (intro w hSw; (try dsimp only at hSw); obtain ⟨k0, k1, k2, k3, k4, l0, l1, l2, l3, l4, m0, m1, m2, m3, m4, q0, q1, q2, q3, q4⟩ := hSw; go_simp; (try with_reducible rfl))
        (try simp only [Act.put, List.setIfInBounds_toArray, List.set_cons_zero, List.set_cons_succ])
        refine takeQ (i := 9) (d := some 68) (v := ?_) rfl rfl (by kernel_rfl) (by kernel_rfl) (by kernel_rfl) hPQ hS1 (by kernel_rfl) ?_ ?_
        rotate_left
        · (intro w hSw; (try dsimp only at hSw); obtain ⟨k0, k1, k2, k3, k4, l0, l1, l2, l3, l4, m0, m1, m2, m3, m4, q0, q1, q2, q3, q4⟩ := hSw; go_simp; (try with_reducible rfl))
        (try simp only [Act.put, List.setIfInBounds_toArray, List.set_cons_zero, List.set_cons_succ])
        refine takeQ (i := 10) (d := some 69) (v := ?_) rfl rfl (by kernel_rfl) (by kernel_rfl) (by kernel_rfl) hPQ hS1 (by kernel_rfl) ?_ ?_
        rotate_left
        · (intro w hSw; (try dsimp only at hSw); obtain ⟨k0, k1, k2, k3, k4, l0, l1, l2, l3, l4, m0, m1, m2, m3, m4, q0, q1, q2, q3, q4⟩ := hSw; go_simp; (try with_reducible rfl))
        (try simp only [Act.put, List.setIfInBounds_toArray, List.set_cons_zero, List.set_cons_succ])
        refine takeQ (i := 11) (d := some 70) (v := ?_) rfl rfl (by kernel_rfl) (by kernel_rfl) (by kernel_rfl) hPQ hS1 (by kernel_rfl) ?_ ?_
        rotate_left
        · (intro w hSw; (try dsimp only at hSw); obtain ⟨k0, k1, k2, k3, k4, l0, l1, l2, l3, l4, m0, m1, m2, m3, m4, q0, q1, q2, q3, q4⟩ := hSw; go_simp; (try with_reducible rfl))
        (try simp only [Act.put, List.setIfInBounds_toArray, List.set_cons_zero, List.set_cons_succ])
        refine takeQ (i := 12) (d := some 71) (v := ?_) rfl rfl (by kernel_rfl) (by kernel_rfl) (by kernel_rfl) hPQ hS1 (by kernel_rfl) ?_ ?_
        rotate_left
        · (intro w hSw; (try dsimp only at hSw); obtain ⟨k0, k1, k2, k3, k4, l0, l1, l2, l3, l4, m0, m1, m2, m3, m4, q0, q1, q2, q3, q4⟩ := hSw; go_simp; (try with_reducible rfl))
        (try simp only [Act.put, List.setIfInBounds_toArray, List.set_cons_zero, List.set_cons_succ])
        refine takeQ (i := 13) (d := some 72) (v := ?_) rfl rfl (by kernel_rfl) (by kernel_rfl) (by kernel_rfl) hPQ hS1 (by kernel_rfl) ?_ ?_
        rotate_left
        · (intro w hSw; (try dsimp only at hSw); obtain ⟨k0, k1, k2, k3, k4, l0, l1, l2, l3, l4, m0, m1, m2, m3, m4, q0, q1, q2, q3, q4⟩ := hSw; go_simp; (try with_reducible rfl))
        (try simp only [Act.put, List.setIfInBounds_toArray, List.set_cons_zero, List.set_cons_succ])
        refine wpAnyH_ready (rs := [14]) (by kernel_rfl) (by simp) ?_
        refine AllReadyH.cons (o := _) rfl (fun K hK => ?_) AllReadyH.nil
        go_simp
        (try rw [← HBV.out, ← HCV.out])
        refine rsame_any PX PX ba ca bc cc _ _ (HOB.out.below BA2.out) (HOC.out.below BA2.out) hpl hpl fun VB hb => ?_
        rw [HSX.out]
        have BB2 : Hid (Below w.heap.size w VB) := BA.out.trans (hb.mono BA.out.size)
        have pb0 := cellB hb pa0 (lt_of_cell pa0)
        have pb1 := cellB hb pa1 (lt_of_cell pa1)
        have pb2 := cellB hb pa2 (lt_of_cell pa2)
        have pb3 := cellB hb pa3 (lt_of_cell pa3)
        have pb4 := cellB hb pa4 (lt_of_cell pa4)
        have ob0 := cellB hb oa0 (lt_of_cell oa0)
        have ob1 := cellB hb oa1 (lt_of_cell oa1)
        have ob2 := cellB hb oa2 (lt_of_cell oa2)
        have ob3 := cellB hb oa3 (lt_of_cell oa3)
        have ob4 := cellB hb oa4 (lt_of_cell oa4)
        have vb0 := cellB hb va0 (lt_of_cell va0)
        have vb1 := cellB hb va1 (lt_of_cell va1)
        have vb2 := cellB hb va2 (lt_of_cell va2)
        have vb3 := cellB hb va3 (lt_of_cell va3)
        have vb4 := cellB hb va4 (lt_of_cell va4)
        have zb0 := cellB hb za0 (lt_of_cell za0)
        have zb1 := cellB hb za1 (lt_of_cell za1)
        have zb2 := cellB hb za2 (lt_of_cell za2)
        have zb3 := cellB hb za3 (lt_of_cell za3)
        have zb4 := cellB hb za4 (lt_of_cell za4)
        clear hb pa0 pa1 pa2 pa3 pa4 oa0 oa1 oa2 oa3 oa4 va0 va1 va2 va3 va4 za0 za1 za2 za3 za4
        refine hK.out _ _ (⟨pb0, pb1, pb2, pb3, pb4, ob0, ob1, ob2, ob3, ob4, vb0, vb1, vb2, vb3, vb4, zb0, zb1, zb2, zb3, zb4⟩) (fun hS2 => ?_)
        clear hK K hS1
        (try simp only [Act.put, List.setIfInBounds_toArray, List.set_cons_zero, List.set_cons_succ])
        refine takeQ (i := 15) (d := some 74) (v := ?_) rfl rfl (by kernel_rfl) (by kernel_rfl) (by kernel_rfl) hPQ hS2 (by kernel_rfl) ?_ ?_
        rotate_left
        · (intro w hSw; (try dsimp only at hSw); obtain ⟨k0, k1, k2, k3, k4, l0, l1, l2, l3, l4, m0, m1, m2, m3, m4, q0, q1, q2, q3, q4⟩ := hSw; go_simp; (try with_reducible rfl))
        (try simp only [Act.put, List.setIfInBounds_toArray, List.set_cons_zero, List.set_cons_succ])
        refine takeQ (i := 16) (d := some 75) (v := ?_) rfl rfl (by kernel_rfl) (by kernel_rfl) (by kernel_rfl) hPQ hS2 (by kernel_rfl) ?_ ?_
        rotate_left
        · (intro w hSw; (try dsimp only at hSw); obtain ⟨k0, k1, k2, k3, k4, l0, l1, l2, l3, l4, m0, m1, m2, m3, m4, q0, q1, q2, q3, q4⟩ := hSw; go_simp; (try with_reducible rfl))
        (try simp only [Act.put, List.setIfInBounds_toArray, List.set_cons_zero, List.set_cons_succ])
        refine takeQ (i := 17) (d := some 76) (v := ?_) rfl rfl (by kernel_rfl) (by kernel_rfl) (by kernel_rfl) hPQ hS2 (by kernel_rfl) ?_ ?_
        rotate_left
        · (intro w hSw; (try dsimp only at hSw); obtain ⟨k0, k1, k2, k3, k4, l0, l1, l2, l3, l4, m0, m1, m2, m3, m4, q0, q1, q2, q3, q4⟩ := hSw; go_simp; (try with_reducible rfl))
        (try simp only [Act.put, List.setIfInBounds_toArray, List.set_cons_zero, List.set_cons_succ])
        refine takeQ (i := 18) (d := some 77) (v := ?_) rfl rfl (by kernel_rfl) (by kernel_rfl) (by kernel_rfl) hPQ hS2 (by kernel_rfl) ?_ ?_
        rotate_left
        · (intro w hSw; (try dsimp only at hSw); obtain ⟨k0, k1, k2, k3, k4, l0, l1, l2, l3, l4, m0, m1, m2, m3, m4, q0, q1, q2, q3, q4⟩ := hSw; go_simp; (try with_reducible rfl))
        (try simp only [Act.put, List.setIfInBounds_toArray, List.set_cons_zero, List.set_cons_succ])
        refine takeQ (i := 19) (d := some 78) (v := ?_) rfl rfl (by kernel_rfl) (by kernel_rfl) (by kernel_rfl) hPQ hS2 (by kernel_rfl) ?_ ?_
        rotate_left
        · (intro w hSw; (try dsimp only at hSw); obtain ⟨k0, k1, k2, k3, k4, l0, l1, l2, l3, l4, m0, m1, m2, m3, m4, q0, q1, q2, q3, q4⟩ := hSw; go_simp; (try with_reducible rfl))
        (try simp only [Act.put, List.setIfInBounds_toArray, List.set_cons_zero, List.set_cons_succ])
        refine takeQ (i := 20) (d := some 79) (v := ?_) rfl rfl (by kernel_rfl) (by kernel_rfl) (by kernel_rfl) hPQ hS2 (by kernel_rfl) ?_ ?_
        rotate_left
        · (intro w hSw; (try dsimp only at hSw); obtain ⟨k0, k1, k2, k3, k4, l0, l1, l2, l3, l4, m0, m1, m2, m3, m4, q0, q1, q2, q3, q4⟩ := hSw; go_simp; (try with_reducible rfl))
        (try simp only [Act.put, List.setIfInBounds_toArray, List.set_cons_zero, List.set_cons_succ])
        refine takeQ (i := 21) (d := some 80) (v := ?_) rfl rfl (by kernel_rfl) (by kernel_rfl) (by kernel_rfl) hPQ hS2 (by kernel_rfl) ?_ ?_
        rotate_left
        · (intro w hSw; (try dsimp only at hSw); obtain ⟨k0, k1, k2, k3, k4, l0, l1, l2, l3, l4, m0, m1, m2, m3, m4, q0, q1, q2, q3, q4⟩ := hSw; go_simp; (try with_reducible rfl))
        (try simp only [Act.put, List.setIfInBounds_toArray, List.set_cons_zero, List.set_cons_succ])
        refine takeQ (i := 22) (d := some 81) (v := ?_) rfl rfl (by kernel_rfl) (by kernel_rfl) (by kernel_rfl) hPQ hS2 (by kernel_rfl) ?_ ?_
        rotate_left
        · (intro w hSw; (try dsimp only at hSw); obtain ⟨k0, k1, k2, k3, k4, l0, l1, l2, l3, l4, m0, m1, m2, m3, m4, q0, q1, q2, q3, q4⟩ := hSw; go_simp; (try with_reducible rfl))
        (try simp only [Act.put, List.setIfInBounds_toArray, List.set_cons_zero, List.set_cons_succ])
        refine takeQ (i := 23) (d := some 82) (v := ?_) rfl rfl (by kernel_rfl) (by kernel_rfl) (by kernel_rfl) hPQ hS2 (by kernel_rfl) ?_ ?_
        rotate_left
        · (intro w hSw; (try dsimp only at hSw); obtain ⟨k0, k1, k2, k3, k4, l0, l1, l2, l3, l4, m0, m1, m2, m3, m4, q0, q1, q2, q3, q4⟩ := hSw; go_simp; (try with_reducible rfl))
        (try simp only [Act.put, List.setIfInBounds_toArray, List.set_cons_zero, List.set_cons_succ])
        refine takeQ (i := 25) (d := some 84) (v := ?_) rfl rfl (by kernel_rfl) (by kernel_rfl) (by kernel_rfl) hPQ hS2 (by kernel_rfl) ?_ ?_
        rotate_left
        · (intro w hSw; (try dsimp only at hSw); obtain ⟨k0, k1, k2, k3, k4, l0, l1, l2, l3, l4, m0, m1, m2, m3, m4, q0, q1, q2, q3, q4⟩ := hSw; go_simp; (try with_reducible rfl))
        (try simp only [Act.put, List.setIfInBounds_toArray, List.set_cons_zero, List.set_cons_succ])
        refine takeQ (i := 26) (d := some 85) (v := ?_) rfl rfl (by kernel_rfl) (by kernel_rfl) (by kernel_rfl) hPQ hS2 (by kernel_rfl) ?_ ?_
        rotate_left
        · (intro w hSw; (try dsimp only at hSw); obtain ⟨k0, k1, k2, k3, k4, l0, l1, l2, l3, l4, m0, m1, m2, m3, m4, q0, q1, q2, q3, q4⟩ := hSw; go_simp; (try with_reducible rfl))
        (try simp only [Act.put, List.setIfInBounds_toArray, List.set_cons_zero, List.set_cons_succ])
        refine wpAnyH_ready (rs := [24]) (by kernel_rfl) (by simp) ?_
        refine AllReadyH.cons (o := _) rfl (fun K hK => ?_) AllReadyH.nil
        go_simp
        (try rw [← HXV.out, ← HYV.out])
        refine fsame_any x y da ea dc ec _ _ (HOX.out.below BB2.out) (HOY.out.below BB2.out) (by omega) (by omega) fun VC hb => ?_
        rw [HQ.out]
        have BC : Hid (Below w.heap.size w VC) := BB2.out.trans (hb.mono BB2.out.size)
        have pc0 := cellB hb pb0 (lt_of_cell pb0)
        have pc1 := cellB hb pb1 (lt_of_cell pb1)
        have pc2 := cellB hb pb2 (lt_of_cell pb2)
        have pc3 := cellB hb pb3 (lt_of_cell pb3)
        have pc4 := cellB hb pb4 (lt_of_cell pb4)
        have oc0 := cellB hb ob0 (lt_of_cell ob0)
        have oc1 := cellB hb ob1 (lt_of_cell ob1)
        have oc2 := cellB hb ob2 (lt_of_cell ob2)
        have oc3 := cellB hb ob3 (lt_of_cell ob3)
        have oc4 := cellB hb ob4 (lt_of_cell ob4)
        have vc0 := cellB hb vb0 (lt_of_cell vb0)
        have vc1 := cellB hb vb1 (lt_of_cell vb1)
        have vc2 := cellB hb vb2 (lt_of_cell vb2)
        have vc3 := cellB hb vb3 (lt_of_cell vb3)
        have vc4 := cellB hb vb4 (lt_of_cell vb4)
        have zc0 := cellB hb zb0 (lt_of_cell zb0)
        have zc1 := cellB hb zb1 (lt_of_cell zb1)
        have zc2 := cellB hb zb2 (lt_of_cell zb2)
        have zc3 := cellB hb zb3 (lt_of_cell zb3)
        have zc4 := cellB hb zb4 (lt_of_cell zb4)
        clear hb pb0 pb1 pb2 pb3 pb4 ob0 ob1 ob2 ob3 ob4 vb0 vb1 vb2 vb3 vb4 zb0 zb1 zb2 zb3 zb4
        refine hK.out _ _ (⟨pc0, pc1, pc2, pc3, pc4, oc0, oc1, oc2, oc3, oc4, vc0, vc1, vc2, vc3, vc4, zc0, zc1, zc2, zc3, zc4⟩) (fun hS3 => ?_)
        clear hK K hS2
        (try simp only [Act.put, List.setIfInBounds_toArray, List.set_cons_zero, List.set_cons_succ])
        refine wpAnyH_ready (rs := [27]) (by kernel_rfl) (by simp) ?_
        refine AllReadyH.cons (o := _) rfl (fun K hK => ?_) AllReadyH.nil
        go_simp
        (try rw [← HXV.out, ← HYV.out])
        refine rsame_any x y da ea dc ec _ _ (HOX.out.below BC.out) (HOY.out.below BC.out) (by omega) (by omega) fun VE hb => ?_
        rw [HQ.out]
        have BE : Hid (Below w.heap.size w VE) := BC.out.trans (hb.mono BC.out.size)
        have pd0 := cellB hb pc0 (lt_of_cell pc0)
        have pd1 := cellB hb pc1 (lt_of_cell pc1)
        have pd2 := cellB hb pc2 (lt_of_cell pc2)
        have pd3 := cellB hb pc3 (lt_of_cell pc3)
        have pd4 := cellB hb pc4 (lt_of_cell pc4)
        have od0 := cellB hb oc0 (lt_of_cell oc0)
        have od1 := cellB hb oc1 (lt_of_cell oc1)
        have od2 := cellB hb oc2 (lt_of_cell oc2)
        have od3 := cellB hb oc3 (lt_of_cell oc3)
        have od4 := cellB hb oc4 (lt_of_cell oc4)
        have vd0 := cellB hb vc0 (lt_of_cell vc0)
        have vd1 := cellB hb vc1 (lt_of_cell vc1)
        have vd2 := cellB hb vc2 (lt_of_cell vc2)
        have vd3 := cellB hb vc3 (lt_of_cell vc3)
        have vd4 := cellB hb vc4 (lt_of_cell vc4)
        have zd0 := cellB hb zc0 (lt_of_cell zc0)
        have zd1 := cellB hb zc1 (lt_of_cell zc1)
        have zd2 := cellB hb zc2 (lt_of_cell zc2)
        have zd3 := cellB hb zc3 (lt_of_cell zc3)
        have zd4 := cellB hb zc4 (lt_of_cell zc4)
        clear hb pc0 pc1 pc2 pc3 pc4 oc0 oc1 oc2 oc3 oc4 vc0 vc1 vc2 vc3 vc4 zc0 zc1 zc2 zc3 zc4
        refine hK.out _ _ (⟨pd0, pd1, pd2, pd3, pd4, od0, od1, od2, od3, od4, vd0, vd1, vd2, vd3, vd4, zd0, zd1, zd2, zd3, zd4⟩) (fun hS4 => ?_)
        clear hK K hS3
        (try simp only [Act.put, List.setIfInBounds_toArray, List.set_cons_zero, List.set_cons_succ])
        refine takeQ (i := 28) (d := some 87) (v := ?_) rfl rfl (by kernel_rfl) (by kernel_rfl) (by kernel_rfl) hPQ hS4 (by kernel_rfl) ?_ ?_
        rotate_left
        · (intro w hSw; (try dsimp only at hSw); obtain ⟨k0, k1, k2, k3, k4, l0, l1, l2, l3, l4, m0, m1, m2, m3, m4, q0, q1, q2, q3, q4⟩ := hSw; go_simp; (try with_reducible rfl))
        (try simp only [Act.put, List.setIfInBounds_toArray, List.set_cons_zero, List.set_cons_succ])
        refine takeQ (i := 29) (d := some 88) (v := ?_) rfl rfl (by kernel_rfl) (by kernel_rfl) (by kernel_rfl) hPQ hS4 (by kernel_rfl) ?_ ?_
        rotate_left
        · (intro w hSw; (try dsimp only at hSw); obtain ⟨k0, k1, k2, k3, k4, l0, l1, l2, l3, l4, m0, m1, m2, m3, m4, q0, q1, q2, q3, q4⟩ := hSw; go_simp; (try with_reducible rfl))
        (try simp only [Act.put, List.setIfInBounds_toArray, List.set_cons_zero, List.set_cons_succ])
        refine takeQ (i := 30) (d := some 6) (v := ?_) rfl rfl (by kernel_rfl) (by kernel_rfl) (by kernel_rfl) hPQ hS4 (by kernel_rfl) ?_ ?_
        rotate_left
        · (intro w hSw; (try dsimp only at hSw); obtain ⟨k0, k1, k2, k3, k4, l0, l1, l2, l3, l4, m0, m1, m2, m3, m4, q0, q1, q2, q3, q4⟩ := hSw; go_simp; (try with_reducible rfl))
        (try simp only [Act.put, List.setIfInBounds_toArray, List.set_cons_zero, List.set_cons_succ])
        refine wpAnyH_done (by kernel_rfl) (hQn.out _ _ ?_) _
        clear hS4 hPQ hQn Qn
        go_wp2_with fail
        exact HR.out _ BE.out
end Go.Proofs.YtciokmjhdbcmpaaGreatDoor
namespace Go.Proofs.YtciokmjhdbcmpaaGreatDoor
open Go.RowKit

def twQ (fs : List Fm) (i k : Nat) : Bool := (fmAt fs k).k == (fmAt fs i).k
def alF (f : Ft) (i : Nat) (_ : Unit) : Unit ⊕ Int := if fcE f (fmAt f.fs i) = 0 then (if anyN (twQ f.fs i) i = true then .inr 7 else .inl ()) else .inr (fcE f (fmAt f.fs i))
/-- The error of a feature with its frames. -/
def alE (f : Ft) : Int := if ftE f = 0 then (if 8 < f.fs.length then 5 else errR (loopE (alF f) f.fs.length 0 ())) else ftE f
set_option maxRecDepth 100000 in
set_option maxHeartbeats 8000000 in
theorem rall_any (f : Ft) (fo : Option Addr) (fc : Nat) (w : World) (R : Ending → World → Prop) (hok : FtOk w f fo fc) (hR : ∀ w', Below w.heap.size w w' → R (.returned (.int .i64 (alE f))) w') :
    Calls Tryz.prog 32 #[ftV f fo fc] w R := by
  have HR := Lib.hid hR
  have HOF := Lib.hid hok
  obtain ⟨fn, hfn⟩ : ∃ fn, f.fs.length = fn := ⟨_, rfl⟩
  have HFV : Hid (ftV f fo fc = .agg #[.string f.n, .int .i64 f.k, .int .i64 f.a, .int .i64 f.x, .int .i64 f.y, .int .i64 f.z, .int .i64 f.l, .int .i64 f.h, .slice fo fn fc]) := by unfold Hid ftV; rw [hfn]
  have HFN := Lib.hid hfn
  have HLF := Lib.hid (hfn ▸ hok.len)
  clear hfn
  rw [HFV.out]
  obtain ⟨w1, E1, HB1, s1, HX1⟩ := box_ex w #[.string f.n, .int .i64 f.k, .int .i64 f.a, .int .i64 f.x, .int .i64 f.y, .int .i64 f.z, .int .i64 f.l, .int .i64 f.h, .slice fo fn fc] 28
  clear hR hok
  obtain ⟨E, hE0⟩ : ∃ E, alE f = E := ⟨_, rfl⟩
  have hE : Hid (alE f = E) := hE0
  rw [hE0] at HR
  clear hE0
  obtain ⟨M, hM⟩ : ∃ M, ftE f = M := ⟨_, rfl⟩
  have HM := Lib.hid hM
  clear hM
  have p0 := cell_at HX1.out (j := 0) (v := .string f.n) rfl
  have p1 := cell_at HX1.out (j := 1) (v := .int .i64 f.k) rfl
  have p2 := cell_at HX1.out (j := 2) (v := .int .i64 f.a) rfl
  have p3 := cell_at HX1.out (j := 3) (v := .int .i64 f.x) rfl
  have p4 := cell_at HX1.out (j := 4) (v := .int .i64 f.y) rfl
  have p5 := cell_at HX1.out (j := 5) (v := .int .i64 f.z) rfl
  have p6 := cell_at HX1.out (j := 6) (v := .int .i64 f.l) rfl
  have p7 := cell_at HX1.out (j := 7) (v := .int .i64 f.h) rfl
  have p8 := cell_at HX1.out (j := 8) (v := .slice fo fn fc) rfl
  go_enter Tryz.func32, Tryz.ntmps32
  go_wp2_with (rw [E1])
  rw [← HFV.out]
  refine rcheck18_any f fo fc _ _ (HOF.out.below HB1.out).name fun W1 hb => ?_
  rw [HM.out]
  have BW : Hid (Below w.heap.size w W1) := HB1.out.trans (hb.mono HB1.out.size)
  have HY := Lib.hid ((hb.block _ (lt_of_block HX1.out)).trans HX1.out)
  clear p0 p1 p2 p3 p4 p5 p6 p7 p8
  clear hb E1 HX1
  have p0 := cell_at HY.out (j := 0) (v := .string f.n) rfl
  have p1 := cell_at HY.out (j := 1) (v := .int .i64 f.k) rfl
  have p2 := cell_at HY.out (j := 2) (v := .int .i64 f.a) rfl
  have p3 := cell_at HY.out (j := 3) (v := .int .i64 f.x) rfl
  have p4 := cell_at HY.out (j := 4) (v := .int .i64 f.y) rfl
  have p5 := cell_at HY.out (j := 5) (v := .int .i64 f.z) rfl
  have p6 := cell_at HY.out (j := 6) (v := .int .i64 f.l) rfl
  have p7 := cell_at HY.out (j := 7) (v := .int .i64 f.h) rfl
  have p8 := cell_at HY.out (j := 8) (v := .slice fo fn fc) rfl
  by_cases m0 : M = 0
  rotate_left
  · have K3 : (M != 0) = true := by simpa using m0
    have e : Hid (E = M) := by unfold Hid; rw [← hE.out]; unfold alE; rw [if_neg (by rw [HM.out]; exact m0), HM.out]
    clear m0
    go_wp2_with fail
    exact ret_i (HR.out _ BW.out) rfl e.out
  subst m0
  by_cases h8 : 8 < fn
  · have K5 : (8 < fn) = True := eq_true h8
    have e : Hid (E = 5) := by unfold Hid; rw [← hE.out]; unfold alE; rw [if_pos HM.out, HFN.out, if_pos h8]
    go_wp2_with fail
    exact ret_i (HR.out _ BW.out) rfl e.out
  have K5 : (8 < fn) = False := eq_false h8
  obtain ⟨X, hX⟩ : ∃ X, loopE (alF f) fn 0 () = X := ⟨_, rfl⟩
  have e : Hid (E = errR X) := by unfold Hid; rw [← hE.out, ← hX]; unfold alE; rw [if_pos HM.out, HFN.out, if_neg h8]
  have hX' := Lib.hid hX
  clear hE hX
  go_wp2_with fail
  clear p0 p1 p2 p3 p4 p5 p6 p7 p8
  go_loopw [4] (fun j wr => ∃ i : Nat, i ≤ fn ∧ j = .int .i64 i ∧ Hid (Below W1.heap.size W1 wr) ∧ Hid (loopE (alF f) (fn - i) i () = X)) (fun j _ => fn - (intOf j).toNat)
  case atStart => exact ⟨0, Nat.zero_le _, rfl, Below.refl _ _, hX'⟩
  case round =>
    obtain ⟨i, hi, rfl, HB, hL⟩ := hrel
    have Br : Hid (Below w.heap.size w wr) := BW.out.trans (HB.out.mono BW.out.size)
    have HZ := Lib.hid ((HB.out.block _ (lt_of_block HY.out)).trans HY.out)
    have p0 := cell_at HZ.out (j := 0) (v := .string f.n) rfl
    have p1 := cell_at HZ.out (j := 1) (v := .int .i64 f.k) rfl
    have p2 := cell_at HZ.out (j := 2) (v := .int .i64 f.a) rfl
    have p3 := cell_at HZ.out (j := 3) (v := .int .i64 f.x) rfl
    have p4 := cell_at HZ.out (j := 4) (v := .int .i64 f.y) rfl
    have p5 := cell_at HZ.out (j := 5) (v := .int .i64 f.z) rfl
    have p6 := cell_at HZ.out (j := 6) (v := .int .i64 f.l) rfl
    have p7 := cell_at HZ.out (j := 7) (v := .int .i64 f.h) rfl
    have p8 := cell_at HZ.out (j := 8) (v := .slice fo fn fc) rfl
    by_cases hlt : i < fn
    · obtain ⟨b, og, ef, hbf, hcl⟩ := HOF.out.frames (by rw [HFN.out]; omega)
      have EF := Lib.hid ef
      clear ef
      obtain ⟨xa, xc, hxo, c0, c1, c2, c3, c4⟩ := hcl i (by rw [HFN.out]; exact hlt)
      obtain ⟨x, hx⟩ : ∃ x, fmAt f.fs i = x := ⟨_, rfl⟩
      rw [hx] at hxo c0 c1 c2 c3 c4
      have HO := Lib.hid hxo
      have HFX := Lib.hid hx
      have r0 := cellB Br.out c0 hbf
      have r1 := cellB Br.out c1 hbf
      have r2 := cellB Br.out c2 hbf
      have r3 := cellB Br.out c3 hbf
      have r4 := cellB Br.out c4 hbf
      clear hcl hx hxo c0 c1 c2 c3 c4
      rw [EF.out] at p8
      obtain ⟨G, hG⟩ : ∃ g, fcE f x = g := ⟨_, rfl⟩
      have HG := Lib.hid hG
      clear hG
      have hF : Hid (alF f i () = if G = 0 then (if anyN (twQ f.fs i) i = true then .inr 7 else .inl ()) else .inr G) := by unfold Hid alF; rw [HFX.out, HG.out]
      have HXV : Hid (fmV x xa xc = .agg #[.int .i64 x.k, .bool x.d, .int .i64 x.t, .int .i64 x.m, .slice xa x.ds.length xc]) := rfl
      go_wp2_with fail
      skip
      have BE : Hid (Below wr.heap.size wr wr.drew) := (Below.refl _ _).drew
      have BD : Hid (Below w.heap.size w wr.drew) := Br.out.trans (BE.out.mono Br.out.size)
      have p0 : wr.drew.cell? _ = _ := p0
      have p1 : wr.drew.cell? _ = _ := p1
      have p2 : wr.drew.cell? _ = _ := p2
      have p3 : wr.drew.cell? _ = _ := p3
      have p4 : wr.drew.cell? _ = _ := p4
      have p5 : wr.drew.cell? _ = _ := p5
      have p6 : wr.drew.cell? _ = _ := p6
      have p7 : wr.drew.cell? _ = _ := p7
      have p8 : wr.drew.cell? _ = _ := p8
      have r0 : wr.drew.cell? _ = _ := r0
      have r1 : wr.drew.cell? _ = _ := r1
      have r2 : wr.drew.cell? _ = _ := r2
      have r3 : wr.drew.cell? _ = _ := r3
      have r4 : wr.drew.cell? _ = _ := r4
      refine regionQ (fun w' => w'.cell? ⟨w.heap.size, 0, none⟩ = some (.string f.n) ∧ w'.cell? ⟨w.heap.size, 1, none⟩ = some (.int .i64 f.k) ∧ w'.cell? ⟨w.heap.size, 2, none⟩ = some (.int .i64 f.a) ∧ w'.cell? ⟨w.heap.size, 3, none⟩ = some (.int .i64 f.x) ∧ w'.cell? ⟨w.heap.size, 4, none⟩ = some (.int .i64 f.y) ∧ w'.cell? ⟨w.heap.size, 5, none⟩ = some (.int .i64 f.z) ∧ w'.cell? ⟨w.heap.size, 6, none⟩ = some (.int .i64 f.l) ∧ w'.cell? ⟨w.heap.size, 7, none⟩ = some (.int .i64 f.h) ∧ w'.cell? ⟨w.heap.size, 8, none⟩ = some (.slice (some ⟨b, og, none⟩) fn fc) ∧ w'.cell? ⟨b, og + i * 5, none⟩ = some (.int .i64 x.k) ∧ w'.cell? ⟨b, og + i * 5 + 1, none⟩ = some (.bool x.d) ∧ w'.cell? ⟨b, og + i * 5 + 2, none⟩ = some (.int .i64 x.t) ∧ w'.cell? ⟨b, og + i * 5 + 3, none⟩ = some (.int .i64 x.m) ∧ w'.cell? ⟨b, og + i * 5 + 4, none⟩ = some (.slice xa x.ds.length xc)) (by kernel_rfl) (⟨p0, p1, p2, p3, p4, p5, p6, p7, p8, r0, r1, r2, r3, r4⟩) (fun Qn hPQ hQn hS0 => ?_)
      refine takeQ (i := 0) (d := some 23) (v := ?_) rfl rfl (by kernel_rfl) (by kernel_rfl) (by kernel_rfl) hPQ hS0 (by kernel_rfl) ?_ ?_
      rotate_left
      · (intro w hSw; (try dsimp only at hSw); obtain ⟨k0, k1, k2, k3, k4, k5, k6, k7, k8, l0, l1, l2, l3, l4⟩ := hSw; go_simp; (try with_reducible rfl))
      (try simp only [Act.put, List.setIfInBounds_toArray, List.set_cons_zero, List.set_cons_succ])
      refine takeQ (i := 1) (d := some 24) (v := ?_) rfl rfl (by kernel_rfl) (by kernel_rfl) (by kernel_rfl) hPQ hS0 (by kernel_rfl) ?_ ?_
      rotate_left
      · (intro w hSw; (try dsimp only at hSw); obtain ⟨k0, k1, k2, k3, k4, k5, k6, k7, k8, l0, l1, l2, l3, l4⟩ := hSw; go_simp; (try with_reducible rfl))
      (try simp only [Act.put, List.setIfInBounds_toArray, List.set_cons_zero, List.set_cons_succ])
      refine takeQ (i := 2) (d := some 25) (v := ?_) rfl rfl (by kernel_rfl) (by kernel_rfl) (by kernel_rfl) hPQ hS0 (by kernel_rfl) ?_ ?_
      rotate_left
      · (intro w hSw; (try dsimp only at hSw); obtain ⟨k0, k1, k2, k3, k4, k5, k6, k7, k8, l0, l1, l2, l3, l4⟩ := hSw; go_simp; (try with_reducible rfl))
      (try simp only [Act.put, List.setIfInBounds_toArray, List.set_cons_zero, List.set_cons_succ])
      refine takeQ (i := 3) (d := some 26) (v := ?_) rfl rfl (by kernel_rfl) (by kernel_rfl) (by kernel_rfl) hPQ hS0 (by kernel_rfl) ?_ ?_
      rotate_left
      · (intro w hSw; (try dsimp only at hSw); obtain ⟨k0, k1, k2, k3, k4, k5, k6, k7, k8, l0, l1, l2, l3, l4⟩ := hSw; go_simp; (try with_reducible rfl))
      (try simp only [Act.put, List.setIfInBounds_toArray, List.set_cons_zero, List.set_cons_succ])
      refine takeQ (i := 4) (d := some 27) (v := ?_) rfl rfl (by kernel_rfl) (by kernel_rfl) (by kernel_rfl) hPQ hS0 (by kernel_rfl) ?_ ?_
      rotate_left
      · (intro w hSw; (try dsimp only at hSw); obtain ⟨k0, k1, k2, k3, k4, k5, k6, k7, k8, l0, l1, l2, l3, l4⟩ := hSw; go_simp; (try with_reducible rfl))
      (try simp only [Act.put, List.setIfInBounds_toArray, List.set_cons_zero, List.set_cons_succ])
      refine takeQ (i := 5) (d := some 28) (v := ?_) rfl rfl (by kernel_rfl) (by kernel_rfl) (by kernel_rfl) hPQ hS0 (by kernel_rfl) ?_ ?_
      rotate_left
      · (intro w hSw; (try dsimp only at hSw); obtain ⟨k0, k1, k2, k3, k4, k5, k6, k7, k8, l0, l1, l2, l3, l4⟩ := hSw; go_simp; (try with_reducible rfl))
      (try simp only [Act.put, List.setIfInBounds_toArray, List.set_cons_zero, List.set_cons_succ])
      refine wpAnyH_ready (rs := [6]) (by kernel_rfl) (by simp) ?_
      refine AllReadyH.cons (o := _) rfl (fun K hK => ?_) AllReadyH.nil
      go_simp
      rw [show (Value.agg #[.string f.n, .int .i64 f.k, .int .i64 f.a, .int .i64 f.x, .int .i64 f.y, .int .i64 f.z, .int .i64 f.l, .int .i64 f.h, .slice (some ⟨b, og, none⟩) fn fc]) = ftV f fo fc from by rw [HFV.out, EF.out]]
      rw [← HXV.out]
      refine rfcheck_any f fo fc x xa xc _ _ (HOF.out.below BD.out) (HO.out.below BD.out) fun V1 hb => ?_
      rw [HG.out]
      have B2 : Hid (Below wr.heap.size wr V1) := BE.out.trans (hb.mono BE.out.size)
      have s0 := cellB hb p0 (lt_of_cell p0)
      have s1 := cellB hb p1 (lt_of_cell p1)
      have s2 := cellB hb p2 (lt_of_cell p2)
      have s3 := cellB hb p3 (lt_of_cell p3)
      have s4 := cellB hb p4 (lt_of_cell p4)
      have s5 := cellB hb p5 (lt_of_cell p5)
      have s6 := cellB hb p6 (lt_of_cell p6)
      have s7 := cellB hb p7 (lt_of_cell p7)
      have s8 := cellB hb p8 (lt_of_cell p8)
      have t0 := cellB hb r0 (lt_of_cell r0)
      have t1 := cellB hb r1 (lt_of_cell r1)
      have t2 := cellB hb r2 (lt_of_cell r2)
      have t3 := cellB hb r3 (lt_of_cell r3)
      have t4 := cellB hb r4 (lt_of_cell r4)
      clear hb
      refine hK.out _ _ (⟨s0, s1, s2, s3, s4, s5, s6, s7, s8, t0, t1, t2, t3, t4⟩) (fun hS1 => ?_)
      clear hK K hS0
      (try simp only [Act.put, List.setIfInBounds_toArray, List.set_cons_zero, List.set_cons_succ])
      refine takeQ (i := 7) (d := some 5) (v := ?_) rfl rfl (by kernel_rfl) (by kernel_rfl) (by kernel_rfl) hPQ hS1 (by kernel_rfl) ?_ ?_
      rotate_left
      · (intro w hSw; (try dsimp only at hSw); obtain ⟨k0, k1, k2, k3, k4, k5, k6, k7, k8, l0, l1, l2, l3, l4⟩ := hSw; go_simp; (try with_reducible rfl))
      (try simp only [Act.put, List.setIfInBounds_toArray, List.set_cons_zero, List.set_cons_succ])
      refine wpAnyH_done (by kernel_rfl) (hQn.out _ _ ?_) _
      clear hS1 hPQ hQn Qn
      clear p0 s0 p1 s1 p2 s2 p3 s3 p4 s4 p5 s5 p6 s6 p7 s7 p8 s8
      clear r0 t0 r1 t1 r2 t2 r3 t3 r4 t4
      have BV : Hid (Below w.heap.size w V1) := Br.out.trans (B2.out.mono Br.out.size)
      have HV1 := Lib.hid ((B2.out.block _ (lt_of_block HZ.out)).trans HZ.out)
      have BV1 : Hid (Below W1.heap.size W1 V1) := HB.out.trans (B2.out.mono HB.out.size)
      clear B2 BD BE
      by_cases g0 : G = 0
      rotate_left
      · have K3 : (G != 0) = true := by simpa using g0
        have e2 : Hid (E = G) := by unfold Hid; rw [e.out, loopE_hit hL hlt (by rw [hF.out, if_neg g0])]; rfl
        clear g0
        go_wp2_with fail
        exact ret_i (HR.out _ BV.out) rfl e2.out
      subst g0
      have hF2 : Hid (alF f i () = if anyN (twQ f.fs i) i = true then .inr 7 else .inl ()) := by unfold Hid; rw [hF.out, if_pos rfl]
      clear hF
      obtain ⟨wo, hwo⟩ : ∃ wo, wo = wr := ⟨_, rfl⟩
      subst hwo
      go_wp2_with fail
      go_loopw [6] (fun j wr => ∃ k : Nat, k ≤ i ∧ j = .int .i64 k ∧ Hid (Below V1.heap.size V1 wr) ∧ Hid (anyN (twQ f.fs i) k = false)) (fun j _ => i - (intOf j).toNat)
      case atStart => exact ⟨0, Nat.zero_le _, rfl, Below.refl _ _, rfl⟩
      case round =>
        obtain ⟨k, hk, rfl, HB2, HA⟩ := hrel
        have Bk : Hid (Below w.heap.size w wr) := BV.out.trans (HB2.out.mono BV.out.size)
        have HZk := Lib.hid ((HB2.out.block _ (lt_of_block HV1.out)).trans HV1.out)
        have p0 := cell_at HZk.out (j := 0) (v := .string f.n) rfl
        have p1 := cell_at HZk.out (j := 1) (v := .int .i64 f.k) rfl
        have p2 := cell_at HZk.out (j := 2) (v := .int .i64 f.a) rfl
        have p3 := cell_at HZk.out (j := 3) (v := .int .i64 f.x) rfl
        have p4 := cell_at HZk.out (j := 4) (v := .int .i64 f.y) rfl
        have p5 := cell_at HZk.out (j := 5) (v := .int .i64 f.z) rfl
        have p6 := cell_at HZk.out (j := 6) (v := .int .i64 f.l) rfl
        have p7 := cell_at HZk.out (j := 7) (v := .int .i64 f.h) rfl
        have p8 := cell_at HZk.out (j := 8) (v := .slice fo fn fc) rfl
        rw [EF.out] at p8
        by_cases hlk : k < i
        · obtain ⟨b2, og2, ef2, _, hcl⟩ := HOF.out.frames (by rw [HFN.out]; omega)
          obtain ⟨rfl, rfl⟩ : b = b2 ∧ og = og2 := by simpa [EF.out] using ef2
          obtain ⟨_, _, _, c0, _, _, _, _⟩ := hcl i (by rw [HFN.out]; exact hlt)
          obtain ⟨_, _, _, d0, _, _, _, _⟩ := hcl k (by rw [HFN.out]; omega)
          have hq : Hid (twQ f.fs i k = ((fmAt f.fs k).k == (fmAt f.fs i).k)) := rfl
          obtain ⟨u, hu⟩ : ∃ u, (fmAt f.fs k).k = u := ⟨_, rfl⟩
          obtain ⟨v, hv⟩ : ∃ u, (fmAt f.fs i).k = u := ⟨_, rfl⟩
          rw [hu] at d0
          rw [hv] at c0
          rw [hu, hv] at hq
          have r0 := cellB Bk.out c0 hbf
          have q0 := cellB Bk.out d0 hbf
          have hkf : k < fn := by omega
          clear hcl c0 d0 hu hv ef2
          cases hb : (u == v) with
          | true =>
            rw [hb] at hq
            have e3 : Hid (E = 7) := by unfold Hid; rw [e.out, loopE_hit hL hlt (by rw [hF2.out, if_pos (anyN_true hlk hq.out)])]; rfl
            go_wp2_with fail
            go_quiet (fail)
            go_wp2_with fail
            exact ret_i (HR.out _ (Bk.out.trans ⟨rfl, rfl, rfl, Nat.le_refl _, fun _ _ => rfl⟩)) rfl e3.out
          | false =>
            rw [hb] at hq
            go_wp2_with fail
            go_quiet (fail)
            go_wp2_with fail
            exact ⟨⟨k + 1, by omega, by go_num, HB2.out.trans ⟨rfl, rfl, rfl, Nat.le_refl _, fun _ _ => rfl⟩, anyN_step HA.out hq.out⟩, by simp [intOf]; omega⟩
        · obtain rfl : k = i := by omega
          have hstep := loopE_step hL hlt (by rw [hF2.out, if_neg (by rw [HA.out]; simp)])
          go_wp2_with fail
          exact ⟨⟨k + 1, by omega, by go_num, BV1.out.trans (HB2.out.mono BV1.out.size), hstep⟩, by simp [intOf]; omega⟩
    · obtain rfl : i = fn := by omega
      have e2 : Hid (E = 0) := by unfold Hid; rw [e.out, loopE_done hL hlt]; rfl
      go_wp2_with fail
      exact ret_i (HR.out _ Br.out) rfl e2.out
end Go.Proofs.YtciokmjhdbcmpaaGreatDoor
