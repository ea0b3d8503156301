/- The walk of the law StockTakes: it returns true, and memory that was there is as it was. (Printed by gen_takes.py.) -/
import Derived.Test.YteoniejpfmeibaaDoorSs
import Derived.Test.YteoniejpfmeibaaDoorSaa
import Derived.Test.YteoniejpfmeibaaDoorSl
import Derived.Test.YteoniejpfmeibaaDoorSx
namespace Go.Proofs.YteoniejpfmeibaaDoor
open Go.RowKit Go.Shelf

theorem rtF_len (L : List Int) (x : Int) (n : Nat) : ∀ (k j : Nat) (bs : List B5), bs.length ≤ n → (rtR1 (loopE (rtF L x) k j bs)).length ≤ n
  | 0, _, _, h => h
  | k + 1, j, bs, h => by
    have e2 : rtF L x j bs = .inr 11 ∨ ∃ b, rtF L x j bs = .inl (bs.set (at0 L j).toNat b) := by
      unfold rtF; split
      · exact .inl rfl
      · exact .inr ⟨_, rfl⟩
    rw [loopE]
    rcases e2 with e | ⟨b, e⟩
    · rw [e]; simp [rtR1]
    · rw [e]; exact rtF_len L x n k (j + 1) _ (by rw [List.length_set]; exact h)
theorem rtB_len (m : Int) (bs : List B5) (who : ByteArray) (x : Int) (h : bs.length ≤ 512) : (rtB m bs who x).length ≤ 512 := by
  unfold rtB; split
  · exact rtF_len _ _ _ _ _ _ h
  · simp
theorem tkB_len (m : Int) (bs : List B5) (who : ByteArray) (x : Int) (h : bs.length ≤ 512) : (tkB m bs who x).length ≤ 512 := by
  unfold tkB; split
  · rw [tkTo_length]; exact h
  · simp
theorem tkO_len (m : Int) (bs : List B5) (who : ByteArray) (x : Int) (h : bs.length ≤ 512) : (tkO m bs who x).length ≤ 512 := by
  unfold tkO; split
  · rw [tkOut_length]
    have h1 := fewL_length' (tkSet m bs) x
    have h2 : (tkSet m bs).length ≤ bs.length := by
      unfold tkSet; exact Nat.le_trans (Nat.le_of_eq (lensTo_length _ _ _)) (pickTo_length _ _ _)
    omega
  · simp

set_option maxRecDepth 100000 in
set_option maxHeartbeats 8000000 in
theorem lawTakes (m : Int) (ao : Option Addr) (bs : List B5) (c : Nat) (who : ByteArray) (x : Int) (w : World) (R : Ending → World → Prop)
   (hl : bs.length * 40 ≤ 140737488355328) (hb : BSl w ao c bs) (hs : StrOk bs) (hw : who.size ≤ 9223372036854775807) (hR : ∀ w', Below w.heap.size w w' → R (.returned (.bool true)) w') :
    Calls Tryd.prog 5 #[.agg #[.int .i64 m, .slice ao bs.length c], .string who, .int .i64 x] w R := by
  have HR := Lib.hid hR
  have HS0 := Lib.hid hb
  clear hR hb
  obtain ⟨w1, E1, HB1, s1, b0, b1⟩ := box2 w (.int .i64 m) (.slice ao bs.length c) 24
  have S1 := Lib.hid (HS0.out.below HB1.out)
  have p0 := Lib.hid b0
  have p1 := Lib.hid b1
  clear b0 b1
  cases hf : fwB bs with
  | false =>
    have HF := Lib.hid hf
    clear hf
    go_enter Tryd.func5, Tryd.ntmps5
    go_wp2_with fail
    rw [E1.out]
    refine own_any m ao bs c _ _ hl S1.out.1 ?_
    intro a2 c2 w2 hb2 _ _
    have HB2 := Lib.hid (HB1.out.trans (hb2.mono (by omega)))
    clear hb2
    go_wp2_with fail
    refine few_any m a2 bs c2 _ _ ?_
    rw [HF.out]
    intro w3 hb3
    have HB3 := Lib.hid (HB2.out.trans (hb3.mono HB2.out.size))
    clear hb3
    go_wp2_with fail
    refine awake_any _ _ ?_
    intro w4 hb4
    have HB4 := Lib.hid (HB3.out.trans (hb4.mono HB3.out.size))
    clear hb4
    go_wp2_with fail
    exact HR.out _ HB4.out
  | true =>
    have HF := Lib.hid hf
    have hlen : bs.length ≤ 512 := by
      unfold fwB at hf; rw [Bool.or_eq_true, Bool.and_eq_true, decide_eq_true_eq, decide_eq_true_eq, decide_eq_true_eq] at hf; omega
    have h8 : chkS m bs = 0 → bs.length ≤ 8 := fun h => by
      have := chkS_len h
      unfold fwB at hf; rw [Bool.or_eq_true, Bool.and_eq_true, decide_eq_true_eq, decide_eq_true_eq, decide_eq_true_eq] at hf; omega
    clear hf
    by_cases h100 : 100 < who.size
    · have h100' : decide ((100 : Int) < (who.size : Int)) = true := by rw [decide_eq_true_eq]; omega
      go_enter Tryd.func5, Tryd.ntmps5
      go_wp2_with fail
      rw [E1.out]
      refine own_any m ao bs c _ _ hl S1.out.1 ?_
      intro a2 c2 w2 hb2 _ _
      have HB2 := Lib.hid (HB1.out.trans (hb2.mono (by omega)))
      clear hb2
      go_wp2_with fail
      refine few_any m a2 bs c2 _ _ ?_
      rw [HF.out]
      intro w3 hb3
      have HB3 := Lib.hid (HB2.out.trans (hb3.mono HB2.out.size))
      clear hb3
      go_wp2_with fail
      refine awake_any _ _ ?_
      intro w4 hb4
      have HB4 := Lib.hid (HB3.out.trans (hb4.mono HB3.out.size))
      clear hb4
      go_wp2_with fail
      exact HR.out _ HB4.out
    have h100' : decide ((100 : Int) < (who.size : Int)) = false := by rw [decide_eq_false_iff_not]; omega
    obtain ⟨B, hB⟩ : ∃ B, Hid (tkB m bs who x = B) := ⟨_, rfl⟩
    obtain ⟨O, hO⟩ : ∃ O, Hid (tkO m bs who x = O) := ⟨_, rfl⟩
    obtain ⟨E, hE⟩ : ∃ E, Hid (tkE m bs who x = E) := ⟨_, rfl⟩
    obtain ⟨M, hM⟩ : ∃ M, Hid (okM m E = M) := ⟨_, rfl⟩
    obtain ⟨Q, hQ⟩ : ∃ Q, Hid (rtB m bs who x = Q) := ⟨_, rfl⟩
    obtain ⟨F, hF⟩ : ∃ F, Hid (rtE m bs who x = F) := ⟨_, rfl⟩
    obtain ⟨N, hN⟩ : ∃ N, Hid (okM m F = N) := ⟨_, rfl⟩
    have hBl : B.length ≤ 512 := by rw [← hB.out]; exact tkB_len _ _ _ _ hlen
    have hOl : O.length ≤ 512 := by rw [← hO.out]; exact tkO_len _ _ _ _ hlen
    have hQl : Q.length ≤ 512 := by rw [← hQ.out]; exact rtB_len _ _ _ _ hlen
    go_enter Tryd.func5, Tryd.ntmps5
    go_wp2_with fail
    rw [E1.out]
    refine own_any m ao bs c _ _ hl S1.out.1 ?_
    intro a2 c2 w2 hb2 _ _
    have B2 := Lib.hid hb2
    clear hb2
    go_wp2_with fail
    refine few_any m a2 bs c2 _ _ ?_
    rw [HF.out]
    intro w3 hb3
    have V3 := Lib.hid (B2.out.trans (hb3.mono B2.out.size))
    have S3 := Lib.hid (S1.out.below V3.out)
    have g0 := cellB V3.out p0.out s1
    have g1 := cellB V3.out p1.out s1
    clear hb3
    go_wp2_with fail
    refine takeS_any m ao bs c who x _ _ (by omega) S3.out.2 S3.out.1 hs hw ?_
    rw [hB.out, hO.out, hE.out, hM.out]
    intro a4 c4 b4 d4 w4 hb4 hs4 ho4 _ _
    have V4' := Lib.hid (V3.out.trans (hb4.mono V3.out.size))
    obtain ⟨Wa, Ea, Ha, ta, a0', a1'⟩ := box2 w4 (.int .i64 M) (.slice a4 B.length c4) 24
    have a0 := Lib.hid a0'
    have a1 := Lib.hid a1'
    clear a0' a1'
    have V4 := Lib.hid (V4'.out.trans (Ha.out.mono V4'.out.size))
    have Da := Lib.hid (hs4.below Ha.out)
    have S4 := Lib.hid (S1.out.below V4.out)
    have La := Lib.hid (ho4.below Ha.out); clear ho4
    have Za : Hid (Below Wa.heap.size Wa Wa) := Below.refl _ _
    have g0 := cellB V4.out p0.out s1
    have g1 := cellB V4.out p1.out s1
    have hg := ta
    rw [← Ea.out] at g0 g1
    clear hb4 hs4
    go_wp2_with fail
    rw [Ea.out]
    clear g0 g1
    have g0 := cellB V4.out p0.out s1
    have g1 := cellB V4.out p1.out s1
    refine own_any m ao bs c _ _ hl S4.out.1 ?_
    intro a5 c5 w5 hb5 hs5 _
    have V5 := Lib.hid (V4.out.trans (hb5.mono V4.out.size))
    have S5 := Lib.hid (S1.out.below V5.out)
    have T5 := Lib.hid hs5
    have Za5 := Lib.hid (Za.out.trans (hb5.mono Za.out.size))
    clear Za; have Za := Za5; clear Za5
    clear hb5 hs5 g0 g1
    go_wp2_with fail
    refine rtake_any m a5 bs c5 who x _ _ (by omega) h8 T5.out.1 hs hw ?_
    rw [hB.out, hO.out, hE.out, hM.out]
    intro a6 c6 b6 d6 w6 hb6 hs6 ho6 _ _
    have V6' := Lib.hid (V5.out.trans (hb6.mono V5.out.size))
    have Za6 := Lib.hid (Za.out.trans (hb6.mono Za.out.size))
    clear Za; have Za := Za6; clear Za6
    obtain ⟨Wb, Eb, Hb, tb, b0', b1'⟩ := box2 w6 (.int .i64 M) (.slice a6 B.length c6) 28
    have b0 := Lib.hid b0'
    have b1 := Lib.hid b1'
    clear b0' b1'
    have V6 := Lib.hid (V6'.out.trans (Hb.out.mono V6'.out.size))
    have Db := Lib.hid (hs6.below Hb.out)
    have S6 := Lib.hid (S1.out.below V6.out)
    have Lb := Lib.hid (ho6.below Hb.out); clear ho6
    have Za6 := Lib.hid (Za.out.trans (Hb.out.mono Za.out.size))
    clear Za; have Za := Za6; clear Za6
    have Zb : Hid (Below Wb.heap.size Wb Wb) := Below.refl _ _
    have g0 := cellB V6.out p0.out s1
    have g1 := cellB V6.out p1.out s1
    have hg := tb
    rw [← Eb.out] at g0 g1
    clear hb6 hs6
    go_wp2_with fail
    rw [Eb.out]
    clear g0 g1
    have g0 := cellB V6.out p0.out s1
    have g1 := cellB V6.out p1.out s1
    refine returnS_any m ao bs c who x _ _ (by omega) S6.out.2 S6.out.1 hs hw ?_
    rw [hQ.out, hF.out, hN.out]
    intro a7 c7 w7 hb7 hs7 _
    have V7' := Lib.hid (V6.out.trans (hb7.mono V6.out.size))
    have Za7 := Lib.hid (Za.out.trans (hb7.mono Za.out.size))
    clear Za; have Za := Za7; clear Za7
    have Zb7 := Lib.hid (Zb.out.trans (hb7.mono Zb.out.size))
    clear Zb; have Zb := Zb7; clear Zb7
    obtain ⟨Wc, Ec, Hc, tc, c0', c1'⟩ := box2 w7 (.int .i64 N) (.slice a7 Q.length c7) 24
    have c0 := Lib.hid c0'
    have c1 := Lib.hid c1'
    clear c0' c1'
    have V7 := Lib.hid (V7'.out.trans (Hc.out.mono V7'.out.size))
    have Dc := Lib.hid (hs7.below Hc.out)
    have S7 := Lib.hid (S1.out.below V7.out)
    have Za7 := Lib.hid (Za.out.trans (Hc.out.mono Za.out.size))
    clear Za; have Za := Za7; clear Za7
    have Zb7 := Lib.hid (Zb.out.trans (Hc.out.mono Zb.out.size))
    clear Zb; have Zb := Zb7; clear Zb7
    have Zc : Hid (Below Wc.heap.size Wc Wc) := Below.refl _ _
    have g0 := cellB V7.out p0.out s1
    have g1 := cellB V7.out p1.out s1
    have hg := tc
    rw [← Ec.out] at g0 g1
    clear hb7 hs7
    go_wp2_with fail
    rw [Ec.out]
    clear g0 g1
    have g0 := cellB V7.out p0.out s1
    have g1 := cellB V7.out p1.out s1
    refine own_any m ao bs c _ _ hl S7.out.1 ?_
    intro a8 c8 w8 hb8 hs8 _
    have V8 := Lib.hid (V7.out.trans (hb8.mono V7.out.size))
    have S8 := Lib.hid (S1.out.below V8.out)
    have T8 := Lib.hid hs8
    have Za8 := Lib.hid (Za.out.trans (hb8.mono Za.out.size))
    clear Za; have Za := Za8; clear Za8
    have Zb8 := Lib.hid (Zb.out.trans (hb8.mono Zb.out.size))
    clear Zb; have Zb := Zb8; clear Zb8
    have Zc8 := Lib.hid (Zc.out.trans (hb8.mono Zc.out.size))
    clear Zc; have Zc := Zc8; clear Zc8
    clear hb8 hs8 g0 g1
    go_wp2_with fail
    refine rreturn_any m a8 bs c8 who x _ _ (by omega) T8.out.1 hs hw ?_
    rw [hQ.out, hF.out, hN.out]
    intro a9 c9 w9 hb9 hs9 _
    have V9' := Lib.hid (V8.out.trans (hb9.mono V8.out.size))
    have Za9 := Lib.hid (Za.out.trans (hb9.mono Za.out.size))
    clear Za; have Za := Za9; clear Za9
    have Zb9 := Lib.hid (Zb.out.trans (hb9.mono Zb.out.size))
    clear Zb; have Zb := Zb9; clear Zb9
    have Zc9 := Lib.hid (Zc.out.trans (hb9.mono Zc.out.size))
    clear Zc; have Zc := Zc9; clear Zc9
    obtain ⟨Wd, Ed, Hd, td, d0', d1'⟩ := box2 w9 (.int .i64 N) (.slice a9 Q.length c9) 28
    have d0 := Lib.hid d0'
    have d1 := Lib.hid d1'
    clear d0' d1'
    have V9 := Lib.hid (V9'.out.trans (Hd.out.mono V9'.out.size))
    have Dd := Lib.hid (hs9.below Hd.out)
    have S9 := Lib.hid (S1.out.below V9.out)
    have Za9 := Lib.hid (Za.out.trans (Hd.out.mono Za.out.size))
    clear Za; have Za := Za9; clear Za9
    have Zb9 := Lib.hid (Zb.out.trans (Hd.out.mono Zb.out.size))
    clear Zb; have Zb := Zb9; clear Zb9
    have Zc9 := Lib.hid (Zc.out.trans (Hd.out.mono Zc.out.size))
    clear Zc; have Zc := Zc9; clear Zc9
    have Zd : Hid (Below Wd.heap.size Wd Wd) := Below.refl _ _
    have g0 := cellB V9.out p0.out s1
    have g1 := cellB V9.out p1.out s1
    rw [← Ed.out] at g0 g1
    clear hb9 hs9
    go_wp2_with fail
    rw [Ed.out]
    clear g0 g1
    have a0f := cellB Za.out a0.out ta
    have a1f := cellB Za.out a1.out ta
    have Daf := Lib.hid (Da.out.below Za.out)
    have alt : w4.heap.size < Wd.heap.size := Nat.lt_of_lt_of_le ta Za.out.size
    have b0f := cellB Zb.out b0.out tb
    have b1f := cellB Zb.out b1.out tb
    have Dbf := Lib.hid (Db.out.below Zb.out)
    have blt : w6.heap.size < Wd.heap.size := Nat.lt_of_lt_of_le tb Zb.out.size
    have c0f := cellB Zc.out c0.out tc
    have c1f := cellB Zc.out c1.out tc
    have Dcf := Lib.hid (Dc.out.below Zc.out)
    have clt : w7.heap.size < Wd.heap.size := Nat.lt_of_lt_of_le tc Zc.out.size
    have d0f := cellB Zd.out d0.out td
    have d1f := cellB Zd.out d1.out td
    have Ddf := Lib.hid (Dd.out.below Zd.out)
    have dlt : w9.heap.size < Wd.heap.size := Nat.lt_of_lt_of_le td Zd.out.size
    have Laf := Lib.hid (La.out.below Za.out)
    have Lbf := Lib.hid (Lb.out.below Zb.out)
    have A := Lib.hid (HB1.out.trans (V9.out.mono (by omega)))
    have zA := A.out.size
    have HBB : Hid (Below Wd.heap.size Wd Wd.drew) := (Below.refl _ _).drew
    go_region_held3 (fun w' => w'.cell? ⟨w4.heap.size, 0, none⟩ = some (.int .i64 M) ∧ w'.cell? ⟨w4.heap.size, 1, none⟩ = some (.slice a4 B.length c4) ∧ w'.cell? ⟨w6.heap.size, 0, none⟩ = some (.int .i64 M) ∧ w'.cell? ⟨w6.heap.size, 1, none⟩ = some (.slice a6 B.length c6) ∧ w'.cell? ⟨w7.heap.size, 0, none⟩ = some (.int .i64 N) ∧ w'.cell? ⟨w7.heap.size, 1, none⟩ = some (.slice a7 Q.length c7) ∧ w'.cell? ⟨w9.heap.size, 0, none⟩ = some (.int .i64 N) ∧ w'.cell? ⟨w9.heap.size, 1, none⟩ = some (.slice a9 Q.length c9) ∧ Hid (Below Wd.heap.size Wd w'))
      (first | go_keep | exact ⟨r0, r1, r2, r3, r4, r5, r6, r7, r8⟩ | exact ⟨s0, s1, s2, s3, s4, s5, s6, s7, s8⟩ | exact ⟨t0, t1, t2, t3, t4, t5, t6, t7, t8⟩ | exact ⟨u0, u1, u2, u3, u4, u5, u6, u7, u8⟩ | exact ⟨v0, v1, v2, v3, v4, v5, v6, v7, v8⟩ | exact ⟨y0, y1, y2, y3, y4, y5, y6, y7, y8⟩)
      (first
        | (go_at_call 13; (fail_if_success (have gg := r8.out)); refine own_any M a4 B c4 _ _ (by omega) (Daf.out.1.below HBB.out) ?_; intro o1 k1 x1 hbx1 hsx1 _; have r8 : Hid (Below Wd.heap.size Wd x1) := HBB.out.trans (hbx1.mono HBB.out.size); have r0 := cellB r8.out a0f alt; have r1 := cellB r8.out a1f alt; have r2 := cellB r8.out b0f blt; have r3 := cellB r8.out b1f blt; have r4 := cellB r8.out c0f clt; have r5 := cellB r8.out c1f clt; have r6 := cellB r8.out d0f dlt; have r7 := cellB r8.out d1f dlt; have O1 := Lib.hid hsx1; clear hbx1 hsx1)
        | (go_at_call 24; (have gg := r8.out; clear gg); (fail_if_success (have gg := s8.out)); refine rsame_any M o1 a6 B k1 c6 _ _ (by omega) O1.out.1 (Dbf.out.1.below r8.out) ?_; intro x2 hbx2; have s8 : Hid (Below Wd.heap.size Wd x2) := r8.out.trans (hbx2.mono r8.out.size); have s0 := cellB s8.out a0f alt; have s1 := cellB s8.out a1f alt; have s2 := cellB s8.out b0f blt; have s3 := cellB s8.out b1f blt; have s4 := cellB s8.out c0f clt; have s5 := cellB s8.out c1f clt; have s6 := cellB s8.out d0f dlt; have s7 := cellB s8.out d1f dlt; clear hbx2)
        | (go_at_call 21; (have gg := s8.out; clear gg); (fail_if_success (have gg := t8.out)); refine equal51 b4 b6 O _ d4 d6 _ _ rfl (by omega) (Laf.out.below s8.out) (Lbf.out.below s8.out) ?_; intro x6 hbx6; have t8 : Hid (Below Wd.heap.size Wd x6) := s8.out.trans (hbx6.below _); have t0 := cellB t8.out a0f alt; have t1 := cellB t8.out a1f alt; have t2 := cellB t8.out b0f blt; have t3 := cellB t8.out b1f blt; have t4 := cellB t8.out c0f clt; have t5 := cellB t8.out c1f clt; have t6 := cellB t8.out d0f dlt; have t7 := cellB t8.out d1f dlt; clear hbx6)
        | (go_at_call 13; (have gg := t8.out; clear gg); (fail_if_success (have gg := u8.out)); refine own_any N a7 Q c7 _ _ (by omega) (Dcf.out.1.below t8.out) ?_; intro o3 k3 x3 hbx3 hsx3 _; have u8 : Hid (Below Wd.heap.size Wd x3) := t8.out.trans (hbx3.mono t8.out.size); have u0 := cellB u8.out a0f alt; have u1 := cellB u8.out a1f alt; have u2 := cellB u8.out b0f blt; have u3 := cellB u8.out b1f blt; have u4 := cellB u8.out c0f clt; have u5 := cellB u8.out c1f clt; have u6 := cellB u8.out d0f dlt; have u7 := cellB u8.out d1f dlt; have O3 := Lib.hid hsx3; clear hbx3 hsx3)
        | (go_at_call 24; (have gg := u8.out; clear gg); (fail_if_success (have gg := v8.out)); refine rsame_any N o3 a9 Q k3 c9 _ _ (by omega) O3.out.1 (Ddf.out.1.below u8.out) ?_; intro x4 hbx4; have v8 : Hid (Below Wd.heap.size Wd x4) := u8.out.trans (hbx4.mono u8.out.size); have v0 := cellB v8.out a0f alt; have v1 := cellB v8.out a1f alt; have v2 := cellB v8.out b0f blt; have v3 := cellB v8.out b1f blt; have v4 := cellB v8.out c0f clt; have v5 := cellB v8.out c1f clt; have v6 := cellB v8.out d0f dlt; have v7 := cellB v8.out d1f dlt; clear hbx4)
        | (go_at_call 14; (have gg := v8.out; clear gg); (fail_if_success (have gg := y8.out)); refine awake_any _ _ ?_; intro x5 hbx5; have y8 : Hid (Below Wd.heap.size Wd x5) := v8.out.trans (hbx5.mono v8.out.size); have y0 := cellB y8.out a0f alt; have y1 := cellB y8.out a1f alt; have y2 := cellB y8.out b0f blt; have y3 := cellB y8.out b1f blt; have y4 := cellB y8.out c0f clt; have y5 := cellB y8.out c1f clt; have y6 := cellB y8.out d0f dlt; have y7 := cellB y8.out d1f dlt; clear hbx5))
    all_goals
      go_wp2_with fail
      exact HR.out _ (A.out.trans (y8.out.mono zA))
end Go.Proofs.YteoniejpfmeibaaDoor
