/- The walk of the law StockRuns. -/
import Derived.Test.YteoniejpfmeibaaDoorSam
import Derived.Test.YteoniejpfmeibaaDoorSan
import Derived.Test.YteoniejpfmeibaaDoorSp
import Derived.Test.YteoniejpfmeibaaDoorSab
namespace Go.Proofs.YteoniejpfmeibaaDoor
open Go.RowKit Go.Shelf

theorem rnB_len (m : Int) (bs : List B5) (vs : List V5) (h : bs.length ≤ 512) : (rnB m bs vs).length ≤ 512 := by
  by_cases e : rnE m bs vs = 0
  · have := (rn_kin e).len; omega
  · unfold rnB; rw [if_neg e]; simp
set_option maxRecDepth 100000 in
set_option maxHeartbeats 8000000 in
theorem lawRuns (m : Int) (ao : Option Addr) (bs : List B5) (c : Nat) (ae : Option Addr) (vs : List V5) (ce : Nat) (w : World) (R : Ending → World → Prop)
   (hl : bs.length * 40 ≤ 140737488355328) (hb : BSl w ao c bs) (hs : StrOk bs) (hvl : vs.length * 40 ≤ 140737488355328) (hv : CellsAt w ae (vC vs)) (hvw : WhoOk vs) (hR : ∀ w', Below w.heap.size w w' → R (.returned (.bool true)) w') :
    Calls Tryd.prog 10 #[.agg #[.int .i64 m, .slice ao bs.length c], .slice ae vs.length ce] w R := by
  have HR := Lib.hid hR
  have HS0 := Lib.hid hb
  have HV0 := Lib.hid hv
  clear hR hb hv
  obtain ⟨w1, E1, HB1, s1, b0, b1⟩ := box2 w (.int .i64 m) (.slice ao bs.length c) 24
  have S1 := Lib.hid (HS0.out.below HB1.out)
  have L1 := Lib.hid (HV0.out.below HB1.out)
  have p0 := Lib.hid b0
  have p1 := Lib.hid b1
  clear b0 b1
  cases hf : fwB bs with
  | false =>
    have HF := Lib.hid hf
    clear hf
    go_enter Tryd.func10, Tryd.ntmps10
    go_wp2_with fail
    rw [E1.out]
    refine own_any m ao bs c _ _ hl S1.out.1 ?_
    intro a2 c2 w2 hb2 _ _
    have V2 := Lib.hid hb2
    clear hb2
    go_wp2_with fail
    refine few_any m a2 bs c2 _ _ ?_
    rw [HF.out]
    intro w3 hb3
    have V3 := Lib.hid (V2.out.trans (hb3.mono V2.out.size))
    have B3 := Lib.hid (HB1.out.trans (V3.out.mono (by omega)))
    clear hb3
    go_wp2_with fail
    refine awake_any _ _ ?_
    intro wz hbz
    have HBz := Lib.hid (B3.out.trans (hbz.mono B3.out.size))
    clear hbz
    go_wp2_with fail
    exact HR.out _ HBz.out
  | true =>
    have HF := Lib.hid hf
    have hlen : bs.length ≤ 512 := by
      unfold fwB at hf; rw [Bool.or_eq_true, Bool.and_eq_true, decide_eq_true_eq, decide_eq_true_eq, decide_eq_true_eq] at hf; omega
    have h8 : chkS m bs = 0 → bs.length ≤ 8 := fun h => by
      have := chkS_len h
      unfold fwB at hf; rw [Bool.or_eq_true, Bool.and_eq_true, decide_eq_true_eq, decide_eq_true_eq, decide_eq_true_eq] at hf; omega
    clear hf
    cases hfv : fvB vs.length with
    | false =>
      have HW := Lib.hid hfv
      clear hfv
      go_enter Tryd.func10, Tryd.ntmps10
      go_wp2_with fail
      rw [E1.out]
      refine own_any m ao bs c _ _ hl S1.out.1 ?_
      intro a2 c2 w2 hb2 _ _
      have V2 := Lib.hid hb2
      clear hb2
      go_wp2_with fail
      refine few_any m a2 bs c2 _ _ ?_
      rw [HF.out]
      intro w3 hb3
      have V3 := Lib.hid (V2.out.trans (hb3.mono V2.out.size))
      have B3 := Lib.hid (HB1.out.trans (V3.out.mono (by omega)))
      clear hb3
      go_wp2_with fail
      have L3 := Lib.hid (L1.out.below V3.out)
      refine events_any ae vs ce _ _ hvl L3.out ?_
      intro a4 c4 w4 hb4 _
      have V4 := Lib.hid (V3.out.trans (hb4.mono V3.out.size))
      clear hb4
      go_wp2_with fail
      refine fewEvents_any a4 vs.length c4 _ _ ?_
      rw [HW.out]
      have B4 := Lib.hid (HB1.out.trans (V4.out.mono (by omega)))
      go_wp2_with fail
      refine awake_any _ _ ?_
      intro wz hbz
      have HBz := Lib.hid (B4.out.trans (hbz.mono B4.out.size))
      clear hbz
      go_wp2_with fail
      exact HR.out _ HBz.out
    | true =>
      have HW := Lib.hid hfv
      clear hfv
      obtain ⟨B, hB⟩ : ∃ B, Hid (rnB m bs vs = B) := ⟨_, rfl⟩
      obtain ⟨I, hI⟩ : ∃ I, Hid (rnI m bs vs = I) := ⟨_, rfl⟩
      obtain ⟨E, hE⟩ : ∃ E, Hid (rnE m bs vs = E) := ⟨_, rfl⟩
      obtain ⟨M, hM⟩ : ∃ M, Hid (okM m E = M) := ⟨_, rfl⟩
      have hBl : B.length ≤ 512 := by rw [← hB.out]; exact rnB_len _ _ _ hlen
      go_enter Tryd.func10, Tryd.ntmps10
      go_wp2_with fail
      rw [E1.out]
      refine own_any m ao bs c _ _ hl S1.out.1 ?_
      intro a2 c2 w2 hb2 _ _
      have V2 := Lib.hid hb2
      clear hb2
      go_wp2_with fail
      refine few_any m a2 bs c2 _ _ ?_
      rw [HF.out]
      intro w3 hb3
      have V3 := Lib.hid (V2.out.trans (hb3.mono V2.out.size))
      have B3 := Lib.hid (HB1.out.trans (V3.out.mono (by omega)))
      clear hb3
      go_wp2_with fail
      have L3 := Lib.hid (L1.out.below V3.out)
      refine events_any ae vs ce _ _ hvl L3.out ?_
      intro a4 c4 w4 hb4 _
      have V4 := Lib.hid (V3.out.trans (hb4.mono V3.out.size))
      clear hb4
      go_wp2_with fail
      refine fewEvents_any a4 vs.length c4 _ _ ?_
      rw [HW.out]
      have S4 := Lib.hid (S1.out.below V4.out)
      have L4 := Lib.hid (L1.out.below V4.out)
      have g0 := cellB V4.out p0.out s1
      have g1 := cellB V4.out p1.out s1
      go_wp2_with fail
      refine run_any m ao bs c ae vs ce _ _ (by omega) S4.out.2 S4.out.1 hs (by omega) L4.out hvw ?_
      rw [hB.out, hI.out, hE.out, hM.out]
      intro a5 c5 w5 hb5 hs5 _
      have V5 := Lib.hid (V4.out.trans (hb5.mono V4.out.size))
      obtain ⟨Wa, Ea, Ha, ta, a0', a1'⟩ := box2 w5 (.int .i64 M) (.slice a5 B.length c5) 24
      have a0 := Lib.hid a0'
      have a1 := Lib.hid a1'
      have V6 := Lib.hid (V5.out.trans (Ha.out.mono V5.out.size))
      have Da := Lib.hid (hs5.below Ha.out)
      have S6 := Lib.hid (S1.out.below V6.out)
      have L6 := Lib.hid (L1.out.below V6.out)
      clear hb5 hs5 g0 g1 a0' a1'
      have g0 := cellB V6.out p0.out s1
      have g1 := cellB V6.out p1.out s1
      rw [← Ea.out] at g0 g1
      go_wp2_with fail
      rw [Ea.out]
      refine own_any m ao bs c _ _ hl S6.out.1 ?_
      intro a7 c7 w7 hb7 hs7 _
      have V7 := Lib.hid (V6.out.trans (hb7.mono V6.out.size))
      have Za7 : Hid (Below Wa.heap.size Wa w7) := hb7
      have T7 := Lib.hid hs7
      have L7 := Lib.hid (L6.out.below hb7)
      clear hb7 hs7 g0 g1
      go_wp2_with fail
      refine events_any ae vs ce _ _ hvl L7.out ?_
      intro a8 c8 w8 hb8 hv8
      have V8 := Lib.hid (V7.out.trans (hb8.mono V7.out.size))
      have Za8 := Lib.hid (Za7.out.trans (hb8.mono Za7.out.size))
      have T8 := Lib.hid (T7.out.below hb8)
      have R8 := Lib.hid hv8
      clear hb8 hv8
      go_wp2_with fail
      refine rrun_any m a7 bs c7 a8 vs c8 _ _ (by omega) h8 T8.out.1 hs (by omega) R8.out hvw ?_
      rw [hB.out, hI.out, hE.out, hM.out]
      intro a9 c9 w9 hb9 hs9 _
      have V9 := Lib.hid (V8.out.trans (hb9.mono V8.out.size))
      have Za9 := Lib.hid (Za8.out.trans (hb9.mono Za8.out.size))
      obtain ⟨Wb, Eb, Hb, tb, b0', b1'⟩ := box2 w9 (.int .i64 M) (.slice a9 B.length c9) 28
      have b0f := Lib.hid b0'
      have b1f := Lib.hid b1'
      have V10 := Lib.hid (V9.out.trans (Hb.out.mono V9.out.size))
      have Za := Lib.hid (Za9.out.trans (Hb.out.mono Za9.out.size))
      have Db := Lib.hid (hs9.below Hb.out)
      clear hb9 hs9 b0' b1'
      go_wp2_with fail
      rw [Eb.out]
      have a0f := cellB Za.out a0.out ta
      have a1f := cellB Za.out a1.out ta
      have b0f' := b0f.out
      have b1f' := b1f.out
      have Daf := Lib.hid (Da.out.below Za.out)
      have alt : w5.heap.size < Wb.heap.size := Nat.lt_of_lt_of_le ta Za.out.size
      have A := Lib.hid (HB1.out.trans (V10.out.mono (by omega)))
      have zA := A.out.size
      have HBB : Hid (Below Wb.heap.size Wb Wb.drew) := (Below.refl _ _).drew
      go_region_held3 (fun w' => w'.cell? ⟨w5.heap.size, 0, none⟩ = some (.int .i64 M) ∧ w'.cell? ⟨w5.heap.size, 1, none⟩ = some (.slice a5 B.length c5) ∧ w'.cell? ⟨w9.heap.size, 0, none⟩ = some (.int .i64 M) ∧ w'.cell? ⟨w9.heap.size, 1, none⟩ = some (.slice a9 B.length c9) ∧ Hid (Below Wb.heap.size Wb w'))
        (first | go_keep | exact ⟨r0, r1, r2, r3, r8⟩ | exact ⟨t0, t1, t2, t3, t8⟩ | exact ⟨u0, u1, u2, u3, u8⟩)
        (first
          | (go_at_call 13; refine own_any M a5 B c5 _ _ (by omega) (Daf.out.1.below HBB.out) ?_; intro o1 k1 x1 hbx1 hsx1 _; have r8 : Hid (Below Wb.heap.size Wb x1) := HBB.out.trans (hbx1.mono HBB.out.size); have r0 := cellB r8.out a0f alt; have r1 := cellB r8.out a1f alt; have r2 := cellB r8.out b0f' tb; have r3 := cellB r8.out b1f' tb; have O1 := Lib.hid hsx1; clear hbx1 hsx1)
          | (go_at_call 24; refine rsame_any M o1 a9 B k1 c9 _ _ (by omega) O1.out.1 (Db.out.1.below r8.out) ?_; intro x2 hbx2; have t8 : Hid (Below Wb.heap.size Wb x2) := r8.out.trans (hbx2.mono r8.out.size); have t0 := cellB t8.out a0f alt; have t1 := cellB t8.out a1f alt; have t2 := cellB t8.out b0f' tb; have t3 := cellB t8.out b1f' tb; clear hbx2)
          | (go_at_call 14; refine awake_any _ _ ?_; intro x3 hbx3; have u8 : Hid (Below Wb.heap.size Wb x3) := t8.out.trans (hbx3.mono t8.out.size); have u0 := cellB u8.out a0f alt; have u1 := cellB u8.out a1f alt; have u2 := cellB u8.out b0f' tb; have u3 := cellB u8.out b1f' tb; clear hbx3))
      all_goals
        go_wp2_with fail
        exact HR.out _ (A.out.trans (u8.out.mono zA))
end Go.Proofs.YteoniejpfmeibaaDoor
