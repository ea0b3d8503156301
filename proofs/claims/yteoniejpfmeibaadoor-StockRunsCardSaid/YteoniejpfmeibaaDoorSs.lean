/- The walk of the law StockChecks: it returns true, and memory that was there is as it was. -/
import Derived.Test.YteoniejpfmeibaaDoorSr
import Derived.Test.YteoniejpfmeibaaDoorSp
namespace Go.Proofs.YteoniejpfmeibaaDoor
open Go.RowKit Go.Shelf

/-- Few. -/
def fwB (bs : List B5) : Bool := decide (bs.length ≤ 8) || (decide (256 < bs.length) && decide (bs.length ≤ 512))
set_option maxHeartbeats 1000000 in
theorem few_any (most : Int) (ao : Option Addr) (bs : List B5) (c : Nat) (w : World) (R : Ending → World → Prop)
   (hR : ∀ w', Below w.heap.size w w' → R (.returned (.bool (fwB bs))) w') :
    Calls Tryd.prog 12 #[.agg #[.int .i64 most, .slice ao bs.length c]] w R := by
  have HR := Lib.hid hR
  clear hR
  obtain ⟨w1, E1, HB1, s1, b0, b1⟩ := box2 w (.int .i64 most) (.slice ao bs.length c) 28
  have E : Hid (fwB bs = (decide (bs.length ≤ 8) || (decide (256 < bs.length) && decide (bs.length ≤ 512)))) := rfl
  have HB : Hid (Below w.heap.size w (w.alloc (.cells #[.int .i64 most, .slice ao bs.length c] 28))) := by rw [E1.out]; exact HB1
  by_cases h8 : bs.length ≤ 8
  · go_enter Tryd.func12, Tryd.ntmps12
    go_wp2_with fail
    exact ret_b (HR.out _ HB.out) rfl (by rw [E.out]; simp [h8] <;> omega)
  · by_cases h256 : 256 < bs.length
    · by_cases h512 : bs.length ≤ 512
      all_goals
        go_enter Tryd.func12, Tryd.ntmps12
        go_wp2_with fail
        exact ret_b (HR.out _ HB.out) rfl (by rw [E.out]; simp [h8, h256, h512] <;> omega)
    · go_enter Tryd.func12, Tryd.ntmps12
      go_wp2_with fail
      exact ret_b (HR.out _ HB.out) rfl (by rw [E.out]; simp [h8, h256] <;> omega)

set_option maxRecDepth 100000 in
set_option maxHeartbeats 8000000 in
theorem lawChecks (m : Int) (ao : Option Addr) (bs : List B5) (c : Nat) (who : ByteArray) (w : World) (R : Ending → World → Prop)
   (hl : bs.length * 40 ≤ 140737488355328) (hb : BSl w ao c bs) (hs : StrOk bs) (hw : who.size ≤ 9223372036854775807) (hR : ∀ w', Below w.heap.size w w' → R (.returned (.bool true)) w') :
    Calls Tryd.prog 3 #[.agg #[.int .i64 m, .slice ao bs.length c], .string who] w R := by
  have HR := Lib.hid hR
  have HS0 := Lib.hid hb
  clear hR hb
  obtain ⟨w1, E1, HB1, s1, b0, b1⟩ := box2 w (.int .i64 m) (.slice ao bs.length c) 24
  have S1 := Lib.hid (HS0.out.below HB1.out)
  have p0 := Lib.hid b0
  have p1 := Lib.hid b1
  clear b0 b1
  cases hf : fwB bs with
  | false =>
    have HF := Lib.hid hf
    clear hf
    go_enter Tryd.func3, Tryd.ntmps3
    go_wp2_with fail
    rw [E1.out]
    refine own_any m ao bs c _ _ hl S1.out.1 ?_
    intro a2 c2 w2 hb2 _ _
    have HB2 := Lib.hid (HB1.out.trans (hb2.mono (by omega)))
    clear hb2
    go_wp2_with fail
    refine few_any m a2 bs c2 _ _ ?_
    rw [HF.out]
    intro w3 hb3
    have HB3 := Lib.hid (HB2.out.trans (hb3.mono HB2.out.size))
    clear hb3
    go_wp2_with fail
    refine awake_any _ _ ?_
    intro w4 hb4
    have HB4 := Lib.hid (HB3.out.trans (hb4.mono HB3.out.size))
    clear hb4
    go_wp2_with fail
    exact HR.out _ HB4.out
  | true =>
    have HF := Lib.hid hf
    have hlen : bs.length ≤ 512 := by
      unfold fwB at hf; rw [Bool.or_eq_true, Bool.and_eq_true, decide_eq_true_eq, decide_eq_true_eq, decide_eq_true_eq] at hf; omega
    clear hf
    by_cases h100 : 100 < who.size
    · have h100' : decide ((100 : Int) < (who.size : Int)) = true := by rw [decide_eq_true_eq]; omega
      go_enter Tryd.func3, Tryd.ntmps3
      go_wp2_with fail
      rw [E1.out]
      refine own_any m ao bs c _ _ hl S1.out.1 ?_
      intro a2 c2 w2 hb2 _ _
      have HB2 := Lib.hid (HB1.out.trans (hb2.mono (by omega)))
      clear hb2
      go_wp2_with fail
      refine few_any m a2 bs c2 _ _ ?_
      rw [HF.out]
      intro w3 hb3
      have HB3 := Lib.hid (HB2.out.trans (hb3.mono HB2.out.size))
      clear hb3
      go_wp2_with fail
      refine awake_any _ _ ?_
      intro w4 hb4
      have HB4 := Lib.hid (HB3.out.trans (hb4.mono HB3.out.size))
      clear hb4
      go_wp2_with fail
      exact HR.out _ HB4.out
    · have h100' : decide ((100 : Int) < (who.size : Int)) = false := by rw [decide_eq_false_iff_not]; omega
      obtain ⟨F, hF⟩ : ∃ F, Hid (frL m bs = F) := ⟨_, rfl⟩
      obtain ⟨K, hK⟩ : ∃ K, Hid (chkS m bs = K) := ⟨_, rfl⟩
      obtain ⟨V, hV⟩ : ∃ V, Hid (devN m bs who = V) := ⟨_, rfl⟩
      obtain ⟨X, hX⟩ : ∃ X, Hid (devE m bs who = X) := ⟨_, rfl⟩
      have hFl : F.length ≤ 512 := by
        rw [← hF.out]; unfold frL; split
        · have := pickTo_length (freeP m) bs bs.length; unfold pickL; omega
        · simp
      go_enter Tryd.func3, Tryd.ntmps3
      go_wp2_with fail
      rw [E1.out]
      refine own_any m ao bs c _ _ hl S1.out.1 ?_
      intro a2 c2 w2 hb2 _ _
      have B2 := Lib.hid hb2
      clear hb2
      go_wp2_with fail
      refine few_any m a2 bs c2 _ _ ?_
      rw [HF.out]
      intro w3 hb3
      have B3 := Lib.hid (B2.out.trans (hb3.mono B2.out.size))
      have e0 := cellB B3.out p0.out s1
      have e1 := cellB B3.out p1.out s1
      have S3 := Lib.hid (S1.out.below B3.out)
      clear hb3
      go_wp2_with fail
      refine freeS_any m ao bs c _ _ (by omega) S3.out.2 S3.out.1 hs ?_
      rw [hF.out, hK.out]
      intro vF w4 hb4 ho4
      obtain ⟨aF, cF, rfl, rF, _⟩ := ho4.read
      have B4 := Lib.hid (B3.out.trans (hb4.mono B3.out.size))
      have F4 := Lib.hid rF
      have e0' := cellB B4.out p0.out s1
      have e1' := cellB B4.out p1.out s1
      have S4 := Lib.hid (S1.out.below B4.out)
      clear hb4 ho4 rF e0 e1
      go_wp2_with fail
      refine own_any m ao bs c _ _ hl S4.out.1 ?_
      intro a5 c5 w5 hb5 hs5 _
      have B5' := Lib.hid (B4.out.trans (hb5.mono B4.out.size))
      have F5 := Lib.hid (F4.out.below hb5)
      have T5 := Lib.hid hs5
      clear hb5 hs5 e0' e1'
      go_wp2_with fail
      refine rfree_any m a5 bs c5 _ _ (by omega) T5.out.1 hs ?_
      rw [hF.out, hK.out]
      intro vG w6 hb6 ho6
      obtain ⟨aG, cG, rfl, rG, _⟩ := ho6.read
      have B6 := Lib.hid (B5'.out.trans (hb6.mono B5'.out.size))
      have F6 := Lib.hid (F5.out.below hb6)
      have G6 := Lib.hid rG
      have e0 := cellB B6.out p0.out s1
      have e1 := cellB B6.out p1.out s1
      have S6 := Lib.hid (S1.out.below B6.out)
      clear hb6 ho6 rG
      go_wp2_with fail
      refine devS_any m ao bs c who _ _ (by omega) S6.out.2 S6.out.1 hs hw ?_
      rw [hV.out, hX.out]
      intro w7 hb7
      have B7 := Lib.hid (B6.out.trans (hb7.mono B6.out.size))
      have F7 := Lib.hid (F6.out.below hb7)
      have G7 := Lib.hid (G6.out.below hb7)
      have e0' := cellB B7.out p0.out s1
      have e1' := cellB B7.out p1.out s1
      have S7 := Lib.hid (S1.out.below B7.out)
      clear hb7 e0 e1
      go_wp2_with fail
      refine own_any m ao bs c _ _ hl S7.out.1 ?_
      intro a8 c8 w8 hb8 hs8 _
      have B8 := Lib.hid (B7.out.trans (hb8.mono B7.out.size))
      have F8 := Lib.hid (F7.out.below hb8)
      have G8 := Lib.hid (G7.out.below hb8)
      have T8 := Lib.hid hs8
      clear hb8 hs8 e0' e1'
      go_wp2_with fail
      refine rdev_any m a8 bs c8 who _ _ (by omega) T8.out.1 hs hw ?_
      rw [hV.out, hX.out]
      intro W hb9
      have B9 := Lib.hid (B8.out.trans (hb9.mono B8.out.size))
      have F9 := Lib.hid (F8.out.below hb9)
      have G9 := Lib.hid (G8.out.below hb9)
      have e0 := cellB B9.out p0.out s1
      have e1 := cellB B9.out p1.out s1
      have S9 := Lib.hid (S1.out.below B9.out)
      have A9 := Lib.hid (HB1.out.trans (B9.out.mono (by omega)))
      have z9 := A9.out.size
      have z1 : w.heap.size < W.heap.size := by have := B9.out.size; omega
      clear hb9
      go_wp2_with fail
      have HBB : Hid (Below W.heap.size W W.drew) := (Below.refl _ _).drew
      go_region_held3 (fun w' => w'.cell? ⟨w.heap.size, 0, none⟩ = some (.int .i64 m) ∧ w'.cell? ⟨w.heap.size, 1, none⟩ = some (.slice ao bs.length c) ∧ Hid (Below W.heap.size W w'))
        (first | go_keep | exact ⟨r0, r1, r4⟩ | exact ⟨s0, s1', s4⟩ | exact ⟨t0, t1, t4⟩ | exact ⟨u0, u1, u4⟩ | exact ⟨v0, v1, v4⟩)
        (first
          | (go_at_call 19; refine check51_any m ao bs c _ _ (by omega) (S9.out.1.below HBB.out) hs ?_; rw [hK.out]; intro w10 hb10; have r4 : Hid (Below W.heap.size W w10) := HBB.out.trans (hb10.mono (Nat.le_refl _)); have r0 := cellB r4.out e0 z1; have r1 := cellB r4.out e1 z1; clear hb10)
          | (go_at_call 13; refine own_any m ao bs c _ _ hl (S9.out.1.below r4.out) ?_; intro a11 c11 w11 hb11 hs11 _; have s4 : Hid (Below W.heap.size W w11) := r4.out.trans (hb11.mono r4.out.size); have s0 := cellB s4.out e0 z1; have s1' := cellB s4.out e1 z1; have T11 := Lib.hid hs11; clear hb11 hs11)
          | (go_at_call 20; refine rcheck51_any m a11 bs c11 _ _ (by omega) T11.out.1 hs ?_; rw [hK.out]; intro w12 hb12; have t4 : Hid (Below W.heap.size W w12) := s4.out.trans (hb12.mono s4.out.size); have t0 := cellB t4.out e0 z1; have t1 := cellB t4.out e1 z1; clear hb12)
          | (go_at_call 21; refine equal51 aF aG F _ cF cG _ _ rfl (by omega) (F9.out.below t4.out) (G9.out.below t4.out) ?_; intro w13 hd13; have u4 : Hid (Below W.heap.size W w13) := t4.out.trans (hd13.below _); have u0 := cellB u4.out e0 z1; have u1 := cellB u4.out e1 z1; clear hd13)
          | (go_at_call 14; refine awake_any _ _ ?_; intro w14 hb14; have v4 : Hid (Below W.heap.size W w14) := u4.out.trans (hb14.mono u4.out.size); have v0 := cellB v4.out e0 z1; have v1 := cellB v4.out e1 z1; clear hb14))
      all_goals
        go_wp2_with fail
        exact HR.out _ (A9.out.trans (v4.out.mono z9))
end Go.Proofs.YteoniejpfmeibaaDoor
