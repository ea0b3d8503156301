/- The walks of Available, Held, Free, named, Deviation of the reference of package stock. -/
import Derived.Test.YteoniejpfmeibaaDoorSg
import Derived.Test.YteoniejpfmeibaaDoorSj
namespace Go.Proofs.YteoniejpfmeibaaDoor
open Go.RowKit Go.Shelf

set_option maxHeartbeats 2000000 in
theorem avail_any (most : Int) (ao : Option Addr) (bs : List B5) (c : Nat) (w : World) (R : Ending → World → Prop) (hl : bs.length ≤ 256) (hc : CellsAt w ao (bC bs))
   (hR : ∀ v w', Below w.heap.size w w' → OwnL w' w.heap.size 3 1 v (pickL (freeP most) bs).length (I64s (pickL (freeP most) bs)) → R (.returned v) w') :
    Calls Tryd.prog 44 #[.agg #[.int .i64 most, .slice ao bs.length c]] w R := by
  have HR := Lib.hid hR
  have HC := Lib.hid hc
  clear hR hc
  obtain ⟨w1, E1, HB1, s1, b0, b1⟩ := box2 w (.int .i64 most) (.slice ao bs.length c) 28
  have k0 := Lib.hid b0
  have k1 := Lib.hid b1
  clear b0 b1
  go_enter Tryd.func44, Tryd.ntmps44
  go_wp2_with fail
  rw [E1.out]
  go_loopw [4, 3] (fun i v wr => ∃ k : Nat, k ≤ bs.length ∧ i = .int .i64 k ∧ Hid (Below w1.heap.size w1 wr) ∧ Hid (OwnL wr w1.heap.size 3 1 v (pickTo (freeP most) bs k).length (I64s (pickTo (freeP most) bs k)))) (fun i _ _ => bs.length - (intOf i).toNat)
  case atStart => exact ⟨0, Nat.zero_le _, rfl, Below.refl _ _, OwnL.nil _ _ _ _⟩
  case round =>
    obtain ⟨k, hk, rfl, HB, HO⟩ := hrel
    have sw : w1.heap.size ≤ wr.heap.size := HB.out.size
    have HW : Hid (Below w.heap.size w wr) := HB1.out.trans (HB.out.mono (by omega))
    have g0 := cellB HB.out k0.out s1
    have g1 := cellB HB.out k1.out s1
    by_cases hlt : k < bs.length
    · obtain ⟨b, o, rfl, _, hcell⟩ := (HC.out.below HW.out).blks (by omega)
      obtain ⟨c1, c2, c3, c4⟩ := hcell k hlt
      have hpl := pickTo_length (freeP most) bs k
      clear hcell
      by_cases hz : (bAt bs k).h.size = 0
      · have hz' := empty_of hz
        by_cases hw : (bAt bs k).w ≤ most
        · have HP := Lib.hid (freeP_yes (m := most) hz hw)
          have hd : decide ((bAt bs k).w ≤ most) = true := by rw [decide_eq_true_eq]; exact hw
          clear hz
          have HT : Hid (pickTo (freeP most) bs (k + 1) = pickTo (freeP most) bs k ++ [(k : Int)]) := by unfold Hid; rw [pickTo, HP.out]; simp
          go_wp2_with fail
          go_quiet (fail)
          go_wp2_with (at_builtin; refine wp_append1 rfl (.tmp 30) (.tmp 32) 31 rfl w1.heap.size 3 Tryd.underlying31 Tryd.infoInt rfl (by decide) (by decide) u3 (pickTo (freeP most) bs k).length (I64s (pickTo (freeP most) bs k)) rfl ((HO.out.drewN _).alloc _) wr.heap.size [.int .i64 k] rfl rfl (new1 _ _ _) (one1 _ rfl) (by omega) (by simp; omega) ?_; intro v4 w4 hown4 hb4; have H4 := Lib.hid hown4; have Hb4 : Hid (Below w1.heap.size w1 w4) := HB.out.trans (((((Drew.refl wr).drewN).below _).alloc sw _).trans hb4); clear hown4 hb4)
          exact ⟨⟨k + 1, by omega, by go_num, Hb4, by unfold Hid; rw [HT.out]; simpa [I64s] using H4.out⟩, by simp [intOf]; omega⟩
        · have HP := Lib.hid (freeP_no2 (b := bAt bs k) hw)
          have hd : decide ((bAt bs k).w ≤ most) = false := by rw [decide_eq_false_iff_not]; exact hw
          clear hz
          have HT : Hid (pickTo (freeP most) bs (k + 1) = pickTo (freeP most) bs k) := by unfold Hid; rw [pickTo, HP.out]; simp
          go_wp2_with fail
          go_quiet (fail)
          go_wp2_with fail
          exact ⟨⟨k + 1, by omega, by go_num, HB.out.trans ((by repeat first | exact Drew.refl _ | apply Drew.drewN : Drew _ _).below _), by unfold Hid; rw [HT.out]; first | exact HO | exact HO.out.drewN _⟩, by simp [intOf]; omega⟩
      · have hz' := nempty_of hz
        have HP := Lib.hid (freeP_no (m := most) hz)
        clear hz
        have HT : Hid (pickTo (freeP most) bs (k + 1) = pickTo (freeP most) bs k) := by unfold Hid; rw [pickTo, HP.out]; simp
        go_wp2_with fail
        go_quiet (fail)
        go_wp2_with fail
        exact ⟨⟨k + 1, by omega, by go_num, HB.out.trans ((by repeat first | exact Drew.refl _ | apply Drew.drewN : Drew _ _).below _), by unfold Hid; rw [HT.out]; first | exact HO | exact HO.out.drewN _⟩, by simp [intOf]; omega⟩
    · obtain rfl : k = bs.length := by omega
      go_wp2_with fail
      exact HR.out _ _ HW.out (OwnL.mono HO.out (by omega))

set_option maxHeartbeats 2000000 in
theorem rheld_any (most : Int) (ao : Option Addr) (bs : List B5) (c : Nat) (who : ByteArray) (w : World) (R : Ending → World → Prop) (hl : bs.length ≤ 256) (hc : CellsAt w ao (bC bs))
   (hR : ∀ v w', Below w.heap.size w w' → OwnL w' w.heap.size 3 1 v (pickL (heldP who) bs).length (I64s (pickL (heldP who) bs)) → R (.returned v) w') :
    Calls Tryd.prog 48 #[.agg #[.int .i64 most, .slice ao bs.length c], .string who] w R := by
  have HR := Lib.hid hR
  have HC := Lib.hid hc
  clear hR hc
  obtain ⟨w1, E1, HB1, s1, b0, b1⟩ := box2 w (.int .i64 most) (.slice ao bs.length c) 28
  have k0 := Lib.hid b0
  have k1 := Lib.hid b1
  clear b0 b1
  go_enter Tryd.func48, Tryd.ntmps48
  go_wp2_with fail
  rw [E1.out]
  go_loopw [6, 5] (fun i v wr => ∃ k : Nat, k ≤ bs.length ∧ i = .int .i64 k ∧ Hid (Below w1.heap.size w1 wr) ∧ Hid (OwnL wr w1.heap.size 3 1 v (pickTo (heldP who) bs k).length (I64s (pickTo (heldP who) bs k)))) (fun i _ _ => bs.length - (intOf i).toNat)
  case atStart => exact ⟨0, Nat.zero_le _, rfl, Below.refl _ _, OwnL.nil _ _ _ _⟩
  case round =>
    obtain ⟨k, hk, rfl, HB, HO⟩ := hrel
    have sw : w1.heap.size ≤ wr.heap.size := HB.out.size
    have HW : Hid (Below w.heap.size w wr) := HB1.out.trans (HB.out.mono (by omega))
    have g0 := cellB HB.out k0.out s1
    have g1 := cellB HB.out k1.out s1
    by_cases hlt : k < bs.length
    · obtain ⟨b, o, rfl, _, hcell⟩ := (HC.out.below HW.out).blks (by omega)
      obtain ⟨c1, c2, c3, c4⟩ := hcell k hlt
      have hpl := pickTo_length (heldP who) bs k
      clear hcell
      obtain ⟨sh, hsh⟩ : ∃ sh, (bAt bs k).h = sh := ⟨_, rfl⟩
      have HSH : Hid (heldP who (bAt bs k) = (sh.toList == who.toList)) := by unfold Hid; rw [← hsh]; rfl
      rw [hsh] at c4
      clear hsh
      cases hp : (sh.toList == who.toList) with
      | true =>
        have HP : Hid (heldP who (bAt bs k) = true) := by unfold Hid; rw [HSH.out]; exact hp
        have HT : Hid (pickTo (heldP who) bs (k + 1) = pickTo (heldP who) bs k ++ [(k : Int)]) := by unfold Hid; rw [pickTo, HP.out]; simp
        go_wp2_with (at_builtin; refine wp_append1 rfl (.tmp 22) (.tmp 24) 31 rfl w1.heap.size 3 Tryd.underlying31 Tryd.infoInt rfl (by decide) (by decide) u5 (pickTo (heldP who) bs k).length (I64s (pickTo (heldP who) bs k)) rfl (HO.out.alloc _) wr.heap.size [.int .i64 k] rfl rfl (new1 _ _ _) (one1 _ rfl) (by omega) (by simp; omega) ?_; intro v4 w4 hown4 hb4; have H4 := Lib.hid hown4; have Hb4 : Hid (Below w1.heap.size w1 w4) := HB.out.trans (((Below.refl _ _).alloc sw _).trans hb4); clear hown4 hb4)
        exact ⟨⟨k + 1, by omega, by go_num, Hb4, by unfold Hid; rw [HT.out]; simpa [I64s] using H4.out⟩, by simp [intOf]; omega⟩
      | false =>
        have HP : Hid (heldP who (bAt bs k) = false) := by unfold Hid; rw [HSH.out]; exact hp
        have HT : Hid (pickTo (heldP who) bs (k + 1) = pickTo (heldP who) bs k) := by unfold Hid; rw [pickTo, HP.out]; simp
        go_wp2_with fail
        exact ⟨⟨k + 1, by omega, by go_num, HB.out.trans ((by repeat first | exact Drew.refl _ | apply Drew.drewN : Drew _ _).below _), by unfold Hid; rw [HT.out]; first | exact HO | exact HO.out.drewN _⟩, by simp [intOf]; omega⟩
    · obtain rfl : k = bs.length := by omega
      go_wp2_with fail
      exact HR.out _ _ HW.out (OwnL.mono HO.out (by omega))

set_option maxHeartbeats 1000000 in
theorem rnamed_any (most : Int) (ao : Option Addr) (bs : List B5) (c : Nat) (who : ByteArray) (w : World) (R : Ending → World → Prop) (hl : bs.length ≤ 9223372036854775807) (hc : CellsAt w ao (bC bs)) (hs : StrOk bs) (hw : who.size ≤ 9223372036854775807)
   (hR : ∀ w', Below w.heap.size w w' → R (.returned (.int .i64 (nmS most bs who))) w') :
    Calls Tryd.prog 47 #[.agg #[.int .i64 most, .slice ao bs.length c], .string who] w R := by
  have HR := Lib.hid hR
  have HC := Lib.hid hc
  clear hR hc
  obtain ⟨w1, E1, HB1, s1, b0, b1⟩ := box2 w (.int .i64 most) (.slice ao bs.length c) 28
  by_cases hE : chkS most bs = 0
  · have HE := Lib.hid hE
    have HM : Hid (nmS most bs who = namE who) := by unfold Hid; rw [nmS, if_pos hE]
    have h1 : (chkS most bs == 0) = true := by simpa using hE
    have h2 : (chkS most bs != 0) = false := by simpa using hE
    clear hE
    go_enter Tryd.func47, Tryd.ntmps47
    go_wp2_with fail
    rw [E1.out]
    refine rcheck51_any most ao bs c _ _ hl (HC.out.below HB1.out) hs ?_
    intro w2 hb2
    have HB2 := Lib.hid (HB1.out.trans (hb2.mono (by omega)))
    clear hb2
    go_wp2_with fail
    refine name_any who _ _ hw ?_
    go_wp2_with fail
    have h := HR.out _ HB2.out
    rw [HM.out] at h
    exact h
  · have HM : Hid (nmS most bs who = chkS most bs) := by unfold Hid; rw [nmS, if_neg hE]
    have h1 : (chkS most bs == 0) = false := by simpa using hE
    have h2 : (chkS most bs != 0) = true := by simpa using hE
    clear hE
    go_enter Tryd.func47, Tryd.ntmps47
    go_wp2_with fail
    rw [E1.out]
    refine rcheck51_any most ao bs c _ _ hl (HC.out.below HB1.out) hs ?_
    intro w2 hb2
    have HB2 := Lib.hid (HB1.out.trans (hb2.mono (by omega)))
    clear hb2
    go_wp2_with fail
    have h := HR.out _ HB2.out
    rw [HM.out] at h
    exact h

set_option maxHeartbeats 1000000 in
theorem rfree_any (most : Int) (ao : Option Addr) (bs : List B5) (c : Nat) (w : World) (R : Ending → World → Prop) (hl : bs.length ≤ 9223372036854775807) (hc : CellsAt w ao (bC bs)) (hs : StrOk bs)
   (hR : ∀ v w', Below w.heap.size w w' → OwnL w' w.heap.size 3 1 v (frL most bs).length (I64s (frL most bs)) → R (.returned (.tuple #[v, .int .i64 (chkS most bs)])) w') :
    Calls Tryd.prog 16 #[.agg #[.int .i64 most, .slice ao bs.length c]] w R := by
  have HR := Lib.hid hR
  have HC := Lib.hid hc
  clear hR hc
  obtain ⟨w1, E1, HB1, s1, b0, b1⟩ := box2 w (.int .i64 most) (.slice ao bs.length c) 28
  by_cases hE : chkS most bs = 0
  · have HE := Lib.hid hE
    have HF : Hid (frL most bs = pickL (freeP most) bs) := by unfold Hid; rw [frL, if_pos hE]
    have hlen := chkS_len hE
    clear hE
    go_enter Tryd.func16, Tryd.ntmps16
    go_wp2_with fail
    rw [E1.out]
    refine rcheck51_any most ao bs c _ _ hl (HC.out.below HB1.out) hs ?_
    rw [HE.out]
    intro w2 hb2
    have HB2 := Lib.hid (HB1.out.trans (hb2.mono (by omega)))
    have z2 := HB2.out.size
    have d0 := cellB hb2 b0 s1
    have d1 := cellB hb2 b1 s1
    clear hb2 b0 b1
    go_wp2_with fail
    refine avail_any most ao bs c _ _ hlen (HC.out.below HB2.out) ?_
    intro v w3 hb3 ho3
    have HB3 := Lib.hid (HB2.out.trans (hb3.mono z2))
    have HO3 := Lib.hid (OwnL.mono ho3 (base' := w.heap.size) z2)
    clear hb3 ho3
    go_wp2_with fail
    have h := HR.out v _ HB3.out (by rw [HF.out]; exact HO3.out)
    rw [HE.out] at h
    exact h
  · have HF : Hid (frL most bs = []) := by unfold Hid; rw [frL, if_neg hE]
    have h1 : (chkS most bs == 0) = false := by simpa using hE
    have h2 : (chkS most bs != 0) = true := by simpa using hE
    clear hE
    go_enter Tryd.func16, Tryd.ntmps16
    go_wp2_with fail
    rw [E1.out]
    refine rcheck51_any most ao bs c _ _ hl (HC.out.below HB1.out) hs ?_
    intro w2 hb2
    have HB2 := Lib.hid (HB1.out.trans (hb2.mono (by omega)))
    clear hb2
    go_wp2_with fail
    exact HR.out _ _ HB2.out (by rw [HF.out]; exact OwnL.nil _ _ _ _)

set_option maxHeartbeats 2000000 in
theorem rdev_any (most : Int) (ao : Option Addr) (bs : List B5) (c : Nat) (who : ByteArray) (w : World) (R : Ending → World → Prop) (hl : bs.length ≤ 9223372036854775807) (hc : CellsAt w ao (bC bs)) (hs : StrOk bs) (hw : who.size ≤ 9223372036854775807)
   (hR : ∀ w', Below w.heap.size w w' → R (.returned (.tuple #[.int .i64 (devN most bs who), .int .i64 (devE most bs who)])) w') :
    Calls Tryd.prog 18 #[.agg #[.int .i64 most, .slice ao bs.length c], .string who] w R := by
  have HR := Lib.hid hR
  have HC := Lib.hid hc
  clear hR hc
  obtain ⟨w1, E1, HB1, s1, b0, b1⟩ := box2 w (.int .i64 most) (.slice ao bs.length c) 28
  by_cases hE : nmS most bs who = 0
  · have HE := Lib.hid hE
    have hlen := chkS_len (nmS_chk hE)
    clear hE
    obtain ⟨L, hL⟩ : ∃ L, Hid (pickL (heldP who) bs = L) := ⟨_, rfl⟩
    have hLl : L.length ≤ bs.length := by rw [← hL.out]; exact pickTo_length _ _ _
    have hLb : Hid (∀ j, j < L.length → ∃ i : Nat, at0 L j = i ∧ i < bs.length) := by
      unfold Hid; rw [← hL.out]; intro j hj; obtain ⟨i, h1, h2, _⟩ := pick_bd hj; exact ⟨i, h1, h2⟩
    by_cases h0 : L.length = 0
    · have h0' : ((L.length : Int) == 0) = true := by rw [beq_iff_eq]; omega
      have HD : Hid (devN most bs who = 0 ∧ devE most bs who = 6) := by unfold Hid devN devE; rw [HE.out, hL.out]; simp [h0]
      clear h0
      go_enter Tryd.func18, Tryd.ntmps18
      go_wp2_with fail
      rw [E1.out]
      refine rnamed_any most ao bs c who _ _ hl (HC.out.below HB1.out) hs hw ?_
      rw [HE.out]
      intro w2 hb2
      have HB2 := Lib.hid (HB1.out.trans (hb2.mono (by omega)))
      have z2 := HB2.out.size
      have d0 := cellB hb2 b0 s1
      have d1 := cellB hb2 b1 s1
      clear hb2 b0 b1
      go_wp2_with fail
      refine rheld_any most ao bs c who _ _ hlen (HC.out.below HB2.out) ?_
      rw [hL.out]
      intro v w3 hb3 ho3
      have HB3 := Lib.hid (HB2.out.trans (hb3.mono z2))
      obtain ⟨a3, c3, rfl, r1, _⟩ := ho3.read
      clear hb3 ho3 r1
      go_wp2_with fail
      have h := HR.out _ HB3.out
      rw [HD.out.1, HD.out.2] at h
      exact h
    · have h0' : ((L.length : Int) == 0) = false := by rw [beq_eq_false_iff_ne]; omega
      have HD : Hid (devN most bs who = devS bs L ∧ devE most bs who = 0) := by unfold Hid devN devE; rw [HE.out, hL.out]; simp [h0]
      have hLn : 0 < L.length := by omega
      clear h0
      go_enter Tryd.func18, Tryd.ntmps18
      go_wp2_with fail
      rw [E1.out]
      refine rnamed_any most ao bs c who _ _ hl (HC.out.below HB1.out) hs hw ?_
      rw [HE.out]
      intro w2 hb2
      have HB2 := Lib.hid (HB1.out.trans (hb2.mono (by omega)))
      have z2 := HB2.out.size
      have d0 := cellB hb2 b0 s1
      have d1 := cellB hb2 b1 s1
      have hs2 : w.heap.size < w2.heap.size := by have := hb2.size; omega
      clear hb2 b0 b1
      go_wp2_with fail
      refine rheld_any most ao bs c who _ _ hlen (HC.out.below HB2.out) ?_
      rw [hL.out]
      intro v w3 hb3 ho3
      have HB3 := Lib.hid (HB2.out.trans (hb3.mono z2))
      have e1 := Lib.hid (cellB hb3 d1 hs2)
      have hs3 : w.heap.size < w3.heap.size := by have := hb3.size; omega
      obtain ⟨bb, ob, rfl, _, hcell⟩ := (HC.out.below HB3.out).blks (by omega)
      have HCell := Lib.hid hcell
      obtain ⟨a3, c3, rfl, r1, _⟩ := ho3.read
      obtain ⟨b3, o3, rfl, _, hcl⟩ := r1.ints hLn
      have HCL := Lib.hid hcl
      clear hb3 ho3 r1 hcell hcl d0 d1
      go_wp2_with fail
      go_loopw [9, 8] (fun i s wr => ∃ (k : Nat) (t : Int), k ≤ L.length ∧ i = .int .i64 k ∧ s = .int .i64 t ∧ Drew w3 wr ∧ Hid (loopE (devF bs L) (L.length - k) k t = loopE (devF bs L) L.length 0 0)) (fun i _ _ => L.length - (intOf i).toNat)
      case atStart => exact ⟨0, 0, Nat.zero_le _, rfl, rfl, Drew.refl _, rfl⟩
      case round =>
        obtain ⟨k, t, hk, rfl, rfl, ⟨q, rfl⟩, hLp⟩ := hrel
        by_cases hlt : k < L.length
        · obtain ⟨i, h1, h2⟩ := hLb.out k hlt
          have d1 := HCL.out k hlt
          rw [h1] at d1
          obtain ⟨_, d2, _, _⟩ := HCell.out i h2
          have d3 := e1.out
          have HF : Hid (devF bs L k t = .inl (wrap64 (t + (bAt bs i).w))) := by unfold Hid devF; rw [h1]; rfl
          clear h1
          go_wp2_with fail
          go_quiet (fail)
          go_wp2_with fail
          exact ⟨⟨k + 1, _, by omega, by go_num, rfl, (by repeat first | exact Drew.refl _ | apply Drew.drewN), loopE_step hLp hlt HF.out⟩, by simp [intOf]; omega⟩
        · go_wp2_with fail
          have h := HR.out _ (HB3.out.trans ((by repeat first | exact Drew.refl _ | apply Drew.drewN : Drew w3 (w3.drewN q)).below _))
          rw [HD.out.1, HD.out.2, devS, loopE_done hLp hlt] at h
          exact h
  · have HD : Hid (devN most bs who = 0 ∧ devE most bs who = nmS most bs who) := by unfold Hid devN devE; rw [if_neg hE, if_neg hE]; exact ⟨rfl, rfl⟩
    have h1 : (nmS most bs who == 0) = false := by simpa using hE
    have h2 : (nmS most bs who != 0) = true := by simpa using hE
    clear hE
    go_enter Tryd.func18, Tryd.ntmps18
    go_wp2_with fail
    rw [E1.out]
    refine rnamed_any most ao bs c who _ _ hl (HC.out.below HB1.out) hs hw ?_
    intro w2 hb2
    have HB2 := Lib.hid (HB1.out.trans (hb2.mono (by omega)))
    clear hb2
    go_wp2_with fail
    have h := HR.out _ HB2.out
    rw [HD.out.1, HD.out.2] at h
    exact h
end Go.Proofs.YteoniejpfmeibaaDoor
