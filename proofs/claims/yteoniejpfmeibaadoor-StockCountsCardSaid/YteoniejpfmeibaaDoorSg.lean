/- The walks of free, held, named, Free, Deviation of package stock. -/
import Derived.Test.YteoniejpfmeibaaDoorSf
namespace Go.Proofs.YteoniejpfmeibaaDoor
open Go.RowKit Go.Shelf

theorem box1 (w : World) (x : Value) (e : TypeId) : ∃ w1, Hid (w.alloc (.cells #[x] e) = w1) ∧ Hid (Below w.heap.size w w1) ∧ w.heap.size < w1.heap.size ∧ w1.cell? ⟨w.heap.size, 0, none⟩ = some x := by
  obtain ⟨w1, h1, h2, h3, h4⟩ := box_ex w #[x] e
  exact ⟨w1, h1, h2, h3, cell_at h4.out rfl⟩

set_option maxHeartbeats 1000000 in
theorem free_any (C : Nat) (most : Int) (ao : Option Addr) (bs : List B5) (cap : Nat) (w : World) (R : Ending → World → Prop) (hl : bs.length ≤ 256)
   (hC0 : w.cell? ⟨C, 0, none⟩ = some (.int .i64 most)) (hC1 : w.cell? ⟨C, 1, none⟩ = some (.slice ao bs.length cap)) (hc : CellsAt w ao (bC bs))
   (hR : ∀ v w', Below w.heap.size w w' → OwnL w' w.heap.size 3 1 v (pickL (freeP most) bs).length (I64s (pickL (freeP most) bs)) → R (.returned v) w') :
    Calls Tryd.prog 43 #[.pointer (some ⟨C, 0, none⟩)] w R := by
  have HR := Lib.hid hR
  have HC := Lib.hid hc
  obtain ⟨w1, E1, HB1, s1, x0⟩ := box1 w (.pointer (some ⟨C, 0, none⟩)) 79
  have k0 := Lib.hid (cellB HB1.out hC0 (lt_of_cell hC0))
  have k1 := Lib.hid (cellB HB1.out hC1 (lt_of_cell hC1))
  have k2 : (w.alloc (.cells #[.pointer (some ⟨C, 0, none⟩)] 79)).cell? ⟨w.heap.size, 0, none⟩ = some (.pointer (some ⟨C, 0, none⟩)) := by rw [E1.out]; exact x0
  clear hR hc hC0 hC1
  go_enter Tryd.func43, Tryd.ntmps43
  go_wp2_with fail
  rw [E1.out]
  refine where_free C w.heap.size most ao bs cap _ _ hl k0.out k1.out x0 (HC.out.below HB1.out) ?_
  intro v w2 hb2 ho2
  have HB2 : Hid (Below w.heap.size w w2) := HB1.out.trans (hb2.mono (by omega))
  have HO2 := Lib.hid (OwnL.mono ho2 (base' := w.heap.size) (by omega))
  clear hb2 ho2 x0 k2
  go_wp2_with fail
  exact HR.out _ _ HB2.out HO2.out

set_option maxHeartbeats 1000000 in
theorem held_any (C : Nat) (most : Int) (who : ByteArray) (ao : Option Addr) (bs : List B5) (cap : Nat) (w : World) (R : Ending → World → Prop) (hl : bs.length ≤ 256)
   (hC0 : w.cell? ⟨C, 0, none⟩ = some (.int .i64 most)) (hC1 : w.cell? ⟨C, 1, none⟩ = some (.slice ao bs.length cap)) (hc : CellsAt w ao (bC bs))
   (hR : ∀ v w', Below w.heap.size w w' → OwnL w' w.heap.size 3 1 v (pickL (heldP who) bs).length (I64s (pickL (heldP who) bs)) → R (.returned v) w') :
    Calls Tryd.prog 46 #[.pointer (some ⟨C, 0, none⟩), .string who] w R := by
  have HR := Lib.hid hR
  have HC := Lib.hid hc
  obtain ⟨w1, E1, HB1, s1, x0⟩ := box1 w (.string who) 9
  have k0 := Lib.hid (cellB HB1.out hC0 (lt_of_cell hC0))
  have k1 := Lib.hid (cellB HB1.out hC1 (lt_of_cell hC1))
  have k2 : (w.alloc (.cells #[.string who] 9)).cell? ⟨w.heap.size, 0, none⟩ = some (.string who) := by rw [E1.out]; exact x0
  clear hR hc hC0 hC1
  go_enter Tryd.func46, Tryd.ntmps46
  go_wp2_with fail
  rw [E1.out]
  refine where_held C w.heap.size most who ao bs cap _ _ hl k0.out k1.out x0 (HC.out.below HB1.out) ?_
  intro v w2 hb2 ho2
  have HB2 : Hid (Below w.heap.size w w2) := HB1.out.trans (hb2.mono (by omega))
  have HO2 := Lib.hid (OwnL.mono ho2 (base' := w.heap.size) (by omega))
  clear hb2 ho2 x0 k2
  go_wp2_with fail
  exact HR.out _ _ HB2.out HO2.out

set_option maxHeartbeats 1000000 in
theorem named_any (most : Int) (ao : Option Addr) (bs : List B5) (c : Nat) (who : ByteArray) (w : World) (R : Ending → World → Prop) (hl : bs.length ≤ 9223372036854775807) (hn : ao = none → bs.length = 0 ∧ c = 0) (hc : CellsAt w ao (bC bs)) (hs : StrOk bs) (hw : who.size ≤ 9223372036854775807)
   (hR1 : nmS most bs who = 0 → ∀ C v w', Below w.heap.size w w' → Copied w' w.heap.size C most bs v → R (.returned (.tuple #[.pointer (some ⟨C, 0, none⟩), .int .i64 0])) w')
   (hR2 : nmS most bs who ≠ 0 → ∀ p w', Below w.heap.size w w' → R (.returned (.tuple #[p, .int .i64 (nmS most bs who)])) w') :
    Calls Tryd.prog 45 #[.agg #[.int .i64 most, .slice ao bs.length c], .string who] w R := by
  have HR1 := Lib.hid hR1
  have HR2 := Lib.hid hR2
  have HC := Lib.hid hc
  have HN := Lib.hid hn
  clear hR1 hR2 hc hn
  obtain ⟨w1, E1, HB1, s1, b0, b1⟩ := box2 w (.int .i64 most) (.slice ao bs.length c) 24
  by_cases hE : chkS most bs = 0
  · have HE := Lib.hid hE
    have HM : Hid (nmS most bs who = namE who) := by unfold Hid; rw [nmS, if_pos hE]
    clear hE
    by_cases hz : who.size = 0
    · have hz' := empty_of hz
      have HM3 : Hid (nmS most bs who = 3) := by unfold Hid; rw [HM.out, namE, if_pos hz]
      clear hz
      go_enter Tryd.func45, Tryd.ntmps45
      go_wp2_with fail
      rw [E1.out]
      refine of_any most ao bs c _ _ hl HN.out (HC.out.below HB1.out) hs ?_ (fun h => absurd HE.out h)
      intro _ C v w2 hb2 hcp2
      have HB2 : Hid (Below w.heap.size w w2) := HB1.out.trans (hb2.mono (by omega))
      clear hb2 hcp2
      go_wp2_with fail
      have h := HR2.out (by rw [HM3.out]; omega) (.pointer none) _ HB2.out
      rw [HM3.out] at h
      exact h
    · have hz' := nempty_of hz
      have HM3 : Hid (nmS most bs who = ltrE who) := by unfold Hid; rw [HM.out, namE, if_neg hz]
      clear hz
      go_enter Tryd.func45, Tryd.ntmps45
      go_wp2_with fail
      rw [E1.out]
      refine of_any most ao bs c _ _ hl HN.out (HC.out.below HB1.out) hs ?_ (fun h => absurd HE.out h)
      intro _ C v w2 hb2 hcp2
      have HB2 : Hid (Below w.heap.size w w2) := HB1.out.trans (hb2.mono (by omega))
      have HCP2 := Lib.hid hcp2
      clear hb2 hcp2
      go_wp2_with fail
      refine letters_any who _ _ hw ?_
      intro w3 hb3
      have HB3 : Hid (Below w.heap.size w w3) := HB2.out.trans (hb3.mono HB2.out.size)
      have HCP3 := Lib.hid ((HCP2.out.below hb3).mono (base' := w.heap.size) (by omega))
      clear hb3
      by_cases hl0 : ltrE who = 0
      · have h0 : Hid (nmS most bs who = 0) := by unfold Hid; rw [HM3.out]; exact hl0
        go_wp2_with fail
        exact HR1.out h0.out C v _ HB3.out HCP3.out
      · have h0 : Hid (nmS most bs who ≠ 0) := by unfold Hid; rw [HM3.out]; exact hl0
        go_wp2_with fail
        have h := HR2.out h0.out (.pointer (some ⟨C, 0, none⟩)) _ HB3.out
        rw [HM3.out] at h
        exact h
  · have HM : Hid (nmS most bs who = chkS most bs) := by unfold Hid; rw [nmS, if_neg hE]
    have HE := Lib.hid hE
    have hE' : (chkS most bs == 0) = false := by simpa using hE
    have hE'' : (chkS most bs != 0) = true := by simpa using hE
    clear hE
    go_enter Tryd.func45, Tryd.ntmps45
    go_wp2_with fail
    rw [E1.out]
    refine of_any most ao bs c _ _ hl HN.out (HC.out.below HB1.out) hs (fun h => absurd h HE.out) ?_
    intro _ w2 hb2
    have HB2 : Hid (Below w.heap.size w w2) := HB1.out.trans (hb2.mono (by omega))
    clear hb2
    go_wp2_with fail
    have h := HR2.out (by rw [HM.out]; exact HE.out) (.pointer none) _ HB2.out
    rw [HM.out] at h
    exact h

set_option maxHeartbeats 1000000 in
theorem freeS_any (most : Int) (ao : Option Addr) (bs : List B5) (c : Nat) (w : World) (R : Ending → World → Prop) (hl : bs.length ≤ 9223372036854775807) (hn : ao = none → bs.length = 0 ∧ c = 0) (hc : CellsAt w ao (bC bs)) (hs : StrOk bs)
   (hR : ∀ v w', Below w.heap.size w w' → OwnL w' w.heap.size 3 1 v (frL most bs).length (I64s (frL most bs)) → R (.returned (.tuple #[v, .int .i64 (chkS most bs)])) w') :
    Calls Tryd.prog 15 #[.agg #[.int .i64 most, .slice ao bs.length c]] w R := by
  have HR := Lib.hid hR
  have HC := Lib.hid hc
  have HN := Lib.hid hn
  clear hR hc hn
  obtain ⟨w1, E1, HB1, s1, b0, b1⟩ := box2 w (.int .i64 most) (.slice ao bs.length c) 24
  by_cases hE : chkS most bs = 0
  · have HE := Lib.hid hE
    have HF : Hid (frL most bs = pickL (freeP most) bs) := by unfold Hid; rw [frL, if_pos hE]
    have hlen := chkS_len hE
    clear hE
    go_enter Tryd.func15, Tryd.ntmps15
    go_wp2_with fail
    rw [E1.out]
    refine of_any most ao bs c _ _ hl HN.out (HC.out.below HB1.out) hs ?_ (fun h => absurd HE.out h)
    intro _ C v w2 hb2 hcp2
    obtain ⟨a2, c2, rfl, r1, r2, r3, r4⟩ := hcp2.read
    have HB2 : Hid (Below w.heap.size w w2) := HB1.out.trans (hb2.mono (by omega))
    have q1 := Lib.hid r1
    have q3 := Lib.hid r3
    have q4 := Lib.hid r4
    clear hb2 hcp2 r1 r2 r3 r4
    go_wp2_with fail
    refine free_any C most a2 bs c2 _ _ hlen q3.out q4.out q1.out ?_
    intro v w3 hb3 ho3
    have HB3 : Hid (Below w.heap.size w w3) := HB2.out.trans (hb3.mono HB2.out.size)
    have HO3 := Lib.hid (OwnL.mono ho3 (base' := w.heap.size) HB2.out.size)
    clear hb3 ho3
    go_wp2_with fail
    have h := HR.out v _ HB3.out (by rw [HF.out]; exact HO3.out)
    rw [HE.out] at h
    exact h
  · have HE := Lib.hid hE
    have HF : Hid (frL most bs = []) := by unfold Hid; rw [frL, if_neg hE]
    have hE' : (chkS most bs == 0) = false := by simpa using hE
    have hE'' : (chkS most bs != 0) = true := by simpa using hE
    clear hE
    go_enter Tryd.func15, Tryd.ntmps15
    go_wp2_with fail
    rw [E1.out]
    refine of_any most ao bs c _ _ hl HN.out (HC.out.below HB1.out) hs (fun h => absurd h HE.out) ?_
    intro _ w2 hb2
    have HB2 : Hid (Below w.heap.size w w2) := HB1.out.trans (hb2.mono (by omega))
    clear hb2
    go_wp2_with fail
    exact HR.out _ _ HB2.out (by rw [HF.out]; exact OwnL.nil _ _ _ _)

set_option maxHeartbeats 1000000 in
theorem devS_any (most : Int) (ao : Option Addr) (bs : List B5) (c : Nat) (who : ByteArray) (w : World) (R : Ending → World → Prop) (hl : bs.length ≤ 9223372036854775807) (hn : ao = none → bs.length = 0 ∧ c = 0) (hc : CellsAt w ao (bC bs)) (hs : StrOk bs) (hw : who.size ≤ 9223372036854775807)
   (hR : ∀ w', Below w.heap.size w w' → R (.returned (.tuple #[.int .i64 (devN most bs who), .int .i64 (devE most bs who)])) w') :
    Calls Tryd.prog 17 #[.agg #[.int .i64 most, .slice ao bs.length c], .string who] w R := by
  have HR := Lib.hid hR
  have HC := Lib.hid hc
  have HN := Lib.hid hn
  clear hR hc hn
  obtain ⟨w1, E1, HB1, s1, b0, b1⟩ := box2 w (.int .i64 most) (.slice ao bs.length c) 24
  by_cases hE : nmS most bs who = 0
  · have HE := Lib.hid hE
    have hlen := chkS_len (nmS_chk hE)
    clear hE
    obtain ⟨L, hL⟩ : ∃ L, Hid (pickL (heldP who) bs = L) := ⟨_, rfl⟩
    have hLl : L.length ≤ bs.length := by rw [← hL.out]; exact pickTo_length _ _ _
    have hLb : Hid (∀ j, j < L.length → ∃ i : Nat, at0 L j = i ∧ i < bs.length) := by
      unfold Hid; rw [← hL.out]; intro j hj; obtain ⟨i, h1, h2, _⟩ := pick_bd hj; exact ⟨i, h1, h2⟩
    by_cases h0 : L.length = 0
    · have H0 := Lib.hid h0
      have h0' : ((L.length : Int) == 0) = true := by rw [beq_iff_eq]; omega
      have HD : Hid (devN most bs who = 0 ∧ devE most bs who = 6) := by unfold Hid devN devE; rw [HE.out, hL.out]; simp [h0]
      clear h0
      go_enter Tryd.func17, Tryd.ntmps17
      go_wp2_with fail
      rw [E1.out]
      refine named_any most ao bs c who _ _ hl HN.out (HC.out.below HB1.out) hs hw ?_ (fun h => absurd HE.out h)
      intro _ C v w2 hb2 hcp2
      obtain ⟨a2, c2, rfl, r1, r2, r3, r4⟩ := hcp2.read
      have HB2 : Hid (Below w.heap.size w w2) := HB1.out.trans (hb2.mono (by omega))
      have q1 := Lib.hid r1
      have q3 := Lib.hid r3
      have q4 := Lib.hid r4
      clear hb2 hcp2 r1 r2 r3 r4
      go_wp2_with fail
      refine held_any C most who a2 bs c2 _ _ hlen q3.out q4.out q1.out ?_
      rw [hL.out]
      intro v w3 hb3 ho3
      have HB3 : Hid (Below w.heap.size w w3) := HB2.out.trans (hb3.mono HB2.out.size)
      obtain ⟨a3, c3, rfl, r1, _⟩ := ho3.read
      clear hb3 ho3 r1
      go_wp2_with fail
      have h := HR.out _ HB3.out
      rw [HD.out.1, HD.out.2] at h
      exact h
    · have h0' : ((L.length : Int) == 0) = false := by rw [beq_eq_false_iff_ne]; omega
      have HD : Hid (devN most bs who = devS bs L ∧ devE most bs who = 0) := by unfold Hid devN devE; rw [HE.out, hL.out]; simp [h0]
      have H0 := Lib.hid h0
      clear h0
      go_enter Tryd.func17, Tryd.ntmps17
      go_wp2_with fail
      rw [E1.out]
      refine named_any most ao bs c who _ _ hl HN.out (HC.out.below HB1.out) hs hw ?_ (fun h => absurd HE.out h)
      intro _ C v w2 hb2 hcp2
      obtain ⟨a2, c2, rfl, r1, r2, r3, r4⟩ := hcp2.read
      have HB2 : Hid (Below w.heap.size w w2) := HB1.out.trans (hb2.mono (by omega))
      have q1 := Lib.hid r1
      have q3 := Lib.hid r3
      have q4 := Lib.hid r4
      clear hb2 hcp2 r1 r2 r3 r4
      go_wp2_with fail
      refine held_any C most who a2 bs c2 _ _ hlen q3.out q4.out q1.out ?_
      rw [hL.out]
      intro v w3 hb3 ho3
      have HB3 : Hid (Below w.heap.size w w3) := HB2.out.trans (hb3.mono HB2.out.size)
      have hC1 := cellB hb3 q4.out (lt_of_cell q4.out)
      obtain ⟨bb, ob, rfl, _, hcell⟩ := (q1.out.below hb3).blks (by have := H0.out; omega)
      have HCell := Lib.hid hcell
      obtain ⟨a3, c3, rfl, r1, _⟩ := ho3.read
      have HL3 := Lib.hid r1
      obtain ⟨b3, o3, rfl, _, hcl⟩ := r1.ints (by have := H0.out; omega)
      have HCL := Lib.hid hcl
      clear hb3 ho3 r1 hcell hcl
      go_wp2_with fail
      go_loop [29, 9] (fun i s => ∃ (k : Nat) (t : Int), k ≤ L.length ∧ i = .int .i64 k ∧ s = .int .i64 t ∧ Hid (loopE (devF bs L) (L.length - k) k t = loopE (devF bs L) L.length 0 0)) (fun i _ => L.length - (intOf i).toNat)
      case atStart => exact ⟨0, 0, Nat.zero_le _, rfl, rfl, rfl⟩
      case round =>
        obtain ⟨k, t, hk, rfl, rfl, hLp⟩ := hrel
        by_cases hlt : k < L.length
        · obtain ⟨i, h1, h2⟩ := hLb.out k hlt
          have d1 := HCL.out k hlt
          rw [h1] at d1
          obtain ⟨_, d2, _, _⟩ := HCell.out i h2
          have HF : Hid (devF bs L k t = .inl (wrap64 (t + (bAt bs i).w))) := by unfold Hid devF; rw [h1]; rfl
          clear h1
          go_wp2_with fail
          exact ⟨⟨k + 1, _, by omega, by go_num, rfl, loopE_step hLp hlt HF.out⟩, by simp [intOf]; omega⟩
        · go_wp2_with fail
          have h := HR.out _ HB3.out
          rw [HD.out.1, HD.out.2, devS, loopE_done hLp hlt] at h
          exact h
  · have HD : Hid (devN most bs who = 0 ∧ devE most bs who = nmS most bs who) := by unfold Hid devN devE; rw [if_neg hE, if_neg hE]; exact ⟨rfl, rfl⟩
    have HE := Lib.hid hE
    have hE' : (nmS most bs who == 0) = false := by simpa using hE
    have hE'' : (nmS most bs who != 0) = true := by simpa using hE
    clear hE
    go_enter Tryd.func17, Tryd.ntmps17
    go_wp2_with fail
    rw [E1.out]
    refine named_any most ao bs c who _ _ hl HN.out (HC.out.below HB1.out) hs hw (fun h => absurd h HE.out) ?_
    intro _ p w2 hb2
    have HB2 : Hid (Below w.heap.size w w2) := HB1.out.trans (hb2.mono (by omega))
    clear hb2
    go_wp2_with fail
    have h := HR.out _ HB2.out
    rw [HD.out.1, HD.out.2] at h
    exact h
end Go.Proofs.YteoniejpfmeibaaDoor
