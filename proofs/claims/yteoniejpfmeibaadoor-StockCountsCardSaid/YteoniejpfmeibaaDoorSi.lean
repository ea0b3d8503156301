/- The walks of resting, Calibrate, Replace of package stock. -/
import Derived.Test.YteoniejpfmeibaaDoorSg
import Derived.Test.YteoniejpfmeibaaDoorSh
namespace Go.Proofs.YteoniejpfmeibaaDoor
open Go.RowKit Go.Shelf

theorem Copied.row {w : World} {base C : Nat} {most : Int} {bs : List B5} {v : Value} (h : Copied w base C most bs v) (h0 : 0 < bs.length) :
    ∃ g cap, v = .slice (some ⟨g, 0, none⟩) bs.length cap ∧ base ≤ g ∧ g < w.heap.size ∧ g ≠ C ∧ (∀ j, w.frozen? ⟨g, j, none⟩ = false) := by
  rcases h.2.2.2 with ⟨_, h2⟩ | ⟨g, cap, cur, h1, h2, h3, _⟩
  · omega
  · refine ⟨g, cap, h1, h2, lt_of_block h3, ?_, frozen_at h3⟩
    rintro rfl
    have := h3.symm.trans h.2.1
    cases this
/-- A field is stored. -/
theorem Copied.put {w : World} {base C : Nat} {most : Int} {bs bs' : List B5} {g n cap : Nat} (h : Copied w base C most bs (.slice (some ⟨g, 0, none⟩) n cap)) (hg : g ≠ C) (j : Nat) (u : Value) (e : (bC bs).set j u = bC bs') (hl : bs'.length = bs.length) :
    Copied (w.setCell ⟨g, j, none⟩ u) base C most bs' (.slice (some ⟨g, 0, none⟩) n cap) := by
  have hn : n = bs.length := by
    rcases h.2.2.2 with ⟨h1, _⟩ | ⟨g', cap', cur, h1, _⟩
    · cases h1
    · cases h1; rfl
  subst hn
  refine ⟨h.1, (Below.heap_setCell _ _ _ _ (by exact fun e => hg e.symm)).trans h.2.1, ?_⟩
  rw [hl, ← e]
  exact (World.ownsRow.stored h.2.2 j u).1

set_option maxHeartbeats 1000000 in
theorem resting_any (most : Int) (ao : Option Addr) (bs : List B5) (c : Nat) (l : Int) (w : World) (R : Ending → World → Prop) (hl : bs.length ≤ 9223372036854775807) (hn : ao = none → bs.length = 0 ∧ c = 0) (hc : CellsAt w ao (bC bs)) (hs : StrOk bs)
   (hR1 : rsE most bs l = 0 → rsI bs l < bs.length → ∀ C v w', Below w.heap.size w w' → Copied w' w.heap.size C most bs v → R (.returned (.tuple #[.pointer (some ⟨C, 0, none⟩), .int .i64 (rsI bs l), .int .i64 0])) w')
   (hR2 : rsE most bs l ≠ 0 → ∀ w', Below w.heap.size w w' → R (.returned (.tuple #[.pointer none, .int .i64 0, .int .i64 (rsE most bs l)])) w') :
    Calls Tryd.prog 56 #[.agg #[.int .i64 most, .slice ao bs.length c], .int .i64 l] w R := by
  have HR1 := Lib.hid hR1
  have HR2 := Lib.hid hR2
  have HC := Lib.hid hc
  have HN := Lib.hid hn
  clear hR1 hR2 hc hn
  obtain ⟨w1, E1, HB1, s1, b0, b1⟩ := box2 w (.int .i64 most) (.slice ao bs.length c) 24
  obtain ⟨w2, E2, HB2, s2, x0⟩ := box1 w1 (.int .i64 l) 3
  have HV2 : Hid (Below w.heap.size w w2) := HB1.out.trans (HB2.out.mono (by omega))
  have k0 := cellB HB2.out b0 s1
  have k1 := cellB HB2.out b1 s1
  have hz : w1.heap.size = w.heap.size + 1 := by rw [← E1.out]; simp
  rw [hz] at x0
  clear b0 b1
  by_cases hE : chkS most bs = 0
  · have HE := Lib.hid hE
    have hlen := chkS_len hE
    obtain ⟨L, hL⟩ : ∃ L, Hid (plL l bs = L) := ⟨_, rfl⟩
    have HI : Hid (rsI bs l = (at0 L 0).toNat) := by unfold Hid rsI; rw [hL.out]
    have hLb : Hid (∀ j, j < L.length → ∃ i : Nat, at0 L j = i ∧ i < bs.length) := by
      unfold Hid; rw [← hL.out]; intro j hj; obtain ⟨i, h1, h2, _⟩ := pick_bd hj; exact ⟨i, h1, h2⟩
    by_cases h0 : L.length = 0
    · have h0' : ((L.length : Int) == 0) = true := by rw [beq_iff_eq]; omega
      have HD : Hid (rsE most bs l = 6) := by unfold Hid rsE; rw [if_pos hE, hL.out, if_pos h0]
      clear h0 hE
      go_enter Tryd.func56, Tryd.ntmps56
      go_wp2_with fail
      rw [E1.out, E2.out]
      refine of_any most ao bs c _ _ hl HN.out (HC.out.below HV2.out) hs ?_ (fun h => absurd HE.out h)
      intro _ C v w3 hb3 hcp3
      have HB3 : Hid (Below w.heap.size w w3) := HV2.out.trans (hb3.mono HV2.out.size)
      have y0 := cellB hb3 x0 (by omega)
      obtain ⟨a2, c2, rfl, r1, r2, r3, r4⟩ := hcp3.read
      have q1 := Lib.hid r1
      have q3 := Lib.hid r3
      have q4 := Lib.hid r4
      clear hb3 hcp3 r1 r2 r3 r4
      go_wp2_with fail
      refine where_rest C (w.heap.size + 1) most l a2 bs c2 _ _ hlen q3.out q4.out y0 q1.out ?_
      rw [show pickL (lenP l) bs = L from hL.out]
      intro v w4 hb4 ho4
      have HB4 : Hid (Below w.heap.size w w4) := HB3.out.trans (hb4.mono HB3.out.size)
      obtain ⟨a4, c4, rfl, r1, _⟩ := ho4.read
      clear hb4 ho4 r1
      go_wp2_with fail
      go_ret3
      have HR2' := Lib.hid (HR2.out (by rw [HD.out]; omega))
      rw [HD.out] at HR2'
      exact HR2'.out _ HB4.out
    · have h0' : ((L.length : Int) == 0) = false := by rw [beq_eq_false_iff_ne]; omega
      obtain ⟨i, hi, hib⟩ := hLb.out 0 (by omega)
      have HI' : Hid (rsI bs l = i) := by unfold Hid; rw [HI.out, hi]; rfl
      have HII := Lib.hid hi
      have HLn : 0 < L.length := by omega
      by_cases hz : (bAt bs i).h.size = 0
      · have hz' := empty_of hz
        have HD : Hid (rsE most bs l = 0) := by unfold Hid rsE; rw [if_pos hE, hL.out, if_neg h0, hi, Int.toNat_natCast, if_pos hz]
        clear h0 hE hz hi
        go_enter Tryd.func56, Tryd.ntmps56
        go_wp2_with fail
        rw [E1.out, E2.out]
        refine of_any most ao bs c _ _ hl HN.out (HC.out.below HV2.out) hs ?_ (fun h => absurd HE.out h)
        intro _ C v w3 hb3 hcp3
        have HB3 : Hid (Below w.heap.size w w3) := HV2.out.trans (hb3.mono HV2.out.size)
        have y0 := cellB hb3 x0 (by omega)
        obtain ⟨a2, c2, rfl, r1, r2, r3, r4⟩ := hcp3.read
        have q1 := Lib.hid r1
        have q3 := Lib.hid r3
        have q4 := Lib.hid r4
        have HCP := Lib.hid hcp3
        have sB := HV2.out.size
        clear hb3 hcp3 r1 r2 r3 r4
        go_wp2_with fail
        refine where_rest C (w.heap.size + 1) most l a2 bs c2 _ _ hlen q3.out q4.out y0 q1.out ?_
        rw [show pickL (lenP l) bs = L from hL.out]
        intro v w4 hb4 ho4
        have HB4 : Hid (Below w.heap.size w w4) := HB3.out.trans (hb4.mono HB3.out.size)
        have HCP4 : Hid (Copied w4 w.heap.size C most bs (.slice a2 bs.length c2)) := (HCP.out.below hb4).mono sB
        obtain ⟨a4, c4, rfl, r1, _⟩ := ho4.read
        obtain ⟨b4, o4, rfl, _, hcl⟩ := r1.ints HLn
        have d0 := hcl 0 HLn
        rw [Nat.add_zero, HII.out] at d0
        obtain ⟨bb, ob, rfl, _, hcell⟩ := (q1.out.below hb4).blks (by omega)
        obtain ⟨_, _, _, d4⟩ := hcell i hib
        have z1 := cellB hb4 q4.out (lt_of_cell q4.out)
        clear hb4 ho4 r1 hcl hcell
        go_wp2_with fail
        go_quiet (fail)
        go_wp2_with fail
        go_quiet (fail)
        go_wp2_with fail
        go_ret3
        have HR1' := Lib.hid (HR1.out HD.out (by rw [HI'.out]; exact hib))
        rw [HI'.out] at HR1'
        exact HR1'.out C _ _ (HB4.out.trans ((by repeat first | exact Drew.refl _ | apply Drew.drewN : Drew _ _).below _)) (HCP4.out.below ((by repeat first | exact Drew.refl _ | apply Drew.drewN : Drew _ _).below _))
      · have hz' := nempty_of hz
        have HD : Hid (rsE most bs l = 14) := by unfold Hid rsE; rw [if_pos hE, hL.out, if_neg h0, hi, Int.toNat_natCast, if_neg hz]
        clear h0 hE hz hi
        go_enter Tryd.func56, Tryd.ntmps56
        go_wp2_with fail
        rw [E1.out, E2.out]
        refine of_any most ao bs c _ _ hl HN.out (HC.out.below HV2.out) hs ?_ (fun h => absurd HE.out h)
        intro _ C v w3 hb3 hcp3
        have HB3 : Hid (Below w.heap.size w w3) := HV2.out.trans (hb3.mono HV2.out.size)
        have y0 := cellB hb3 x0 (by omega)
        obtain ⟨a2, c2, rfl, r1, r2, r3, r4⟩ := hcp3.read
        have q1 := Lib.hid r1
        have q3 := Lib.hid r3
        have q4 := Lib.hid r4
        clear hb3 hcp3 r1 r2 r3 r4
        go_wp2_with fail
        refine where_rest C (w.heap.size + 1) most l a2 bs c2 _ _ hlen q3.out q4.out y0 q1.out ?_
        rw [show pickL (lenP l) bs = L from hL.out]
        intro v w4 hb4 ho4
        have HB4 : Hid (Below w.heap.size w w4) := HB3.out.trans (hb4.mono HB3.out.size)
        obtain ⟨a4, c4, rfl, r1, _⟩ := ho4.read
        obtain ⟨b4, o4, rfl, _, hcl⟩ := r1.ints HLn
        have d0 := hcl 0 HLn
        rw [Nat.add_zero, HII.out] at d0
        obtain ⟨bb, ob, rfl, _, hcell⟩ := (q1.out.below hb4).blks (by omega)
        obtain ⟨_, _, _, d4⟩ := hcell i hib
        have z1 := cellB hb4 q4.out (lt_of_cell q4.out)
        clear hb4 ho4 r1 hcl hcell
        go_wp2_with fail
        go_quiet (fail)
        go_wp2_with fail
        go_ret3
        have HR2' := Lib.hid (HR2.out (by rw [HD.out]; omega))
        rw [HD.out] at HR2'
        exact HR2'.out _ (HB4.out.trans (Drew.below ⟨_, rfl⟩ _))
  · have HM : Hid (rsE most bs l = chkS most bs) := by unfold Hid; rw [rsE, if_neg hE]
    have HE := Lib.hid hE
    have hE' : (chkS most bs == 0) = false := by simpa using hE
    have hE'' : (chkS most bs != 0) = true := by simpa using hE
    clear hE
    go_enter Tryd.func56, Tryd.ntmps56
    go_wp2_with fail
    rw [E1.out, E2.out]
    refine of_any most ao bs c _ _ hl HN.out (HC.out.below HV2.out) hs (fun h => absurd h HE.out) ?_
    intro _ w3 hb3
    have HB3 : Hid (Below w.heap.size w w3) := HV2.out.trans (hb3.mono HV2.out.size)
    clear hb3
    go_wp2_with fail
    go_ret3
    have h := HR2.out (by rw [HM.out]; exact HE.out) _ HB3.out
    rw [HM.out] at h
    exact h
end Go.Proofs.YteoniejpfmeibaaDoor
