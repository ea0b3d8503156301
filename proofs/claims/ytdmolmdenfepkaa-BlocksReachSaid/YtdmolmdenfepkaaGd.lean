/- The walk of the law BlocksLeave: it returns true, and memory that was there is as it was. -/
import Derived.Sort.OwnSortedInts
import Derived.Test.YtdmolmdenfepkaaGb
import Derived.Test.YtdmolmdenfepkaaGc
namespace Go.Proofs.Ytdmolmdenfepkaa
open Go.RowKit Go.Shelf Go.Sort

/-- slices.Clone of ints that are there. -/
theorem clone_any (ao : Option Addr) (zs : List Int) (c : Nat) (w : World) (R : Ending → World → Prop) (hl : zs.length ≤ 1000000) (h0 : 0 < zs.length) (hc : CellsAt w ao (I64s zs))
   (hR : ∀ g cap w', Below w.heap.size w w' → zs.length ≤ cap → w.heap.size ≤ g → w'.ownsRow w.heap.size 3 1 (.slice (some ⟨g, 0, none⟩) zs.length cap) zs.length (I64s zs) → R (.returned (.slice (some ⟨g, 0, none⟩) zs.length cap)) w') :
    Calls Try.prog 33 #[.slice ao zs.length c] w R := by
  obtain ⟨b, o, rfl, hb, hcell⟩ := hc.ints h0
  refine (Try.slices_Clone_int b o zs.length c zs w (Nat.le_refl _) (by omega) (fun j hj => hcell j hj)).mono ?_
  rintro e w' ⟨v', rfl, hown, hne, hbel⟩
  rw [List.take_length] at hown
  rcases hown.2 with ⟨h, _⟩ | ⟨g, cap, cur, hv, hg, h3, h4, h5⟩
  · exact absurd h hne
  · subst hv
    exact hR g cap w' hbel (by have := h5.1; omega) hg hown

theorem CellsAt.front {w : World} {ao : Option Addr} {xs ys : List Value} (h : CellsAt w ao (xs ++ ys)) : CellsAt w ao xs := by
  intro h0
  obtain ⟨b, o, e, hb, hc⟩ := h (by simp; omega)
  refine ⟨b, o, e, hb, fun j hj => ?_⟩
  rw [hc j (by simp; omega), List.getD_eq_getElem?_getD, List.getElem?_append_left hj, List.getD_eq_getElem?_getD]
theorem delete_any (g cap i : Nat) (j : Int) (hj : j = ((i + 1 : Nat) : Int)) (zs : List Int) (w : World) (base : Nat) (R : Ending → World → Prop) (hi : i < zs.length) (hbase : base ≤ w.heap.size)
   (hown : w.ownsRow base 3 1 (.slice (some ⟨g, 0, none⟩) zs.length cap) zs.length (I64s zs))
   (hR : ∀ w', Below base w w' → CellsAt w' (some ⟨g, 0, none⟩) (I64s (zs.eraseIdx i)) → R (.returned (.slice (some ⟨g, 0, none⟩) (zs.eraseIdx i).length cap)) w') :
    Calls Try.prog 32 #[.slice (some ⟨g, 0, none⟩) zs.length cap, .int .i64 i, .int .i64 j] w R := by
  subst hj
  rcases hown.2 with ⟨h, _⟩ | ⟨g', cap', cur, hv, hb, hg, hn, hm, hs, ht⟩
  · cases h
  · cases hv
    refine (Try.slices_Delete_int g 0 cap i (i + 1) zs w (holds_of_blockI hg (by rw [Nat.mul_one] at ht; exact ht)) hn (by unfold maxLen at hm; omega) (by omega) (by omega)).mono ?_
    rintro e w' ⟨rfl, q, rfl⟩
    have e1 : zs.length - (i + 1 - i) = (zs.eraseIdx i).length := by rw [List.length_eraseIdx, if_pos hi]; omega
    have e2 : zs.take i ++ zs.drop (i + 1) ++ List.replicate (i + 1 - i) 0 = zs.eraseIdx i ++ [0] := by
      rw [List.eraseIdx_eq_take_drop_succ, show i + 1 - i = 1 from by omega]; rfl
    have e3 : (zs.eraseIdx i ++ [0]).length = zs.length := by rw [List.length_append, List.length_eraseIdx, if_pos hi]; simp; omega
    rw [e1, e2]
    have e4 : putRow (Value.int .i64) (Sort.ahead w q) g 0 (zs.eraseIdx i ++ [0]).toArray = grow (putRow (Value.int .i64) (Sort.ahead w q) g 0 (zs.eraseIdx i ++ [0]).toArray) #[] := (grow_empty _).symm
    rw [e4]
    refine hR _ ((Below.refl _ _).grown (grownBy_sortedI _) hbase fun k hk => by cases hk; exact hb) ?_
    have h5 := ownsRow_sortedI (n := q) (os := #[]) (ss := zs) (ts := zs.eraseIdx i ++ [0]) e3 hb hg hn hm hs
    obtain ⟨ao, c, hv, hcs, _, _⟩ := OwnL.read (⟨h5, by constructor <;> intro h <;> first | (cases h) | omega⟩ : OwnL _ base 3 1 (.slice (some ⟨g, 0, none⟩) zs.length cap) zs.length _)
    cases hv
    rw [List.map_append] at hcs
    exact hcs.front

theorem stk_St {zs st : List Int} (h : St zs.length 0 st) : stk zs st = 0 := by
  have h' := St_iff.1 h
  have : loopE (stkF zs st) st.length 0 () = .inl () := (loopE_unit _ _).2 fun j _ hj => by
    have := h' j (by omega)
    unfold stkF
    rw [if_neg (by omega), if_neg (by omega)]
  unfold stk
  rw [this]; rfl

set_option maxHeartbeats 1000000 in
theorem lawLeave (ao : Option Addr) (zs : List Int) (c : Nat) (l n : Int) (w : World) (R : Ending → World → Prop) (hn : 0 ≤ n) (hn2 : n ≤ 255)
   (hl : zs.length ≤ 9223372036854775807) (hc : CellsAt w ao (I64s zs)) (hR : ∀ w', Below w.heap.size w w' → R (.returned (.bool true)) w') :
    Calls Try.prog 9 #[.slice ao zs.length c, .int .i64 l, .int .u8 n] w R := by
  have HR := Lib.hid hR
  clear hR
  have HC := Lib.hid hc
  obtain ⟨m, rfl⟩ : ∃ m : Nat, n = m := ⟨n.toNat, by omega⟩
  by_cases hr : rgtB zs l = true
  · obtain ⟨g1, g2, g3, g4⟩ := rgtB_iff.1 hr
    have hz := (chk_zero zs).1 g2
    have hg : gvn zs l = 0 := by rw [gvn, if_pos g2, if_pos ((insB_iff l).2 ⟨g3, g4⟩)]
    have hE : fewE zs l = 0 ∨ fewE zs l = 6 := by rw [fewE, if_pos hg]; split <;> simp
    rcases hE with hE | hE
    · have HE := Lib.hid hE
      obtain ⟨e1, hr1, e2⟩ := fewL_len hz hE
      have hne : (fewL zs l).length ≠ 0 := by rw [e2]; exact best_ne hz hr1 (by omega)
      have hf := fewL_length zs l
      obtain ⟨q1, q2, q3, q4⟩ := best_ok hz hr1
      rw [← e2] at q1 q2
      have hlen : Hid (rlen zs (fewL zs l) = (l, 0)) := by
        unfold Hid rlen
        have hs : stk zs (fewL zs l) = 0 := stk_St q1
        rw [if_pos g2, if_pos hs, sum_St hz q1, q2, show ((l.toNat : Nat) : Int) = l from by omega]
      obtain ⟨k, hk, hkm⟩ : ∃ k : Nat, k < (fewL zs l).length ∧ Int.tmod (m : Int) ((fewL zs l).length : Int) = k :=
        ⟨m % (fewL zs l).length, Nat.mod_lt _ (by omega), by rw [Int.tmod_eq_emod_of_nonneg (by omega)]; omega⟩
      obtain ⟨a, ha, hal, hle, hone, hmore⟩ := leave_law hz ⟨g3, g4⟩ hE hk
      have h1 := (hz.2 a hal).1
      obtain ⟨L, hL⟩ : ∃ L, fewL zs l = L := ⟨_, rfl⟩
      rw [hL] at hne hf hlen hk hkm ha hone hmore
      have HL := Lib.hid hL
      have HA := Lib.hid ha
      have H1 := Lib.hid hone
      have H2 := Lib.hid hmore
      obtain ⟨x, hx⟩ : ∃ x, at0 zs a = x := ⟨_, rfl⟩
      have HX := Lib.hid hx
      rw [hx] at hle h1
      clear hL ha hone hmore e1 hr1 e2 q1 q2 q3 q4 hE hz hg g2 hx
      go_enter Try.func9, Try.ntmps9
      go_wp2_with fail
      refine right_any ao zs c l _ _ hl hc ?_
      rintro w1 ⟨q1, rfl⟩
      go_wp2_with fail
      refine fewestX_any ao zs c l _ _ hl (HC.out.below (Drew.below ⟨_, rfl⟩ _)) ?_
      rw [HL.out, HE.out]
      intro a2 c2 w2 hb2 hc2
      have HB2 : Hid (Below w.heap.size w w2) := (Drew.below ⟨_, rfl⟩ _ : Below w.heap.size w (w.drewN _)).trans (hb2.mono (Nat.le_refl _))
      have s2 : w.heap.size ≤ w2.heap.size := HB2.out.size
      have HC2 := Lib.hid hc2
      clear hb2 hc2
      go_wp2_with fail
      refine length_any ao a2 zs L c c2 _ _ hl (by omega) (HC.out.below HB2.out) HC2.out ?_
      rw [len_eq, hlen.out]
      obtain ⟨b, o, rfl, _, hcell⟩ := HC2.out.ints (by omega)
      have hc3 := hcell k hk
      rw [HA.out] at hc3
      clear hcell
      obtain ⟨b4, o4, rfl, _, hcell4⟩ := (HC.out.below HB2.out).ints (by omega)
      go_wp2_with fail
      have s23 : w2.heap.size ≤ w2.heap.size := Nat.le_refl _
      refine clone_any _ zs c _ _ (by omega) (by omega) (HC.out.below HB2.out) ?_
      intro g cap w3 hb3 hcap hg3 hown3
      have s23 : w2.heap.size ≤ w3.heap.size := hb3.size
      have HB3 := Lib.hid (HB2.out.trans (hb3.mono s2))
      have HO3 := Lib.hid hown3
      clear hb3 hown3
      go_wp2_with fail
      refine delete_any g cap a _ (by omega) zs _ w2.heap.size _ hal s23 HO3.out ?_
      intro w4 hb4 hc4
      have HB4 := Lib.hid (HB3.out.trans (hb4.mono s2))
      have s4 : w.heap.size ≤ w4.heap.size := HB4.out.size
      have HC4 := Lib.hid hc4
      clear hb4 hc4
      obtain ⟨b5, o5, e5, _, hcell5⟩ := (HC.out.below HB4.out).ints (by omega)
      have hc5 := hcell5 a hal
      rw [HX.out] at hc5
      cases e5
      clear hcell5
      have hel := List.length_eraseIdx (l := zs) (i := a)
      rw [if_pos hal] at hel
      by_cases hlx : l = x
      · have h1' := H1.out (by rw [HX.out]; exact hlx)
        have hL1 : ((L.length : Int) == 1) = true := by rw [beq_iff_eq]; omega
        subst hlx
        go_wp2_with fail
        refine awake_any _ _ ?_
        intro w6 hb6
        have HB6 : Hid (Below w.heap.size w w6) := HB4.out.trans (hb6.mono s4)
        clear hb6
        go_wp2_with fail
        exact HR.out _ HB6.out
      · have hlx' : (l == x) = false := by simpa using hlx
        obtain ⟨k1, k2⟩ := H2.out (by rw [HX.out]; exact hlx)
        rw [HX.out] at k1 k2
        obtain ⟨ys, hys⟩ : ∃ ys, zs.eraseIdx a = ys := ⟨_, rfl⟩
        rw [hys] at k1 k2 hel HC4
        have hel' : ys.length ≤ zs.length := by omega
        have HK1 := Lib.hid k1
        have hk2 : (fewL ys (l - x)).length + 1 = L.length := k2
        rw [hys]
        clear k1 k2 hys hel
        go_wp2_with fail
        refine fewestX_any _ ys cap (l - x) _ _ (by omega) HC4.out ?_
        rw [HK1.out]
        intro a6 c6 w6 hb6 hc6
        obtain ⟨P, hP⟩ : ∃ P, fewL ys (l - x) = P := ⟨_, rfl⟩
        rw [hP] at hk2
        rw [hP]
        have HB6 := Lib.hid (HB4.out.trans (hb6.mono s4))
        have s6 : w.heap.size ≤ w6.heap.size := HB6.out.size
        have hPL : ((P.length : Int) == (L.length : Int) - 1) = true := by rw [beq_iff_eq]; omega
        clear hb6 hc6 hP
        go_wp2_with fail
        refine awake_any _ _ ?_
        intro w7 hb7
        have HB7 : Hid (Below w.heap.size w w7) := HB6.out.trans (hb7.mono s6)
        clear hb7
        go_wp2_with fail
        exact HR.out _ HB7.out
    · have HE := Lib.hid hE
      have HL : Hid (fewL zs l = []) := by unfold Hid; rw [fewL, if_neg]; rintro ⟨_, h⟩; rw [fewE, if_pos hg, if_pos h] at hE; cases hE
      clear hE hz hg g1 g2 g3 g4
      go_enter Try.func9, Try.ntmps9
      go_wp2_with fail
      refine right_any ao zs c l _ _ hl hc ?_
      rintro w1 ⟨q1, rfl⟩
      go_wp2_with fail
      refine fewestX_any ao zs c l _ _ hl (HC.out.below (Drew.below ⟨_, rfl⟩ _)) ?_
      rw [HL.out, HE.out]
      intro a2 c2 w2 hb2 hc2
      have HB2 : Hid (Below w.heap.size w w2) := (Drew.below ⟨_, rfl⟩ _ : Below w.heap.size w (w.drewN _)).trans (hb2.mono (Nat.le_refl _))
      have s2 : w.heap.size ≤ w2.heap.size := HB2.out.size
      clear hb2 hc2
      go_wp2_with fail
      refine awake_any _ _ ?_
      intro w4 hb4
      have HB4 : Hid (Below w.heap.size w w4) := HB2.out.trans (hb4.mono s2)
      clear hb4
      go_wp2_with fail
      exact HR.out _ HB4.out
  · have hr' : rgtB zs l = false := by simpa using hr
    go_enter Try.func9, Try.ntmps9
    go_wp2_with fail
    refine right_any ao zs c l _ _ hl hc ?_
    rintro w1 ⟨q1, rfl⟩
    go_wp2_with fail
    refine awake_any _ _ ?_
    intro w4 hb4
    have HB4 : Hid (Below w.heap.size w w4) := (Drew.below (by repeat first | exact Drew.refl _ | apply Drew.drewN) _ : Below w.heap.size w _).trans (hb4.mono (Nat.le_refl _))
    clear hb4
    go_wp2_with fail
    exact HR.out _ HB4.out
end Go.Proofs.Ytdmolmdenfepkaa
