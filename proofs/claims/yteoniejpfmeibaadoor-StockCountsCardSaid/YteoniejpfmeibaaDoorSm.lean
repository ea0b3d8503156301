/- The walk of Take of package stock. -/
import Derived.Test.YteoniejpfmeibaaDoorSl
import Derived.Test.YteoniejpfmeibaaDoorE
import Derived.Test.YteoniejpfmeibaaDoorR
namespace Go.Proofs.YteoniejpfmeibaaDoor
open Go.RowKit Go.Shelf

theorem few_bd {zs : List Int} {l : Int} {j : Nat} (hj : j < (fewL zs l).length) : ∃ i : Nat, at0 (fewL zs l) j = i ∧ i < zs.length := by
  unfold fewL at hj ⊢
  split at hj
  · rename_i h
    rw [if_pos h]
    obtain ⟨hz, _, _⟩ := gvn_zero h.1
    have := (St_iff.1 (best_ok hz h.2).1 j hj).1
    exact ⟨(at0 (bestL zs 0 l.toNat) j).toNat, by omega, by omega⟩
  · exact absurd hj (by simp)
theorem fewL_length' (zs : List Int) (l : Int) : (fewL zs l).length ≤ zs.length := by
  unfold fewL; split
  · exact bestL_length _ _ _
  · simp
theorem CellsAt.keep {n : Nat} {w w' : World} {ao : Option Addr} {cs : List Value} (h : CellsAt w ao cs) (hb : Below n w w') (hn : ∀ b o, ao = some ⟨b, o, none⟩ → b < n) : CellsAt w' ao cs := by
  intro h0
  obtain ⟨b, o, e, hl, hc⟩ := h h0
  exact ⟨b, o, e, Nat.lt_of_lt_of_le hl hb.size, fun j hj => (hb.cell (p := ⟨b, o + j, none⟩) (hn b o e)).trans (hc j hj)⟩
theorem CellsAt.setOther' {w : World} {ao : Option Addr} {cs : List Value} (h : CellsAt w ao cs) {a : Addr} (ha : ∀ b o, ao = some ⟨b, o, none⟩ → a.block ≠ b) (u : Value) : CellsAt (w.setCell a u) ao cs := by
  intro h0
  obtain ⟨b, o, e, hl, hc⟩ := h h0
  subst e
  exact (h.setOther (ha b o rfl) u) h0
theorem Copied.keep {n : Nat} {w w' : World} {base C : Nat} {most : Int} {bs : List B5} {g m cap : Nat} (h : Copied w base C most bs (.slice (some ⟨g, 0, none⟩) m cap)) (hb : Below n w w') (hC : C < n) (hg : g < n) : Copied w' base C most bs (.slice (some ⟨g, 0, none⟩) m cap) := by
  refine ⟨h.1, heap_below h.2.1 hb hC, ?_⟩
  refine ⟨h.2.2.1, ?_⟩
  rcases h.2.2.2 with h1 | ⟨g', cap', cur, h1, h2, h3, h4⟩
  · exact .inl h1
  · cases h1
    exact .inr ⟨g, cap, cur, rfl, h2, heap_below h3 hb hg, h4⟩
theorem OwnL.setOld {w : World} {base : Nat} {e : TypeId} {size : Nat} {v : Value} {n : Nat} {xs : List Value} (h : OwnL w base e size v n xs) {a : Addr} (ha : a.block < base) (u : Value) : OwnL (w.setCell a u) base e size v n xs :=
  ⟨ownsRow_set h.1 ha u, h.2⟩

set_option maxRecDepth 100000 in
set_option maxHeartbeats 4000000 in
theorem takeS_any (most : Int) (ao : Option Addr) (bs : List B5) (c : Nat) (who : ByteArray) (l : Int) (w : World) (R : Ending → World → Prop) (hl : bs.length ≤ 9223372036854775807) (hn : ao = none → bs.length = 0 ∧ c = 0) (hc : CellsAt w ao (bC bs)) (hs : StrOk bs) (hw : who.size ≤ 9223372036854775807)
   (hR : ∀ a' c' a2' c2' w', Below w.heap.size w w' → BSl w' a' c' (tkB most bs who l) → CellsAt w' a2' (I64s (tkO most bs who l)) → Fresh w.heap.size a' → Fresh w.heap.size a2' → R (.returned (.tuple #[.agg #[.int .i64 (okM most (tkE most bs who l)), .slice a' (tkB most bs who l).length c'], .slice a2' (tkO most bs who l).length c2', .int .i64 (tkE most bs who l)])) w') :
    Calls Tryd.prog 25 #[.agg #[.int .i64 most, .slice ao bs.length c], .string who, .int .i64 l] w R := by
  have HR := Lib.hid hR
  have HC := Lib.hid hc
  have HN := Lib.hid hn
  clear hR hc hn
  obtain ⟨w1, E1', HB1, s1, X1⟩ := box_ex w #[.int .i64 most, .slice ao bs.length c] 24
  have E1 := Lib.hid E1'
  clear E1'
  have hz1 : w1.heap.size = w.heap.size + 1 := by rw [← E1.out]; simp
  obtain ⟨w2, E2', HB2, s2, X2⟩ := box_ex w1 #[.int .i64 0, .slice none 0 0] 24
  have E2 := Lib.hid E2'
  clear E2'
  have HV2 : Hid (Below w.heap.size w w2) := HB1.out.trans (HB2.out.mono (by omega))
  have X1' : Hid (w2.heap[w.heap.size]? = some (.cells #[.int .i64 most, .slice ao bs.length c] 24 (0, 0))) := heap_below X1.out HB2.out s1
  have X2' : Hid (w2.heap[w.heap.size + 1]? = some (.cells #[.int .i64 0, .slice none 0 0] 24 (0, 0))) := by unfold Hid; rw [← hz1]; exact X2.out
  have k0 : w2.cell? ⟨w.heap.size, 0, none⟩ = some (.int .i64 most) := cell_at X1'.out rfl
  have k1 : w2.cell? ⟨w.heap.size, 1, none⟩ = some (.slice ao bs.length c) := cell_at X1'.out rfl
  have hs2 : w.heap.size + 1 < w2.heap.size := by omega
  have HZ : Hid (∀ w3 : World, Below w.heap.size w w3 → ∀ e : Int, tkE most bs who l = e → e ≠ 0 → R (.returned (.tuple #[.agg #[.int .i64 0, .slice none 0 0], .slice none 0 0, .int .i64 e])) ((w3.setCell ⟨w.heap.size + 1, 0, none⟩ (.int .i64 0)).setCell ⟨w.heap.size + 1, 1, none⟩ (.slice none 0 0))) := by
    intro w3 hb e he h0
    have HDB : tkB most bs who l = [] := by rw [tkB, if_neg (by rw [he]; exact h0)]
    have HDO : tkO most bs who l = [] := by rw [tkO, if_neg (by rw [he]; exact h0)]
    have HR' := HR.out none 0 none 0 _ ((hb.setCell (p := ⟨w.heap.size + 1, 0, none⟩) (by show w.heap.size ≤ w.heap.size + 1; omega) (.int .i64 0)).setCell (p := ⟨w.heap.size + 1, 1, none⟩) (by show w.heap.size ≤ w.heap.size + 1; omega) (.slice none 0 0)) (by rw [HDB]; exact BSl.nil _) (by rw [HDO]; exact CellsAt.nil _ _) (Fresh.nil _) (Fresh.nil _)
    rw [HDB, HDO, he, okM, if_neg h0] at HR'
    exact HR'
  by_cases hE : nmS most bs who = 0
  · have hlen := chkS_len (nmS_chk hE)
    by_cases h0 : (pickL (heldP who) bs).length = 0
    · have HD : Hid (tkE most bs who l = fewE (tkSet most bs) l) := by unfold Hid tkE; rw [if_pos hE, if_pos h0]
      obtain ⟨F, hF⟩ : ∃ F, Hid (pickL (freeP most) bs = F) := ⟨_, rfl⟩
      have hFl : F.length ≤ bs.length := by rw [← hF.out]; exact pickTo_length _ _ _
      have hFb : Hid (∀ j, j < F.length → ∃ i : Nat, at0 F j = i ∧ i < bs.length) := by
        unfold Hid; rw [← hF.out]; intro j hj; obtain ⟨i, h1, h2, _⟩ := pick_bd hj; exact ⟨i, h1, h2⟩
      obtain ⟨Z, hZ⟩ : ∃ Z, Hid (tkSet most bs = Z) := ⟨_, rfl⟩
      have hZF : Hid (lensTo bs F F.length = Z) := by unfold Hid; rw [← hZ.out, tkSet, hF.out]; rfl
      have hZl : Hid (Z.length = F.length) := by unfold Hid; rw [← hZF.out, lensTo_length]
      obtain ⟨H, hH⟩ : ∃ H, pickL (heldP who) bs = H := ⟨_, rfl⟩
      rw [hH] at h0
      have HHH := Lib.hid hH
      have h0' : decide ((0 : Int) < (H.length : Int)) = false := by rw [decide_eq_false_iff_not]; omega
      have h0'' : ¬ 0 < H.length := by omega
      have HE := Lib.hid hE
      clear hE h0 hH
      go_enter Tryd.func25, Tryd.ntmps25
      go_wp2_with fail
      rw [E1.out, E2.out]
      refine named_any most ao bs c who _ _ hl HN.out (HC.out.below HV2.out) hs hw ?_ (fun h => absurd HE.out h)
      intro _ C v w3 hb3 hcp3
      have HB3 : Hid (Below w.heap.size w w3) := HV2.out.trans (hb3.mono HV2.out.size)
      have X3 : Hid (w3.heap[w.heap.size + 1]? = some (.cells #[.int .i64 0, .slice none 0 0] 24 (0, 0))) := heap_below X2'.out hb3 hs2
      have HCP3 := Lib.hid hcp3
      have hC3 : C < w3.heap.size := lt_of_block hcp3.2.1
      obtain ⟨a2, c2, e2, r1, _, r3, r4⟩ := hcp3.read
      subst e2
      have q1 := Lib.hid r1
      have q3 := Lib.hid r3
      have q4 := Lib.hid r4
      have s3 := hb3.size
      clear hb3 hcp3 r1 r3 r4
      go_wp2_with fail
      refine held_any C most who _ bs c2 _ _ hlen q3.out q4.out q1.out ?_
      rw [HHH.out]
      intro v w4 hb4 ho4
      have HB4 : Hid (Below w.heap.size w w4) := HB3.out.trans (hb4.mono HB3.out.size)
      have X4 : Hid (w4.heap[w.heap.size + 1]? = some (.cells #[.int .i64 0, .slice none 0 0] 24 (0, 0))) := heap_below X3.out hb4 (by omega)
      have HCP4 := Lib.hid (HCP3.out.below hb4)
      have s4 := hb4.size
      obtain ⟨a4, c4, rfl, _, _⟩ := ho4.read
      have q1' := Lib.hid (q1.out.below hb4)
      have q3' := Lib.hid (cellB hb4 q3.out (lt_of_cell q3.out))
      have q4' := Lib.hid (cellB hb4 q4.out (lt_of_cell q4.out))
      clear hb4 ho4
      go_wp2_with fail
      refine free_any C most _ bs c2 _ _ hlen q3'.out q4'.out q1'.out ?_
      rw [hF.out]
      intro v w5 hb5 ho5
      have HB5 : Hid (Below w.heap.size w w5) := HB4.out.trans (hb5.mono HB4.out.size)
      have X5 : Hid (w5.heap[w.heap.size + 1]? = some (.cells #[.int .i64 0, .slice none 0 0] 24 (0, 0))) := heap_below X4.out hb5 (by omega)
      have HCP5 := Lib.hid (HCP4.out.below hb5)
      have s5 := hb5.size
      obtain ⟨aF, cF, rfl, rF, hFbase, _⟩ := ho5.read
      have HFC := Lib.hid rF
      have HFb := Lib.hid hFbase
      have q1'' := Lib.hid (q1'.out.below hb5)
      have q4'' := Lib.hid (cellB hb5 q4'.out (lt_of_cell q4'.out))
      clear hb5 ho5 rF hFbase
      go_wp2_with fail
      go_loopw [40, 12] (fun i v wr => ∃ k : Nat, k ≤ F.length ∧ i = .int .i64 k ∧ Hid (Below w5.heap.size w5 wr) ∧ Hid (OwnL wr w5.heap.size 3 1 v (lensTo bs F k).length (I64s (lensTo bs F k)))) (fun i _ _ => F.length - (intOf i).toNat)
      case atStart => exact ⟨0, Nat.zero_le _, rfl, Below.refl _ _, OwnL.nil _ _ _ _⟩
      case round =>
        obtain ⟨k, hk, rfl, HB, HO⟩ := hrel
        have sr := HB.out.size
        by_cases hlt : k < F.length
        · obtain ⟨i, hi1, hi2⟩ := hFb.out k hlt
          obtain ⟨bF, oF, rfl, _, hcl⟩ := (HFC.out.below HB.out).ints (by omega)
          have d0 := hcl k hlt
          rw [hi1] at d0
          obtain ⟨bb, ob, rfl, _, hcell⟩ := (q1''.out.below HB.out).blks (by omega)
          obtain ⟨d1, _, _, _⟩ := hcell i hi2
          have z1 := cellB HB.out q4''.out (lt_of_cell q4''.out)
          have HT : Hid (lensTo bs F (k + 1) = lensTo bs F k ++ [(bAt bs i).l]) := by unfold Hid; rw [lensTo, hi1, Int.toNat_natCast]
          have hll : (lensTo bs F k).length ≤ 256 := by rw [lensTo_length]; omega
          clear hcl hcell hi1
          go_wp2_with (at_builtin; refine wp_append1 rfl (.tmp 44) (.tmp 54) 31 rfl w5.heap.size 3 Tryd.underlying31 Tryd.infoInt rfl (by decide) (by decide) u12 (lensTo bs F k).length (I64s (lensTo bs F k)) rfl (HO.out.alloc _) wr.heap.size [.int .i64 (bAt bs i).l] rfl rfl (new1 _ _ _) (one1 _ rfl) (by omega) (by simp; omega) ?_; intro v6 w6 hown6 hb6; have H6 := Lib.hid hown6; have Hb6 : Hid (Below w5.heap.size w5 w6) := ((HB.out.alloc HB.out.size _).trans hb6); clear hown6 hb6)
          exact ⟨⟨k + 1, by omega, by go_num, Hb6, by unfold Hid; rw [HT.out]; simpa [I64s] using H6.out⟩, by simp [intOf]; omega⟩
        · obtain rfl : k = F.length := by omega
          rw [hZF.out] at HO
          obtain ⟨aZ, cZ, rfl, rZ, _, _⟩ := HO.out.read
          have HZC := Lib.hid rZ
          have hZlen : Z.length ≤ 256 := by have := hZl.out; omega
          clear rZ
          go_wp2_with fail
          refine fewestX_any aZ Z cZ l _ _ (by omega) HZC.out ?_
          intro aS cS w7 hb7 hcS hfr
          have HB7 : Hid (Below w5.heap.size w5 w7) := HB.out.trans (hb7.mono sr)
          have HB7' : Hid (Below w.heap.size w w7) := HB5.out.trans (HB7.out.mono HB5.out.size)
          have X7 : Hid (w7.heap[w.heap.size + 1]? = some (.cells #[.int .i64 0, .slice none 0 0] 24 (0, 0))) := heap_below X5.out HB7.out (by omega)
          have HCP7 := Lib.hid (HCP5.out.below HB7.out)
          have s7 := HB7.out.size
          have sZ := hb7.size
          have HFC7 := Lib.hid (HFC.out.below HB7.out)
          have HSC := Lib.hid hcS
          have HSf : Hid (∀ b o, aS = some ⟨b, o, none⟩ → w5.heap.size ≤ b) := fun b o e => by have := hfr b o e; omega
          have hf0 := frozen_at X7.out 0
          have hf1 := frozen_at X7.out 1
          have y0 : w7.cell? ⟨w.heap.size + 1, 0, none⟩ = some (.int .i64 0) := cell_at X7.out rfl
          have y1 : w7.cell? ⟨w.heap.size + 1, 1, none⟩ = some (.slice none 0 0) := cell_at X7.out rfl
          clear hb7 hcS hfr
          rw [hZ.out] at HD
          by_cases hfe : fewE Z l = 0
          · have HFE := Lib.hid hfe
            obtain ⟨S, hS⟩ : ∃ S, fewL Z l = S := ⟨_, rfl⟩
            have HSS := Lib.hid hS
            rw [hS] at HSC
            have hSb : Hid (∀ j, j < S.length → ∃ i : Nat, at0 S j = i ∧ i < F.length) := by
              unfold Hid; rw [← hS]; intro j hj; obtain ⟨i, h1, h2⟩ := few_bd hj; exact ⟨i, h1, by have := hZl.out; omega⟩
            have HDB : Hid (tkB most bs who l = tkTo bs F S who S.length) := by unfold Hid; rw [tkB, if_pos (by rw [HD.out]; exact hfe), hF.out, hZ.out, hS]
            have HDO : Hid (tkO most bs who l = tkOut F S S.length) := by unfold Hid; rw [tkO, if_pos (by rw [HD.out]; exact hfe), hF.out, hZ.out, hS]
            have hSl2 : Hid (S.length ≤ 256) := by unfold Hid; have h := fewL_length' Z l; rw [hS] at h; omega
            have hSl : S.length ≤ 9223372036854775807 := by
              have h := fewL_length' Z l
              rw [hS] at h; omega
            rw [hS, HFE.out]
            clear hfe hS y0 y1 hf0 hf1
            go_wp2_with fail
            go_loopw [69, 13] (fun i v wr => ∃ k : Nat, k ≤ S.length ∧ i = .int .i64 k ∧ Hid (Below w.heap.size w wr) ∧ w7.heap.size ≤ wr.heap.size ∧ Hid (wr.heap[w.heap.size + 1]? = some (.cells #[.int .i64 0, .slice none 0 0] 24 (0, 0))) ∧
              Hid (Copied wr w2.heap.size C most (tkTo bs F S who k) (.slice a2 bs.length c2)) ∧ Hid (CellsAt wr aF (I64s F)) ∧ Hid (CellsAt wr aS (I64s S)) ∧ Hid (OwnL wr w7.heap.size 3 1 v (tkOut F S k).length (I64s (tkOut F S k)))) (fun i _ _ => S.length - (intOf i).toNat)
            case atStart => exact ⟨0, Nat.zero_le _, rfl, HB7', Nat.le_refl _, X7, HCP7, HFC7, HSC, OwnL.nil _ _ _ _⟩
            case round =>
              obtain ⟨k, hk, rfl, HBr, srr, XZ, HCP, HFr, HSr, HOr⟩ := hrel
              have f0 := frozen_at XZ.out 0
              have f1 := frozen_at XZ.out 1
              have y0 : wr.cell? ⟨w.heap.size + 1, 0, none⟩ = some (.int .i64 0) := cell_at XZ.out rfl
              have y1 : wr.cell? ⟨w.heap.size + 1, 1, none⟩ = some (.slice none 0 0) := cell_at XZ.out rfl
              have hbl1 : (tkTo bs F S who k).length ≤ bs.length := Nat.le_of_eq (tkTo_length bs F S who k)
              have hbl2 : bs.length ≤ (tkTo bs F S who k).length := Nat.le_of_eq (tkTo_length bs F S who k).symm
              by_cases hlt' : k < S.length
              · obtain ⟨j, hj1, hj2⟩ := hSb.out k hlt'
                obtain ⟨i, hi1, hi2⟩ := hFb.out j hj2
                have hI : Hid (tkI F S k = i) := by unfold Hid tkI; rw [hj1, Int.toNat_natCast, hi1, Int.toNat_natCast]
                obtain ⟨bS, oS, rfl, _, hclS⟩ := HSr.out.ints (by omega)
                have dS := hclS k hlt'
                rw [hj1] at dS
                obtain ⟨bF, oF, rfl, _, hclF⟩ := HFr.out.ints (by omega)
                have dF := hclF j hj2
                rw [hi1] at dF
                have hbF := HFb.out bF oF rfl
                have hbS := HSf.out bS oS rfl
                obtain ⟨g, cap, e2, hgw, _, hgC, hf⟩ := HCP.out.row (by omega)
                obtain ⟨rfl, -, rfl⟩ := Value.slice.inj e2
                have hg3 : g < w3.heap.size := by
                  obtain ⟨g', cap', e3, _, hg3, _⟩ := HCP3.out.row (by omega)
                  obtain ⟨e4, _, _⟩ := Value.slice.inj e3
                  cases e4; exact hg3
                obtain ⟨ar, cr, e3, rr1, _, rr3, rr4⟩ := HCP.out.read
                obtain ⟨rfl, -, rfl⟩ := Value.slice.inj e3
                have hib : i < (tkTo bs F S who k).length := by omega
                obtain ⟨_, _, _, hr3⟩ := bC_get _ i hib
                have d3 : wr.cell? ⟨g, i * 4 + 3, none⟩ = some (.string (bAt (tkTo bs F S who k) i).h) := by have := rr1.get rfl hr3; rwa [Nat.zero_add] at this
                have hf3 := hf (i * 4 + 3)
                have HT : Hid (tkTo bs F S who (k + 1) = (tkTo bs F S who k).set i { bAt (tkTo bs F S who k) i with h := who }) := by unfold Hid; rw [tkTo, hI.out]
                have HTO : Hid (tkOut F S (k + 1) = tkOut F S k ++ [(i : Int)]) := by unfold Hid; rw [tkOut, hI.out]
                have hg7 : g < w7.heap.size := by omega
                have HCP8 : Hid (Copied (wr.setCell ⟨g, i * 4 + 3, none⟩ (.string who)) w2.heap.size C most (tkTo bs F S who (k + 1)) (.slice (some ⟨g, 0, none⟩) bs.length c2)) := by
                  unfold Hid; rw [HT.out]; exact HCP.out.put hgC _ _ (bC_set3 hib who) (by simp)
                have HB8 : Hid (Below w.heap.size w (wr.setCell ⟨g, i * 4 + 3, none⟩ (.string who))) := HBr.out.setCell (by show w.heap.size ≤ g; omega) _
                have HF8 : Hid (CellsAt (wr.setCell ⟨g, i * 4 + 3, none⟩ (.string who)) (some ⟨bF, oF, none⟩) (I64s F)) := HFr.out.setOther (by show g ≠ bF; omega) _
                have HS8 : Hid (CellsAt (wr.setCell ⟨g, i * 4 + 3, none⟩ (.string who)) (some ⟨bS, oS, none⟩) (I64s S)) := HSr.out.setOther (by show g ≠ bS; omega) _
                have HO8 : Hid (OwnL (wr.setCell ⟨g, i * 4 + 3, none⟩ (.string who)) w7.heap.size 3 1 u13 (tkOut F S k).length (I64s (tkOut F S k))) := HOr.out.setOld (by exact hg7) _
                have XZ8 : Hid ((wr.setCell ⟨g, i * 4 + 3, none⟩ (.string who)).heap[w.heap.size + 1]? = some (.cells #[.int .i64 0, .slice none 0 0] 24 (0, 0))) := (Below.heap_setCell _ _ _ _ (by show w.heap.size + 1 ≠ g; omega)).trans XZ.out
                have hz8 : Hid ((wr.setCell ⟨g, i * 4 + 3, none⟩ (.string who)).heap.size = wr.heap.size) := by unfold Hid; simp [World.setCell]
                have hol : (tkOut F S k).length ≤ 300 := by rw [tkOut_length]; have := hSl2.out; omega
                have hbS7 : bS < w7.heap.size := by obtain ⟨b', o', e', h, _⟩ := HSC.out.ints (by omega); cases e'; exact h
                have hbF7 : bF < w7.heap.size := by obtain ⟨b', o', e', h, _⟩ := HFC7.out.ints (by omega); cases e'; exact h
                clear rr1 hr3 hf hclS hclF hj1 hi1 HCP
                go_wp2_with (at_builtin; refine wp_append1 rfl (.tmp 86) (.tmp 88) 31 rfl w7.heap.size 3 Tryd.underlying31 Tryd.infoInt rfl (by decide) (by decide) u13 (tkOut F S k).length (I64s (tkOut F S k)) rfl (HO8.out.alloc _) wr.heap.size [.int .i64 i] rfl rfl (by rw [← hz8.out]; exact new1 _ _ _) (one1 _ rfl) (by omega) (by simp [World.setCell]; omega) ?_; intro v9 w9 hown9 hb9; have H9 := Lib.hid hown9; have Hb9 : Hid (Below w7.heap.size (wr.setCell ⟨g, i * 4 + 3, none⟩ (.string who)) w9) := (((Below.refl _ _).alloc (by rw [hz8.out]; exact srr) _).trans hb9); clear hown9 hb9)
                have s9 := Hb9.out.size
                rw [hz8.out] at s9
                have e1 : (tkTo bs F S who (k + 1)).length = (tkTo bs F S who k).length := by rw [HT.out, List.length_set]
                exact ⟨⟨k + 1, by omega, by go_num, HB8.out.trans (Hb9.out.mono (by omega)), by omega, heap_below XZ8.out Hb9.out (by omega), HCP8.out.keep Hb9.out (by omega) hg7, HF8.out.keep Hb9.out (fun b o e => by cases e; exact hbF7), HS8.out.keep Hb9.out (fun b o e => by cases e; exact hbS7), by unfold Hid; rw [HTO.out]; simpa [I64s] using H9.out⟩, by simp [intOf]; omega⟩
              · obtain rfl : k = S.length := by omega
                obtain ⟨ar, cr, e3, rr1, rr2, rr3, rr4⟩ := HCP.out.read
                obtain ⟨rfl, -, rfl⟩ := Value.slice.inj e3
                obtain ⟨aO, cO, rfl, rO, _⟩ := HOr.out.read
                have HRO := Lib.hid rO
                have HB10 : Hid (Below w.heap.size w ((wr.setCell ⟨w.heap.size + 1, 0, none⟩ (.int .i64 most)).setCell ⟨w.heap.size + 1, 1, none⟩ (.slice a2 (tkTo bs F S who S.length).length c2))) := (HBr.out.setCell (p := ⟨w.heap.size + 1, 0, none⟩) (by show w.heap.size ≤ w.heap.size + 1; omega) (.int .i64 most)).setCell (p := ⟨w.heap.size + 1, 1, none⟩) (by show w.heap.size ≤ w.heap.size + 1; omega) _
                have HCP10 := (HCP.out.out (a := ⟨w.heap.size + 1, 0, none⟩) (by show w.heap.size + 1 < w2.heap.size; omega) (.int .i64 most)).out (a := ⟨w.heap.size + 1, 1, none⟩) (by show w.heap.size + 1 < w2.heap.size; omega) (.slice a2 (tkTo bs F S who S.length).length c2)
                have HO10 := (HOr.out.setOld (a := ⟨w.heap.size + 1, 0, none⟩) (by show w.heap.size + 1 < w7.heap.size; omega) (.int .i64 most)).setOld (a := ⟨w.heap.size + 1, 1, none⟩) (by show w.heap.size + 1 < w7.heap.size; omega) (.slice a2 (tkTo bs F S who S.length).length c2)
                obtain ⟨aP, cP, eP, rP, rPb, _⟩ := HO10.read
                obtain ⟨rfl, -, rfl⟩ := Value.slice.inj eP
                have HP := Lib.hid rP
                have HPb : Fresh w7.heap.size aO := rPb
                have HCPP := Lib.hid HCP10
                clear rP rPb rO HCP10 HO10 eP rr1
                go_wp2_with fail
                refine bodyPost_ret (v := .tuple #[.agg #[.int .i64 most, .slice a2 (tkTo bs F S who S.length).length c2], .slice aO (tkOut F S S.length).length cO, .int .i64 0]) (by simp [results, Tryd.results25, go_sem, y0, y1]) rfl ?_
                have HE0 : tkE most bs who l = 0 := by rw [HD.out]; exact HFE.out
                have HR' := HR.out a2 c2 aO cO _ HB10.out (by rw [HDB.out]; exact HCPP.out.bsl.2) (by rw [HDO.out]; exact HP.out) (ownsRow_fresh HCPP.out.2.2 (by omega)) (Fresh.mono HPb (by omega))
                rw [HDB.out, HDO.out, HE0, okM, if_pos rfl] at HR'
                exact HR'
          · have HFE := Lib.hid hfe
            have hfe' : (fewE Z l == 0) = false := by simpa using hfe
            have hfe'' : (fewE Z l != 0) = true := by simpa using hfe
            clear hfe
            go_wp2_with fail
            refine bodyPost_ret (v := .tuple #[.agg #[.int .i64 0, .slice none 0 0], .slice none 0 0, .int .i64 (fewE Z l)]) (by simp [results, Tryd.results25, go_sem, y0, y1]) rfl ?_
            exact HZ.out _ HB7'.out _ HD.out HFE.out
    · have HD : Hid (tkE most bs who l = 7) := by unfold Hid tkE; rw [if_pos hE, if_neg h0]
      obtain ⟨H, hH⟩ : ∃ H, pickL (heldP who) bs = H := ⟨_, rfl⟩
      rw [hH] at h0
      have HHH := Lib.hid hH
      have h0' : decide ((0 : Int) < (H.length : Int)) = true := by rw [decide_eq_true_eq]; omega
      have h0'' : 0 < H.length := by omega
      have HE := Lib.hid hE
      clear hE h0 hH
      go_enter Tryd.func25, Tryd.ntmps25
      go_wp2_with fail
      rw [E1.out, E2.out]
      refine named_any most ao bs c who _ _ hl HN.out (HC.out.below HV2.out) hs hw ?_ (fun h => absurd HE.out h)
      intro _ C v w3 hb3 hcp3
      have HB3 : Hid (Below w.heap.size w w3) := HV2.out.trans (hb3.mono HV2.out.size)
      have X3 : Hid (w3.heap[w.heap.size + 1]? = some (.cells #[.int .i64 0, .slice none 0 0] 24 (0, 0))) := heap_below X2'.out hb3 hs2
      obtain ⟨a2, c2, e2, r1, _, r3, r4⟩ := hcp3.read
      subst e2
      have q1 := Lib.hid r1
      have q3 := Lib.hid r3
      have q4 := Lib.hid r4
      have s3 := hb3.size
      clear hb3 hcp3 r1 r3 r4
      go_wp2_with fail
      refine held_any C most who _ bs c2 _ _ hlen q3.out q4.out q1.out ?_
      rw [HHH.out]
      intro v w4 hb4 ho4
      have HB4 : Hid (Below w.heap.size w w4) := HB3.out.trans (hb4.mono HB3.out.size)
      have X4 : Hid (w4.heap[w.heap.size + 1]? = some (.cells #[.int .i64 0, .slice none 0 0] 24 (0, 0))) := heap_below X3.out hb4 (by omega)
      obtain ⟨a4, c4, rfl, _, _⟩ := ho4.read
      have hf0 := frozen_at X4.out 0
      have hf1 := frozen_at X4.out 1
      have y0 : w4.cell? ⟨w.heap.size + 1, 0, none⟩ = some (.int .i64 0) := cell_at X4.out rfl
      have y1 : w4.cell? ⟨w.heap.size + 1, 1, none⟩ = some (.slice none 0 0) := cell_at X4.out rfl
      clear hb4 ho4
      go_wp2_with fail
      refine bodyPost_ret (v := .tuple #[.agg #[.int .i64 0, .slice none 0 0], .slice none 0 0, .int .i64 7]) (by simp [results, Tryd.results25, go_sem, y0, y1]) rfl ?_
      exact HZ.out _ HB4.out 7 HD.out (by omega)
  · have HD : Hid (tkE most bs who l = nmS most bs who) := by unfold Hid tkE; rw [if_neg hE]
    have HE := Lib.hid hE
    have hE' : (nmS most bs who == 0) = false := by simpa using hE
    have hE'' : (nmS most bs who != 0) = true := by simpa using hE
    clear hE
    go_enter Tryd.func25, Tryd.ntmps25
    go_wp2_with fail
    rw [E1.out, E2.out]
    refine named_any most ao bs c who _ _ hl HN.out (HC.out.below HV2.out) hs hw (fun h => absurd h HE.out) ?_
    intro _ p w3 hb3
    have HB3 : Hid (Below w.heap.size w w3) := HV2.out.trans (hb3.mono HV2.out.size)
    have X3 : Hid (w3.heap[w.heap.size + 1]? = some (.cells #[.int .i64 0, .slice none 0 0] 24 (0, 0))) := heap_below X2'.out hb3 hs2
    have hf0 := frozen_at X3.out 0
    have hf1 := frozen_at X3.out 1
    have y0 : w3.cell? ⟨w.heap.size + 1, 0, none⟩ = some (.int .i64 0) := cell_at X3.out rfl
    have y1 : w3.cell? ⟨w.heap.size + 1, 1, none⟩ = some (.slice none 0 0) := cell_at X3.out rfl
    clear hb3
    go_wp2_with fail
    refine bodyPost_ret (v := .tuple #[.agg #[.int .i64 0, .slice none 0 0], .slice none 0 0, .int .i64 (nmS most bs who)]) (by simp [results, Tryd.results25, go_sem, y0, y1]) rfl ?_
    exact HZ.out _ HB3.out _ HD.out HE.out
end Go.Proofs.YteoniejpfmeibaaDoor
