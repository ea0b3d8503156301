/- The walks of Place, resting of the reference of package stock. -/
import Derived.Test.YteoniejpfmeibaaDoorSr
import Derived.Test.YteoniejpfmeibaaDoorSh
namespace Go.Proofs.YteoniejpfmeibaaDoor
open Go.RowKit Go.Shelf

/-- The first place, or less than 0. -/
def plI (l : Int) (bs : List B5) : Int := if (plL l bs).length = 0 then -1 else ((rsI bs l : Nat) : Int)
def rsX (m : Int) (bs : List B5) (l : Int) : Int := if rsE m bs l = 0 then ((rsI bs l : Nat) : Int) else 0
theorem pickTo_pre (p : B5 → Bool) (bs : List B5) : ∀ n k, k ≤ n → ∃ r, pickTo p bs n = pickTo p bs k ++ r
  | 0, k, h => ⟨[], by obtain rfl : k = 0 := by omega
                       rfl⟩
  | n + 1, k, h => by
    by_cases e : k = n + 1
    · subst e; exact ⟨[], by simp⟩
    · obtain ⟨r, hr⟩ := pickTo_pre p bs n k (by omega)
      exact ⟨r ++ if p (bAt bs n) = true then [(n : Int)] else [], by rw [pickTo, hr, List.append_assoc]⟩
theorem plI_hit {l : Int} {bs : List B5} {k : Nat} (hk : k < bs.length) (h0 : pickTo (lenP l) bs k = []) (hp : lenP l (bAt bs k) = true) : plI l bs = k := by
  obtain ⟨r, hr⟩ := pickTo_pre (lenP l) bs bs.length (k + 1) (by omega)
  have h : plL l bs = (k : Int) :: r := by
    unfold plL pickL
    rw [hr, pickTo, h0, if_pos hp]
    rfl
  unfold plI rsI
  rw [h, if_neg (by simp)]
  simp [at0]
theorem plI_none {l : Int} {bs : List B5} (h0 : pickTo (lenP l) bs bs.length = []) : plI l bs = -1 := by
  unfold plI plL pickL
  rw [h0]
  rfl
theorem rsI_lt {l : Int} {bs : List B5} (h : (plL l bs).length ≠ 0) : rsI bs l < bs.length := by
  obtain ⟨i, h1, h2, _⟩ := pick_bd (p := lenP l) (bs := bs) (j := 0) (Nat.pos_of_ne_zero h)
  unfold rsI
  rw [show at0 (plL l bs) 0 = i from h1]
  exact h2
theorem rsE_chk {m l : Int} {bs : List B5} (h : rsE m bs l = 0) : chkS m bs = 0 := by
  unfold rsE at h; split at h
  · assumption
  · exact h
theorem rsE_lt {m l : Int} {bs : List B5} (h : rsE m bs l = 0) : rsI bs l < bs.length := by
  refine rsI_lt fun e => ?_
  have hc := rsE_chk h
  unfold rsE at h
  rw [if_pos hc, if_pos e] at h
  cases h

set_option maxHeartbeats 2000000 in
theorem rplace_any (most : Int) (ao : Option Addr) (bs : List B5) (c : Nat) (l : Int) (w : World) (R : Ending → World → Prop) (hl : bs.length ≤ 256) (hc : CellsAt w ao (bC bs))
   (hR : ∀ w', Below w.heap.size w w' → R (.returned (.int .i64 (plI l bs))) w') :
    Calls Tryd.prog 72 #[.agg #[.int .i64 most, .slice ao bs.length c], .int .i64 l] w R := by
  have HR := Lib.hid hR
  have HC := Lib.hid hc
  clear hR hc
  obtain ⟨w1, E1, HB1, s1, b0, b1⟩ := box2 w (.int .i64 most) (.slice ao bs.length c) 28
  have k0 := Lib.hid b0
  have k1 := Lib.hid b1
  clear b0 b1
  go_enter Tryd.func72, Tryd.ntmps72
  go_wp2_with fail
  rw [E1.out]
  go_loopw [5] (fun i wr => ∃ k : Nat, k ≤ bs.length ∧ i = .int .i64 k ∧ Hid (Below w1.heap.size w1 wr) ∧ Hid (pickTo (lenP l) bs k = [])) (fun i _ => bs.length - (intOf i).toNat)
  case atStart => exact ⟨0, Nat.zero_le _, rfl, Below.refl _ _, rfl⟩
  case round =>
    obtain ⟨k, hk, rfl, HB, HP⟩ := hrel
    have sw : w1.heap.size ≤ wr.heap.size := HB.out.size
    have HW : Hid (Below w.heap.size w wr) := HB1.out.trans (HB.out.mono (by omega))
    have g0 := cellB HB.out k0.out s1
    have g1 := cellB HB.out k1.out s1
    by_cases hlt : k < bs.length
    · obtain ⟨b, o, rfl, _, hcell⟩ := (HC.out.below HW.out).blks (by omega)
      obtain ⟨c1, c2, c3, c4⟩ := hcell k hlt
      clear hcell
      obtain ⟨x, hx⟩ : ∃ x, (bAt bs k).l = x := ⟨_, rfl⟩
      have HX : Hid (lenP l (bAt bs k) = (x == l)) := by unfold Hid lenP; rw [hx]
      rw [hx] at c1
      clear hx
      cases hp : (x == l) with
      | true =>
        have HI : Hid (plI l bs = k) := plI_hit hlt HP.out (HX.out.trans hp)
        go_wp2_with fail
        have h := HR.out _ HW.out
        rw [HI.out] at h
        exact h
      | false =>
        have HT : Hid (pickTo (lenP l) bs (k + 1) = []) := by unfold Hid; rw [pickTo, HP.out, HX.out, hp]; rfl
        go_wp2_with fail
        exact ⟨⟨k + 1, by omega, by go_num, HB, HT⟩, by simp [intOf]; omega⟩
    · obtain rfl : k = bs.length := by omega
      have HI : Hid (plI l bs = -1) := plI_none HP.out
      go_wp2_with fail
      have h := HR.out _ HW.out
      rw [HI.out] at h
      exact h

set_option maxHeartbeats 2000000 in
theorem rresting_any (most : Int) (ao : Option Addr) (bs : List B5) (c : Nat) (l : Int) (w : World) (R : Ending → World → Prop) (hl : bs.length ≤ 9223372036854775807) (hc : CellsAt w ao (bC bs)) (hs : StrOk bs)
   (hR : ∀ w', Below w.heap.size w w' → R (.returned (.tuple #[.int .i64 (rsX most bs l), .int .i64 (rsE most bs l)])) w') :
    Calls Tryd.prog 57 #[.agg #[.int .i64 most, .slice ao bs.length c], .int .i64 l] w R := by
  have HR := Lib.hid hR
  have HC := Lib.hid hc
  clear hR hc
  obtain ⟨w1, E1, HB1, s1, b0, b1⟩ := box2 w (.int .i64 most) (.slice ao bs.length c) 28
  by_cases hE : chkS most bs = 0
  · have HE := Lib.hid hE
    have hlen := chkS_len hE
    by_cases h0 : (plL l bs).length = 0
    · have HP : Hid (plI l bs = -1) := by unfold Hid plI; rw [if_pos h0]
      have HD : Hid (rsE most bs l = 6) := by unfold Hid rsE; rw [if_pos hE, if_pos h0]
      have HX : Hid (rsX most bs l = 0) := by unfold Hid rsX; rw [if_neg (by rw [HD.out]; omega)]
      clear hE h0
      go_enter Tryd.func57, Tryd.ntmps57
      go_wp2_with fail
      rw [E1.out]
      refine rcheck51_any most ao bs c _ _ hl (HC.out.below HB1.out) hs ?_
      rw [HE.out]
      intro w2 hb2
      have HB2 := Lib.hid (HB1.out.trans (hb2.mono (by omega)))
      have d0 := cellB hb2 b0 s1
      have d1 := cellB hb2 b1 s1
      clear hb2 b0 b1
      go_wp2_with fail
      refine rplace_any most ao bs c l _ _ hlen (HC.out.below HB2.out) ?_
      rw [HP.out]
      intro w3 hb3
      have HB3 := Lib.hid (HB2.out.trans (hb3.mono HB2.out.size))
      clear hb3
      go_wp2_with fail
      have h := HR.out _ HB3.out
      rw [HX.out, HD.out] at h
      exact h
    · obtain ⟨i, hi⟩ : ∃ i, Hid (rsI bs l = i) := ⟨_, rfl⟩
      have hib : i < bs.length := by rw [← hi.out]; exact rsI_lt h0
      have HP : Hid (plI l bs = i) := by unfold Hid plI; rw [if_neg h0, hi.out]
      have hi' : (at0 (plL l bs) 0).toNat = i := hi.out
      by_cases hz : (bAt bs i).h.size = 0
      · have hz' := empty_of hz
        have HD : Hid (rsE most bs l = 0) := by unfold Hid rsE; rw [if_pos hE, if_neg h0, hi', if_pos hz]
        have HX : Hid (rsX most bs l = i) := by unfold Hid rsX; rw [if_pos HD.out, hi.out]
        clear hE h0 hz hi'
        go_enter Tryd.func57, Tryd.ntmps57
        go_wp2_with fail
        rw [E1.out]
        refine rcheck51_any most ao bs c _ _ hl (HC.out.below HB1.out) hs ?_
        rw [HE.out]
        intro w2 hb2
        have HB2 := Lib.hid (HB1.out.trans (hb2.mono (by omega)))
        have z2 : w1.heap.size ≤ w2.heap.size := hb2.size
        have d0 := cellB hb2 b0 s1
        have d1 := cellB hb2 b1 s1
        clear hb2 b0 b1
        go_wp2_with fail
        refine rplace_any most ao bs c l _ _ hlen (HC.out.below HB2.out) ?_
        rw [HP.out]
        intro w3 hb3
        have HB3 := Lib.hid (HB2.out.trans (hb3.mono HB2.out.size))
        have e0 := cellB hb3 d0 (by omega)
        have e1 := cellB hb3 d1 (by omega)
        obtain ⟨bb, ob, rfl, _, hcell⟩ := (HC.out.below HB3.out).blks (by omega)
        obtain ⟨_, _, _, q4⟩ := hcell i hib
        clear hb3 hcell d0 d1
        go_wp2_with fail
        have h := HR.out _ HB3.out
        rw [HX.out, HD.out] at h
        exact h
      · have hz' := nempty_of hz
        have HD : Hid (rsE most bs l = 14) := by unfold Hid rsE; rw [if_pos hE, if_neg h0, hi', if_neg hz]
        have HX : Hid (rsX most bs l = 0) := by unfold Hid rsX; rw [if_neg (by rw [HD.out]; omega)]
        clear hE h0 hz hi'
        go_enter Tryd.func57, Tryd.ntmps57
        go_wp2_with fail
        rw [E1.out]
        refine rcheck51_any most ao bs c _ _ hl (HC.out.below HB1.out) hs ?_
        rw [HE.out]
        intro w2 hb2
        have HB2 := Lib.hid (HB1.out.trans (hb2.mono (by omega)))
        have z2 : w1.heap.size ≤ w2.heap.size := hb2.size
        have d0 := cellB hb2 b0 s1
        have d1 := cellB hb2 b1 s1
        clear hb2 b0 b1
        go_wp2_with fail
        refine rplace_any most ao bs c l _ _ hlen (HC.out.below HB2.out) ?_
        rw [HP.out]
        intro w3 hb3
        have HB3 := Lib.hid (HB2.out.trans (hb3.mono HB2.out.size))
        have e0 := cellB hb3 d0 (by omega)
        have e1 := cellB hb3 d1 (by omega)
        obtain ⟨bb, ob, rfl, _, hcell⟩ := (HC.out.below HB3.out).blks (by omega)
        obtain ⟨_, _, _, q4⟩ := hcell i hib
        clear hb3 hcell d0 d1
        go_wp2_with fail
        have h := HR.out _ HB3.out
        rw [HX.out, HD.out] at h
        exact h
  · have HD : Hid (rsE most bs l = chkS most bs) := by unfold Hid rsE; rw [if_neg hE]
    have HX : Hid (rsX most bs l = 0) := by unfold Hid rsX; rw [if_neg (by rw [HD.out]; exact hE)]
    have h1 : (chkS most bs == 0) = false := by simpa using hE
    have h2 : (chkS most bs != 0) = true := by simpa using hE
    clear hE
    go_enter Tryd.func57, Tryd.ntmps57
    go_wp2_with fail
    rw [E1.out]
    refine rcheck51_any most ao bs c _ _ hl (HC.out.below HB1.out) hs ?_
    intro w2 hb2
    have HB2 := Lib.hid (HB1.out.trans (hb2.mono (by omega)))
    clear hb2
    go_wp2_with fail
    have h := HR.out _ HB2.out
    rw [HX.out, HD.out] at h
    exact h
end Go.Proofs.YteoniejpfmeibaaDoor
