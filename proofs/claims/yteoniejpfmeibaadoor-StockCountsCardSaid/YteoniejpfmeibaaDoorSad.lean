/- The walks of right (layer 51), slices.Index, slices.Contains. -/
import Derived.Test.YteoniejpfmeibaaDoorSac
import Derived.Test.YteoniejpfmeibaaDoorSr
import Derived.Test.YteoniejpfmeibaaDoorSp
namespace Go.Proofs.YteoniejpfmeibaaDoor
open Go.RowKit Go.Shelf

set_option maxHeartbeats 400000 in
theorem index_any (ao : Option Addr) (zs : List Int) (c : Nat) (x : Int) (w : World) (R : Ending → World → Prop)
   (hl : zs.length ≤ 9223372036854775807) (hc : CellsAt w ao (I64s zs))
   (hR1 : ∀ k, k < zs.length → at0 zs k = x → ∀ w', Drew w w' → R (.returned (.int .i64 k)) w')
   (hR2 : (∀ j, j < zs.length → at0 zs j ≠ x) → ∀ w', Drew w w' → R (.returned (.int .i64 (-1))) w') :
    Calls Tryd.prog 58 #[.slice ao zs.length c, .int .i64 x] w R := by
  have HR1 := Lib.hid hR1
  have HR2 := Lib.hid hR2
  clear hR1 hR2
  go_enter Tryd.func58, Tryd.ntmps58
  go_wp2_with fail
  go_loopw [8] (fun i wr => ∃ k : Nat, k ≤ zs.length ∧ i = .int .i64 k ∧ Drew w wr ∧ Hid (∀ j, j < k → at0 zs j ≠ x)) (fun i _ => zs.length - (intOf i).toNat)
  case atStart => exact ⟨0, Nat.zero_le _, rfl, Drew.refl _, fun j hj => absurd hj (by omega)⟩
  case round =>
    obtain ⟨k, hk, rfl, ⟨q, rfl⟩, hL⟩ := hrel
    by_cases hlt : k < zs.length
    · obtain ⟨b, o, rfl, _, hcell⟩ := hc.ints (by omega)
      have h1 := hcell k hlt
      clear hcell
      by_cases g : x = at0 zs k
      · have g' : (x == at0 zs k) = true := by simpa using g
        go_wp2_with fail
        exact ret_eq (HR1.out k hlt g.symm _ (by repeat first | exact Drew.refl _ | apply Drew.drewN)) rfl
      · have g' : (x == at0 zs k) = false := by simpa using g
        go_wp2_with fail
        refine ⟨⟨k+1, by omega, by go_num, (by repeat first | exact Drew.refl _ | apply Drew.drewN), fun j hj => ?_⟩, by simp [intOf]; omega⟩
        by_cases e : j = k
        · subst e; exact fun h => g h.symm
        · exact hL.out j (by omega)
    · obtain rfl : k = zs.length := by omega
      go_wp2_with fail
      exact ret_eq (HR2.out hL.out _ (by repeat first | exact Drew.refl _ | apply Drew.drewN)) rfl

theorem mem_at0 {zs : List Int} {x : Int} : x ∈ zs ↔ ∃ k, k < zs.length ∧ at0 zs k = x := by
  rw [List.mem_iff_getElem]
  constructor
  · rintro ⟨k, hk, rfl⟩; exact ⟨k, hk, by simp [at0, List.getD, hk]⟩
  · rintro ⟨k, hk, rfl⟩; exact ⟨k, hk, by simp [at0, List.getD, hk]⟩
theorem contains_any (ao : Option Addr) (zs : List Int) (c : Nat) (x : Int) (w : World) (R : Ending → World → Prop)
   (hl : zs.length ≤ 9223372036854775807) (hc : CellsAt w ao (I64s zs)) (hR : ∀ w', Drew w w' → R (.returned (.bool (decide (x ∈ zs)))) w') :
    Calls Tryd.prog 35 #[.slice ao zs.length c, .int .i64 x] w R := by
  have HR := Lib.hid hR
  clear hR
  go_enter Tryd.func35, Tryd.ntmps35
  go_wp2_with fail
  refine index_any ao zs c x _ _ hl hc (fun k hk he w1 hw => ?_) (fun hn w1 hw => ?_)
  · have e : Hid (decide (x ∈ zs) = true) := by unfold Hid; rw [decide_eq_true_eq]; exact mem_at0.2 ⟨k, hk, he⟩
    obtain ⟨q, rfl⟩ := hw
    clear he
    go_wp2_with fail
    exact ret_eq (HR.out _ (by repeat first | exact Drew.refl _ | apply Drew.drewN)) (by rw [e.out]; first | done | rfl)
  · have e : Hid (decide (x ∈ zs) = false) := by
      unfold Hid; rw [decide_eq_false_iff_not]
      intro h; obtain ⟨k, hk, he⟩ := mem_at0.1 h; exact hn k hk he
    obtain ⟨q, rfl⟩ := hw
    clear hn
    go_wp2_with fail
    exact ret_eq (HR.out _ (by repeat first | exact Drew.refl _ | apply Drew.drewN)) (by rw [e.out]; first | done | rfl)


def rgB (m : Int) (bs : List B5) : Bool := decide (bs.length ≤ 8) && decide (chkS m bs = 0)
theorem rgB_iff {m : Int} {bs : List B5} : rgB m bs = true ↔ bs.length ≤ 8 ∧ RightS m bs := by
  unfold rgB; rw [Bool.and_eq_true, decide_eq_true_eq, decide_eq_true_eq, chkS_zero]
set_option maxRecDepth 100000 in
set_option maxHeartbeats 2000000 in
theorem right51_any (m : Int) (ao : Option Addr) (bs : List B5) (c : Nat) (w : World) (R : Ending → World → Prop)
   (hl : bs.length * 40 ≤ 140737488355328) (hc : CellsAt w ao (bC bs)) (hs : StrOk bs) (hR : ∀ w', Below w.heap.size w w' → R (.returned (.bool (rgB m bs))) w') :
    Calls Tryd.prog 33 #[.agg #[.int .i64 m, .slice ao bs.length c]] w R := by
  have HR := Lib.hid hR
  have HC := Lib.hid hc
  clear hR hc
  obtain ⟨w1, E1, HB1, s1, b0, b1⟩ := box2 w (.int .i64 m) (.slice ao bs.length c) 24
  have S1 := Lib.hid (HC.out.below HB1.out)
  by_cases h8 : bs.length ≤ 8
  · have h8' : decide ((bs.length : Int) ≤ 8) = true := by rw [decide_eq_true_eq]; omega
    obtain ⟨K, hK⟩ : ∃ K, Hid (chkS m bs = K) := ⟨_, rfl⟩
    have e : Hid (rgB m bs = (K == 0)) := by unfold Hid rgB; rw [hK.out]; simp [h8]; by_cases h : K = 0 <;> simp [h]
    rw [← E1.out] at b0 b1
    go_enter Tryd.func33, Tryd.ntmps33
    go_wp2_with fail
    rw [E1.out]
    refine own_any m ao bs c _ _ hl S1.out ?_
    intro a2 c2 w2 hb2 hs2 _
    have HB2 := Lib.hid (HB1.out.trans (hb2.mono (by omega)))
    have T2 := Lib.hid hs2
    clear hb2 hs2
    go_wp2_with fail
    refine rcheck51_any m a2 bs c2 _ _ (by omega) T2.out.1 hs ?_
    rw [hK.out]
    intro w3 hb3
    have HB3 := Lib.hid (HB2.out.trans (hb3.mono HB2.out.size))
    clear hb3
    go_wp2_with fail
    exact ret_b (HR.out _ HB3.out) rfl e.out
  · have h8' : decide ((bs.length : Int) ≤ 8) = false := by rw [decide_eq_false_iff_not]; omega
    have e : Hid (rgB m bs = false) := by unfold Hid rgB; simp [h8]
    go_enter Tryd.func33, Tryd.ntmps33
    go_wp2_with fail
    rw [E1.out]
    exact ret_b (HR.out _ HB1.out) rfl e.out
end Go.Proofs.YteoniejpfmeibaaDoor
