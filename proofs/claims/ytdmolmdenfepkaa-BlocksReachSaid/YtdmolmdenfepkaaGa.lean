/- The walks of right, slices.Index, slices.Contains; the plain law of a block more. -/
import Derived.Test.YtdmolmdenfepkaaV
import Derived.Test.YtdmolmdenfepkaaJ
import Derived.Test.YtdmolmdenfepkaaX
namespace Go.Proofs.Ytdmolmdenfepkaa
open Go.RowKit

def rgtB (zs : List Int) (l : Int) : Bool := decide (zs.length ≤ 9) && (decide (chk zs = 0) && (decide (1 ≤ l) && decide (l ≤ 100000)))
set_option maxHeartbeats 400000 in
theorem right_any (ao : Option Addr) (zs : List Int) (c : Nat) (l : Int) (w : World) (R : Ending → World → Prop)
   (hl : zs.length ≤ 9223372036854775807) (hc : CellsAt w ao (I64s zs)) (hR : ∀ w', Drew w w' → R (.returned (.bool (rgtB zs l))) w') :
    Calls Try.prog 29 #[.slice ao zs.length c, .int .i64 l] w R := by
  have HR := Lib.hid hR
  clear hR
  by_cases h1 : zs.length ≤ 9
  · have h1' : decide ((zs.length : Int) ≤ 9) = true := by rw [decide_eq_true_eq]; omega
    by_cases h2 : chk zs = 0
    · by_cases h3 : 1 ≤ l
      · by_cases h4 : l ≤ 100000
        · have e : Hid (rgtB zs l = true) := by unfold Hid; simp [rgtB, h1, h2, h3, h4]
          go_enter Try.func29, Try.ntmps29
          go_wp2_with fail
          refine rcheck_any ao zs c _ _ hl hc ?_
          rintro w1 ⟨q1, rfl⟩
          go_wp2_with fail
          exact ret_eq (HR.out _ (by repeat first | exact Drew.refl _ | apply Drew.drewN)) (by rw [e.out]; first | done | rfl)
        · have h4' : decide (l ≤ 100000) = false := by simpa using h4
          have e : Hid (rgtB zs l = false) := by unfold Hid; simp [rgtB, h4]
          go_enter Try.func29, Try.ntmps29
          go_wp2_with fail
          refine rcheck_any ao zs c _ _ hl hc ?_
          rintro w1 ⟨q1, rfl⟩
          go_wp2_with fail
          exact ret_eq (HR.out _ (by repeat first | exact Drew.refl _ | apply Drew.drewN)) (by rw [e.out]; first | done | rfl)
      · have e : Hid (rgtB zs l = false) := by unfold Hid; simp [rgtB, h3]
        go_enter Try.func29, Try.ntmps29
        go_wp2_with fail
        refine rcheck_any ao zs c _ _ hl hc ?_
        rintro w1 ⟨q1, rfl⟩
        go_wp2_with fail
        exact ret_eq (HR.out _ (by repeat first | exact Drew.refl _ | apply Drew.drewN)) (by rw [e.out]; first | done | rfl)
    · have h2' : (chk zs == 0) = false := by simpa using h2
      have e : Hid (rgtB zs l = false) := by unfold Hid; simp [rgtB, h2]
      go_enter Try.func29, Try.ntmps29
      go_wp2_with fail
      refine rcheck_any ao zs c _ _ hl hc ?_
      rintro w1 ⟨q1, rfl⟩
      go_wp2_with fail
      exact ret_eq (HR.out _ (by repeat first | exact Drew.refl _ | apply Drew.drewN)) (by rw [e.out]; first | done | rfl)
  · have h1' : decide ((zs.length : Int) ≤ 9) = false := by rw [decide_eq_false_iff_not]; omega
    have e : Hid (rgtB zs l = false) := by unfold Hid; simp [rgtB, h1]
    go_enter Try.func29, Try.ntmps29
    go_wp2_with fail
    exact ret_eq (HR.out _ (by repeat first | exact Drew.refl _ | apply Drew.drewN)) (by rw [e.out]; first | done | rfl)

set_option maxHeartbeats 400000 in
theorem index_any (ao : Option Addr) (zs : List Int) (c : Nat) (x : Int) (w : World) (R : Ending → World → Prop)
   (hl : zs.length ≤ 9223372036854775807) (hc : CellsAt w ao (I64s zs))
   (hR1 : ∀ k, k < zs.length → at0 zs k = x → ∀ w', Drew w w' → R (.returned (.int .i64 k)) w')
   (hR2 : (∀ j, j < zs.length → at0 zs j ≠ x) → ∀ w', Drew w w' → R (.returned (.int .i64 (-1))) w') :
    Calls Try.prog 54 #[.slice ao zs.length c, .int .i64 x] w R := by
  have HR1 := Lib.hid hR1
  have HR2 := Lib.hid hR2
  clear hR1 hR2
  go_enter Try.func54, Try.ntmps54
  go_wp2_with fail
  go_loopw [8] (fun i wr => ∃ k : Nat, k ≤ zs.length ∧ i = .int .i64 k ∧ Drew w wr ∧ Hid (∀ j, j < k → at0 zs j ≠ x)) (fun i _ => zs.length - (intOf i).toNat)
  case atStart => exact ⟨0, Nat.zero_le _, rfl, Drew.refl _, fun j hj => absurd hj (by omega)⟩
  case round =>
    obtain ⟨k, hk, rfl, ⟨q, rfl⟩, hL⟩ := hrel
    by_cases hlt : k < zs.length
    · obtain ⟨b, o, rfl, _, hcell⟩ := hc.ints (by omega)
      have h1 := hcell k hlt
      clear hcell
      by_cases g : x = at0 zs k
      · have g' : (x == at0 zs k) = true := by simpa using g
        go_wp2_with fail
        exact ret_eq (HR1.out k hlt g.symm _ (by repeat first | exact Drew.refl _ | apply Drew.drewN)) rfl
      · have g' : (x == at0 zs k) = false := by simpa using g
        go_wp2_with fail
        refine ⟨⟨k+1, by omega, by go_num, (by repeat first | exact Drew.refl _ | apply Drew.drewN), fun j hj => ?_⟩, by simp [intOf]; omega⟩
        by_cases e : j = k
        · subst e; exact fun h => g h.symm
        · exact hL.out j (by omega)
    · obtain rfl : k = zs.length := by omega
      go_wp2_with fail
      exact ret_eq (HR2.out hL.out _ (by repeat first | exact Drew.refl _ | apply Drew.drewN)) rfl

theorem mem_at0 {zs : List Int} {x : Int} : x ∈ zs ↔ ∃ k, k < zs.length ∧ at0 zs k = x := by
  rw [List.mem_iff_getElem]
  constructor
  · rintro ⟨k, hk, rfl⟩; exact ⟨k, hk, by simp [at0, List.getD, hk]⟩
  · rintro ⟨k, hk, rfl⟩; exact ⟨k, hk, by simp [at0, List.getD, hk]⟩
theorem contains_any (ao : Option Addr) (zs : List Int) (c : Nat) (x : Int) (w : World) (R : Ending → World → Prop)
   (hl : zs.length ≤ 9223372036854775807) (hc : CellsAt w ao (I64s zs)) (hR : ∀ w', Drew w w' → R (.returned (.bool (decide (x ∈ zs)))) w') :
    Calls Try.prog 30 #[.slice ao zs.length c, .int .i64 x] w R := by
  have HR := Lib.hid hR
  clear hR
  go_enter Try.func30, Try.ntmps30
  go_wp2_with fail
  refine index_any ao zs c x _ _ hl hc (fun k hk he w1 hw => ?_) (fun hn w1 hw => ?_)
  · have e : Hid (decide (x ∈ zs) = true) := by unfold Hid; rw [decide_eq_true_eq]; exact mem_at0.2 ⟨k, hk, he⟩
    obtain ⟨q, rfl⟩ := hw
    clear he
    go_wp2_with fail
    exact ret_eq (HR.out _ (by repeat first | exact Drew.refl _ | apply Drew.drewN)) (by rw [e.out]; first | done | rfl)
  · have e : Hid (decide (x ∈ zs) = false) := by
      unfold Hid; rw [decide_eq_false_iff_not]
      intro h; obtain ⟨k, hk, he⟩ := mem_at0.1 h; exact hn k hk he
    obtain ⟨q, rfl⟩ := hw
    clear hn
    go_wp2_with fail
    exact ret_eq (HR.out _ (by repeat first | exact Drew.refl _ | apply Drew.drewN)) (by rw [e.out]; first | done | rfl)

/-! ### a right set is an ascending list -/
theorem asc_of : ∀ {l : List Int}, (∀ j, j < l.length → 0 < j → at0 l (j - 1) < at0 l j) → l.Pairwise (· < ·)
  | [], _ => List.Pairwise.nil
  | a :: l, h => by
    rw [List.pairwise_cons]
    have hg : ∀ j, j < l.length → a < at0 l j := by
      intro j
      induction j with
      | zero => intro hj; have := h 1 (by simp; omega) (by omega); simpa [at0_cons_succ, at0_cons_zero] using this
      | succ j ih =>
        intro hj
        have h1 := ih (by omega)
        have h2 := h (j + 2) (by simp; omega) (by omega)
        rw [show j + 2 - 1 = j + 1 from by omega, at0_cons_succ, at0_cons_succ] at h2
        omega
    refine ⟨fun b hb => ?_, asc_of fun j hj h0 => ?_⟩
    · obtain ⟨k, hk, rfl⟩ := mem_at0.1 hb; exact hg k hk
    · have := h (j + 1) (by simp; omega) (by omega)
      obtain ⟨m, rfl⟩ : ∃ m, j = m + 1 := ⟨j - 1, by omega⟩
      rw [show m + 1 + 1 - 1 = m + 1 from by omega, at0_cons_succ, at0_cons_succ] at this
      simpa using this
theorem at0_get {l : List Int} {j : Nat} (h : j < l.length) : at0 l j = l[j] := by simp [at0, List.getD, h]
theorem RightSet_iff (zs : List Int) : RightSet zs ↔ zs.length ≤ 256 ∧ zs.Pairwise (· < ·) ∧ ∀ x ∈ zs, 1 ≤ x ∧ x ≤ 100000 := by
  constructor
  · intro h
    refine ⟨h.1, asc_of fun j hj => (h.2 j hj).2, fun x hx => ?_⟩
    obtain ⟨k, hk, rfl⟩ := mem_at0.1 hx
    exact (h.2 k hk).1
  · rintro ⟨h1, h2, h3⟩
    refine ⟨h1, fun j hj => ⟨h3 _ (mem_at0.2 ⟨j, hj, rfl⟩), fun h0 => ?_⟩⟩
    rw [at0_get hj, at0_get (by omega)]
    exact List.pairwise_iff_getElem.1 h2 (j - 1) j (by omega) hj (by omega)

/-! ### a block more -/
theorem filter_split {l : List Int} {n : Int} (hl : l.Pairwise (· < ·)) (hn : n ∉ l) : l.filter (fun x => decide (x < n)) ++ l.filter (fun x => decide (n < x)) = l := by
  induction l with
  | nil => rfl
  | cons x l ih =>
    rw [List.pairwise_cons] at hl
    have hx : x ≠ n := fun e => hn (by simp [e])
    by_cases h : x < n
    · rw [List.filter_cons_of_pos (by simpa using h), List.filter_cons_of_neg (by simp; omega), List.cons_append, ih hl.2 (fun h => hn (by simp [h]))]
    · have e1 : l.filter (fun x => decide (x < n)) = [] := by
        rw [List.filter_eq_nil_iff]
        intro y hy; have := hl.1 y hy; simp; omega
      have e2 : l.filter (fun x => decide (n < x)) = l := filter_all fun y hy => by have := hl.1 y hy; simp; omega
      rw [List.filter_cons_of_neg (by simpa using h), List.filter_cons_of_pos (by simp; omega), e1, e2]; rfl
theorem added_split {l : List Int} {n : Int} (hl : l.Pairwise (· < ·)) (hn : n ∉ l) : ∃ a b, l = a ++ b ∧ added l n = a ++ n :: b :=
  ⟨_, _, (filter_split hl hn).symm, added_eq n hl⟩
theorem tabF_more (x : Int) : ∀ (a b : List Int) (n : Nat), tab joinF 258 0 (a ++ x :: b) n ≤ tab joinF 258 0 (a ++ b) n
  | [], b, n => by
    rw [List.nil_append, List.nil_append, tabF_cons]; omega
  | y :: a, b, n => by
    have h1 := tabF_more x a b n
    have h2 := tabF_more x a b (n - y.toNat)
    rw [List.cons_append, List.cons_append, tabF_cons, tabF_cons]
    split <;> omega
theorem cntS_more (x : Int) : ∀ (a b : List Int) (n : Nat), cntS (a ++ b) n ≤ cntS (a ++ x :: b) n
  | [], b, n => by
    rw [List.nil_append, List.nil_append, cntS]; omega
  | y :: a, b, n => by
    have h1 := cntS_more x a b n
    have h2 := cntS_more x a b (n - y.toNat)
    rw [List.cons_append, List.cons_append, cntS, cntS]
    split <;> omega
theorem added_right {zs : List Int} {x : Int} (hz : RightSet zs) (h8 : zs.length ≤ 8) (hx : 1 ≤ x ∧ x ≤ 100000) : RightSet (added zs x) ∧ (added zs x).length ≤ 9 := by
  obtain ⟨h1, h2, h3⟩ := (RightSet_iff zs).1 hz
  have h4 := added_len zs x
  refine ⟨(RightSet_iff _).2 ⟨by omega, added_asc x h2, fun y hy => ?_⟩, by omega⟩
  rcases (added_mem x h2 y).1 hy with rfl | h
  · exact hx
  · exact h3 y h
theorem cnt_few {zs : List Int} {l : Int} (hz : RightSet zs) (h9 : zs.length ≤ 9) (hl : 1 ≤ l ∧ l ≤ 100000) : cntE zs l = 0 ∧ cntN zs l = cntS zs l.toNat ∧ (0 < cntN zs l ↔ fewE zs l = 0) := by
  have hg : gvn zs l = 0 := by rw [gvn, if_pos ((chk_zero zs).2 hz), if_pos ((insB_iff l).2 hl)]
  have e1 := rcnt_eq hz l.toNat
  have e2 := rcnt_le h9 l
  have e3 := cntV_eq hz l.toNat
  rw [show ((l.toNat : Nat) : Int) = l from by omega] at e1
  have e4 : cntV zs l.toNat = (cntS zs l.toNat : Int) := by rw [e3]; omega
  have e5 : cntN zs l = cntS zs l.toNat := by rw [cntN, if_pos hg, e4, if_pos (by omega)]
  refine ⟨by rw [cntE, if_pos hg, e4, if_pos (by omega)], e5, ?_⟩
  rw [e5, fewE, if_pos hg]
  have hiff : reachB zs l.toNat = true ↔ 0 < cntS zs l.toNat := by
    rw [← e1, rcnt, List.length_pos_iff_exists_mem, reachB_iff hz]
    constructor
    · rintro ⟨s, h1, h2⟩
      refine ⟨s, List.mem_filter.2 ⟨(stks_all _ _).2 h1, ?_⟩⟩
      rw [isLen, sum_St hz h1, beq_iff_eq]; omega
    · rintro ⟨s, hs⟩
      obtain ⟨h1, h2⟩ := List.mem_filter.1 hs
      have h1 := (stks_all _ _).1 h1
      rw [isLen, sum_St hz h1, beq_iff_eq] at h2
      exact ⟨s, h1, by omega⟩
  by_cases hr : reachB zs l.toNat = true
  · rw [if_pos hr]; have := hiff.1 hr; omega
  · rw [if_neg hr]
    have : ¬ 0 < cntS zs l.toNat := fun h => hr (hiff.2 h)
    omega
theorem fewL_len {zs : List Int} {l : Int} (hz : RightSet zs) (h : fewE zs l = 0) : ((fewL zs l).length : Int) = tab joinF 258 0 zs l.toNat ∧ reachB zs l.toNat = true ∧ fewL zs l = bestL zs 0 l.toNat := by
  unfold fewE at h
  split at h
  · rename_i hg
    split at h
    · rename_i hr
      rw [fewL, if_pos ⟨hg, hr⟩]
      exact ⟨(best_ok hz hr).2.2.1, hr, rfl⟩
    · cases h
  · contradiction
theorem grow_law {zs : List Int} {x l : Int} (hz : RightSet zs) (h8 : zs.length ≤ 8) (hx : 1 ≤ x ∧ x ≤ 100000) (hn : x ∉ zs) (hl : 1 ≤ l ∧ l ≤ 100000) :
    cntN zs l ≤ cntN (added zs x) l ∧ (fewE zs l = 0 → fewE (added zs x) l = 0 ∧ (fewL (added zs x) l).length ≤ (fewL zs l).length) := by
  obtain ⟨hy, h9⟩ := added_right hz h8 hx
  obtain ⟨a, b, e1, e2⟩ := added_split ((RightSet_iff zs).1 hz).2.1 hn
  obtain ⟨k1, k2, k3⟩ := cnt_few hz (by omega) hl
  obtain ⟨q1, q2, q3⟩ := cnt_few hy h9 hl
  have h1 := cntS_more x a b l.toNat
  rw [← e1, ← e2] at h1
  have h2 : cntN zs l ≤ cntN (added zs x) l := by rw [k2, q2]; omega
  refine ⟨h2, fun h => ?_⟩
  have h3 := k3.2 h
  have h4 := q3.1 (by omega)
  refine ⟨h4, ?_⟩
  have h5 := (fewL_len hz h).1
  have h6 := (fewL_len hy h4).1
  have h7 := tabF_more x a b l.toNat
  rw [← e1, ← e2] at h7
  omega
end Go.Proofs.Ytdmolmdenfepkaa
