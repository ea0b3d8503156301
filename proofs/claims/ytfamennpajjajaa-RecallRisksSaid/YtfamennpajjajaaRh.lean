/- The walks of Withdrawn, Measured of the reference. -/
import Derived.Test.YtfamennpajjajaaRf
import Derived.Test.YtfamennpajjajaaRc
namespace Go.Proofs.Ytfamennpajjajaa
open Go.RowKit

theorem anyTo_false {q : Ev → Bool} {vs : List Ev} {n : Nat} (h : ∀ j, j < n → q (eAt vs j) = false) : anyTo q vs n = false := by
  cases e : anyTo q vs n with
  | false => rfl
  | true => obtain ⟨j, h1, h2⟩ := (anyTo_iff n).1 e; rw [h j h1] at h2; cases h2

set_option maxHeartbeats 1000000 in
theorem rwd_any (ao : Option Addr) (vs : List Ev) (n c : Nat) (p : ByteArray) (w : World) (R : Ending → World → Prop) (hl : vs.length ≤ 9223372036854775807) (hn : n ≤ vs.length) (hc : CellsAt w ao (eC vs))
   (hR : ∀ w', Drew w w' → R (.returned (.bool (anyTo (wdQ p) vs n))) w') :
    Calls Try.prog 45 #[.slice ao n c, .string p] w R := by
  have HR := Lib.hid hR
  clear hR
  have hdef : Hid (∀ v : Ev, wdQ p v = (v.k == 3 && sameB v.p p)) := fun _ => rfl
  go_enter Try.func45, Try.ntmps45
  go_wp2_with fail
  go_loopw [5] (fun i wr => ∃ k : Nat, k ≤ n ∧ i = .int .i64 k ∧ Drew w wr ∧ Hid (∀ j, j < k → wdQ p (eAt vs j) = false)) (fun i _ => n - (intOf i).toNat)
  case atStart => exact ⟨0, Nat.zero_le _, rfl, Drew.refl _, fun j hj => absurd hj (by omega)⟩
  case round =>
    obtain ⟨k, hk, rfl, ⟨q, rfl⟩, hL⟩ := hrel
    by_cases hlt : k < n
    · obtain ⟨b, o, rfl, _, hcell⟩ := hc.evts (by omega)
      obtain ⟨c0, c1, c2, c3⟩ := hcell k (by omega)
      clear hcell
      obtain ⟨v, hev⟩ : ∃ v, eAt vs k = v := ⟨_, rfl⟩
      rw [hev] at c0 c1 c2 c3
      have HEV := Lib.hid hev
      clear hev
      have hnext : Hid (wdQ p v = false → ∀ j, j < k + 1 → wdQ p (eAt vs j) = false) := by
        intro h j hj
        by_cases e : j = k
        · subst e; rw [HEV.out]; exact h
        · exact hL.out j (by omega)
      by_cases hk3 : v.k = 3
      · have K3 : (v.k == 3) = true := by rw [hk3]; rfl
        clear hk3
        cases hs : sameB v.p p with
        | true =>
          have hs1 : (v.p.toList == p.toList) = true := hs
          have e : Hid (anyTo (wdQ p) vs n = true) := (anyTo_iff n).2 ⟨k, hlt, by rw [HEV.out, hdef.out, K3, hs]; rfl⟩
          clear hs
          go_wp2_with fail
          exact ret_b (HR.out _ (by repeat first | exact Drew.refl _ | apply Drew.drewN)) rfl e.out
        | false =>
          have hs1 : (v.p.toList == p.toList) = false := hs
          have e := Lib.hid (hnext.out (by rw [hdef.out, hs, Bool.and_false]))
          clear hs
          go_wp2_with fail
          exact ⟨⟨k + 1, by omega, by go_num, (by repeat first | exact Drew.refl _ | apply Drew.drewN), e⟩, by simp [intOf]; omega⟩
      · have K3 : (v.k == 3) = false := by simpa using hk3
        have e := Lib.hid (hnext.out (by rw [hdef.out, K3, Bool.false_and]))
        clear hk3
        go_wp2_with fail
        exact ⟨⟨k + 1, by omega, by go_num, (by repeat first | exact Drew.refl _ | apply Drew.drewN), e⟩, by simp [intOf]; omega⟩
    · obtain rfl : k = n := by omega
      have e : Hid (anyTo (wdQ p) vs k = false) := anyTo_false hL.out
      go_wp2_with fail
      exact ret_b (HR.out _ (by repeat first | exact Drew.refl _ | apply Drew.drewN)) rfl e.out

set_option maxHeartbeats 1000000 in
theorem rms_any (ao : Option Addr) (vs : List Ev) (n c : Nat) (p : ByteArray) (w : World) (R : Ending → World → Prop) (hl : vs.length ≤ 9223372036854775807) (hn : n ≤ vs.length) (hc : CellsAt w ao (eC vs))
   (hR : ∀ w', Drew w w' → R (.returned (.bool (anyTo (msQ p) vs n))) w') :
    Calls Try.prog 46 #[.slice ao n c, .string p] w R := by
  have HR := Lib.hid hR
  clear hR
  have hdef : Hid (∀ v : Ev, msQ p v = (v.k == 0 && sameB v.p p)) := fun _ => rfl
  go_enter Try.func46, Try.ntmps46
  go_wp2_with fail
  go_loopw [5] (fun i wr => ∃ k : Nat, k ≤ n ∧ i = .int .i64 k ∧ Drew w wr ∧ Hid (∀ j, j < k → msQ p (eAt vs j) = false)) (fun i _ => n - (intOf i).toNat)
  case atStart => exact ⟨0, Nat.zero_le _, rfl, Drew.refl _, fun j hj => absurd hj (by omega)⟩
  case round =>
    obtain ⟨k, hk, rfl, ⟨q, rfl⟩, hL⟩ := hrel
    by_cases hlt : k < n
    · obtain ⟨b, o, rfl, _, hcell⟩ := hc.evts (by omega)
      obtain ⟨c0, c1, c2, c3⟩ := hcell k (by omega)
      clear hcell
      obtain ⟨v, hev⟩ : ∃ v, eAt vs k = v := ⟨_, rfl⟩
      rw [hev] at c0 c1 c2 c3
      have HEV := Lib.hid hev
      clear hev
      have hnext : Hid (msQ p v = false → ∀ j, j < k + 1 → msQ p (eAt vs j) = false) := by
        intro h j hj
        by_cases e : j = k
        · subst e; rw [HEV.out]; exact h
        · exact hL.out j (by omega)
      by_cases hk3 : v.k = 0
      · have K3 : (v.k == 0) = true := by rw [hk3]; rfl
        clear hk3
        cases hs : sameB v.p p with
        | true =>
          have hs1 : (v.p.toList == p.toList) = true := hs
          have e : Hid (anyTo (msQ p) vs n = true) := (anyTo_iff n).2 ⟨k, hlt, by rw [HEV.out, hdef.out, K3, hs]; rfl⟩
          clear hs
          go_wp2_with fail
          exact ret_b (HR.out _ (by repeat first | exact Drew.refl _ | apply Drew.drewN)) rfl e.out
        | false =>
          have hs1 : (v.p.toList == p.toList) = false := hs
          have e := Lib.hid (hnext.out (by rw [hdef.out, hs, Bool.and_false]))
          clear hs
          go_wp2_with fail
          exact ⟨⟨k + 1, by omega, by go_num, (by repeat first | exact Drew.refl _ | apply Drew.drewN), e⟩, by simp [intOf]; omega⟩
      · have K3 : (v.k == 0) = false := by simpa using hk3
        have e := Lib.hid (hnext.out (by rw [hdef.out, K3, Bool.false_and]))
        clear hk3
        go_wp2_with fail
        exact ⟨⟨k + 1, by omega, by go_num, (by repeat first | exact Drew.refl _ | apply Drew.drewN), e⟩, by simp [intOf]; omega⟩
    · obtain rfl : k = n := by omega
      have e : Hid (anyTo (msQ p) vs k = false) := anyTo_false hL.out
      go_wp2_with fail
      exact ret_b (HR.out _ (by repeat first | exact Drew.refl _ | apply Drew.drewN)) rfl e.out

end Go.Proofs.Ytfamennpajjajaa
