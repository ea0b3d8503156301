/- The walks of State, First, Recalled, Few of the reference. -/
import Derived.Test.YtfamennpajjajaaRk
import Derived.Test.YtfamennpajjajaaRi
namespace Go.Proofs.Ytfamennpajjajaa
open Go.RowKit

set_option maxRecDepth 100000 in
set_option maxHeartbeats 2000000 in
theorem rstate_any (ao : Option Addr) (vs : List Ev) (c i : Nat) (w : World) (R : Ending → World → Prop) (hl : vs.length ≤ 1000000) (hi : i < vs.length) (hc : CellsAt w ao (eC vs))
   (hR : ∀ w', Drew w w' → R (.returned (.int .i64 (stt vs i))) w') :
    Calls Try.prog 39 #[.slice ao vs.length c, .int .i64 i] w R := by
  have HR := Lib.hid hR
  have HC := Lib.hid hc
  clear hR
  have hS : Hid (stt vs i = if (eAt vs i).k = 0 then if nx vs i < 0 then 1 else 1 + (eAt vs (nx vs i).toNat).k else 0) := rfl
  obtain ⟨b, o, rfl, hbb, hcell⟩ := hc.evts (by omega)
  have HCE := Lib.hid hcell
  obtain ⟨a0, a1, a2, a3⟩ := hcell i hi
  obtain ⟨x, hx⟩ : ∃ x, eAt vs i = x := ⟨_, rfl⟩
  have HX := Lib.hid hx
  rw [hx] at a0 a1 a2 a3
  clear hcell hx
  by_cases h0 : x.k = 0
  · have K0 : (x.k == 0) = true := by rw [h0]; rfl
    have K0' : (x.k != 0) = false := by rw [h0]; rfl
    have H0 := Lib.hid h0
    clear h0
    rcases nx_cases vs i with hn | ⟨j, hn, hij, hj, hck⟩
    · have HN := Lib.hid hn
      have hE : Hid (stt vs i = 1) := by unfold Hid; rw [hS.out, HX.out, if_pos H0.out, if_pos (by omega)]
      clear hn
      go_enter Try.func39, Try.ntmps39
      go_wp2_with fail
      refine rnext_any _ vs c i _ _ hl hi HC.out ?_
      rw [HN.out]
      rintro w1 ⟨q, rfl⟩
      go_wp2_with fail
      exact ret_i (HR.out _ (by repeat first | exact Drew.refl _ | apply Drew.drewN)) rfl hE.out
    · have HN := Lib.hid hn
      obtain ⟨d0, d1, d2, d3⟩ := HCE.out j hj
      obtain ⟨u, hu⟩ : ∃ u, eAt vs j = u := ⟨_, rfl⟩
      rw [hu] at d0 d1 d2 d3 hck
      have hE : Hid (stt vs i = 1 + u.k) := by unfold Hid; rw [hS.out, HX.out, if_pos H0.out, if_neg (by omega), hn, Int.toNat_natCast, hu]
      have hub : u.k = 1 ∨ u.k = 2 := by
        unfold ckQ at hck
        rw [Bool.and_eq_true, Bool.or_eq_true, beq_iff_eq, beq_iff_eq] at hck
        exact hck.1
      have hu1 : 1 ≤ u.k := by omega
      have hu2 : u.k ≤ 2 := by omega
      clear hn hck hub hu
      go_enter Try.func39, Try.ntmps39
      go_wp2_with fail
      refine rnext_any _ vs c i _ _ hl hi HC.out ?_
      rw [HN.out]
      rintro w1 ⟨q, rfl⟩
      go_wp2_with fail
      exact ret_i (HR.out _ (by repeat first | exact Drew.refl _ | apply Drew.drewN)) rfl hE.out
  · have K0 : (x.k == 0) = false := by simpa using h0
    have K0' : (x.k != 0) = true := by simpa using h0
    have hE : Hid (stt vs i = 0) := by unfold Hid; rw [hS.out, HX.out, if_neg h0]
    clear h0
    go_enter Try.func39, Try.ntmps39
    go_wp2_with fail
    exact ret_i (HR.out _ (by repeat first | exact Drew.refl _ | apply Drew.drewN)) rfl hE.out

theorem rstate_q (ao : Option Addr) (vs : List Ev) (c i : Nat) (x : Int) (w : World) (hl : vs.length ≤ 1000000) (hi : i < vs.length) (hc : CellsAt w ao (eC vs)) (hx : stt vs i = x) :
    Calls Try.prog 39 #[.slice ao vs.length c, .int .i64 i] w fun e w' => e = .returned (.int .i64 x) ∧ ∃ m, w' = w.drewN m :=
  rstate_any ao vs c i w _ hl hi hc fun w' h => ⟨by rw [hx], h⟩
def fsQ (p : ByteArray) (st : Int) (vs : List Ev) (k : Nat) : Bool := sameB (eAt vs k).p p && stt vs k == st
def fsS (p : ByteArray) (st : Int) (vs : List Ev) : Nat → Nat → Int
  | 0, _ => -1
  | d + 1, k => if fsQ p st vs k = true then (k : Int) else fsS p st vs d (k + 1)
/-- 'First', 'Recalled'. -/
def frs (vs : List Ev) (p : ByteArray) (st : Int) : Int := fsS p st vs vs.length 0
def rcl (vs : List Ev) (p : ByteArray) : Bool := decide (0 ≤ frs vs p 3) && (decide (frs vs p 2 < 0) && !anyTo (wdQ p) vs vs.length)
theorem fsS_step {p : ByteArray} {st : Int} {vs : List Ev} {n k : Nat} {X : Int} (h : Hid (fsS p st vs (n - k) k = X)) (hk : k < n) (hf : fsQ p st vs k = false) : Hid (fsS p st vs (n - (k + 1)) (k + 1) = X) := by
  have h := h.out
  rw [show n - k = (n - (k + 1)) + 1 from by omega, fsS, if_neg (by rw [hf]; simp)] at h
  exact h
theorem fsS_hit {p : ByteArray} {st : Int} {vs : List Ev} {n k : Nat} {X : Int} (h : Hid (fsS p st vs (n - k) k = X)) (hk : k < n) (hf : fsQ p st vs k = true) : X = k := by
  have h := h.out
  rw [show n - k = (n - (k + 1)) + 1 from by omega, fsS, if_pos hf] at h
  exact h.symm
theorem fsS_end {p : ByteArray} {st : Int} {vs : List Ev} {n k : Nat} {X : Int} (h : Hid (fsS p st vs (n - k) k = X)) (hk : ¬ k < n) : X = -1 := by
  have h := h.out
  rw [show n - k = 0 from by omega, fsS] at h
  exact h.symm
theorem fsS_cases (p : ByteArray) (st : Int) (vs : List Ev) : ∀ (d k : Nat), fsS p st vs d k = -1 ∨ ∃ j : Nat, fsS p st vs d k = j ∧ k ≤ j ∧ j < k + d ∧ fsQ p st vs j = true
  | 0, _ => .inl rfl
  | d + 1, k => by
    rw [fsS]
    split
    · rename_i h; exact .inr ⟨k, rfl, Nat.le_refl _, by omega, h⟩
    · rcases fsS_cases p st vs d (k + 1) with h | ⟨j, h1, h2, h3, h4⟩
      · exact .inl h
      · exact .inr ⟨j, h1, by omega, by omega, h4⟩

set_option maxRecDepth 100000 in
set_option maxHeartbeats 2000000 in
theorem rfirst_any (ao : Option Addr) (vs : List Ev) (c : Nat) (p : ByteArray) (st : Int) (w : World) (R : Ending → World → Prop) (hl : vs.length ≤ 1000000) (hc : CellsAt w ao (eC vs))
   (hR : ∀ w', Drew w w' → R (.returned (.int .i64 (frs vs p st))) w') :
    Calls Try.prog 51 #[.slice ao vs.length c, .string p, .int .i64 st] w R := by
  have HR := Lib.hid hR
  have HC := Lib.hid hc
  clear hR hc
  obtain ⟨X, hX⟩ : ∃ X, Hid (frs vs p st = X) := ⟨_, Lib.hid rfl⟩
  have hX2 : Hid (fsS p st vs (vs.length - 0) 0 = X) := hX
  rw [hX.out] at HR
  go_enter Try.func51, Try.ntmps51
  go_wp2_with fail
  go_loopw [7] (fun j wr => ∃ k : Nat, k ≤ vs.length ∧ j = .int .i64 k ∧ Drew w wr ∧ Hid (fsS p st vs (vs.length - k) k = X)) (fun j _ => vs.length - (intOf j).toNat)
  case atStart => exact ⟨0, Nat.zero_le _, rfl, Drew.refl _, hX2⟩
  case round =>
    obtain ⟨k, hk, rfl, ⟨q, rfl⟩, hL⟩ := hrel
    by_cases hlt : k < vs.length
    · obtain ⟨b, o, rfl, _, hcell⟩ := HC.out.evts (by omega)
      obtain ⟨d0, d1, d2, d3⟩ := hcell k hlt
      have hdef : Hid (fsQ p st vs k = (sameB (eAt vs k).p p && stt vs k == st)) := rfl
      obtain ⟨u, hu⟩ : ∃ u, eAt vs k = u := ⟨_, rfl⟩
      rw [hu] at d0 d1 d2 d3 hdef
      clear hcell hu
      cases hs : sameB u.p p with
      | true =>
        have hs1 : (u.p.toList == p.toList) = true := hs
        obtain ⟨S, hS⟩ : ∃ S, Hid (stt vs k = S) := ⟨_, Lib.hid rfl⟩
        rw [hs, hS.out] at hdef
        by_cases he : S = st
        · have q1 : (S == st) = true := by rw [he]; simp
          have e : Hid (X = k) := fsS_hit hL hlt (by rw [hdef.out, q1]; rfl)
          clear hs he
          go_wp2_with fail
          refine rstate_any _ vs c k _ _ hl hlt (HC.out.drewN q) ?_
          rw [hS.out]
          rintro w1 ⟨q2, rfl⟩
          go_wp2_with fail
          exact ret_i (HR.out _ (by repeat first | exact Drew.refl _ | apply Drew.drewN)) rfl e.out
        · have q1 : (S == st) = false := by simpa using he
          have e := fsS_step hL hlt (by rw [hdef.out, q1]; rfl)
          clear hs he
          go_wp2_with fail
          refine rstate_any _ vs c k _ _ hl hlt (HC.out.drewN q) ?_
          rw [hS.out]
          rintro w1 ⟨q2, rfl⟩
          go_wp2_with fail
          exact ⟨⟨k + 1, by omega, by go_num, (by repeat first | exact Drew.refl _ | apply Drew.drewN), e⟩, by simp [intOf]; omega⟩
      | false =>
        have hs1 : (u.p.toList == p.toList) = false := hs
        have e := fsS_step hL hlt (by rw [hdef.out, hs]; rfl)
        clear hs
        go_wp2_with fail
        exact ⟨⟨k + 1, by omega, by go_num, (by repeat first | exact Drew.refl _ | apply Drew.drewN), e⟩, by simp [intOf]; omega⟩
    · have e : Hid (X = -1) := fsS_end hL hlt
      go_wp2_with fail
      exact ret_i (HR.out _ (by repeat first | exact Drew.refl _ | apply Drew.drewN)) rfl e.out

theorem rfirst_q (ao : Option Addr) (vs : List Ev) (c : Nat) (p : ByteArray) (st x : Int) (w : World) (hl : vs.length ≤ 1000000) (hc : CellsAt w ao (eC vs)) (hx : frs vs p st = x) :
    Calls Try.prog 51 #[.slice ao vs.length c, .string p, .int .i64 st] w fun e w' => e = .returned (.int .i64 x) ∧ ∃ m, w' = w.drewN m :=
  rfirst_any ao vs c p st w _ hl hc fun w' h => ⟨by rw [hx], h⟩

set_option maxRecDepth 100000 in
set_option maxHeartbeats 2000000 in
theorem rrecalled_any (ao : Option Addr) (vs : List Ev) (c : Nat) (p : ByteArray) (w : World) (R : Ending → World → Prop) (hl : vs.length ≤ 1000000) (hc : CellsAt w ao (eC vs))
   (hR : ∀ w', Drew w w' → R (.returned (.bool (rcl vs p))) w') :
    Calls Try.prog 47 #[.slice ao vs.length c, .string p] w R := by
  have HR := Lib.hid hR
  have HC := Lib.hid hc
  clear hR hc
  obtain ⟨X, hX⟩ : ∃ X, Hid (frs vs p 3 = X) := ⟨_, Lib.hid rfl⟩
  obtain ⟨Y, hY⟩ : ∃ Y, Hid (frs vs p 2 = Y) := ⟨_, Lib.hid rfl⟩
  obtain ⟨Z, hZ⟩ : ∃ Z, Hid (anyTo (wdQ p) vs vs.length = Z) := ⟨_, Lib.hid rfl⟩
  have hE : Hid (rcl vs p = (decide (0 ≤ X) && (decide (Y < 0) && !Z))) := by unfold Hid rcl; rw [hX.out, hY.out, hZ.out]
  go_enter Try.func47, Try.ntmps47
  go_wp2_with fail
  refine rfirst_any _ vs c p 3 _ _ hl HC.out ?_
  rw [hX.out]
  rintro w1 ⟨q1, rfl⟩
  by_cases h1 : 0 ≤ X
  · have h1' : decide (0 ≤ X) = true := decide_eq_true h1
    go_wp2_with fail
    refine rfirst_any _ vs c p 2 _ _ hl (HC.out.drewN _) ?_
    rw [hY.out]
    rintro w2 ⟨q2, rfl⟩
    by_cases h2 : Y < 0
    · have h2' : decide (Y < 0) = true := decide_eq_true h2
      go_wp2_with fail
      refine rwd_any _ vs vs.length c p _ _ (by omega) (Nat.le_refl _) (HC.out.drewN _) ?_
      rw [hZ.out]
      rintro w3 ⟨q3, rfl⟩
      go_wp2_with fail
      exact ret_b (HR.out _ (by repeat first | exact Drew.refl _ | apply Drew.drewN)) rfl (by rw [hE.out, h1', h2']; simp)
    · have h2' : decide (Y < 0) = false := decide_eq_false h2
      go_wp2_with fail
      exact ret_b (HR.out _ (by repeat first | exact Drew.refl _ | apply Drew.drewN)) rfl (by rw [hE.out, h1', h2']; simp)
  · have h1' : decide (0 ≤ X) = false := decide_eq_false h1
    go_wp2_with fail
    exact ret_b (HR.out _ (by repeat first | exact Drew.refl _ | apply Drew.drewN)) rfl (by rw [hE.out, h1']; simp)
end Go.Proofs.Ytfamennpajjajaa
