/- The walks of Few, Next, State of the reference. -/
import Derived.Test.YtfamennpajjajaaRf
import Derived.Test.YtfamennpajjajaaRc
namespace Go.Proofs.Ytfamennpajjajaa
open Go.RowKit

def loQ (v : Ev) : Bool := decide (60 < v.g.size) || (decide (60 < v.p.size) || decide (60 < v.t.size))
/-- Few. -/
def fwL (vs : List Ev) : Bool := if (16 < vs.length ∧ vs.length ≤ 4096) ∨ 8192 < vs.length then false else !anyTo loQ vs vs.length
/-- A check of a gauge. -/
def ckQ (g : ByteArray) (v : Ev) : Bool := (v.k == 1 || v.k == 2) && sameB v.g g
def nxS (g : ByteArray) (vs : List Ev) : Nat → Nat → Int
  | 0, _ => -1
  | d + 1, k => if ckQ g (eAt vs k) = true then (k : Int) else nxS g vs d (k + 1)
/-- 'Next', 'State'. -/
def nx (vs : List Ev) (i : Nat) : Int := nxS (eAt vs i).g vs (vs.length - (i + 1)) (i + 1)
def stt (vs : List Ev) (i : Nat) : Int := if (eAt vs i).k = 0 then if nx vs i < 0 then 1 else 1 + (eAt vs (nx vs i).toNat).k else 0
theorem nxS_cases (g : ByteArray) (vs : List Ev) : ∀ (d k : Nat), nxS g vs d k = -1 ∨ ∃ j : Nat, nxS g vs d k = j ∧ k ≤ j ∧ j < k + d ∧ ckQ g (eAt vs j) = true
  | 0, _ => .inl rfl
  | d + 1, k => by
    rw [nxS]
    split
    · rename_i h; exact .inr ⟨k, rfl, Nat.le_refl _, by omega, h⟩
    · rcases nxS_cases g vs d (k + 1) with h | ⟨j, h1, h2, h3, h4⟩
      · exact .inl h
      · exact .inr ⟨j, h1, by omega, by omega, h4⟩
theorem nx_cases (vs : List Ev) (i : Nat) : nx vs i = -1 ∨ ∃ j : Nat, nx vs i = j ∧ i < j ∧ j < vs.length ∧ ckQ (eAt vs i).g (eAt vs j) = true := by
  rcases nxS_cases (eAt vs i).g vs (vs.length - (i + 1)) (i + 1) with h | ⟨j, h1, h2, h3, h4⟩
  · exact .inl h
  · exact .inr ⟨j, h1, by omega, by omega, h4⟩
theorem nxS_step {g : ByteArray} {vs : List Ev} {n k : Nat} {X : Int} (h : Hid (nxS g vs (n - k) k = X)) (hk : k < n) (hf : ckQ g (eAt vs k) = false) : Hid (nxS g vs (n - (k + 1)) (k + 1) = X) := by
  have h := h.out
  rw [show n - k = (n - (k + 1)) + 1 from by omega, nxS, if_neg (by rw [hf]; simp)] at h
  exact h
theorem nxS_hit {g : ByteArray} {vs : List Ev} {n k : Nat} {X : Int} (h : Hid (nxS g vs (n - k) k = X)) (hk : k < n) (hf : ckQ g (eAt vs k) = true) : X = k := by
  have h := h.out
  rw [show n - k = (n - (k + 1)) + 1 from by omega, nxS, if_pos hf] at h
  exact h.symm
theorem nxS_end {g : ByteArray} {vs : List Ev} {n k : Nat} {X : Int} (h : Hid (nxS g vs (n - k) k = X)) (hk : ¬ k < n) : X = -1 := by
  have h := h.out
  rw [show n - k = 0 from by omega, nxS] at h
  exact h.symm

set_option maxRecDepth 100000 in
set_option maxHeartbeats 2000000 in
theorem rnext_any (ao : Option Addr) (vs : List Ev) (c i : Nat) (w : World) (R : Ending → World → Prop) (hl : vs.length ≤ 1000000) (hi : i < vs.length) (hc : CellsAt w ao (eC vs))
   (hR : ∀ w', Drew w w' → R (.returned (.int .i64 (nx vs i))) w') :
    Calls Try.prog 52 #[.slice ao vs.length c, .int .i64 i] w R := by
  have HR := Lib.hid hR
  clear hR
  obtain ⟨b, o, rfl, hbb, hcell⟩ := hc.evts (by omega)
  have HCE := Lib.hid hcell
  obtain ⟨a0, a1, a2, a3⟩ := hcell i hi
  obtain ⟨X, hX⟩ : ∃ X, Hid (nx vs i = X) := ⟨_, Lib.hid rfl⟩
  have hX2 : Hid (nxS (eAt vs i).g vs (vs.length - (i + 1)) (i + 1) = X) := hX
  rw [hX.out] at HR
  obtain ⟨x, hx⟩ : ∃ x, eAt vs i = x := ⟨_, rfl⟩
  rw [hx] at a0 a1 a2 a3 hX2
  clear hcell hx
  go_enter Try.func52, Try.ntmps52
  go_wp2_with fail
  go_loopw [5] (fun j wr => ∃ k : Nat, k ≤ vs.length ∧ i + 1 ≤ k ∧ j = .int .i64 k ∧ Drew w wr ∧ Hid (nxS x.g vs (vs.length - k) k = X)) (fun j _ => vs.length - (intOf j).toNat)
  case atStart => exact ⟨i + 1, by omega, Nat.le_refl _, by go_num, Drew.refl _, hX2⟩
  case round =>
    obtain ⟨k, hk, hik, rfl, ⟨q, rfl⟩, hL⟩ := hrel
    by_cases hlt : k < vs.length
    · obtain ⟨d0, d1, d2, d3⟩ := HCE.out k hlt
      obtain ⟨u, hu⟩ : ∃ u, eAt vs k = u := ⟨_, rfl⟩
      rw [hu] at d0 d1 d2 d3
      have HU := Lib.hid hu
      clear hu
      by_cases h1 : u.k = 1
      · have K1 : (u.k == 1) = true := by rw [h1]; rfl
        have H1 := Lib.hid h1
        clear h1
        cases hs : sameB u.g x.g with
        | true =>
          have hs1 : (u.g.toList == x.g.toList) = true := hs
          have hck : Hid (ckQ x.g u = true) := by unfold Hid ckQ; rw [hs]; simp [K1]
          clear hs
          have e : Hid (X = k) := nxS_hit hL hlt (by rw [HU.out]; exact hck.out)
          go_wp2_with fail
          go_quiet (fail)
          go_wp2_with fail
          exact ret_i (HR.out _ (by repeat first | exact Drew.refl _ | apply Drew.drewN)) rfl e.out
        | false =>
          have hs1 : (u.g.toList == x.g.toList) = false := hs
          have hck : Hid (ckQ x.g u = false) := by unfold Hid ckQ; rw [hs, Bool.and_false]
          clear hs
          have e := nxS_step hL hlt (by rw [HU.out]; exact hck.out)
          go_wp2_with fail
          go_quiet (fail)
          go_wp2_with fail
          exact ⟨⟨k + 1, by omega, by omega, by go_num, (by repeat first | exact Drew.refl _ | apply Drew.drewN), e⟩, by simp [intOf]; omega⟩
      · have K1 : (u.k == 1) = false := by simpa using h1
        by_cases h2 : u.k = 2
        · have K2 : (u.k == 2) = true := by rw [h2]; rfl
          clear h1 h2
          cases hs : sameB u.g x.g with
          | true =>
            have hs1 : (u.g.toList == x.g.toList) = true := hs
            have hck : Hid (ckQ x.g u = true) := by unfold Hid ckQ; rw [hs]; simp [K1, K2]
            clear hs
            have e : Hid (X = k) := nxS_hit hL hlt (by rw [HU.out]; exact hck.out)
            go_wp2_with fail
            go_quiet (fail)
            go_wp2_with fail
            exact ret_i (HR.out _ (by repeat first | exact Drew.refl _ | apply Drew.drewN)) rfl e.out
          | false =>
            have hs1 : (u.g.toList == x.g.toList) = false := hs
            have hck : Hid (ckQ x.g u = false) := by unfold Hid ckQ; rw [hs, Bool.and_false]
            clear hs
            have e := nxS_step hL hlt (by rw [HU.out]; exact hck.out)
            go_wp2_with fail
            go_quiet (fail)
            go_wp2_with fail
            exact ⟨⟨k + 1, by omega, by omega, by go_num, (by repeat first | exact Drew.refl _ | apply Drew.drewN), e⟩, by simp [intOf]; omega⟩
        · have K2 : (u.k == 2) = false := by simpa using h2
          have hck : Hid (ckQ x.g u = false) := by unfold Hid ckQ; rw [K1, K2]; rfl
          clear h1 h2
          have e := nxS_step hL hlt (by rw [HU.out]; exact hck.out)
          go_wp2_with fail
          go_quiet (fail)
          go_wp2_with fail
          exact ⟨⟨k + 1, by omega, by omega, by go_num, (by repeat first | exact Drew.refl _ | apply Drew.drewN), e⟩, by simp [intOf]; omega⟩
    · have e : Hid (X = -1) := nxS_end hL hlt
      go_wp2_with fail
      exact ret_i (HR.out _ (by repeat first | exact Drew.refl _ | apply Drew.drewN)) rfl e.out
end Go.Proofs.Ytfamennpajjajaa
