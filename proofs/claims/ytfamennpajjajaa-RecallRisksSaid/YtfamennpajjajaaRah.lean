/- The walks of few and right of the law, and of slices.Equal at equal rows. -/
import Derived.Test.YtfamennpajjajaaRag
namespace Go.Proofs.Ytfamennpajjajaa
open Go.RowKit

set_option maxRecDepth 100000 in
set_option maxHeartbeats 2000000 in
theorem few53_any (ao : Option Addr) (vs : List Ev) (c : Nat) (s : ByteArray) (w : World) (R : Ending → World → Prop) (hl : vs.length * 56 ≤ 140737488355328) (hs : s.size ≤ 9223372036854775807) (hc : CellsAt w ao (eC vs)) (hv : LogOk vs)
   (hR : ∀ w', Below w.heap.size w w' → R (.returned (.bool (fwL vs && decide (s.size ≤ 60)))) w') :
    Calls Try.prog 9 #[.slice ao vs.length c, .string s] w R := by
  have HR := Lib.hid hR
  have HC := Lib.hid hc
  have HV := Lib.hid hv
  clear hR hc hv
  obtain ⟨F, hF⟩ : ∃ F, Hid (fwL vs = F) := ⟨_, rfl⟩
  go_enter Try.func9, Try.ntmps9
  go_wp2_with fail
  refine own53_any ao vs c _ _ hl HC.out ?_
  intro a2 c2 w2 hb2 h2 _
  have HB2 := Lib.hid hb2
  have H2 := Lib.hid h2
  clear hb2 h2
  go_wp2_with fail
  refine rfew_any a2 vs c2 _ _ (by omega) H2.out HV.out ?_
  rw [hF.out]
  rintro w3 ⟨q3, rfl⟩
  cases F with
  | true =>
    by_cases h6 : s.size ≤ 60
    · go_wp2_with fail
      exact ret_b (HR.out _ (HB2.out.trans ((Drew.refl _).drewN.below _))) rfl (by rw [hF.out]; simp [h6]; omega)
    · go_wp2_with fail
      exact ret_b (HR.out _ (HB2.out.trans ((Drew.refl _).drewN.below _))) rfl (by rw [hF.out]; simp [h6]; omega)
  | false =>
    go_wp2_with fail
    exact ret_b (HR.out _ (HB2.out.trans ((Drew.refl _).drewN.below _))) rfl (by rw [hF.out]; rfl)

/-- 'right'. -/
def rgL (vs : List Ev) : Bool := decide (vs.length ≤ 16) && (fwL vs && decide (chk3 vs = 0))
set_option maxRecDepth 100000 in
set_option maxHeartbeats 2000000 in
theorem right53_any (ao : Option Addr) (vs : List Ev) (c : Nat) (w : World) (R : Ending → World → Prop) (hl : vs.length * 56 ≤ 140737488355328) (hc : CellsAt w ao (eC vs)) (hv : LogOk vs)
   (hR : ∀ w', Below w.heap.size w w' → R (.returned (.bool (rgL vs))) w') :
    Calls Try.prog 28 #[.slice ao vs.length c] w R := by
  have HR := Lib.hid hR
  have HC := Lib.hid hc
  have HV := Lib.hid hv
  clear hR hc hv
  obtain ⟨F, hF⟩ : ∃ F, Hid (fwL vs = F) := ⟨_, rfl⟩
  obtain ⟨E, hE⟩ : ∃ E, Hid (chk3 vs = E) := ⟨_, rfl⟩
  have hX : Hid (rgL vs = (decide (vs.length ≤ 16) && (F && decide (E = 0)))) := by unfold Hid rgL; rw [hF.out, hE.out]
  by_cases h16 : vs.length ≤ 16
  · have hX1 : Hid (rgL vs = (F && decide (E = 0))) := by unfold Hid; rw [hX.out]; simp [h16]
    go_enter Try.func28, Try.ntmps28
    go_wp2_with fail
    refine few53_any ao vs c ⟨#[]⟩ _ _ hl (by decide) HC.out HV.out ?_
    rw [hF.out, show decide ((⟨#[]⟩ : ByteArray).size ≤ 60) = true from by decide, Bool.and_true]
    intro w2 hb2
    have HB2 := Lib.hid hb2
    clear hb2
    cases F with
    | true =>
      go_wp2_with fail
      refine own53_any ao vs c _ _ hl (HC.out.below HB2.out) ?_
      intro a3 c3 w3 hb3 h3 hcap
      have HB3 := Lib.hid (HB2.out.trans (hb3.mono HB2.out.size))
      have H3 := Lib.hid h3
      clear hb3 h3
      go_wp2_with fail
      refine rcheck53_any a3 vs c3 _ _ (by omega) hcap H3.out HV.out ?_
      rw [hE.out]
      intro w4 hb4
      have HB4 := Lib.hid (HB3.out.trans (hb4.mono HB3.out.size))
      clear hb4
      go_wp2_with fail
      exact ret_b (HR.out _ HB4.out) rfl (by rw [hX1.out]; by_cases h : E = 0 <;> simp [h])
    | false =>
      go_wp2_with fail
      exact ret_b (HR.out _ HB2.out) rfl (by rw [hX1.out]; rfl)
  · have hX1 : Hid (rgL vs = false) := by unfold Hid; rw [hX.out]; simp [h16]
    go_enter Try.func28, Try.ntmps28
    go_wp2_with fail
    exact ret_b (HR.out _ (Below.refl _ _)) rfl hX1.out

set_option maxRecDepth 100000 in
set_option maxHeartbeats 2000000 in
theorem equalS_same (ao ao2 : Option Addr) (ks : List ByteArray) (n c c2 : Nat) (w : World) (R : Ending → World → Prop) (hn : ks.length = n) (hn' : n ≤ 1000000) (hc : CellsAt w ao (sC ks)) (hc2 : CellsAt w ao2 (sC ks))
   (hR : ∀ w', Drew w w' → R (.returned (.bool true)) w') :
    Calls Try.prog 19 #[.slice ao n c, .slice ao2 n c2] w R := by
  subst hn
  have HR := Lib.hid hR
  have HC := Lib.hid hc
  have HC2 := Lib.hid hc2
  clear hR hc hc2
  go_enter Try.func19, Try.ntmps19
  go_wp2_with fail
  go_loopw [13] (fun j wr => ∃ k : Nat, k ≤ ks.length ∧ j = .int .i64 k ∧ Drew w wr) (fun j _ => ks.length - (intOf j).toNat)
  case atStart => exact ⟨0, Nat.zero_le _, rfl, Drew.refl _⟩
  case round =>
    obtain ⟨k, hk, rfl, ⟨q, rfl⟩⟩ := hrel
    by_cases hlt : k < ks.length
    · obtain ⟨b, o, rfl, _, hcell⟩ := HC.out.strs (by omega)
      have d0 := hcell k hlt
      clear hcell
      obtain ⟨b2, o2, rfl, _, hcell⟩ := HC2.out.strs (by omega)
      have d1 := hcell k hlt
      obtain ⟨u, hu⟩ : ∃ u, kat ks k = u := ⟨_, rfl⟩
      rw [hu] at d0 d1
      have hs1 : (u.toList == u.toList) = true := by simp
      clear hcell hu
      go_wp2_with fail
      go_quiet (fail)
      go_wp2_with fail
      exact ⟨⟨k + 1, by omega, by go_num, (by repeat first | exact Drew.refl _ | apply Drew.drewN)⟩, by simp [intOf]; omega⟩
    · go_wp2_with fail
      exact HR.out _ (by repeat first | exact Drew.refl _ | apply Drew.drewN)
set_option maxRecDepth 100000 in
set_option maxHeartbeats 2000000 in
theorem equalI_same (ao ao2 : Option Addr) (xs : List Int) (n c c2 : Nat) (w : World) (R : Ending → World → Prop) (hn : xs.length = n) (hn' : n ≤ 1000000) (hc : CellsAt w ao (I64s xs)) (hc2 : CellsAt w ao2 (I64s xs))
   (hR : ∀ w', Drew w w' → R (.returned (.bool true)) w') :
    Calls Try.prog 18 #[.slice ao n c, .slice ao2 n c2] w R := by
  subst hn
  have HR := Lib.hid hR
  have HC := Lib.hid hc
  have HC2 := Lib.hid hc2
  clear hR hc hc2
  go_enter Try.func18, Try.ntmps18
  go_wp2_with fail
  go_loopw [13] (fun j wr => ∃ k : Nat, k ≤ xs.length ∧ j = .int .i64 k ∧ Drew w wr) (fun j _ => xs.length - (intOf j).toNat)
  case atStart => exact ⟨0, Nat.zero_le _, rfl, Drew.refl _⟩
  case round =>
    obtain ⟨k, hk, rfl, ⟨q, rfl⟩⟩ := hrel
    by_cases hlt : k < xs.length
    · obtain ⟨b, o, rfl, _, hcell⟩ := HC.out.ints (by omega)
      have d0 := hcell k hlt
      clear hcell
      obtain ⟨b2, o2, rfl, _, hcell⟩ := HC2.out.ints (by omega)
      have d1 := hcell k hlt
      obtain ⟨u, hu⟩ : ∃ u, at0 xs k = u := ⟨_, rfl⟩
      rw [hu] at d0 d1
      have hs1 : (u != u) = false := by simp
      clear hcell hu
      go_wp2_with fail
      go_quiet (fail)
      go_wp2_with fail
      exact ⟨⟨k + 1, by omega, by go_num, (by repeat first | exact Drew.refl _ | apply Drew.drewN)⟩, by simp [intOf]; omega⟩
    · go_wp2_with fail
      exact HR.out _ (by repeat first | exact Drew.refl _ | apply Drew.drewN)
end Go.Proofs.Ytfamennpajjajaa
