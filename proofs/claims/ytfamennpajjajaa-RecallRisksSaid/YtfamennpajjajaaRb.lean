/- The walks of letters, digits and names, of the program and of the reference. -/
import Derived.Test.YtfamennpajjajaaRa
import Derived.Test.YtfamennpajjajaaChecked
import Derived.Lib.ConvBytes
import Derived.Lib.AtoiErrMem
namespace Go.Proofs.Ytfamennpajjajaa
open Go.RowKit

theorem letter_any (c : UInt8) (w : World) (R : Ending → World → Prop) (hR : R (.returned (.bool (letC c))) w) :
    Calls Try.prog 70 #[.int .u8 (c.toNat : Int)] w R := by
  have HR := Lib.hid hR
  clear hR
  have hE : Hid (letC c = ((decide (65 ≤ c.toNat) && decide (c.toNat ≤ 90)) || (decide (97 ≤ c.toNat) && decide (c.toNat ≤ 122)))) := rfl
  by_cases h1 : 65 ≤ c.toNat <;> by_cases h2 : c.toNat ≤ 90 <;> by_cases h3 : 97 ≤ c.toNat <;> by_cases h4 : c.toNat ≤ 122
  all_goals (try (exfalso; omega))
  all_goals
    go_enter Try.func70, Try.ntmps70
    go_wp2_with fail
    exact ret_b HR.out rfl (by rw [hE.out]; simp [h1, h2, h3, h4] <;> omega)
theorem rletter_any (c : UInt8) (w : World) (R : Ending → World → Prop) (hR : R (.returned (.bool (letC c))) w) :
    Calls Try.prog 59 #[.int .u8 (c.toNat : Int)] w R := by
  have HR := Lib.hid hR
  clear hR
  have hE : Hid (letC c = ((decide (65 ≤ c.toNat) && decide (c.toNat ≤ 90)) || (decide (97 ≤ c.toNat) && decide (c.toNat ≤ 122)))) := rfl
  by_cases h1 : 65 ≤ c.toNat <;> by_cases h2 : c.toNat ≤ 90 <;> by_cases h3 : 97 ≤ c.toNat <;> by_cases h4 : c.toNat ≤ 122
  all_goals (try (exfalso; omega))
  all_goals
    go_enter Try.func59, Try.ntmps59
    go_wp2_with fail
    exact ret_b HR.out rfl (by rw [hE.out]; simp [h1, h2, h3, h4] <;> omega)
theorem digit_any (c : UInt8) (w : World) (R : Ending → World → Prop) (hR : R (.returned (.bool (digC c))) w) :
    Calls Try.prog 71 #[.int .u8 (c.toNat : Int)] w R := by
  have HR := Lib.hid hR
  clear hR
  have hE : Hid (digC c = (decide (48 ≤ c.toNat) && decide (c.toNat ≤ 57))) := rfl
  by_cases h1 : 48 ≤ c.toNat <;> by_cases h2 : c.toNat ≤ 57
  all_goals (try (exfalso; omega))
  all_goals
    go_enter Try.func71, Try.ntmps71
    go_wp2_with fail
    exact ret_b HR.out rfl (by rw [hE.out]; simp [h1, h2] <;> omega)
theorem sAt {s : ByteArray} {k : Nat} (h : k < s.size) : s.data.toList.getD k 0 = s[k] := by
  rw [List.getD_eq_getElem?_getD, List.getElem?_eq_getElem (by simpa using h)]; rfl

set_option maxHeartbeats 1000000 in
theorem rname_any (s : ByteArray) (w : World) (R : Ending → World → Prop) (hs : s.size ≤ 9223372036854775807) (hR : R (.returned (.int .i64 (nmE s))) w) :
    Calls Try.prog 32 #[.string s] w R := by
  have HR := Lib.hid hR
  clear hR
  have HE : Hid (nmE s = if 24 < s.size then 17 else if s.size = 0 then 3 else if letC (s.data.toList.getD 0 0) = true then chkR (loopE (ndF s) s.size 0 ()) else 3) := rfl
  by_cases h24 : 24 < s.size
  · have h24' : decide ((24 : Int) < (s.size : Int)) = true := by rw [decide_eq_true_eq]; omega
    go_enter Try.func32, Try.ntmps32
    go_wp2_with fail
    exact ret_i HR.out rfl (by rw [HE.out, if_pos h24])
  · have h24' : decide ((24 : Int) < (s.size : Int)) = false := by rw [decide_eq_false_iff_not]; omega
    by_cases h0 : s.size = 0
    · have h0' : ((s.size : Int) == 0) = true := by rw [beq_iff_eq]; omega
      go_enter Try.func32, Try.ntmps32
      go_wp2_with fail
      exact ret_i HR.out rfl (by rw [HE.out, if_neg h24, if_pos h0])
    · have h0' : ((s.size : Int) == 0) = false := by rw [beq_eq_false_iff_ne]; omega
      have hlt0 : 0 < s.size := by omega
      have hs0 := sAt hlt0
      by_cases hl0 : letC s[0] = true
      · have HL0 := Lib.hid hl0
        have HE2 : Hid (nmE s = chkR (loopE (ndF s) s.size 0 ())) := by unfold Hid; rw [HE.out, if_neg h24, if_neg h0, if_pos (by rw [hs0]; exact hl0)]
        clear hl0 hs0
        go_enter Try.func32, Try.ntmps32
        go_wp2_with fail
        refine rletter_any s[0] _ _ ?_
        rw [HL0.out]
        go_wp2_with fail
        go_loop [3] (fun i => ∃ k : Nat, k ≤ s.size ∧ i = .int .i64 k ∧ Hid (loopE (ndF s) (s.size - k) k () = loopE (ndF s) s.size 0 ())) (fun i => s.size - (intOf i).toNat)
        case atStart => exact ⟨0, Nat.zero_le _, rfl, rfl⟩
        case round =>
          obtain ⟨k, hk, rfl, hL⟩ := hrel
          by_cases hlt : k < s.size
          · have hc := sAt hlt
            by_cases hl : letC s[k] = true
            · have HL := Lib.hid hl
              have HF : Hid (ndF s k () = .inl ()) := by unfold Hid ndF; rw [hc, if_pos hl]
              clear hc hl
              go_wp2_with fail
              refine rletter_any s[k] _ _ ?_
              rw [HL.out]
              go_wp2_with fail
              exact ⟨⟨k + 1, by omega, by go_num, loopE_step hL hlt HF.out⟩, by simp [intOf]; omega⟩
            · have HL : Hid (letC s[k] = false) := by unfold Hid; simpa using hl
              by_cases hd : digC s[k] = true
              · have HF : Hid (ndF s k () = .inl ()) := by unfold Hid ndF; rw [hc, if_neg hl, if_pos hd]
                have hd1 : 48 ≤ s[k].toNat ∧ s[k].toNat ≤ 57 := by unfold digC at hd; rwa [Bool.and_eq_true, decide_eq_true_eq, decide_eq_true_eq] at hd
                obtain ⟨hd2, hd3⟩ := hd1
                clear hc hl hd
                go_wp2_with fail
                refine rletter_any s[k] _ _ ?_
                rw [HL.out]
                go_wp2_with fail
                exact ⟨⟨k + 1, by omega, by go_num, loopE_step hL hlt HF.out⟩, by simp [intOf]; omega⟩
              · have HF : Hid (ndF s k () = .inr 3) := by unfold Hid ndF; rw [hc, if_neg hl, if_neg hd]
                have hd1 : ¬ (48 ≤ s[k].toNat ∧ s[k].toNat ≤ 57) := fun h => hd (by unfold digC; rw [Bool.and_eq_true, decide_eq_true_eq, decide_eq_true_eq]; exact h)
                have HR3 : Hid (nmE s = 3) := by unfold Hid; rw [HE2.out, loopE_hit hL hlt HF.out]; rfl
                clear hc hl hd
                by_cases g : s[k].toNat < 48
                all_goals
                  go_wp2_with fail
                  refine rletter_any s[k] _ _ ?_
                  rw [HL.out]
                  go_wp2_with fail
                  exact ret_i HR.out rfl HR3.out
          · have HR0 : Hid (nmE s = 0) := by unfold Hid; rw [HE2.out, loopE_done hL hlt]; rfl
            go_wp2_with fail
            exact ret_i HR.out rfl HR0.out
      · have HL0 : Hid (letC s[0] = false) := by unfold Hid; simpa using hl0
        have HE2 : Hid (nmE s = 3) := by unfold Hid; rw [HE.out, if_neg h24, if_neg h0, if_neg (by rw [hs0]; exact hl0)]
        clear hl0 hs0
        go_enter Try.func32, Try.ntmps32
        go_wp2_with fail
        refine rletter_any s[0] _ _ ?_
        rw [HL0.out]
        go_wp2_with fail
        exact ret_i HR.out rfl HE2.out

set_option maxRecDepth 100000 in
set_option maxHeartbeats 2000000 in
theorem name_any (s : ByteArray) (w : World) (R : Ending → World → Prop) (hs : s.size ≤ 9223372036854775807) (hR : ∀ w', Below w.heap.size w w' → R (.returned (.int .i64 (nmE s))) w') :
    Calls Try.prog 49 #[.string s] w R := by
  have HR := Lib.hid hR
  clear hR
  have HE : Hid (nmE s = if 24 < s.size then 17 else if s.size = 0 then 3 else if letC (s.data.toList.getD 0 0) = true then chkR (loopE (ndF s) s.size 0 ()) else 3) := rfl
  by_cases h24 : 24 < s.size
  · have h24' : decide ((24 : Int) < (s.size : Int)) = true := by rw [decide_eq_true_eq]; omega
    go_enter Try.func49, Try.ntmps49
    go_wp2_with fail
    exact ret_i (HR.out _ (Below.refl _ _)) rfl (by rw [HE.out, if_pos h24])
  · have h24' : decide ((24 : Int) < (s.size : Int)) = false := by rw [decide_eq_false_iff_not]; omega
    by_cases h0 : s.size = 0
    · have h0' := empty_of h0
      go_enter Try.func49, Try.ntmps49
      go_wp2_with fail
      exact ret_i (HR.out _ (Below.refl _ _)) rfl (by rw [HE.out, if_neg h24, if_pos h0])
    · have h0' := nempty_of h0
      have hlt0 : 0 < s.size := by omega
      have hs0 := sAt hlt0
      by_cases hl0 : letC s[0] = true
      · have HL0 := Lib.hid hl0
        have HE2 : Hid (nmE s = chkR (loopE (ndF s) s.size 0 ())) := by unfold Hid; rw [HE.out, if_neg h24, if_neg h0, if_pos (by rw [hs0]; exact hl0)]
        clear hl0 hs0
        go_enter Try.func49, Try.ntmps49
        go_wp2_with fail
        refine letter_any s[0] _ _ ?_
        rw [HL0.out]
        have hcv := fun w => Lib.run_convert_string_bytes (P := Try.prog) w 9 104 5 s Try.underlying9 Try.underlying104 Try.underlying5
        go_wp2_with fail
        clear hcv
        have HBW : Hid (Below w.heap.size w (Lib.bytesWorld w 5 s)) := Lib.bytesWorld_below w _ s
        have HCW : Hid (∀ j, j < s.size → (Lib.bytesWorld w 5 s).cell? ⟨w.heap.size, j, none⟩ = some (.int .u8 (s.data.toList.getD j 0).toNat)) := fun j hj => Lib.bytesWorld_cell w _ s j hj
        obtain ⟨W, hW⟩ : ∃ W, Lib.bytesWorld w 5 s = W := ⟨_, rfl⟩
        obtain ⟨C, hC⟩ : ∃ C, grownCap w s.size 0 5 = C := ⟨_, rfl⟩
        rw [hW] at HBW HCW ⊢
        rw [hC]
        clear hW hC
        go_loop [19] (fun i => ∃ k : Nat, k ≤ s.size ∧ i = .int .i64 k ∧ Hid (loopE (ndF s) (s.size - k) k () = loopE (ndF s) s.size 0 ())) (fun i => s.size - (intOf i).toNat)
        case atStart => exact ⟨0, Nat.zero_le _, rfl, rfl⟩
        case round =>
          obtain ⟨k, hk, rfl, hL⟩ := hrel
          by_cases hlt : k < s.size
          · have hc := sAt hlt
            have hcell := HCW.out k hlt
            rw [hc] at hcell
            by_cases hl : letC s[k] = true
            · have HL := Lib.hid hl
              have HF : Hid (ndF s k () = .inl ()) := by unfold Hid ndF; rw [hc, if_pos hl]
              clear hc hl
              go_wp2_with fail
              refine letter_any s[k] _ _ ?_
              rw [HL.out]
              go_wp2_with fail
              exact ⟨⟨k + 1, by omega, by go_num, loopE_step hL hlt HF.out⟩, by simp [intOf]; omega⟩
            · have HL : Hid (letC s[k] = false) := by unfold Hid; simpa using hl
              by_cases hd : digC s[k] = true
              · have HF : Hid (ndF s k () = .inl ()) := by unfold Hid ndF; rw [hc, if_neg hl, if_pos hd]
                have HD := Lib.hid hd
                clear hc hl hd
                go_wp2_with fail
                refine letter_any s[k] _ _ ?_
                rw [HL.out]
                go_wp2_with fail
                refine digit_any s[k] _ _ ?_
                rw [HD.out]
                go_wp2_with fail
                exact ⟨⟨k + 1, by omega, by go_num, loopE_step hL hlt HF.out⟩, by simp [intOf]; omega⟩
              · have HF : Hid (ndF s k () = .inr 3) := by unfold Hid ndF; rw [hc, if_neg hl, if_neg hd]
                have HR3 : Hid (nmE s = 3) := by unfold Hid; rw [HE2.out, loopE_hit hL hlt HF.out]; rfl
                have HD : Hid (digC s[k] = false) := by unfold Hid; simpa using hd
                clear hc hl hd
                go_wp2_with fail
                refine letter_any s[k] _ _ ?_
                rw [HL.out]
                go_wp2_with fail
                refine digit_any s[k] _ _ ?_
                rw [HD.out]
                go_wp2_with fail
                exact ret_i (HR.out _ HBW.out) rfl HR3.out
          · have HR0 : Hid (nmE s = 0) := by unfold Hid; rw [HE2.out, loopE_done hL hlt]; rfl
            go_wp2_with fail
            exact ret_i (HR.out _ HBW.out) rfl HR0.out
      · have HL0 : Hid (letC s[0] = false) := by unfold Hid; simpa using hl0
        have HE2 : Hid (nmE s = 3) := by unfold Hid; rw [HE.out, if_neg h24, if_neg h0, if_neg (by rw [hs0]; exact hl0)]
        clear hl0 hs0
        go_enter Try.func49, Try.ntmps49
        go_wp2_with fail
        refine letter_any s[0] _ _ ?_
        rw [HL0.out]
        go_wp2_with fail
        exact ret_i (HR.out _ (Below.refl _ _)) rfl HE2.out
end Go.Proofs.Ytfamennpajjajaa
