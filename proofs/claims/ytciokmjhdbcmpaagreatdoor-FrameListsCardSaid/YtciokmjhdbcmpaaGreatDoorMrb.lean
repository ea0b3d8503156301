/- The walks of letters, digits and names, of the program and of the reference. The walks of Check, Valid of package dimension and of reference 17; Axis. Features and frames as data; what their checks compute. No program in sight. The walks of in, ranged and Check of package feature, of Check of reference 18. (Printed by gen_ftcheck.py.) The walk of Few of references 18 and 19. slices.ContainsFunc at datums; the closures that are handed to it. -/
import Derived.Test.YtciokmjhdbcmpaaGreatDoorMlib
import Derived.Test.YtciokmjhdbcmpaaGreatDoorChecked
import Derived.Lib.ConvBytes
import Derived.Lib.AtoiErrMem
import Derived.Deep.RegionHeld3
import Derived.RangeFuncBox
namespace Go.Proofs.YtciokmjhdbcmpaaGreatDoor
open Go.RowKit

theorem letter_any (c : UInt8) (w : World) (R : Ending → World → Prop) (hR : R (.returned (.bool (letC c))) w) :
    Calls Tryz.prog 86 #[.int .u8 (c.toNat : Int)] w R := by
  have HR := Lib.hid hR
  clear hR
  have hE : Hid (letC c = ((decide (65 ≤ c.toNat) && decide (c.toNat ≤ 90)) || (decide (97 ≤ c.toNat) && decide (c.toNat ≤ 122)))) := rfl
  by_cases h1 : 65 ≤ c.toNat <;> by_cases h2 : c.toNat ≤ 90 <;> by_cases h3 : 97 ≤ c.toNat <;> by_cases h4 : c.toNat ≤ 122
  all_goals (try (exfalso; omega))
  all_goals
    go_enter Tryz.func86, Tryz.ntmps86
    go_wp2_with fail
    exact ret_b HR.out rfl (by rw [hE.out]; simp [h1, h2, h3, h4] <;> omega)
theorem rletter_any (c : UInt8) (w : World) (R : Ending → World → Prop) (hR : R (.returned (.bool (letC c))) w) :
    Calls Tryz.prog 111 #[.int .u8 (c.toNat : Int)] w R := by
  have HR := Lib.hid hR
  clear hR
  have hE : Hid (letC c = ((decide (65 ≤ c.toNat) && decide (c.toNat ≤ 90)) || (decide (97 ≤ c.toNat) && decide (c.toNat ≤ 122)))) := rfl
  by_cases h1 : 65 ≤ c.toNat <;> by_cases h2 : c.toNat ≤ 90 <;> by_cases h3 : 97 ≤ c.toNat <;> by_cases h4 : c.toNat ≤ 122
  all_goals (try (exfalso; omega))
  all_goals
    go_enter Tryz.func111, Tryz.ntmps111
    go_wp2_with fail
    exact ret_b HR.out rfl (by rw [hE.out]; simp [h1, h2, h3, h4] <;> omega)
theorem digit_any (c : UInt8) (w : World) (R : Ending → World → Prop) (hR : R (.returned (.bool (digC c))) w) :
    Calls Tryz.prog 87 #[.int .u8 (c.toNat : Int)] w R := by
  have HR := Lib.hid hR
  clear hR
  have hE : Hid (digC c = (decide (48 ≤ c.toNat) && decide (c.toNat ≤ 57))) := rfl
  by_cases h1 : 48 ≤ c.toNat <;> by_cases h2 : c.toNat ≤ 57
  all_goals (try (exfalso; omega))
  all_goals
    go_enter Tryz.func87, Tryz.ntmps87
    go_wp2_with fail
    exact ret_b HR.out rfl (by rw [hE.out]; simp [h1, h2] <;> omega)
theorem sAt {s : ByteArray} {k : Nat} (h : k < s.size) : s.data.toList.getD k 0 = s[k] := by
  rw [List.getD_eq_getElem?_getD, List.getElem?_eq_getElem (by simpa using h)]; rfl

set_option maxHeartbeats 1000000 in
theorem rname_any (s : ByteArray) (w : World) (R : Ending → World → Prop) (hs : s.size ≤ 9223372036854775807) (hR : R (.returned (.int .i64 (nmE s))) w) :
    Calls Tryz.prog 80 #[.string s] w R := by
  have HR := Lib.hid hR
  clear hR
  have HE : Hid (nmE s = if 24 < s.size then 17 else if s.size = 0 then 3 else if letC (s.data.toList.getD 0 0) = true then chkR (loopE (ndF s) s.size 0 ()) else 3) := rfl
  by_cases h24 : 24 < s.size
  · have h24' : decide ((24 : Int) < (s.size : Int)) = true := by rw [decide_eq_true_eq]; omega
    go_enter Tryz.func80, Tryz.ntmps80
    go_wp2_with fail
    exact ret_i HR.out rfl (by rw [HE.out, if_pos h24])
  · have h24' : decide ((24 : Int) < (s.size : Int)) = false := by rw [decide_eq_false_iff_not]; omega
    by_cases h0 : s.size = 0
    · have h0' : ((s.size : Int) == 0) = true := by rw [beq_iff_eq]; omega
      go_enter Tryz.func80, Tryz.ntmps80
      go_wp2_with fail
      exact ret_i HR.out rfl (by rw [HE.out, if_neg h24, if_pos h0])
    · have h0' : ((s.size : Int) == 0) = false := by rw [beq_eq_false_iff_ne]; omega
      have hlt0 : 0 < s.size := by omega
      have hs0 := sAt hlt0
      by_cases hl0 : letC s[0] = true
      · have HL0 := Lib.hid hl0
        have HE2 : Hid (nmE s = chkR (loopE (ndF s) s.size 0 ())) := by unfold Hid; rw [HE.out, if_neg h24, if_neg h0, if_pos (by rw [hs0]; exact hl0)]
        clear hl0 hs0
        go_enter Tryz.func80, Tryz.ntmps80
        go_wp2_with fail
        refine rletter_any s[0] _ _ ?_
        rw [HL0.out]
        go_wp2_with fail
        go_loop [3] (fun i => ∃ k : Nat, k ≤ s.size ∧ i = .int .i64 k ∧ Hid (loopE (ndF s) (s.size - k) k () = loopE (ndF s) s.size 0 ())) (fun i => s.size - (intOf i).toNat)
        case atStart => exact ⟨0, Nat.zero_le _, rfl, rfl⟩
        case round =>
          obtain ⟨k, hk, rfl, hL⟩ := hrel
          by_cases hlt : k < s.size
          · have hc := sAt hlt
            by_cases hl : letC s[k] = true
            · have HL := Lib.hid hl
              have HF : Hid (ndF s k () = .inl ()) := by unfold Hid ndF; rw [hc, if_pos hl]
              clear hc hl
              go_wp2_with fail
              refine rletter_any s[k] _ _ ?_
              rw [HL.out]
              go_wp2_with fail
              exact ⟨⟨k + 1, by omega, by go_num, loopE_step hL hlt HF.out⟩, by simp [intOf]; omega⟩
            · have HL : Hid (letC s[k] = false) := by unfold Hid; simpa using hl
              by_cases hd : digC s[k] = true
              · have HF : Hid (ndF s k () = .inl ()) := by unfold Hid ndF; rw [hc, if_neg hl, if_pos hd]
                have hd1 : 48 ≤ s[k].toNat ∧ s[k].toNat ≤ 57 := by unfold digC at hd; rwa [Bool.and_eq_true, decide_eq_true_eq, decide_eq_true_eq] at hd
                obtain ⟨hd2, hd3⟩ := hd1
                clear hc hl hd
                go_wp2_with fail
                refine rletter_any s[k] _ _ ?_
                rw [HL.out]
                go_wp2_with fail
                exact ⟨⟨k + 1, by omega, by go_num, loopE_step hL hlt HF.out⟩, by simp [intOf]; omega⟩
              · have HF : Hid (ndF s k () = .inr 3) := by unfold Hid ndF; rw [hc, if_neg hl, if_neg hd]
                have hd1 : ¬ (48 ≤ s[k].toNat ∧ s[k].toNat ≤ 57) := fun h => hd (by unfold digC; rw [Bool.and_eq_true, decide_eq_true_eq, decide_eq_true_eq]; exact h)
                have HR3 : Hid (nmE s = 3) := by unfold Hid; rw [HE2.out, loopE_hit hL hlt HF.out]; rfl
                clear hc hl hd
                by_cases g : s[k].toNat < 48
                all_goals
                  go_wp2_with fail
                  refine rletter_any s[k] _ _ ?_
                  rw [HL.out]
                  go_wp2_with fail
                  exact ret_i HR.out rfl HR3.out
          · have HR0 : Hid (nmE s = 0) := by unfold Hid; rw [HE2.out, loopE_done hL hlt]; rfl
            go_wp2_with fail
            exact ret_i HR.out rfl HR0.out
      · have HL0 : Hid (letC s[0] = false) := by unfold Hid; simpa using hl0
        have HE2 : Hid (nmE s = 3) := by unfold Hid; rw [HE.out, if_neg h24, if_neg h0, if_neg (by rw [hs0]; exact hl0)]
        clear hl0 hs0
        go_enter Tryz.func80, Tryz.ntmps80
        go_wp2_with fail
        refine rletter_any s[0] _ _ ?_
        rw [HL0.out]
        go_wp2_with fail
        exact ret_i HR.out rfl HE2.out

set_option maxRecDepth 100000 in
set_option maxHeartbeats 2000000 in
theorem name_any (s : ByteArray) (w : World) (R : Ending → World → Prop) (hs : s.size ≤ 9223372036854775807) (hR : ∀ w', Below w.heap.size w w' → R (.returned (.int .i64 (nmE s))) w') :
    Calls Tryz.prog 48 #[.string s] w R := by
  have HR := Lib.hid hR
  clear hR
  have HE : Hid (nmE s = if 24 < s.size then 17 else if s.size = 0 then 3 else if letC (s.data.toList.getD 0 0) = true then chkR (loopE (ndF s) s.size 0 ()) else 3) := rfl
  by_cases h24 : 24 < s.size
  · have h24' : decide ((24 : Int) < (s.size : Int)) = true := by rw [decide_eq_true_eq]; omega
    go_enter Tryz.func48, Tryz.ntmps48
    go_wp2_with fail
    exact ret_i (HR.out _ (Below.refl _ _)) rfl (by rw [HE.out, if_pos h24])
  · have h24' : decide ((24 : Int) < (s.size : Int)) = false := by rw [decide_eq_false_iff_not]; omega
    by_cases h0 : s.size = 0
    · have h0' := empty_of h0
      go_enter Tryz.func48, Tryz.ntmps48
      go_wp2_with fail
      exact ret_i (HR.out _ (Below.refl _ _)) rfl (by rw [HE.out, if_neg h24, if_pos h0])
    · have h0' := nempty_of h0
      have hlt0 : 0 < s.size := by omega
      have hs0 := sAt hlt0
      by_cases hl0 : letC s[0] = true
      · have HL0 := Lib.hid hl0
        have HE2 : Hid (nmE s = chkR (loopE (ndF s) s.size 0 ())) := by unfold Hid; rw [HE.out, if_neg h24, if_neg h0, if_pos (by rw [hs0]; exact hl0)]
        clear hl0 hs0
        go_enter Tryz.func48, Tryz.ntmps48
        go_wp2_with fail
        refine letter_any s[0] _ _ ?_
        rw [HL0.out]
        have hcv := fun w => Lib.run_convert_string_bytes (P := Tryz.prog) w 9 130 5 s Tryz.underlying9 Tryz.underlying130 Tryz.underlying5
        go_wp2_with fail
        clear hcv
        have HBW : Hid (Below w.heap.size w (Lib.bytesWorld w 5 s)) := Lib.bytesWorld_below w _ s
        have HCW : Hid (∀ j, j < s.size → (Lib.bytesWorld w 5 s).cell? ⟨w.heap.size, j, none⟩ = some (.int .u8 (s.data.toList.getD j 0).toNat)) := fun j hj => Lib.bytesWorld_cell w _ s j hj
        obtain ⟨W, hW⟩ : ∃ W, Lib.bytesWorld w 5 s = W := ⟨_, rfl⟩
        obtain ⟨C, hC⟩ : ∃ C, grownCap w s.size 0 5 = C := ⟨_, rfl⟩
        rw [hW] at HBW HCW ⊢
        rw [hC]
        clear hW hC
        go_loop [19] (fun i => ∃ k : Nat, k ≤ s.size ∧ i = .int .i64 k ∧ Hid (loopE (ndF s) (s.size - k) k () = loopE (ndF s) s.size 0 ())) (fun i => s.size - (intOf i).toNat)
        case atStart => exact ⟨0, Nat.zero_le _, rfl, rfl⟩
        case round =>
          obtain ⟨k, hk, rfl, hL⟩ := hrel
          by_cases hlt : k < s.size
          · have hc := sAt hlt
            have hcell := HCW.out k hlt
            rw [hc] at hcell
            by_cases hl : letC s[k] = true
            · have HL := Lib.hid hl
              have HF : Hid (ndF s k () = .inl ()) := by unfold Hid ndF; rw [hc, if_pos hl]
              clear hc hl
              go_wp2_with fail
              refine letter_any s[k] _ _ ?_
              rw [HL.out]
              go_wp2_with fail
              exact ⟨⟨k + 1, by omega, by go_num, loopE_step hL hlt HF.out⟩, by simp [intOf]; omega⟩
            · have HL : Hid (letC s[k] = false) := by unfold Hid; simpa using hl
              by_cases hd : digC s[k] = true
              · have HF : Hid (ndF s k () = .inl ()) := by unfold Hid ndF; rw [hc, if_neg hl, if_pos hd]
                have HD := Lib.hid hd
                clear hc hl hd
                go_wp2_with fail
                refine letter_any s[k] _ _ ?_
                rw [HL.out]
                go_wp2_with fail
                refine digit_any s[k] _ _ ?_
                rw [HD.out]
                go_wp2_with fail
                exact ⟨⟨k + 1, by omega, by go_num, loopE_step hL hlt HF.out⟩, by simp [intOf]; omega⟩
              · have HF : Hid (ndF s k () = .inr 3) := by unfold Hid ndF; rw [hc, if_neg hl, if_neg hd]
                have HR3 : Hid (nmE s = 3) := by unfold Hid; rw [HE2.out, loopE_hit hL hlt HF.out]; rfl
                have HD : Hid (digC s[k] = false) := by unfold Hid; simpa using hd
                clear hc hl hd
                go_wp2_with fail
                refine letter_any s[k] _ _ ?_
                rw [HL.out]
                go_wp2_with fail
                refine digit_any s[k] _ _ ?_
                rw [HD.out]
                go_wp2_with fail
                exact ret_i (HR.out _ HBW.out) rfl HR3.out
          · have HR0 : Hid (nmE s = 0) := by unfold Hid; rw [HE2.out, loopE_done hL hlt]; rfl
            go_wp2_with fail
            exact ret_i (HR.out _ HBW.out) rfl HR0.out
      · have HL0 : Hid (letC s[0] = false) := by unfold Hid; simpa using hl0
        have HE2 : Hid (nmE s = 3) := by unfold Hid; rw [HE.out, if_neg h24, if_neg h0, if_neg (by rw [hs0]; exact hl0)]
        clear hl0 hs0
        go_enter Tryz.func48, Tryz.ntmps48
        go_wp2_with fail
        refine letter_any s[0] _ _ ?_
        rw [HL0.out]
        go_wp2_with fail
        exact ret_i (HR.out _ (Below.refl _ _)) rfl HE2.out
end Go.Proofs.YtciokmjhdbcmpaaGreatDoor
namespace Go.Proofs.YtciokmjhdbcmpaaGreatDoor
open Go.RowKit

theorem ranged_any (n : Int) (w : World) (R : Ending → World → Prop) (hR : R (.returned (.bool (inR n))) w) : Calls Tryz.prog 109 #[.int .i64 n] w R := by
  have HR := Lib.hid hR
  clear hR
  by_cases h1 : -100000 ≤ n
  · by_cases h2 : n ≤ 100000
    all_goals
      go_enter Tryz.func109, Tryz.ntmps109
      go_wp2_with fail
      exact ret_b HR.out rfl (by unfold inR; simp [h1, h2] <;> omega)
  · go_enter Tryz.func109, Tryz.ntmps109
    go_wp2_with fail
    exact ret_b HR.out rfl (by unfold inR; simp <;> omega)
theorem rin_any (n : Int) (w : World) (R : Ending → World → Prop) (hR : R (.returned (.bool (inR n))) w) : Calls Tryz.prog 81 #[.int .i64 n] w R := by
  have HR := Lib.hid hR
  clear hR
  by_cases h1 : -100000 ≤ n
  · by_cases h2 : n ≤ 100000
    all_goals
      go_enter Tryz.func81, Tryz.ntmps81
      go_wp2_with fail
      exact ret_b HR.out rfl (by unfold inR; simp [h1, h2] <;> omega)
  · go_enter Tryz.func81, Tryz.ntmps81
    go_wp2_with fail
    exact ret_b HR.out rfl (by unfold inR; simp <;> omega)
set_option maxRecDepth 100000 in
set_option maxHeartbeats 2000000 in
theorem check17_any (l h : Int) (w : World) (R : Ending → World → Prop) (hR : ∀ w', Below w.heap.size w w' → R (.returned (.int .i64 (lmE l h))) w') :
    Calls Tryz.prog 77 #[.agg #[.int .i64 l, .int .i64 h]] w R := by
  have HR := Lib.hid hR
  have HA : Hid (Below w.heap.size w (w.alloc (.cells #[.int .i64 l, .int .i64 h] 25))) := (Below.refl _ _).alloc (Nat.le_refl _) _
  clear hR
  cases e1 : inR l with
  | true =>
    cases e2 : inR h with
    | true =>
      by_cases e3 : h < l
      · have e : Hid (lmE l h = 9) := by unfold Hid lmE; rw [if_pos ⟨e1, e2⟩, if_pos e3]
        go_enter Tryz.func77, Tryz.ntmps77
        go_wp2_with fail
        refine ranged_any l _ _ ?_
        rw [e1]
        go_wp2_with fail
        refine ranged_any h _ _ ?_
        rw [e2]
        clear e1 e2
        go_wp2_with fail
        exact ret_i (HR.out _ HA.out) rfl e.out
      · have e : Hid (lmE l h = 0) := by unfold Hid lmE; rw [if_pos ⟨e1, e2⟩, if_neg e3]
        go_enter Tryz.func77, Tryz.ntmps77
        go_wp2_with fail
        refine ranged_any l _ _ ?_
        rw [e1]
        go_wp2_with fail
        refine ranged_any h _ _ ?_
        rw [e2]
        clear e1 e2
        go_wp2_with fail
        exact ret_i (HR.out _ HA.out) rfl e.out
    | false =>
      have e : Hid (lmE l h = 2) := by unfold Hid lmE; rw [if_neg (by rw [e2]; simp)]
      go_enter Tryz.func77, Tryz.ntmps77
      go_wp2_with fail
      refine ranged_any l _ _ ?_
      rw [e1]
      go_wp2_with fail
      refine ranged_any h _ _ ?_
      rw [e2]
      clear e1 e2
      go_wp2_with fail
      exact ret_i (HR.out _ HA.out) rfl e.out
  | false =>
    have e : Hid (lmE l h = 2) := by unfold Hid lmE; rw [if_neg (by rw [e1]; simp)]
    go_enter Tryz.func77, Tryz.ntmps77
    go_wp2_with fail
    refine ranged_any l _ _ ?_
    rw [e1]
    clear e1
    go_wp2_with fail
    exact ret_i (HR.out _ HA.out) rfl e.out
set_option maxRecDepth 100000 in
set_option maxHeartbeats 2000000 in
theorem rcheck17_any (l h : Int) (w : World) (R : Ending → World → Prop) (hR : ∀ w', Below w.heap.size w w' → R (.returned (.int .i64 (lmE l h))) w') :
    Calls Tryz.prog 82 #[.agg #[.int .i64 l, .int .i64 h]] w R := by
  have HR := Lib.hid hR
  have HA : Hid (Below w.heap.size w (w.alloc (.cells #[.int .i64 l, .int .i64 h] 25))) := (Below.refl _ _).alloc (Nat.le_refl _) _
  clear hR
  cases e1 : inR l with
  | true =>
    cases e2 : inR h with
    | true =>
      by_cases e3 : h < l
      · have e : Hid (lmE l h = 9) := by unfold Hid lmE; rw [if_pos ⟨e1, e2⟩, if_pos e3]
        go_enter Tryz.func82, Tryz.ntmps82
        go_wp2_with fail
        refine rin_any l _ _ ?_
        rw [e1]
        go_wp2_with fail
        refine rin_any h _ _ ?_
        rw [e2]
        clear e1 e2
        go_wp2_with fail
        exact ret_i (HR.out _ HA.out) rfl e.out
      · have e : Hid (lmE l h = 0) := by unfold Hid lmE; rw [if_pos ⟨e1, e2⟩, if_neg e3]
        go_enter Tryz.func82, Tryz.ntmps82
        go_wp2_with fail
        refine rin_any l _ _ ?_
        rw [e1]
        go_wp2_with fail
        refine rin_any h _ _ ?_
        rw [e2]
        clear e1 e2
        go_wp2_with fail
        exact ret_i (HR.out _ HA.out) rfl e.out
    | false =>
      have e : Hid (lmE l h = 2) := by unfold Hid lmE; rw [if_neg (by rw [e2]; simp)]
      go_enter Tryz.func82, Tryz.ntmps82
      go_wp2_with fail
      refine rin_any l _ _ ?_
      rw [e1]
      go_wp2_with fail
      refine rin_any h _ _ ?_
      rw [e2]
      clear e1 e2
      go_wp2_with fail
      exact ret_i (HR.out _ HA.out) rfl e.out
  | false =>
    have e : Hid (lmE l h = 2) := by unfold Hid lmE; rw [if_neg (by rw [e1]; simp)]
    go_enter Tryz.func82, Tryz.ntmps82
    go_wp2_with fail
    refine rin_any l _ _ ?_
    rw [e1]
    clear e1
    go_wp2_with fail
    exact ret_i (HR.out _ HA.out) rfl e.out

/-! ### the checks as closures -/
def midE (v : Dm) : Int := if sameD v.f v.t = true then 7 else if v.x < 0 ∨ 3 ≤ v.x then 1 else 0
end Go.Proofs.YtciokmjhdbcmpaaGreatDoor
namespace Go.Proofs.YtciokmjhdbcmpaaGreatDoor
open Go.RowKit

/-- A datum. -/
structure Dt where
  n : ByteArray
  m : Int
/-- A frame. -/
structure Fm where
  k : Int
  d : Bool
  t : Int
  m : Int
  ds : List Dt
/-- A feature. -/
structure Ft where
  n : ByteArray
  k : Int
  a : Int
  x : Int
  y : Int
  z : Int
  l : Int
  h : Int
  fs : List Fm
def Dt.cells (v : Dt) : List Value := [.string v.n, .int .i64 v.m]
def Dt.zero : Dt := ⟨⟨#[]⟩, 0⟩
def dtC (vs : List Dt) : List Value := vs.flatMap Dt.cells
def dtAt (vs : List Dt) (i : Nat) : Dt := vs.getD i Dt.zero
theorem dtC_length (vs : List Dt) : (dtC vs).length = vs.length * 2 := by
  induction vs with
  | nil => rfl
  | cons b bs ih => show (b.cells ++ dtC bs).length = _; rw [List.length_append, ih]; simp [Dt.cells]; omega
theorem dtC_append (a b : List Dt) : dtC (a ++ b) = dtC a ++ dtC b := by unfold dtC; rw [List.flatMap_append]
theorem dtAt_succ (v : Dt) (vs : List Dt) (i : Nat) : dtAt (v :: vs) (i + 1) = dtAt vs i := rfl
theorem dtAt_lt {vs : List Dt} {i : Nat} (h : i < vs.length) : dtAt vs i = vs[i] := by unfold dtAt; rw [List.getD_eq_getElem?_getD, List.getElem?_eq_getElem h]; rfl
theorem dtC_get (vs : List Dt) : ∀ (i : Nat), i < vs.length → (dtC vs)[i * 2]? = some (.string (dtAt vs i).n) ∧ (dtC vs)[i * 2 + 1]? = some (.int .i64 (dtAt vs i).m) := by
  induction vs with
  | nil => intro i hi; exact absurd hi (by simp)
  | cons b bs ih =>
    intro i hi
    cases i with
    | zero => exact ⟨rfl, rfl⟩
    | succ i =>
      have h := ih i (by simpa using hi)
      rw [dtAt_succ, show dtC (b :: bs) = .string b.n :: .int .i64 b.m :: dtC bs from rfl, show (i + 1) * 2 = i * 2 + 2 from by omega]
      exact h
theorem CellsAt.dts {w : World} {ao : Option Addr} {vs : List Dt} (h : CellsAt w ao (dtC vs)) (h0 : 0 < vs.length) :
    ∃ b o, ao = some ⟨b, o, none⟩ ∧ b < w.heap.size ∧ ∀ i, i < vs.length → w.cell? ⟨b, o + i * 2, none⟩ = some (.string (dtAt vs i).n) ∧ w.cell? ⟨b, o + i * 2 + 1, none⟩ = some (.int .i64 (dtAt vs i).m) := by
  obtain ⟨b, o, e, hl, _⟩ := h (by rw [dtC_length]; omega)
  refine ⟨b, o, e, hl, fun i hi => ?_⟩
  obtain ⟨h1, h2⟩ := dtC_get vs i hi
  exact ⟨h.get e h1, h.get e h2⟩
/-- Strings are strings. -/
def DtsOk (vs : List Dt) : Prop := ∀ i, i < vs.length → (dtAt vs i).n.size ≤ 9223372036854775807
/-! ### frames in memory -/
def Fm.zero : Fm := ⟨0, false, 0, 0, []⟩
def fmAt (vs : List Fm) (i : Nat) : Fm := vs.getD i Fm.zero
theorem fmAt_lt {vs : List Fm} {i : Nat} (h : i < vs.length) : fmAt vs i = vs[i] := by unfold fmAt; rw [List.getD_eq_getElem?_getD, List.getElem?_eq_getElem h]; rfl
/-- A frame as a value. -/
def fmV (x : Fm) (da : Option Addr) (dc : Nat) : Value := .agg #[.int .i64 x.k, .bool x.d, .int .i64 x.t, .int .i64 x.m, .slice da x.ds.length dc]
/-- What a frame's slice has. -/
structure FmOk (w : World) (x : Fm) (da : Option Addr) (dc : Nat) : Prop where
  cells : CellsAt w da (dtC x.ds)
  ok : DtsOk x.ds
  len : x.ds.length ≤ 9223372036854775807
  nil : da = none → x.ds.length = 0 ∧ dc = 0
  cap : x.ds.length ≤ dc
/-- Frames in memory. -/
def FmsAt (w : World) (fo : Option Addr) (fs : List Fm) : Prop :=
  0 < fs.length → ∃ b o, fo = some ⟨b, o, none⟩ ∧ b < w.heap.size ∧ ∀ i, i < fs.length → ∃ da dc, FmOk w (fmAt fs i) da dc ∧
    w.cell? ⟨b, o + i * 5, none⟩ = some (.int .i64 (fmAt fs i).k) ∧ w.cell? ⟨b, o + i * 5 + 1, none⟩ = some (.bool (fmAt fs i).d) ∧ w.cell? ⟨b, o + i * 5 + 2, none⟩ = some (.int .i64 (fmAt fs i).t) ∧
    w.cell? ⟨b, o + i * 5 + 3, none⟩ = some (.int .i64 (fmAt fs i).m) ∧ w.cell? ⟨b, o + i * 5 + 4, none⟩ = some (.slice da (fmAt fs i).ds.length dc)
theorem FmOk.below {w w' : World} {x : Fm} {da : Option Addr} {dc : Nat} (h : FmOk w x da dc) (hb : Below w.heap.size w w') : FmOk w' x da dc := ⟨h.cells.below hb, h.ok, h.len, h.nil, h.cap⟩
theorem FmsAt.below {w w' : World} {fo : Option Addr} {fs : List Fm} (h : FmsAt w fo fs) (hb : Below w.heap.size w w') : FmsAt w' fo fs := fun h0 => by
  obtain ⟨b, o, e, hl, hi⟩ := h h0
  refine ⟨b, o, e, Nat.lt_of_lt_of_le hl hb.size, fun i hil => ?_⟩
  obtain ⟨da, dc, h1, c0, c1, c2, c3, c4⟩ := hi i hil
  have hk := fun j => World.cell?_of_block (w := w) (w' := w') (a := ⟨b, j, none⟩) (hb.block b hl)
  exact ⟨da, dc, h1.below hb, (hk _).trans c0, (hk _).trans c1, (hk _).trans c2, (hk _).trans c3, (hk _).trans c4⟩
/-- A feature as a value. -/
def ftV (f : Ft) (fo : Option Addr) (fc : Nat) : Value := .agg #[.string f.n, .int .i64 f.k, .int .i64 f.a, .int .i64 f.x, .int .i64 f.y, .int .i64 f.z, .int .i64 f.l, .int .i64 f.h, .slice fo f.fs.length fc]
structure FtOk (w : World) (f : Ft) (fo : Option Addr) (fc : Nat) : Prop where
  frames : FmsAt w fo f.fs
  name : f.n.size ≤ 9223372036854775807
  len : f.fs.length ≤ 9223372036854775807
theorem FtOk.below {w w' : World} {f : Ft} {fo : Option Addr} {fc : Nat} (h : FtOk w f fo fc) (hb : Below w.heap.size w w') : FtOk w' f fo fc := ⟨h.frames.below hb, h.name, h.len⟩
/-! ### the checks -/
/-- The error of a feature. -/
def ftE (f : Ft) : Int :=
  if nmE f.n = 0 then
    if f.k < 0 ∨ 5 ≤ f.k ∨ f.a < 0 ∨ 3 ≤ f.a then 1
    else if f.k = 4 ∧ f.a ≠ 0 then 3
    else if inR f.x = true ∧ inR f.y = true ∧ inR f.z = true then
      if f.k = 0 then (if f.l = 0 ∧ f.h = 0 then 0 else 3)
      else if lmE f.l f.h = 0 then (if f.l < 1 then 2 else 0)
      else lmE f.l f.h
    else 2
  else nmE f.n
end Go.Proofs.YtciokmjhdbcmpaaGreatDoor
namespace Go.Proofs.YtciokmjhdbcmpaaGreatDoor
open Go.RowKit

theorem in18_any (n : Int) (w : World) (R : Ending → World → Prop) (hR : R (.returned (.bool (inR n))) w) : Calls Tryz.prog 108 #[.int .i64 n] w R := by
  have HR := Lib.hid hR
  clear hR
  by_cases h1 : -100000 ≤ n
  · by_cases h2 : n ≤ 100000
    all_goals
      go_enter Tryz.func108, Tryz.ntmps108
      go_wp2_with fail
      exact ret_b HR.out rfl (by unfold inR; simp [h1, h2] <;> omega)
  · go_enter Tryz.func108, Tryz.ntmps108
    go_wp2_with fail
    exact ret_b HR.out rfl (by unfold inR; simp <;> omega)
theorem ranged18_any (x y z : Int) (w : World) (R : Ending → World → Prop) (hR : ∀ w', Below w.heap.size w w' → R (.returned (.bool (inR x && inR y && inR z))) w') : Calls Tryz.prog 76 #[.agg #[.int .i64 x, .int .i64 y, .int .i64 z]] w R := by
  have HR := Lib.hid hR
  clear hR
  have HA : Hid (Below w.heap.size w (w.alloc (.cells #[.int .i64 x, .int .i64 y, .int .i64 z] 23))) := (Below.refl _ _).alloc (Nat.le_refl _) _
  cases hx : inR x with
  | false =>
    have e : Hid ((inR x && inR y && inR z) = false) := by unfold Hid; simp [hx]
    go_enter Tryz.func76, Tryz.ntmps76
    go_wp2_with fail
    refine in18_any x _ _ ?_
    rw [hx]
    clear hx
    go_wp2_with fail
    exact ret_b (HR.out _ HA.out) rfl e.out
  | true =>
    cases hy : inR y with
    | false =>
      have e : Hid ((inR x && inR y && inR z) = false) := by unfold Hid; simp [hx, hy]
      go_enter Tryz.func76, Tryz.ntmps76
      go_wp2_with fail
      refine in18_any x _ _ ?_
      rw [hx]
      go_wp2_with fail
      refine in18_any y _ _ ?_
      rw [hy]
      clear hx hy
      go_wp2_with fail
      exact ret_b (HR.out _ HA.out) rfl e.out
    | true =>
      cases hz : inR z with
      | false =>
        have e : Hid ((inR x && inR y && inR z) = false) := by unfold Hid; simp [hx, hy, hz]
        go_enter Tryz.func76, Tryz.ntmps76
        go_wp2_with fail
        refine in18_any x _ _ ?_
        rw [hx]
        go_wp2_with fail
        refine in18_any y _ _ ?_
        rw [hy]
        go_wp2_with fail
        refine in18_any z _ _ ?_
        rw [hz]
        clear hx hy hz
        go_wp2_with fail
        exact ret_b (HR.out _ HA.out) rfl e.out
      | true =>
        have e : Hid ((inR x && inR y && inR z) = true) := by unfold Hid; simp [hx, hy, hz]
        go_enter Tryz.func76, Tryz.ntmps76
        go_wp2_with fail
        refine in18_any x _ _ ?_
        rw [hx]
        go_wp2_with fail
        refine in18_any y _ _ ?_
        rw [hy]
        go_wp2_with fail
        refine in18_any z _ _ ?_
        rw [hz]
        clear hx hy hz
        go_wp2_with fail
        exact ret_b (HR.out _ HA.out) rfl e.out
set_option maxRecDepth 100000 in
set_option maxHeartbeats 4000000 in
theorem check18_any (f : Ft) (fo : Option Addr) (fc : Nat) (w : World) (R : Ending → World → Prop) (hn : f.n.size ≤ 9223372036854775807) (hR : ∀ w', Below w.heap.size w w' → R (.returned (.int .i64 (ftE f))) w') :
    Calls Tryz.prog 39 #[ftV f fo fc] w R := by
  have HR := Lib.hid hR
  obtain ⟨n, k, a, x, y, z, l, h, fs⟩ := f
  obtain ⟨fn, hfn⟩ : ∃ fn, fs.length = fn := ⟨_, rfl⟩
  unfold ftV
  dsimp only at hn ⊢
  rw [hfn]
  have hE : Hid (ftE ⟨n, k, a, x, y, z, l, h, fs⟩ = if nmE n = 0 then (if k < 0 ∨ 5 ≤ k ∨ a < 0 ∨ 3 ≤ a then 1 else if k = 4 ∧ a ≠ 0 then 3 else if inR x = true ∧ inR y = true ∧ inR z = true then (if k = 0 then (if l = 0 ∧ h = 0 then 0 else 3) else if lmE l h = 0 then (if l < 1 then 2 else 0) else lmE l h) else 2) else nmE n) := rfl
  obtain ⟨E, hE0⟩ : ∃ E, ftE ⟨n, k, a, x, y, z, l, h, fs⟩ = E := ⟨_, rfl⟩
  rw [hE0] at HR hE
  obtain ⟨w1, E1, HB1, s1, X1⟩ := box_ex w #[.string n, .int .i64 k, .int .i64 a, .int .i64 x, .int .i64 y, .int .i64 z, .int .i64 l, .int .i64 h, .slice fo fn fc] 28
  have c0 := cell_at X1.out (j := 0) (v := .string n) rfl
  have c1 := cell_at X1.out (j := 1) (v := .int .i64 k) rfl
  have c2 := cell_at X1.out (j := 2) (v := .int .i64 a) rfl
  have c3 := cell_at X1.out (j := 3) (v := .int .i64 x) rfl
  have c4 := cell_at X1.out (j := 4) (v := .int .i64 y) rfl
  have c5 := cell_at X1.out (j := 5) (v := .int .i64 z) rfl
  have c6 := cell_at X1.out (j := 6) (v := .int .i64 l) rfl
  have c7 := cell_at X1.out (j := 7) (v := .int .i64 h) rfl
  obtain ⟨N, hN⟩ : ∃ N, nmE n = N := ⟨_, rfl⟩
  have HN := Lib.hid hN
  rw [hN] at hE
  clear hR hE0 hN hfn X1
  go_enter Tryz.func39, Tryz.ntmps39
  go_wp2_with (rw [E1])
  refine name_any n _ _ hn fun w2 hb => ?_
  rw [HN.out]
  have B2 : Hid (Below w.heap.size w w2) := HB1.out.trans (hb.mono (Nat.le_of_lt s1))
  have d1 := cellB hb c1 s1
  have d2 := cellB hb c2 s1
  have d3 := cellB hb c3 s1
  have d4 := cellB hb c4 s1
  have d5 := cellB hb c5 s1
  have d6 := cellB hb c6 s1
  have d7 := cellB hb c7 s1
  clear hb c0 c1 c2 c3 c4 c5 c6 c7 E1
  by_cases hN0 : N = 0
  · subst hN0
    by_cases k1 : k < 0
    · have K1 : (k < 0) = True := eq_true k1
      have e : Hid (E = 1) := by unfold Hid; rw [hE.out, if_pos rfl, if_pos (.inl k1)]
      go_wp2_with fail
      exact ret_i (HR.out _ B2.out) rfl e.out
    by_cases k2 : 5 ≤ k
    · have K1 : (k < 0) = False := eq_false k1
      have K2 : (5 ≤ k) = True := eq_true k2
      have e : Hid (E = 1) := by unfold Hid; rw [hE.out, if_pos rfl, if_pos (.inr (.inl k2))]
      go_wp2_with fail
      exact ret_i (HR.out _ B2.out) rfl e.out
    by_cases a1 : a < 0
    · have K1 : (k < 0) = False := eq_false k1
      have K2 : (5 ≤ k) = False := eq_false k2
      have K3 : (a < 0) = True := eq_true a1
      have e : Hid (E = 1) := by unfold Hid; rw [hE.out, if_pos rfl, if_pos (.inr (.inr (.inl a1)))]
      go_wp2_with fail
      exact ret_i (HR.out _ B2.out) rfl e.out
    by_cases a2 : 3 ≤ a
    · have K1 : (k < 0) = False := eq_false k1
      have K2 : (5 ≤ k) = False := eq_false k2
      have K3 : (a < 0) = False := eq_false a1
      have K4 : (3 ≤ a) = True := eq_true a2
      have e : Hid (E = 1) := by unfold Hid; rw [hE.out, if_pos rfl, if_pos (.inr (.inr (.inr a2)))]
      go_wp2_with fail
      exact ret_i (HR.out _ B2.out) rfl e.out
    have hE1 : Hid (E = if k = 4 ∧ a ≠ 0 then 3 else if inR x = true ∧ inR y = true ∧ inR z = true then (if k = 0 then (if l = 0 ∧ h = 0 then 0 else 3) else if lmE l h = 0 then (if l < 1 then 2 else 0) else lmE l h) else 2) := by unfold Hid; rw [hE.out, if_pos rfl, if_neg (by omega)]
    clear hE
    have hE := hE1
    have K1 : (k < 0) = False := eq_false k1
    have K2 : (5 ≤ k) = False := eq_false k2
    have K3 : (a < 0) = False := eq_false a1
    have K4 : (3 ≤ a) = False := eq_false a2
    by_cases h4 : k = 4 ∧ a ≠ 0
    · have K5 : (k == 4) = true := by simpa using h4.1
      have K6 : (a != 0) = true := by simpa using h4.2
      have e : Hid (E = 3) := by unfold Hid; rw [hE.out, if_pos h4]
      go_wp2_with fail
      exact ret_i (HR.out _ B2.out) rfl e.out
    have hE2 : Hid (E = if inR x = true ∧ inR y = true ∧ inR z = true then (if k = 0 then (if l = 0 ∧ h = 0 then 0 else 3) else if lmE l h = 0 then (if l < 1 then 2 else 0) else lmE l h) else 2) := by unfold Hid; rw [hE.out, if_neg h4]
    clear hE hE1
    have hE := hE2
    have h4b : (k == 4) = false ∨ ((k == 4) = true ∧ (a != 0) = false) := by
      by_cases e4 : k = 4
      · right; exact ⟨by simpa using e4, by simpa using fun h0 => h4 ⟨e4, h0⟩⟩
      · left; simpa using e4
    clear h4
    rcases h4b with K5 | ⟨K5, K6⟩
    all_goals
      go_wp2_with fail
      refine ranged18_any x y z _ _ fun w3 hb => ?_
      have B3 : Hid (Below w.heap.size w w3) := B2.out.trans (hb.mono B2.out.size)
      have hsz : w.heap.size < w2.heap.size := lt_of_cell d1
      have q1 := cellB hb d1 hsz
      have q6 := cellB hb d6 hsz
      have q7 := cellB hb d7 hsz
      clear hb d1 d2 d3 d4 d5 d6 d7
      by_cases hr : inR x = true ∧ inR y = true ∧ inR z = true
      · have hb3 : (inR x && inR y && inR z) = true := by simp [hr.1, hr.2.1, hr.2.2]
        rw [hb3]
        have hE3 : Hid (E = if k = 0 then (if l = 0 ∧ h = 0 then 0 else 3) else if lmE l h = 0 then (if l < 1 then 2 else 0) else lmE l h) := by unfold Hid; rw [hE.out, if_pos hr]
        clear hE hE2 hr hb3
        by_cases k0 : k = 0
        · subst k0
          by_cases l0 : l = 0
          · by_cases h0 : h = 0
            · subst l0 h0
              have e : Hid (E = 0) := by unfold Hid; rw [hE3.out, if_pos rfl, if_pos ⟨rfl, rfl⟩]
              go_wp2_with fail
              exact ret_i (HR.out _ B3.out) rfl e.out
            · have e : Hid (E = 3) := by unfold Hid; rw [hE3.out, if_pos rfl, if_neg (fun h => h0 h.2)]
              have K7 : (h == 0) = false := by simpa using h0
              have K8 : (h != 0) = true := by simpa using h0
              subst l0
              clear h0
              go_wp2_with fail
              exact ret_i (HR.out _ B3.out) rfl e.out
          · have e : Hid (E = 3) := by unfold Hid; rw [hE3.out, if_pos rfl, if_neg (fun h => l0 h.1)]
            have K7 : (l == 0) = false := by simpa using l0
            have K8 : (l != 0) = true := by simpa using l0
            clear l0
            go_wp2_with fail
            exact ret_i (HR.out _ B3.out) rfl e.out
        · have K7 : (k == 0) = false := by simpa using k0
          have hE4 : Hid (E = if lmE l h = 0 then (if l < 1 then 2 else 0) else lmE l h) := by unfold Hid; rw [hE3.out, if_neg k0]
          clear k0 hE3
          obtain ⟨M, hM⟩ : ∃ M, lmE l h = M := ⟨_, rfl⟩
          have HM := Lib.hid hM
          rw [hM] at hE4
          clear hM
          go_wp2_with fail
          refine check17_any l h _ _ fun w4 hb => ?_
          rw [HM.out]
          have B4 : Hid (Below w.heap.size w w4) := B3.out.trans (hb.mono B3.out.size)
          have r6 := cellB hb q6 (lt_of_cell q6)
          clear hb
          by_cases m0 : M = 0
          · subst m0
            by_cases l1 : l < 1
            · have K8 : (l < 1) = True := eq_true l1
              have e : Hid (E = 2) := by unfold Hid; rw [hE4.out, if_pos rfl, if_pos l1]
              go_wp2_with fail
              exact ret_i (HR.out _ B4.out) rfl e.out
            · have K8 : (l < 1) = False := eq_false l1
              have e : Hid (E = 0) := by unfold Hid; rw [hE4.out, if_pos rfl, if_neg l1]
              go_wp2_with fail
              exact ret_i (HR.out _ B4.out) rfl e.out
          · have K8 : (M != 0) = true := by simpa using m0
            have e : Hid (E = M) := by unfold Hid; rw [hE4.out, if_neg m0]
            clear m0
            go_wp2_with fail
            exact ret_i (HR.out _ B4.out) rfl e.out
      · have hb3 : (inR x && inR y && inR z) = false := by
          cases hx : inR x <;> cases hy : inR y <;> cases hz : inR z <;> simp_all
        rw [hb3]
        have e : Hid (E = 2) := by unfold Hid; rw [hE.out, if_neg hr]
        clear hr hb3
        go_wp2_with fail
        exact ret_i (HR.out _ B3.out) rfl e.out
  · have K0 : (N != 0) = true := by simpa using hN0
    have e : Hid (E = N) := by unfold Hid; rw [hE.out, if_neg hN0]
    clear hN0
    go_wp2_with fail
    exact ret_i (HR.out _ B2.out) rfl e.out
set_option maxRecDepth 100000 in
set_option maxHeartbeats 4000000 in
theorem rcheck18_any (f : Ft) (fo : Option Addr) (fc : Nat) (w : World) (R : Ending → World → Prop) (hn : f.n.size ≤ 9223372036854775807) (hR : ∀ w', Below w.heap.size w w' → R (.returned (.int .i64 (ftE f))) w') :
    Calls Tryz.prog 45 #[ftV f fo fc] w R := by
  have HR := Lib.hid hR
  obtain ⟨n, k, a, x, y, z, l, h, fs⟩ := f
  obtain ⟨fn, hfn⟩ : ∃ fn, fs.length = fn := ⟨_, rfl⟩
  unfold ftV
  dsimp only at hn ⊢
  rw [hfn]
  have hE : Hid (ftE ⟨n, k, a, x, y, z, l, h, fs⟩ = if nmE n = 0 then (if k < 0 ∨ 5 ≤ k ∨ a < 0 ∨ 3 ≤ a then 1 else if k = 4 ∧ a ≠ 0 then 3 else if inR x = true ∧ inR y = true ∧ inR z = true then (if k = 0 then (if l = 0 ∧ h = 0 then 0 else 3) else if lmE l h = 0 then (if l < 1 then 2 else 0) else lmE l h) else 2) else nmE n) := rfl
  obtain ⟨E, hE0⟩ : ∃ E, ftE ⟨n, k, a, x, y, z, l, h, fs⟩ = E := ⟨_, rfl⟩
  rw [hE0] at HR hE
  obtain ⟨w1, E1, HB1, s1, X1⟩ := box_ex w #[.string n, .int .i64 k, .int .i64 a, .int .i64 x, .int .i64 y, .int .i64 z, .int .i64 l, .int .i64 h, .slice fo fn fc] 28
  have c0 := cell_at X1.out (j := 0) (v := .string n) rfl
  have c1 := cell_at X1.out (j := 1) (v := .int .i64 k) rfl
  have c2 := cell_at X1.out (j := 2) (v := .int .i64 a) rfl
  have c3 := cell_at X1.out (j := 3) (v := .int .i64 x) rfl
  have c4 := cell_at X1.out (j := 4) (v := .int .i64 y) rfl
  have c5 := cell_at X1.out (j := 5) (v := .int .i64 z) rfl
  have c6 := cell_at X1.out (j := 6) (v := .int .i64 l) rfl
  have c7 := cell_at X1.out (j := 7) (v := .int .i64 h) rfl
  obtain ⟨N, hN⟩ : ∃ N, nmE n = N := ⟨_, rfl⟩
  have HN := Lib.hid hN
  rw [hN] at hE
  clear hR hE0 hN hfn X1
  go_enter Tryz.func45, Tryz.ntmps45
  go_wp2_with (rw [E1])
  refine rname_any n _ _ hn ?_
  rw [HN.out]
  obtain ⟨w2, hw2⟩ : ∃ w2, w1 = w2 := ⟨_, rfl⟩
  have B2 : Hid (Below w.heap.size w w2) := by rw [← hw2]; exact HB1.out
  subst hw2
  have d1 := c1
  have d2 := c2
  have d3 := c3
  have d4 := c4
  have d5 := c5
  have d6 := c6
  have d7 := c7
  clear c0 c1 c2 c3 c4 c5 c6 c7 E1
  by_cases hN0 : N = 0
  · subst hN0
    by_cases k1 : k < 0
    · have K1 : (k < 0) = True := eq_true k1
      have e : Hid (E = 1) := by unfold Hid; rw [hE.out, if_pos rfl, if_pos (.inl k1)]
      go_wp2_with fail
      exact ret_i (HR.out _ B2.out) rfl e.out
    by_cases k2 : 5 ≤ k
    · have K1 : (k < 0) = False := eq_false k1
      have K2 : (5 ≤ k) = True := eq_true k2
      have e : Hid (E = 1) := by unfold Hid; rw [hE.out, if_pos rfl, if_pos (.inr (.inl k2))]
      go_wp2_with fail
      exact ret_i (HR.out _ B2.out) rfl e.out
    by_cases a1 : a < 0
    · have K1 : (k < 0) = False := eq_false k1
      have K2 : (5 ≤ k) = False := eq_false k2
      have K3 : (a < 0) = True := eq_true a1
      have e : Hid (E = 1) := by unfold Hid; rw [hE.out, if_pos rfl, if_pos (.inr (.inr (.inl a1)))]
      go_wp2_with fail
      exact ret_i (HR.out _ B2.out) rfl e.out
    by_cases a2 : 3 ≤ a
    · have K1 : (k < 0) = False := eq_false k1
      have K2 : (5 ≤ k) = False := eq_false k2
      have K3 : (a < 0) = False := eq_false a1
      have K4 : (3 ≤ a) = True := eq_true a2
      have e : Hid (E = 1) := by unfold Hid; rw [hE.out, if_pos rfl, if_pos (.inr (.inr (.inr a2)))]
      go_wp2_with fail
      exact ret_i (HR.out _ B2.out) rfl e.out
    have hE1 : Hid (E = if k = 4 ∧ a ≠ 0 then 3 else if inR x = true ∧ inR y = true ∧ inR z = true then (if k = 0 then (if l = 0 ∧ h = 0 then 0 else 3) else if lmE l h = 0 then (if l < 1 then 2 else 0) else lmE l h) else 2) := by unfold Hid; rw [hE.out, if_pos rfl, if_neg (by omega)]
    clear hE
    have hE := hE1
    have K1 : (k < 0) = False := eq_false k1
    have K2 : (5 ≤ k) = False := eq_false k2
    have K3 : (a < 0) = False := eq_false a1
    have K4 : (3 ≤ a) = False := eq_false a2
    by_cases h4 : k = 4 ∧ a ≠ 0
    · have K5 : (k == 4) = true := by simpa using h4.1
      have K6 : (a != 0) = true := by simpa using h4.2
      have e : Hid (E = 3) := by unfold Hid; rw [hE.out, if_pos h4]
      go_wp2_with fail
      exact ret_i (HR.out _ B2.out) rfl e.out
    have hE2 : Hid (E = if inR x = true ∧ inR y = true ∧ inR z = true then (if k = 0 then (if l = 0 ∧ h = 0 then 0 else 3) else if lmE l h = 0 then (if l < 1 then 2 else 0) else lmE l h) else 2) := by unfold Hid; rw [hE.out, if_neg h4]
    clear hE hE1
    have hE := hE2
    have h4b : (k == 4) = false ∨ ((k == 4) = true ∧ (a != 0) = false) := by
      by_cases e4 : k = 4
      · right; exact ⟨by simpa using e4, by simpa using fun h0 => h4 ⟨e4, h0⟩⟩
      · left; simpa using e4
    clear h4
    rcases h4b with K5 | ⟨K5, K6⟩
    all_goals
      cases hx : inR x with
      | false =>
        have e : Hid (E = 2) := by unfold Hid; rw [hE.out, if_neg (by rw [hx]; simp)]
        go_wp2_with fail
        refine rin_any x _ _ ?_
        rw [hx]
        clear hx
        go_wp2_with fail
        exact ret_i (HR.out _ B2.out) rfl e.out
      | true =>
        cases hy : inR y with
        | false =>
          have e : Hid (E = 2) := by unfold Hid; rw [hE.out, if_neg (by rw [hy]; simp)]
          go_wp2_with fail
          refine rin_any x _ _ ?_
          rw [hx]
          go_wp2_with fail
          refine rin_any y _ _ ?_
          rw [hy]
          clear hx hy
          go_wp2_with fail
          exact ret_i (HR.out _ B2.out) rfl e.out
        | true =>
          cases hz : inR z with
          | false =>
            have e : Hid (E = 2) := by unfold Hid; rw [hE.out, if_neg (by rw [hz]; simp)]
            go_wp2_with fail
            refine rin_any x _ _ ?_
            rw [hx]
            go_wp2_with fail
            refine rin_any y _ _ ?_
            rw [hy]
            go_wp2_with fail
            refine rin_any z _ _ ?_
            rw [hz]
            clear hx hy hz
            go_wp2_with fail
            exact ret_i (HR.out _ B2.out) rfl e.out
          | true =>
            have hE3 : Hid (E = if k = 0 then (if l = 0 ∧ h = 0 then 0 else 3) else if lmE l h = 0 then (if l < 1 then 2 else 0) else lmE l h) := by unfold Hid; rw [hE.out, if_pos ⟨hx, hy, hz⟩]
            go_wp2_with fail
            refine rin_any x _ _ ?_
            rw [hx]
            go_wp2_with fail
            refine rin_any y _ _ ?_
            rw [hy]
            go_wp2_with fail
            refine rin_any z _ _ ?_
            rw [hz]
            clear hx hy hz hE hE2
            by_cases k0 : k = 0
            · subst k0
              by_cases l0 : l = 0
              · by_cases h0 : h = 0
                · subst l0 h0
                  have e : Hid (E = 0) := by unfold Hid; rw [hE3.out, if_pos rfl, if_pos ⟨rfl, rfl⟩]
                  go_wp2_with fail
                  exact ret_i (HR.out _ B2.out) rfl e.out
                · have e : Hid (E = 3) := by unfold Hid; rw [hE3.out, if_pos rfl, if_neg (fun h => h0 h.2)]
                  have K7 : (h == 0) = false := by simpa using h0
                  have K8 : (h != 0) = true := by simpa using h0
                  subst l0
                  clear h0
                  go_wp2_with fail
                  exact ret_i (HR.out _ B2.out) rfl e.out
              · have e : Hid (E = 3) := by unfold Hid; rw [hE3.out, if_pos rfl, if_neg (fun h => l0 h.1)]
                have K7 : (l == 0) = false := by simpa using l0
                have K8 : (l != 0) = true := by simpa using l0
                clear l0
                go_wp2_with fail
                exact ret_i (HR.out _ B2.out) rfl e.out
            · have K7 : (k == 0) = false := by simpa using k0
              have hE4 : Hid (E = if lmE l h = 0 then (if l < 1 then 2 else 0) else lmE l h) := by unfold Hid; rw [hE3.out, if_neg k0]
              clear k0 hE3
              obtain ⟨M, hM⟩ : ∃ M, lmE l h = M := ⟨_, rfl⟩
              have HM := Lib.hid hM
              rw [hM] at hE4
              clear hM
              go_wp2_with fail
              refine rcheck17_any l h _ _ fun w4 hb => ?_
              rw [HM.out]
              have B4 : Hid (Below w.heap.size w w4) := B2.out.trans (hb.mono B2.out.size)
              have r6 := cellB hb d6 (lt_of_cell d6)
              clear hb
              by_cases m0 : M = 0
              · subst m0
                by_cases l1 : l < 1
                · have K8 : (l < 1) = True := eq_true l1
                  have e : Hid (E = 2) := by unfold Hid; rw [hE4.out, if_pos rfl, if_pos l1]
                  go_wp2_with fail
                  exact ret_i (HR.out _ B4.out) rfl e.out
                · have K8 : (l < 1) = False := eq_false l1
                  have e : Hid (E = 0) := by unfold Hid; rw [hE4.out, if_pos rfl, if_neg l1]
                  go_wp2_with fail
                  exact ret_i (HR.out _ B4.out) rfl e.out
              · have K8 : (M != 0) = true := by simpa using m0
                have e : Hid (E = M) := by unfold Hid; rw [hE4.out, if_neg m0]
                clear m0
                go_wp2_with fail
                exact ret_i (HR.out _ B4.out) rfl e.out
  · have K0 : (N != 0) = true := by simpa using hN0
    have e : Hid (E = N) := by unfold Hid; rw [hE.out, if_neg hN0]
    clear hN0
    go_wp2_with fail
    exact ret_i (HR.out _ B2.out) rfl e.out
end Go.Proofs.YtciokmjhdbcmpaaGreatDoor
namespace Go.Proofs.YtciokmjhdbcmpaaGreatDoor
open Go.RowKit

/-- One of the first ones meets it. -/
def anyN (q : Nat → Bool) : Nat → Bool
  | 0 => false
  | k + 1 => anyN q k || q k
theorem anyN_true {q : Nat → Bool} : ∀ {n k : Nat}, k < n → q k = true → anyN q n = true
  | n + 1, k, hk, h => by
    rw [anyN]
    by_cases e : k = n
    · subst e; rw [h, Bool.or_true]
    · rw [anyN_true (by omega : k < n) h]; rfl
theorem anyN_step {q : Nat → Bool} {k : Nat} (h : anyN q k = false) (hq : q k = false) : anyN q (k + 1) = false := by rw [anyN, h, hq]; rfl
def lnQ (ds : List Dt) (i : Nat) : Bool := decide (100 < (dtAt ds i).n.size)
def lfQ (fs : List Fm) (i : Nat) : Bool := decide (6 < (fmAt fs i).ds.length) || anyN (lnQ (fmAt fs i).ds) (fmAt fs i).ds.length
def fewB (f : Ft) : Bool := !(decide (100 < f.n.size)) && (!(decide (12 < f.fs.length)) && !(anyN (lfQ f.fs) f.fs.length))
set_option maxRecDepth 100000 in
set_option maxHeartbeats 4000000 in
theorem few18_any (f : Ft) (fo : Option Addr) (fc : Nat) (w : World) (R : Ending → World → Prop) (hok : FtOk w f fo fc) (hR : ∀ w', Below w.heap.size w w' → R (.returned (.bool (fewB f))) w') :
    Calls Tryz.prog 10 #[ftV f fo fc] w R := by
  have HR := Lib.hid hR
  have hfr := hok.frames
  have hln := hok.len
  obtain ⟨n, k, a, x, y, z, l, h, fs⟩ := f
  have hE : Hid (fewB ⟨n, k, a, x, y, z, l, h, fs⟩ = (!(decide (100 < n.size)) && (!(decide (12 < fs.length)) && !(anyN (lfQ fs) fs.length)))) := rfl
  obtain ⟨E, hE0⟩ : ∃ E, fewB ⟨n, k, a, x, y, z, l, h, fs⟩ = E := ⟨_, rfl⟩
  rw [hE0] at HR hE
  unfold ftV
  dsimp only at hfr hln ⊢
  obtain ⟨w1, E1, HB1, s1, X1⟩ := box_ex w #[.string n, .int .i64 k, .int .i64 a, .int .i64 x, .int .i64 y, .int .i64 z, .int .i64 l, .int .i64 h, .slice fo fs.length fc] 28
  have c0 := cell_at X1.out (j := 0) (v := .string n) rfl
  have c8 := cell_at X1.out (j := 8) (v := .slice fo fs.length fc) rfl
  have HF := Lib.hid (hfr.below HB1.out)
  clear hR hE0 hok hfr X1
  go_enter Tryz.func10, Tryz.ntmps10
  by_cases h1 : 100 < n.size
  · have K1 : (100 < n.size) = True := eq_true h1
    have e : Hid (E = false) := by unfold Hid; rw [hE.out, decide_eq_true h1]; rfl
    go_wp2_with (rw [E1])
    exact ret_b (HR.out _ HB1.out) rfl e.out
  · have K1 : (100 < n.size) = False := eq_false h1
    have hE1 : Hid (E = (!(decide (12 < fs.length)) && !(anyN (lfQ fs) fs.length))) := by unfold Hid; rw [hE.out, decide_eq_false h1]; rfl
    by_cases h2 : 12 < fs.length
    · have K2 : (12 < fs.length) = True := eq_true h2
      have e : Hid (E = false) := by unfold Hid; rw [hE1.out, decide_eq_true h2]; rfl
      go_wp2_with (rw [E1])
      exact ret_b (HR.out _ HB1.out) rfl e.out
    · have K2 : (12 < fs.length) = False := eq_false h2
      have hE2 : Hid (E = !(anyN (lfQ fs) fs.length)) := by unfold Hid; rw [hE1.out, decide_eq_false h2]; rfl
      clear hE hE1
      go_wp2_with (rw [E1])
      clear E1
      go_loopw [3] (fun j wr => ∃ i : Nat, i ≤ fs.length ∧ j = .int .i64 i ∧ wr = w1 ∧ Hid (anyN (lfQ fs) i = false)) (fun j _ => fs.length - (intOf j).toNat)
      case atStart => exact ⟨0, Nat.zero_le _, rfl, rfl, rfl⟩
      case round =>
        obtain ⟨i, hi, rfl, hwr, hA⟩ := hrel
        subst hwr
        by_cases hlt : i < fs.length
        · obtain ⟨bf, of, rfl, hbf, hcells⟩ := HF.out (by omega)
          obtain ⟨da, dc, hfm, _, _, _, _, f4⟩ := hcells i hlt
          have hq : Hid (lfQ fs i = (decide (6 < (fmAt fs i).ds.length) || anyN (lnQ (fmAt fs i).ds) (fmAt fs i).ds.length)) := rfl
          have hcd := hfm.cells
          have hdl := hfm.len
          obtain ⟨ds, hds⟩ : ∃ ds, (fmAt fs i).ds = ds := ⟨_, rfl⟩
          rw [hds] at f4 hq hcd hdl
          have HCD := Lib.hid hcd
          clear hcells hfm hds hcd
          by_cases h6 : 6 < ds.length
          · have K3 : (6 < ds.length) = True := eq_true h6
            have e : Hid (E = false) := by unfold Hid; rw [hE2.out, anyN_true hlt (by rw [hq.out, decide_eq_true h6]; rfl)]; rfl
            go_wp2_with fail
            exact ret_b (HR.out _ HB1.out) rfl e.out
          · have K3 : (6 < ds.length) = False := eq_false h6
            have hq2 : Hid (lfQ fs i = anyN (lnQ ds) ds.length) := by unfold Hid; rw [hq.out, decide_eq_false h6]; rfl
            clear hq
            go_wp2_with fail
            go_loopw [4] (fun j wr2 => ∃ m : Nat, m ≤ ds.length ∧ j = .int .i64 m ∧ wr2 = wr ∧ Hid (anyN (lnQ ds) m = false)) (fun j _ => ds.length - (intOf j).toNat)
            case atStart => exact ⟨0, Nat.zero_le _, rfl, rfl, rfl⟩
            case round =>
              obtain ⟨m, hm, rfl, hwr2, hA2⟩ := hrel
              subst hwr2
              by_cases hlm : m < ds.length
              · obtain ⟨bd, od, rfl, hbd, hdc⟩ := HCD.out.dts (by omega)
                obtain ⟨g0, _⟩ := hdc m hlm
                have hq3 : Hid (lnQ ds m = decide (100 < (dtAt ds m).n.size)) := rfl
                obtain ⟨u, hu⟩ : ∃ u, (dtAt ds m).n = u := ⟨_, rfl⟩
                rw [hu] at g0 hq3
                clear hdc hu
                by_cases h7 : 100 < u.size
                · have K4 : (100 < u.size) = True := eq_true h7
                  have e : Hid (E = false) := by unfold Hid; rw [hE2.out, anyN_true hlt (by rw [hq2.out]; exact anyN_true hlm (by rw [hq3.out, decide_eq_true h7]))]; rfl
                  go_wp2_with fail
                  exact ret_b (HR.out _ HB1.out) rfl e.out
                · have K4 : (100 < u.size) = False := eq_false h7
                  have hq4 : Hid (lnQ ds m = false) := by unfold Hid; rw [hq3.out, decide_eq_false h7]
                  go_wp2_with fail
                  exact ⟨⟨m + 1, by omega, by go_num, (by first | trivial | rfl), anyN_step hA2.out hq4.out⟩, by simp [intOf]; omega⟩
              · obtain rfl : m = ds.length := by omega
                have hq5 : Hid (lfQ fs i = false) := by unfold Hid; rw [hq2.out]; exact hA2.out
                go_wp2_with fail
                exact ⟨⟨i + 1, by omega, by go_num, (by first | trivial | rfl), anyN_step hA.out hq5.out⟩, by simp [intOf]; omega⟩
        · obtain rfl : i = fs.length := by omega
          have e : Hid (E = true) := by unfold Hid; rw [hE2.out, hA.out]; rfl
          go_wp2_with fail
          exact ret_b (HR.out _ HB1.out) rfl e.out
/-- Few of a frame. -/
def fewF (x : Fm) : Bool := fewB ⟨⟨#[]⟩, 0, 0, 0, 0, 0, 0, 0, [x]⟩
theorem fewF_iff {x : Fm} : fewF x = true ↔ x.ds.length ≤ 6 ∧ ∀ i, i < x.ds.length → (dtAt x.ds i).n.size ≤ 100 := by
  have h0 : fewF x = !(lfQ [x] 0) := rfl
  rw [h0]
  unfold lfQ
  rw [show fmAt [x] 0 = x from rfl]
  constructor
  · intro h
    rw [Bool.not_eq_true', Bool.or_eq_false_iff, decide_eq_false_iff_not] at h
    refine ⟨by omega, fun i hi => ?_⟩
    refine Classical.byContradiction fun hn => ?_
    have := anyN_true (q := lnQ x.ds) hi (by unfold lnQ; exact decide_eq_true (by omega))
    rw [h.2] at this; cases this
  · rintro ⟨h1, h2⟩
    rw [Bool.not_eq_true', Bool.or_eq_false_iff, decide_eq_false_iff_not]
    refine ⟨by omega, ?_⟩
    have key : ∀ n, n ≤ x.ds.length → anyN (lnQ x.ds) n = false := fun n => by
      induction n with
      | zero => intro _; rfl
      | succ n ih => intro hn; exact anyN_step (ih (by omega)) (by unfold lnQ; exact decide_eq_false (by have := h2 n (by omega); omega))
    exact key _ (Nat.le_refl _)
set_option maxRecDepth 100000 in
set_option maxHeartbeats 2000000 in
theorem few19_any (x : Fm) (da : Option Addr) (dc : Nat) (w : World) (R : Ending → World → Prop) (hok : FmOk w x da dc) (hR : ∀ w', Below w.heap.size w w' → R (.returned (.bool (fewF x))) w') :
    Calls Tryz.prog 11 #[fmV x da dc] w R := by
  have HR := Lib.hid hR
  have HO := Lib.hid hok
  obtain ⟨k, d, t, m, ds⟩ := x
  unfold fmV
  dsimp only
  obtain ⟨w1, E1, HB1, s1, X1⟩ := box_ex w #[.int .i64 k, .bool d, .int .i64 t, .int .i64 m, .slice da ds.length dc] 31
  have c0 := cell_at X1.out (j := 0) (v := .int .i64 k) rfl
  have c1 := cell_at X1.out (j := 1) (v := .bool d) rfl
  have c2 := cell_at X1.out (j := 2) (v := .int .i64 t) rfl
  have c3 := cell_at X1.out (j := 3) (v := .int .i64 m) rfl
  have c4 := cell_at X1.out (j := 4) (v := .slice da ds.length dc) rfl
  obtain ⟨w2, E2, HB2, s2, X2⟩ := box_ex w1 #[.int .i64 k, .bool d, .int .i64 t, .int .i64 m, .slice da ds.length dc] 31
  have B2 : Hid (Below w.heap.size w w2) := HB1.out.trans (HB2.out.mono (Nat.le_of_lt s1))
  have HF2 : Hid (FmsAt w2 (some ⟨w1.heap.size, 0, none⟩) [⟨k, d, t, m, ds⟩]) := fun _ => by
    refine ⟨w1.heap.size, 0, rfl, s2, fun i hi => ?_⟩
    obtain rfl : i = 0 := by simpa using hi
    exact ⟨da, dc, HO.out.below B2.out, cell_at X2.out (j := 0) rfl, cell_at X2.out (j := 1) rfl, cell_at X2.out (j := 2) rfl, cell_at X2.out (j := 3) rfl, cell_at X2.out (j := 4) rfl⟩
  clear hR hok X1 X2
  go_enter Tryz.func11, Tryz.ntmps11
  go_wp2_with (first | rw [E1] | rw [E2])
  refine few18_any ⟨⟨#[]⟩, 0, 0, 0, 0, 0, 0, 0, [⟨k, d, t, m, ds⟩]⟩ (some ⟨w1.heap.size, 0, none⟩) 1 _ _ ⟨HF2.out, by show (0 : Nat) ≤ _; omega, by show (1 : Nat) ≤ _; omega⟩ fun w3 hb => ?_
  have B3 : Hid (Below w.heap.size w w3) := B2.out.trans (hb.mono B2.out.size)
  obtain ⟨v, hv⟩ : ∃ v, fewB ⟨⟨#[]⟩, 0, 0, 0, 0, 0, 0, 0, [⟨k, d, t, m, ds⟩]⟩ = v := ⟨_, rfl⟩
  have HV : Hid (fewF ⟨k, d, t, m, ds⟩ = v) := hv
  rw [hv]
  clear hb hv
  go_wp2_with fail
  exact ret_b (HR.out _ B3.out) rfl HV.out
end Go.Proofs.YtciokmjhdbcmpaaGreatDoor
namespace Go.Proofs.YtciokmjhdbcmpaaGreatDoor
open Go.RowKit

/-- What a predicate over datums does. -/
def DatP (g : FuncId) (caps : Array Value) (p : Dt → Bool) (w0 : World) : Prop :=
  ∀ (d : Dt) (w : World) (R : Ending → World → Prop), d.n.size ≤ 9223372036854775807 → Below w0.heap.size w0 w → (∀ w', Below w.heap.size w w' → R (.returned (.bool (p d))) w') → Calls Tryz.prog g (#[.agg #[.string d.n, .int .i64 d.m]] ++ caps) w R
set_option maxRecDepth 100000 in
set_option maxHeartbeats 2000000 in
theorem indexFuncD_any (g : FuncId) (caps : Array Value) (p : Dt → Bool) (ao : Option Addr) (ds : List Dt) (c : Nat) (w : World) (R : Ending → World → Prop) (eg : ∀ args w, (callFunc g args).run Tryz.prog w = .ok (.enter g args) w)
   (hl : ds.length ≤ 1000000) (hc : CellsAt w ao (dtC ds)) (hok : DtsOk ds) (hp : DatP g caps p w) (hR : ∀ w' r, Below w.heap.size w w' → (0 ≤ r ↔ anyN (fun i => p (dtAt ds i)) ds.length = true) → R (.returned (.int .i64 r)) w') :
    Calls Tryz.prog 79 #[.slice ao ds.length c, .func (.func g) #[] caps] w R := by
  have HR := Lib.hid hR
  have HC := Lib.hid hc
  have HOK := Lib.hid hok
  have HP := Lib.hid hp
  clear hR hc hok hp
  go_enter Tryz.func79, Tryz.ntmps79
  go_wp2_with fail
  go_loopw [8] (fun j wr => ∃ i : Nat, i ≤ ds.length ∧ j = .int .i64 i ∧ Hid (Below w.heap.size w wr) ∧ Hid (anyN (fun i => p (dtAt ds i)) i = false)) (fun j _ => ds.length - (intOf j).toNat)
  case atStart => exact ⟨0, Nat.zero_le _, rfl, Below.refl _ _, rfl⟩
  case round =>
    obtain ⟨i, hi, rfl, HB, HA⟩ := hrel
    by_cases hlt : i < ds.length
    · obtain ⟨bd, od, rfl, hbd, hdc⟩ := HC.out.dts (by omega)
      obtain ⟨g0, g1⟩ := hdc i hlt
      have d0 := cellB HB.out g0 hbd
      have d1 := cellB HB.out g1 hbd
      have hsz := HOK.out i hlt
      obtain ⟨b, hb⟩ : ∃ b, p (dtAt ds i) = b := ⟨_, rfl⟩
      have HBb := Lib.hid hb
      clear hdc g0 g1 hb
      go_wp2_with fail
      refine HP.out (dtAt ds i) wr _ hsz HB.out fun w2 hb2 => ?_
      rw [HBb.out]
      have B2 : Hid (Below w.heap.size w w2) := HB.out.trans (hb2.mono HB.out.size)
      clear hb2
      cases b with
      | true =>
        go_wp2_with fail
        exact HR.out _ _ B2.out ⟨fun _ => anyN_true hlt HBb.out, fun _ => Int.natCast_nonneg i⟩
      | false =>
        go_wp2_with fail
        exact ⟨⟨i + 1, by omega, by go_num, B2, anyN_step HA.out HBb.out⟩, by simp [intOf]; omega⟩
    · obtain rfl : i = ds.length := by omega
      go_wp2_with fail
      exact HR.out _ _ HB.out ⟨fun h => absurd h (by omega), fun h => by rw [HA.out] at h; cases h⟩
theorem containsFuncD_any (g : FuncId) (caps : Array Value) (p : Dt → Bool) (ao : Option Addr) (ds : List Dt) (c : Nat) (w : World) (R : Ending → World → Prop) (eg : ∀ args w, (callFunc g args).run Tryz.prog w = .ok (.enter g args) w)
   (hl : ds.length ≤ 1000000) (hc : CellsAt w ao (dtC ds)) (hok : DtsOk ds) (hp : DatP g caps p w) (hR : ∀ w', Below w.heap.size w w' → R (.returned (.bool (anyN (fun i => p (dtAt ds i)) ds.length))) w') :
    Calls Tryz.prog 43 #[.slice ao ds.length c, .func (.func g) #[] caps] w R := by
  have HR := Lib.hid hR
  have HC := Lib.hid hc
  have HOK := Lib.hid hok
  have HP := Lib.hid hp
  obtain ⟨v, hv⟩ : ∃ v, anyN (fun i => p (dtAt ds i)) ds.length = v := ⟨_, rfl⟩
  have HV := Lib.hid hv
  rw [hv] at HR
  clear hR hc hok hp hv
  go_enter Tryz.func43, Tryz.ntmps43
  go_wp2_with fail
  refine indexFuncD_any g caps p ao ds c _ _ eg hl HC.out HOK.out HP.out fun w1 r hb hr => ?_
  have B1 := Lib.hid hb
  rw [HV.out] at hr
  clear hb
  cases v with
  | true =>
    have h0 : (0 ≤ r) = True := eq_true (hr.2 rfl)
    clear hr
    go_wp2_with fail
    exact HR.out _ B1.out
  | false =>
    have h0 : (0 ≤ r) = False := eq_false (fun h => by have := hr.1 h; cases this)
    clear hr
    go_wp2_with fail
    exact HR.out _ B1.out
/-- The name of a datum is this one. -/
def dnQ (s : ByteArray) (d : Dt) : Bool := d.n.toList == s.toList
theorem plain1_dat (B : Nat) (s : ByteArray) (w0 : World) (hs : w0.cell? ⟨B, 0, none⟩ = some (.string s)) : DatP 49 #[.pointer (some ⟨B, 0, none⟩)] (dnQ s) w0 := by
  intro d w R hd hb hR
  have HR := Lib.hid hR
  have c0 := cellB hb hs (lt_of_cell hs)
  have hlt := lt_of_cell c0
  obtain ⟨w1, E1, HB1, s1, X1⟩ := box_ex w #[.string d.n, .int .i64 d.m] 76
  have d0 := cell_at X1.out (j := 0) (v := .string d.n) rfl
  have c1 := cellB HB1.out c0 hlt
  have e : Hid (dnQ s d = (d.n.toList == s.toList)) := rfl
  clear hR hb hs c0 X1
  cases h : (d.n.toList == s.toList) with
  | true =>
    rw [h] at e
    rw [e.out] at HR
    go_enter Tryz.func49, Tryz.ntmps49
    go_wp2_with (rw [E1])
    exact HR.out _ HB1.out
  | false =>
    rw [h] at e
    rw [e.out] at HR
    go_enter Tryz.func49, Tryz.ntmps49
    go_wp2_with (rw [E1])
    exact HR.out _ HB1.out
theorem check2_dat (B : Nat) (s : ByteArray) (w0 : World) (hs : w0.cell? ⟨B, 0, none⟩ = some (.string s)) : DatP 44 #[.pointer (some ⟨B, 0, none⟩)] (dnQ s) w0 := by
  intro d w R hd hb hR
  have HR := Lib.hid hR
  have c0 := cellB hb hs (lt_of_cell hs)
  have hlt := lt_of_cell c0
  obtain ⟨w1, E1, HB1, s1, X1⟩ := box_ex w #[.string d.n, .int .i64 d.m] 76
  have d0 := cell_at X1.out (j := 0) (v := .string d.n) rfl
  have c1 := cellB HB1.out c0 hlt
  have e : Hid (dnQ s d = (d.n.toList == s.toList)) := rfl
  clear hR hb hs c0 X1
  cases h : (d.n.toList == s.toList) with
  | true =>
    rw [h] at e
    rw [e.out] at HR
    go_enter Tryz.func44, Tryz.ntmps44
    go_wp2_with (rw [E1])
    exact HR.out _ HB1.out
  | false =>
    rw [h] at e
    rw [e.out] at HR
    go_enter Tryz.func44, Tryz.ntmps44
    go_wp2_with (rw [E1])
    exact HR.out _ HB1.out
end Go.Proofs.YtciokmjhdbcmpaaGreatDoor
