/- size and Check of reference 01 at any text; Check of reference 02 at the text of a number. -/
import Derived.Test.YtcmhompbdanpdaaGreatDoorMwzw
import Derived.Test.YtcmhompbdanpdaaGreatDoorZc
namespace Go.Proofs.YtcmhompbdanpdaaGreatDoor
open Go.RowKit

theorem body_cons {c : UInt8} {t : List UInt8} : bodyL (c :: t) = if c = 45 then t else c :: t := by
  unfold bodyL
  by_cases h : c = 45
  · subst h; rfl
  · rw [if_neg (by simpa using h), if_neg h]
theorem beq_u8 (c : UInt8) (n : Nat) (hn : n < 256) : ((c.toNat : Int) == (n : Int)) = decide (c = UInt8.ofNat n) := by
  by_cases h : c = UInt8.ofNat n
  · subst h
    simp [UInt8.toNat_ofNat', Nat.mod_eq_of_lt hn]
  · have h2 : ¬ c.toNat = n := fun e => h (by rw [← e]; simp)
    simp only [decide_eq_false h, beq_eq_false_iff_ne, ne_eq]
    omega
set_option maxHeartbeats 1000000 in
theorem xsizeT_any (a : ByteArray) (l : List UInt8) (ha : Tx a l) (w : World) (R : Ending → World → Prop) (hR : ∀ r, Tx r (bodyL l) → R (.returned (.string r)) w) :
    Calls Tryz.prog 116 #[.string a] w R := by
  have HR := Lib.hid hR
  have hne := isEmpty_of ha
  have hs := ha.size
  cases l with
  | nil =>
    rw [List.isEmpty_nil] at hne
    have HT : Hid (Tx a (bodyL [])) := ha
    clear hR ha hs
    go_enter Tryz.func116, Tryz.ntmps116
    go_wp2_with fail
    exact ret_str (HR.out a HT.out) rfl
  | cons c t =>
    rw [List.isEmpty_cons] at hne
    rw [List.length_cons] at hs
    have hp : 0 < a.size := by omega
    have hg0 : a[0] = c := by rw [ha.get hp]; rfl
    have hh : ((a[0].toNat : Int) == 45) = decide (c = 45) := by rw [hg0]; exact beq_u8 c 45 (by decide)
    have hg : 1 ≤ a.size := hp
    by_cases h : c = 45
    · rw [decide_eq_true h] at hh
      have hT := ha.drop 1
      have hb : bodyL (c :: t) = (c :: t).drop 1 := by rw [body_cons, if_pos h]; rfl
      rw [← hb] at hT
      obtain ⟨r, hr⟩ : ∃ z, a.extract 1 a.size = z := ⟨_, rfl⟩
      rw [hr] at hT
      have HT := Lib.hid hT
      clear hR ha h hg0 hT hb hs
      go_enter Tryz.func116, Tryz.ntmps116
      go_wp2_with fail
      exact ret_str (HR.out r HT.out) rfl
    · rw [decide_eq_false h] at hh
      have HT : Hid (Tx a (bodyL (c :: t))) := by unfold Hid; rw [body_cons, if_neg h]; exact ha
      clear hR ha h hg0 hs
      go_enter Tryz.func116, Tryz.ntmps116
      go_wp2_with fail
      exact ret_str (HR.out a HT.out) rfl
/-- A zero ahead of other digits, as the reference asks for it. -/
theorem zero_ahead {l t : List UInt8} (h : bodyL l = 48 :: t) : (1 < (bodyL l).length ∨ 1 < l.length) ↔ l ≠ [48] := by
  constructor
  · rintro h1 rfl
    rw [show bodyL [48] = [48] from rfl] at h1
    simp at h1
  · intro h1
    refine Classical.byContradiction fun h2 => h1 ?_
    cases l with
    | nil => cases h
    | cons c r =>
      have h3 : ¬ 1 < (c :: r).length := fun e => h2 (.inr e)
      have h4 : r = [] := List.length_eq_zero_iff.1 (by simp only [List.length_cons] at h3; omega)
      subst h4
      rw [body_cons] at h
      split at h
      · cases h
      · cases h; rfl
theorem dgC_iff {c : UInt8} : dgC c = true ↔ 48 ≤ c.toNat ∧ c.toNat ≤ 57 := by unfold dgC; simp
set_option maxHeartbeats 2000000 in
theorem xcheckT_any (a : ByteArray) (l : List UInt8) (ha : Tx a l) (hl : a.size ≤ 1000000000) (w : World) (R : Ending → World → Prop) (hR : R (.returned (.int .i64 (ckT l))) w) :
    Calls Tryz.prog 44 #[.string a] w R := by
  have HR := Lib.hid hR
  have HA := Lib.hid ha
  have HL := Lib.hid hl
  clear hR ha hl
  go_enter Tryz.func44, Tryz.ntmps44
  go_wp2_with fail
  refine xsizeT_any a l HA.out _ _ fun r hr => ?_
  have hne := isEmpty_of hr
  have hsr := hr.size
  have hsa := HA.out.size
  have hle : (bodyL l).length ≤ l.length := by unfold bodyL; split <;> simp
  have HT := Lib.hid hr
  have HB : Hid (r.size ≤ 1000000000) := by have := HL.out; unfold Hid; omega
  have HSR := Lib.hid hsr
  cases hb : bodyL l with
  | nil =>
    rw [hb, List.isEmpty_nil] at hne
    have e : Hid (ckT l = 3) := by unfold Hid ckT; rw [hb, if_pos (.inl rfl)]
    rw [e.out] at HR
    clear hb hr hsr hsa hle
    go_wp2_with fail
    exact HR.out
  | cons c t =>
    rw [hb, List.isEmpty_cons] at hne
    have hlen : r.size = t.length + 1 := by rw [hsr, hb, List.length_cons]
    have hp : 0 < r.size := by omega
    have hg0 : r[0] = c := by rw [hr.get hp, hb]; rfl
    have hh : ((r[0].toNat : Int) == 48) = decide (c = 48) := by rw [hg0]; exact beq_u8 c 48 (by decide)
    have hz := zero_ahead (l := l) (t := t)
    rw [hb] at hz
    have main : Hid (¬ (c = 48 ∧ l ≠ [48]) → Hid (R (.returned (.int .i64 (if dgA (bodyL l) = false then 3 else if r.size ≤ 1024 then 0 else 11))) w)) := fun hn => by
      unfold Hid
      have e : ckT l = if dgA (bodyL l) = false then 3 else if r.size ≤ 1024 then 0 else 11 := by
        unfold ckT
        rw [hsr, hb]
        by_cases hd : dgA (c :: t) = false
        · rw [if_pos (.inr hd), if_pos hd]
        · rw [if_neg (by simp [hd]), if_neg hd, if_neg (by simpa using hn)]
      rw [← e]; exact HR.out
    have early : Hid (c = 48 ∧ l ≠ [48] → R (.returned (.int .i64 3)) w) := fun hn => by
      have e : ckT l = 3 := by
        unfold ckT
        rw [hb]
        by_cases hd : dgA (c :: t) = false
        · rw [if_pos (.inr hd)]
        · rw [if_neg (by simp [hd]), if_pos (by simpa using hn)]
      rw [← e]; exact HR.out
    clear HR
    by_cases h0 : c = 48 ∧ l ≠ [48]
    · obtain ⟨rfl, h1⟩ := h0
      have HE := Lib.hid (early.out ⟨rfl, h1⟩)
      have h2 := (hz rfl).2 h1
      rw [decide_eq_true rfl] at hh
      by_cases h3 : 1 < r.size
      · have K1 : ((1 : Int) < (r.size : Int)) = True := eq_true (by omega)
        clear hb hr hsr hsa hle hz h2 h1 hg0 hlen h3
        go_wp2_with fail
        exact HE.out
      · have K1 : ((1 : Int) < (r.size : Int)) = False := eq_false (by omega)
        have K2 : ((1 : Int) < (a.size : Int)) = True := eq_true (by rw [hsa]; rcases h2 with h2 | h2 <;> simp only [List.length_cons] at * <;> omega)
        clear hb hr hsr hsa hle hz h2 h1 hg0 hlen h3
        go_wp2_with fail
        exact HE.out
    · have HM := Lib.hid (main.out h0)
      have loop : Hid (r.size > 0) := hp
      have HD : Hid (Tx r (bodyL l)) := HT.out
      have fin : Hid (∀ hh2 : (c = 48) → ((r.size : Int) ≤ 1 ∧ (a.size : Int) ≤ 1), True) := fun _ => trivial
      clear fin early main
      by_cases h1 : c = 48
      · subst h1
        have hl48 : l = [48] := Classical.byContradiction fun e => h0 ⟨rfl, e⟩
        rw [decide_eq_true rfl] at hh
        have hsz : r.size ≤ 1 := by rw [hsr, hl48]; exact Nat.le_refl _
        have K1 : ((1 : Int) < (r.size : Int)) = False := eq_false (by omega)
        have K2 : ((1 : Int) < (a.size : Int)) = False := eq_false (by rw [hsa, hl48]; simp)
        clear hb hr hsr hsa hle hz hg0 hlen hl48 hsz h0
        go_wp2_with fail
        go_loopw [4] (fun i wr => ∃ k : Nat, i = .int .i64 k ∧ k ≤ r.size ∧ Hid (dgA ((bodyL l).take k) = true) ∧ Hid (wr = w)) (fun i _ => r.size - (intOf i).toNat)
        case atStart => exact ⟨0, rfl, Nat.zero_le _, rfl, rfl⟩
        case round =>
          obtain ⟨k, rfl, hk, HG, HW⟩ := hrel
          have hs := HSR.out
          by_cases hlt : k < r.size
          · have K3 : ((k : Int) < (r.size : Int)) = True := eq_true (by omega)
            have hget := HD.out.get hlt
            have hk2 : k < (bodyL l).length := by omega
            have ht : (bodyL l).take (k + 1) = (bodyL l).take k ++ [(bodyL l).getD k 0] := by
              rw [List.take_add_one]
              simp [List.getD, hk2]
            obtain ⟨d, hd⟩ : ∃ z, (bodyL l).getD k 0 = z := ⟨_, rfl⟩
            rw [hd] at hget ht
            obtain ⟨n, hn⟩ : ∃ n, d.toNat = n := ⟨_, rfl⟩
            have hrk : r[k].toNat = n := by rw [hget]; exact hn
            have hn2 : n < 256 := by rw [← hn]; exact d.toNat_lt
            have bad : Hid (dgC d = false → R (.returned (.int .i64 3)) w) := fun e => by
              have h3 : dgA (bodyL l) = false := by
                have h4 : dgA ((bodyL l).take (k + 1)) = false := by rw [ht]; unfold dgA; rw [List.all_append]; simp [e]
                cases e5 : dgA (bodyL l) with
                | false => rfl
                | true =>
                  rw [← List.take_append_drop (k + 1) (bodyL l)] at e5
                  unfold dgA at e5 h4
                  rw [List.all_append, h4] at e5; cases e5
              have := HM.out.out
              rw [if_pos h3] at this; exact this
            by_cases c1 : n < 48
            · have K4 : ((n : Int) < 48) = True := eq_true (by omega)
              have HE := Lib.hid (bad.out (by
                cases e : dgC d with
                | false => rfl
                | true => have := dgC_iff.1 e; omega))
              have e := HW.out
              clear hs hget ht hd hn c1 hk2
              go_wp2_with fail
              subst e
              exact HE.out
            · have K4 : ((n : Int) < 48) = False := eq_false (by omega)
              by_cases c2 : 57 < n
              · have K5 : ((57 : Int) < (n : Int)) = True := eq_true (by omega)
                have HE := Lib.hid (bad.out (by
                  cases e : dgC d with
                  | false => rfl
                  | true => have := dgC_iff.1 e; omega))
                have e := HW.out
                clear hs hget ht hd hn c1 c2 hk2
                go_wp2_with fail
                subst e
                exact HE.out
              · have K5 : ((57 : Int) < (n : Int)) = False := eq_false (by omega)
                have HG2 : Hid (dgA ((bodyL l).take (k + 1)) = true) := by
                  unfold Hid
                  have h1 := HG.out
                  rw [ht]; unfold dgA at *; rw [List.all_append, h1]
                  have : dgC d = true := dgC_iff.2 (by omega)
                  simp [this]
                have hrs : r.size ≤ 1000000000 := HB.out
                clear hs hget ht hd hn c1 c2 hk2 bad
                go_wp2_with fail
                exact ⟨⟨k + 1, by go_num, by omega, HG2, HW⟩, by simp [intOf]; omega⟩
          · have K3 : ((k : Int) < (r.size : Int)) = False := eq_false (by omega)
            have hall : dgA (bodyL l) = true := by have := HG.out; rwa [List.take_of_length_le (by omega)] at this
            have e := HW.out
            have HM2 : Hid (R (.returned (.int .i64 (if r.size ≤ 1024 then 0 else 11))) w) := by have := HM.out.out; rw [hall] at this; exact this
            by_cases h5 : 1024 < r.size
            · have K4 : ((1024 : Int) < (r.size : Int)) = True := eq_true (by omega)
              rw [if_neg (by omega)] at HM2
              clear hs hall h5
              go_wp2_with fail
              subst e
              exact HM2.out
            · have K4 : ((1024 : Int) < (r.size : Int)) = False := eq_false (by omega)
              rw [if_pos (by omega)] at HM2
              clear hs hall h5
              go_wp2_with fail
              subst e
              exact HM2.out
      · rw [decide_eq_false h1] at hh
        clear hb hr hsr hsa hle hz hg0 hlen h0 h1
        go_wp2_with fail
        go_loopw [4] (fun i wr => ∃ k : Nat, i = .int .i64 k ∧ k ≤ r.size ∧ Hid (dgA ((bodyL l).take k) = true) ∧ Hid (wr = w)) (fun i _ => r.size - (intOf i).toNat)
        case atStart => exact ⟨0, rfl, Nat.zero_le _, rfl, rfl⟩
        case round =>
          obtain ⟨k, rfl, hk, HG, HW⟩ := hrel
          have hs := HSR.out
          by_cases hlt : k < r.size
          · have K3 : ((k : Int) < (r.size : Int)) = True := eq_true (by omega)
            have hget := HD.out.get hlt
            have hk2 : k < (bodyL l).length := by omega
            have ht : (bodyL l).take (k + 1) = (bodyL l).take k ++ [(bodyL l).getD k 0] := by
              rw [List.take_add_one]
              simp [List.getD, hk2]
            obtain ⟨d, hd⟩ : ∃ z, (bodyL l).getD k 0 = z := ⟨_, rfl⟩
            rw [hd] at hget ht
            obtain ⟨n, hn⟩ : ∃ n, d.toNat = n := ⟨_, rfl⟩
            have hrk : r[k].toNat = n := by rw [hget]; exact hn
            have hn2 : n < 256 := by rw [← hn]; exact d.toNat_lt
            have bad : Hid (dgC d = false → R (.returned (.int .i64 3)) w) := fun e => by
              have h3 : dgA (bodyL l) = false := by
                have h4 : dgA ((bodyL l).take (k + 1)) = false := by rw [ht]; unfold dgA; rw [List.all_append]; simp [e]
                cases e5 : dgA (bodyL l) with
                | false => rfl
                | true =>
                  rw [← List.take_append_drop (k + 1) (bodyL l)] at e5
                  unfold dgA at e5 h4
                  rw [List.all_append, h4] at e5; cases e5
              have := HM.out.out
              rw [if_pos h3] at this; exact this
            by_cases c1 : n < 48
            · have K4 : ((n : Int) < 48) = True := eq_true (by omega)
              have HE := Lib.hid (bad.out (by
                cases e : dgC d with
                | false => rfl
                | true => have := dgC_iff.1 e; omega))
              have e := HW.out
              clear hs hget ht hd hn c1 hk2
              go_wp2_with fail
              subst e
              exact HE.out
            · have K4 : ((n : Int) < 48) = False := eq_false (by omega)
              by_cases c2 : 57 < n
              · have K5 : ((57 : Int) < (n : Int)) = True := eq_true (by omega)
                have HE := Lib.hid (bad.out (by
                  cases e : dgC d with
                  | false => rfl
                  | true => have := dgC_iff.1 e; omega))
                have e := HW.out
                clear hs hget ht hd hn c1 c2 hk2
                go_wp2_with fail
                subst e
                exact HE.out
              · have K5 : ((57 : Int) < (n : Int)) = False := eq_false (by omega)
                have HG2 : Hid (dgA ((bodyL l).take (k + 1)) = true) := by
                  unfold Hid
                  have h1 := HG.out
                  rw [ht]; unfold dgA at *; rw [List.all_append, h1]
                  have : dgC d = true := dgC_iff.2 (by omega)
                  simp [this]
                have hrs : r.size ≤ 1000000000 := HB.out
                clear hs hget ht hd hn c1 c2 hk2 bad
                go_wp2_with fail
                exact ⟨⟨k + 1, by go_num, by omega, HG2, HW⟩, by simp [intOf]; omega⟩
          · have K3 : ((k : Int) < (r.size : Int)) = False := eq_false (by omega)
            have hall : dgA (bodyL l) = true := by have := HG.out; rwa [List.take_of_length_le (by omega)] at this
            have e := HW.out
            have HM2 : Hid (R (.returned (.int .i64 (if r.size ≤ 1024 then 0 else 11))) w) := by have := HM.out.out; rw [hall] at this; exact this
            by_cases h5 : 1024 < r.size
            · have K4 : ((1024 : Int) < (r.size : Int)) = True := eq_true (by omega)
              rw [if_neg (by omega)] at HM2
              clear hs hall h5
              go_wp2_with fail
              subst e
              exact HM2.out
            · have K4 : ((1024 : Int) < (r.size : Int)) = False := eq_false (by omega)
              rw [if_pos (by omega)] at HM2
              clear hs hall h5
              go_wp2_with fail
              subst e
              exact HM2.out
theorem xcheckI_any (a : ByteArray) (n : Int) (ha : Txt a n) (hl : lenI n ≤ 100000) (w : World) (R : Ending → World → Prop) (hR : R (.returned (.int .i64 (lgE n))) w) :
    Calls Tryz.prog 44 #[.string a] w R := by
  refine xcheckT_any a _ ha (by rw [ha.size]; split <;> omega) w R ?_
  rw [ckT_itoa]; exact hR
end Go.Proofs.YtcmhompbdanpdaaGreatDoor
