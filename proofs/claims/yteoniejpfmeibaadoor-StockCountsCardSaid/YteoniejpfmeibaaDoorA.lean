/- The walks of the functions that only compute. -/
import Derived.Test.YteoniejpfmeibaaDoorRows
import Derived.Test.YteoniejpfmeibaaDoorSpec
namespace Go.Proofs.YteoniejpfmeibaaDoor
open Go.RowKit

set_option maxHeartbeats 400000 in
theorem inside_any (n : Int) (w : World) (R : Ending → World → Prop) (hR : R (.returned (.bool (insB n))) w) :
    Calls Tryd.prog 68 #[.int .i64 n] w R := by
  go_enter Tryd.func68, Tryd.ntmps68
  go_wp2
  all_goals exact ret_eq hR (by simp [insB, *] <;> omega)

set_option maxHeartbeats 400000 in
theorem rinside_any (n : Int) (w : World) (R : Ending → World → Prop) (hR : R (.returned (.bool (insB n))) w) :
    Calls Tryd.prog 69 #[.int .i64 n] w R := by
  go_enter Tryd.func69, Tryd.ntmps69
  go_wp2
  all_goals exact ret_eq hR (by simp [insB, *] <;> omega)

set_option maxHeartbeats 400000 in
theorem check_any (ao : Option Addr) (zs : List Int) (c : Nat) (w : World) (R : Ending → World → Prop)
   (hl : zs.length ≤ 9223372036854775807) (hc : CellsAt w ao (I64s zs))
   (hR : R (.returned (.int .i64 (chk zs))) w) :
    Calls Tryd.prog 52 #[.slice ao zs.length c] w R := by
  go_enter Tryd.func52, Tryd.ntmps52
  go_wp2_with fail
  · exact ret_eq hR (by simp [chk]; omega)
  have Hchk : Hid (chk zs = chkR (loopE (chkF zs) zs.length 0 ())) := by unfold Hid chk; rw [if_neg (by omega)]
  go_loop [10] (fun i => ∃ k : Nat, k ≤ zs.length ∧ i = .int .i64 k ∧ Hid (loopE (chkF zs) (zs.length - k) k () = loopE (chkF zs) zs.length 0 ())) (fun i => zs.length - (intOf i).toNat)
  case atStart => exact ⟨0, Nat.zero_le _, rfl, rfl⟩
  case round =>
    obtain ⟨k, hk, rfl, hL⟩ := hrel
    by_cases hlt : k < zs.length
    · obtain ⟨b, o, rfl, _, hcell⟩ := hc.ints (by omega)
      have h1 := hcell k hlt
      have h2 := hcell (k-1) (by omega)
      clear hcell
      by_cases g1 : 1 ≤ at0 zs k ∧ at0 zs k ≤ 100000
      · have g2 : insB (at0 zs k) = true := by simp [insB, g1]
        by_cases g3 : 0 < k
        · by_cases g4 : at0 zs k ≤ at0 zs (k-1)
          · go_wp2_with (go_at_call 68; refine inside_any _ _ _ ?_)
            refine ret_eq hR ?_; rw [Hchk.out, loopE_hit hL hlt ?_]
            exact rfl
            simp [chkF, g2, g3, g4]
          · go_wp2_with (go_at_call 68; refine inside_any _ _ _ ?_)
            exact ⟨⟨k+1, by omega, by go_num, loopE_step hL hlt (by simp [chkF, g2, g3, g4])⟩, by simp [intOf]; omega⟩
        · go_wp2_with (go_at_call 68; refine inside_any _ _ _ ?_)
          exact ⟨⟨k+1, by omega, by go_num, loopE_step hL hlt (by simp [chkF, g2, g3])⟩, by simp [intOf]; omega⟩
      · have g2 : insB (at0 zs k) = false := by simp [insB]; omega
        go_wp2_with (go_at_call 68; refine inside_any _ _ _ ?_)
        all_goals
          refine ret_eq hR ?_; rw [Hchk.out, loopE_hit hL hlt ?_]
          exact rfl
          simp [chkF, g2]
    · go_wp2_with fail
      exact ret_eq hR (by rw [Hchk.out, loopE_done hL hlt]; rfl)

set_option maxHeartbeats 400000 in
theorem rcheck_any (ao : Option Addr) (zs : List Int) (c : Nat) (w : World) (R : Ending → World → Prop)
   (hl : zs.length ≤ 9223372036854775807) (hc : CellsAt w ao (I64s zs))
   (hR : ∀ w', Drew w w' → R (.returned (.int .i64 (chk zs))) w') :
    Calls Tryd.prog 53 #[.slice ao zs.length c] w R := by
  go_enter Tryd.func53, Tryd.ntmps53
  go_wp2_with fail
  · exact ret_eq (hR _ (Drew.refl _)) (by simp [chk]; omega)
  have Hchk : Hid (chk zs = chkR (loopE (chkF zs) zs.length 0 ())) := by unfold Hid chk; rw [if_neg (by omega)]
  go_loopw [3] (fun i wr => ∃ k : Nat, k ≤ zs.length ∧ i = .int .i64 k ∧ Drew w wr ∧ Hid (loopE (chkF zs) (zs.length - k) k () = loopE (chkF zs) zs.length 0 ())) (fun i _ => zs.length - (intOf i).toNat)
  case atStart => exact ⟨0, Nat.zero_le _, rfl, Drew.refl _, rfl⟩
  case round =>
    obtain ⟨k, hk, rfl, ⟨q, rfl⟩, hL⟩ := hrel
    by_cases hlt : k < zs.length
    · obtain ⟨b, o, rfl, _, hcell⟩ := hc.ints (by omega)
      have h1 := hcell k hlt
      have h2 := hcell (k-1) (by omega)
      clear hcell
      by_cases g1 : 1 ≤ at0 zs k ∧ at0 zs k ≤ 100000
      · have g2 : insB (at0 zs k) = true := by simp [insB, g1]
        by_cases g3 : 0 < k
        · by_cases g4 : at0 zs k ≤ at0 zs (k-1)
          · go_wp2_with fail
            go_quiet (fail)
            go_wp2_with fail
            refine ret_eq (hR _ (by repeat first | exact Drew.refl _ | apply Drew.drewN)) ?_; rw [Hchk.out, loopE_hit hL hlt ?_]
            exact rfl
            simp [chkF, g2, g3, g4]
          · go_wp2_with fail
            go_quiet (fail)
            go_wp2_with fail
            exact ⟨⟨k+1, by omega, by go_num, (by repeat first | exact Drew.refl _ | apply Drew.drewN), loopE_step hL hlt (by simp [chkF, g2, g3, g4])⟩, by simp [intOf]; omega⟩
        · have g5 : decide ((0:Int) < k) = false := by simp; omega
          go_wp2_with fail
          go_quiet (fail)
          go_wp2_with fail
          exact ⟨⟨k+1, by omega, by go_num, (by repeat first | exact Drew.refl _ | apply Drew.drewN), loopE_step hL hlt (by simp [chkF, g2, g3])⟩, by simp [intOf]; omega⟩
      · have g2 : insB (at0 zs k) = false := by simp [insB]; omega
        go_wp2_with fail
        all_goals
          refine ret_eq (hR _ (by repeat first | exact Drew.refl _ | apply Drew.drewN)) ?_; rw [Hchk.out, loopE_hit hL hlt ?_]
          exact rfl
          simp [chkF, g2]
    · go_wp2_with fail
      exact ret_eq (hR _ (by repeat first | exact Drew.refl _ | apply Drew.drewN)) (by rw [Hchk.out, loopE_done hL hlt]; rfl)

set_option maxHeartbeats 400000 in
theorem rtotal_any (ao ao2 : Option Addr) (zs st : List Int) (c c2 : Nat) (w : World) (R : Ending → World → Prop)
   (hl : zs.length ≤ 9223372036854775807) (hl2 : st.length ≤ 9223372036854775807) (hc : CellsAt w ao (I64s zs)) (hc2 : CellsAt w ao2 (I64s st))
   (hst : ∀ j, j < st.length → 0 ≤ at0 st j ∧ at0 st j < zs.length)
   (hR : R (.returned (.int .i64 (sum zs st))) w) :
    Calls Tryd.prog 83 #[.slice ao zs.length c, .slice ao2 st.length c2] w R := by
  have Hst : Hid (∀ j, j < st.length → 0 ≤ at0 st j ∧ at0 st j < zs.length) := hst
  clear hst
  go_enter Tryd.func83, Tryd.ntmps83
  go_wp2_with fail
  have Hs : Hid (sum zs st = sumR (loopE (sumF zs st) st.length 0 0)) := rfl
  go_loop [5, 6] (fun s i => ∃ (k : Nat) (t : Int), k ≤ st.length ∧ i = .int .i64 k ∧ s = .int .i64 t ∧ Hid (loopE (sumF zs st) (st.length - k) k t = loopE (sumF zs st) st.length 0 0)) (fun _ i => st.length - (intOf i).toNat)
  case atStart => exact ⟨0, 0, Nat.zero_le _, rfl, rfl, rfl⟩
  case round =>
    obtain ⟨k, t, hk, rfl, rfl, hL⟩ := hrel
    by_cases hlt : k < st.length
    · have g1 := Hst.out k hlt
      obtain ⟨b, o, rfl, _, hcell⟩ := hc2.ints (by omega)
      have h1 := hcell k hlt
      clear hcell
      obtain ⟨b2, o2, rfl, _, hcell2⟩ := hc.ints (by omega)
      have h4 := hcell2 (at0 st k).toNat (by omega)
      clear hcell2
      go_wp2_with fail
      exact ⟨⟨k+1, _, by omega, by go_num, rfl, loopE_step hL hlt rfl⟩, by simp [intOf]; omega⟩
    · go_wp2_with fail
      exact ret_eq hR (by rw [Hs.out, loopE_done hL hlt]; rfl)

set_option maxHeartbeats 400000 in
theorem same_any (ao ao2 : Option Addr) (xs ys : List Int) (c c2 : Nat) (w : World) (R : Ending → World → Prop)
   (hl : xs.length ≤ 9223372036854775807) (_hl2 : ys.length ≤ 9223372036854775807) (hc : CellsAt w ao (I64s xs)) (hc2 : CellsAt w ao2 (I64s ys))
   (hR : ∀ w', Drew w w' → R (.returned (.bool (eqL xs ys))) w') :
    Calls Tryd.prog 37 #[.slice ao xs.length c, .slice ao2 ys.length c2] w R := by
  by_cases hne : xs.length = ys.length
  case neg =>
    have h1 : ((xs.length : Int) != ys.length) = true := by rw [bne_iff_ne]; omega
    go_enter Tryd.func37, Tryd.ntmps37
    go_wp2_with fail
    exact ret_eq (hR _ (Drew.refl _)) (by rw [eqL, if_neg hne]; rfl)
  have hle : Hid (ys.length = xs.length) := hne.symm
  rw [← hne]; clear hne
  go_enter Tryd.func37, Tryd.ntmps37
  go_wp2_with fail
  have Hs : Hid (eqL xs ys = eqR (loopE (eqF xs ys) xs.length 0 ())) := by unfold Hid; rw [eqL, if_pos hle.out.symm]
  go_loopw [5] (fun i wr => ∃ (k : Nat), k ≤ xs.length ∧ i = .int .i64 k ∧ Drew w wr ∧ Hid (loopE (eqF xs ys) (xs.length - k) k () = loopE (eqF xs ys) xs.length 0 ())) (fun i _ => xs.length - (intOf i).toNat)
  case atStart => exact ⟨0, Nat.zero_le _, rfl, Drew.refl _, rfl⟩
  case round =>
    obtain ⟨k, hk, rfl, ⟨q, rfl⟩, hL⟩ := hrel
    by_cases hlt : k < xs.length
    · obtain ⟨b, o, rfl, _, hcell⟩ := hc.ints (by omega)
      have h1 := hcell k hlt
      clear hcell
      obtain ⟨b2, o2, rfl, _, hcell⟩ := hc2.ints (by have := hle.out; omega)
      have h2 := hcell k (by have := hle.out; omega)
      clear hcell
      by_cases g : at0 xs k = at0 ys k
      · have g1 : (at0 xs k != at0 ys k) = false := by simp [g]
        have G : Hid (at0 xs k = at0 ys k) := g
        clear g
        go_wp2_with fail
        go_quiet (fail)
        go_wp2_with fail
        exact ⟨⟨k+1, by omega, by go_num, (by repeat first | exact Drew.refl _ | apply Drew.drewN), loopE_step hL hlt (by simp [eqF, G.out])⟩, by simp [intOf]; omega⟩
      · have g1 : (at0 xs k != at0 ys k) = true := by simp [g]
        have G : Hid (¬ at0 xs k = at0 ys k) := g
        clear g
        go_wp2_with fail
        go_quiet (fail)
        go_wp2_with fail
        refine ret_eq (hR _ (by repeat first | exact Drew.refl _ | apply Drew.drewN)) ?_; rw [Hs.out, loopE_hit hL hlt ?_]
        exact rfl
        simp [eqF, G.out]
    · go_wp2_with fail
      exact ret_eq (hR _ (by repeat first | exact Drew.refl _ | apply Drew.drewN)) (by rw [Hs.out, loopE_done hL hlt]; rfl)

set_option maxHeartbeats 400000 in
theorem equal_any (ao ao2 : Option Addr) (xs ys : List Int) (c c2 : Nat) (w : World) (R : Ending → World → Prop)
   (hl : xs.length ≤ 9223372036854775807) (_hl2 : ys.length ≤ 9223372036854775807) (hc : CellsAt w ao (I64s xs)) (hc2 : CellsAt w ao2 (I64s ys))
   (hR : ∀ w', Drew w w' → R (.returned (.bool (eqL xs ys))) w') :
    Calls Tryd.prog 21 #[.slice ao xs.length c, .slice ao2 ys.length c2] w R := by
  by_cases hne : xs.length = ys.length
  case neg =>
    have h1 : ((xs.length : Int) != ys.length) = true := by rw [bne_iff_ne]; omega
    go_enter Tryd.func21, Tryd.ntmps21
    go_wp2_with fail
    exact ret_eq (hR _ (Drew.refl _)) (by rw [eqL, if_neg hne]; rfl)
  have hle : Hid (ys.length = xs.length) := hne.symm
  rw [← hne]; clear hne
  go_enter Tryd.func21, Tryd.ntmps21
  go_wp2_with fail
  have Hs : Hid (eqL xs ys = eqR (loopE (eqF xs ys) xs.length 0 ())) := by unfold Hid; rw [eqL, if_pos hle.out.symm]
  go_loopw [13] (fun i wr => ∃ (k : Nat), k ≤ xs.length ∧ i = .int .i64 k ∧ Drew w wr ∧ Hid (loopE (eqF xs ys) (xs.length - k) k () = loopE (eqF xs ys) xs.length 0 ())) (fun i _ => xs.length - (intOf i).toNat)
  case atStart => exact ⟨0, Nat.zero_le _, rfl, Drew.refl _, rfl⟩
  case round =>
    obtain ⟨k, hk, rfl, ⟨q, rfl⟩, hL⟩ := hrel
    by_cases hlt : k < xs.length
    · obtain ⟨b, o, rfl, _, hcell⟩ := hc.ints (by omega)
      have h1 := hcell k hlt
      clear hcell
      obtain ⟨b2, o2, rfl, _, hcell⟩ := hc2.ints (by have := hle.out; omega)
      have h2 := hcell k (by have := hle.out; omega)
      clear hcell
      by_cases g : at0 xs k = at0 ys k
      · have g1 : (at0 xs k != at0 ys k) = false := by simp [g]
        have G : Hid (at0 xs k = at0 ys k) := g
        clear g
        go_wp2_with fail
        go_quiet (fail)
        go_wp2_with fail
        exact ⟨⟨k+1, by omega, by go_num, (by repeat first | exact Drew.refl _ | apply Drew.drewN), loopE_step hL hlt (by simp [eqF, G.out])⟩, by simp [intOf]; omega⟩
      · have g1 : (at0 xs k != at0 ys k) = true := by simp [g]
        have G : Hid (¬ at0 xs k = at0 ys k) := g
        clear g
        go_wp2_with fail
        go_quiet (fail)
        go_wp2_with fail
        refine ret_eq (hR _ (by repeat first | exact Drew.refl _ | apply Drew.drewN)) ?_; rw [Hs.out, loopE_hit hL hlt ?_]
        exact rfl
        simp [eqF, G.out]
    · go_wp2_with fail
      exact ret_eq (hR _ (by repeat first | exact Drew.refl _ | apply Drew.drewN)) (by rw [Hs.out, loopE_done hL hlt]; rfl)

end Go.Proofs.YteoniejpfmeibaaDoor
