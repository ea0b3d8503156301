/- The walks of given, Fewest, Verify, Count, Length and the reference's Length. -/
import Derived.Test.YtdmolmdenfepkaaD
import Derived.Test.YtdmolmdenfepkaaA
import Derived.Test.YtdmolmdenfepkaaSpec2
namespace Go.Proofs.Ytdmolmdenfepkaa
open Go.RowKit

set_option maxHeartbeats 400000 in
theorem given_any (ao : Option Addr) (zs : List Int) (c : Nat) (l : Int) (w : World) (R : Ending → World → Prop)
   (hl : zs.length ≤ 9223372036854775807) (hc : CellsAt w ao (I64s zs)) (hR : R (.returned (.int .i64 (gvn zs l))) w) :
    Calls Try.prog 38 #[.slice ao zs.length c, .int .i64 l] w R := by
  have HR := Lib.hid hR
  clear hR
  by_cases h : chk zs = 0
  · cases h2 : insB l with
    | true =>
      have HR' : Hid (R (.returned (.int .i64 0)) w) := by have := HR.out; rw [gvn, if_pos h, h2] at this; exact this
      go_enter Try.func38, Try.ntmps38
      go_wp2_with (first | (go_at_call 27; refine check_any ao zs c _ _ hl hc ?_) | (go_at_call 53; refine inside_any _ _ _ ?_))
      exact HR'.out
    | false =>
      have HR' : Hid (R (.returned (.int .i64 2)) w) := by have := HR.out; rw [gvn, if_pos h, h2] at this; exact this
      go_enter Try.func38, Try.ntmps38
      go_wp2_with (first | (go_at_call 27; refine check_any ao zs c _ _ hl hc ?_) | (go_at_call 53; refine inside_any _ _ _ ?_))
      exact HR'.out
  · have h2 : (chk zs != 0) = true := by simpa using h
    have HR' : Hid (R (.returned (.int .i64 (chk zs))) w) := by have := HR.out; rw [gvn, if_neg h] at this; exact this
    go_enter Try.func38, Try.ntmps38
    go_wp2_with (first | (go_at_call 27; refine check_any ao zs c _ _ hl hc ?_) | (go_at_call 53; refine inside_any _ _ _ ?_))
    exact HR'.out

set_option maxHeartbeats 400000 in
theorem fewestX_any (ao : Option Addr) (zs : List Int) (c : Nat) (l : Int) (w : World) (R : Ending → World → Prop)
   (hl : zs.length ≤ 9223372036854775807) (hc : CellsAt w ao (I64s zs))
   (hR : ∀ ao' c' w', Below w.heap.size w w' → CellsAt w' ao' (I64s (fewL zs l)) → R (.returned (.tuple #[.slice ao' (fewL zs l).length c', .int .i64 (fewE zs l)])) w') :
    Calls Try.prog 13 #[.slice ao zs.length c, .int .i64 l] w R := by
  have HR := Lib.hid hR
  clear hR
  by_cases h : gvn zs l = 0
  · obtain ⟨hs, hl1, hl2⟩ := gvn_zero h
    have Hbd := Lib.hid hs.bd
    obtain ⟨n, rfl⟩ : ∃ n : Nat, l = n := ⟨l.toNat, by omega⟩
    have hl3 := hs.1
    clear hs
    go_enter Try.func13, Try.ntmps13
    go_wp2_with fail
    refine given_any ao zs c _ _ _ hl hc ?_
    go_wp2_with fail
    refine best_any ao zs c n _ _ hl3 hc Hbd.out (by omega) (fun hr ao' c' w' hb hcl => ?_) (fun hr w' hb => ?_)
    · have e1 : fewL zs n = bestL zs 0 n := by rw [fewL, Int.toNat_natCast, if_pos ⟨h, hr⟩]
      have e2 : fewE zs n = 0 := by rw [fewE, Int.toNat_natCast, if_pos h, if_pos hr]
      have HR' := Lib.hid (HR.out ao' c' w' hb (by rw [e1]; exact hcl))
      rw [e1, e2] at HR'
      clear hcl hb hr e1 e2
      go_wp2_with fail
      exact HR'.out
    · have e1 : fewL zs n = [] := by rw [fewL, Int.toNat_natCast, if_neg (by simp [hr])]
      have e2 : fewE zs n = 6 := by rw [fewE, Int.toNat_natCast, if_pos h, if_neg (by simp [hr])]
      have HR' := Lib.hid (HR.out none 0 w' hb (by rw [e1]; exact CellsAt.nil _ _))
      rw [e1, e2] at HR'
      clear hb hr e1 e2
      go_wp2_with fail
      exact HR'.out
  · have h2 : (gvn zs l != 0) = true := by simpa using h
    have e1 : fewL zs l = [] := by rw [fewL, if_neg (by simp [h])]
    have e2 : fewE zs l = gvn zs l := by rw [fewE, if_neg h]
    have HR' := Lib.hid (HR.out none 0 w (Below.refl _ _) (by rw [e1]; exact CellsAt.nil _ _))
    rw [e1, e2] at HR'
    clear e1 e2 h
    go_enter Try.func13, Try.ntmps13
    go_wp2_with fail
    refine given_any ao zs c _ _ _ hl hc ?_
    go_wp2_with fail
    exact HR'.out
set_option maxHeartbeats 400000 in
theorem length_any (ao ao2 : Option Addr) (zs st : List Int) (c c2 : Nat) (w : World) (R : Ending → World → Prop)
   (hl : zs.length ≤ 9223372036854775807) (hl2 : st.length ≤ 9223372036854775807) (hc : CellsAt w ao (I64s zs)) (hc2 : CellsAt w ao2 (I64s st))
   (hR : R (.returned (.tuple #[.int .i64 (len zs st).1, .int .i64 (len zs st).2])) w) :
    Calls Try.prog 25 #[.slice ao zs.length c, .slice ao2 st.length c2] w R := by
  have HR := Lib.hid hR
  clear hR
  by_cases h : chk zs = 0
  · have e1 : len zs st = tot zs st := by rw [len, if_pos h]
    rw [e1] at HR
    clear e1
    go_enter Try.func25, Try.ntmps25
    go_wp2_with (first | (go_at_call 27; refine check_any ao zs c _ _ hl hc ?_) | (go_at_call 42; refine total_any ao ao2 zs st c c2 _ _ hl hl2 hc hc2 ?_))
    exact HR.out
  · have h2 : (chk zs != 0) = true := by simpa using h
    have e1 : len zs st = (0, chk zs) := by rw [len, if_neg h]
    rw [e1] at HR
    clear e1
    go_enter Try.func25, Try.ntmps25
    go_wp2_with (first | (go_at_call 27; refine check_any ao zs c _ _ hl hc ?_))
    exact HR.out

/-- What 'stacked' asks. -/
theorem stk_zero {zs st : List Int} (h : stk zs st = 0) : ∀ j, j < st.length → 0 ≤ at0 st j ∧ at0 st j < zs.length := by
  intro j hj
  unfold stk at h
  cases hl : loopE (stkF zs st) st.length 0 () with
  | inl s =>
    cases s
    have := (loopE_unit _ _).1 hl j (by omega) (by omega)
    unfold stkF at this
    split at this
    · cases this
    · omega
  | inr r =>
    rw [hl] at h
    obtain ⟨i, _, _, hi⟩ := loopE_unit_inr _ _ hl
    unfold stkF at hi
    simp only [chkR] at h
    subst h
    split at hi
    · cases hi
    · split at hi <;> cases hi

set_option maxHeartbeats 400000 in
theorem rlength_any (ao ao2 : Option Addr) (zs st : List Int) (c c2 : Nat) (w : World) (R : Ending → World → Prop)
   (hl : zs.length ≤ 9223372036854775807) (hl2 : st.length ≤ 9223372036854775807) (hc : CellsAt w ao (I64s zs)) (hc2 : CellsAt w ao2 (I64s st))
   (hR : ∀ w', Drew w w' → R (.returned (.tuple #[.int .i64 (rlen zs st).1, .int .i64 (rlen zs st).2])) w') :
    Calls Try.prog 26 #[.slice ao zs.length c, .slice ao2 st.length c2] w R := by
  have HR := Lib.hid hR
  clear hR
  by_cases h : chk zs = 0
  · by_cases h3 : stk zs st = 0
    · have e1 : rlen zs st = (sum zs st, 0) := by rw [rlen, if_pos h, if_pos h3]
      rw [e1] at HR
      have H3 := Lib.hid (stk_zero h3)
      clear e1
      go_enter Try.func26, Try.ntmps26
      go_wp2_with fail
      refine rcheck_any ao zs c _ _ hl hc ?_
      rintro w1 ⟨q1, rfl⟩
      go_wp2_with fail
      refine stacked_any ao ao2 zs st c c2 _ _ hl hl2 (hc2.below ((Drew.refl _).drewN.below _)) ?_
      rintro w1 ⟨q2, rfl⟩
      go_wp2_with fail
      refine rtotal_any ao ao2 zs st c c2 _ _ hl hl2 (hc.below ((Drew.refl _).drewN.below _)) (hc2.below ((Drew.refl _).drewN.below _)) H3.out ?_
      go_wp2_with fail
      exact HR.out _ (by repeat first | exact Drew.refl _ | apply Drew.drewN)
    · have e1 : rlen zs st = (0, stk zs st) := by rw [rlen, if_pos h, if_neg h3]
      have h4 : (stk zs st != 0) = true := by simpa using h3
      rw [e1] at HR
      clear e1
      go_enter Try.func26, Try.ntmps26
      go_wp2_with fail
      refine rcheck_any ao zs c _ _ hl hc ?_
      rintro w1 ⟨q1, rfl⟩
      go_wp2_with fail
      refine stacked_any ao ao2 zs st c c2 _ _ hl hl2 (hc2.below ((Drew.refl _).drewN.below _)) ?_
      rintro w1 ⟨q2, rfl⟩
      go_wp2_with fail
      exact HR.out _ (by repeat first | exact Drew.refl _ | apply Drew.drewN)
  · have h2 : (chk zs != 0) = true := by simpa using h
    have e1 : rlen zs st = (0, chk zs) := by rw [rlen, if_neg h]
    rw [e1] at HR
    clear e1
    go_enter Try.func26, Try.ntmps26
    go_wp2_with fail
    refine rcheck_any ao zs c _ _ hl hc ?_
    rintro w1 ⟨q1, rfl⟩
    go_wp2_with fail
    exact HR.out _ (by repeat first | exact Drew.refl _ | apply Drew.drewN)

set_option maxHeartbeats 400000 in
theorem verify_any (ao ao2 : Option Addr) (zs st : List Int) (c c2 : Nat) (l : Int) (w : World) (R : Ending → World → Prop)
   (hl : zs.length ≤ 9223372036854775807) (hl2 : st.length ≤ 9223372036854775807) (hc : CellsAt w ao (I64s zs)) (hc2 : CellsAt w ao2 (I64s st))
   (hR : ∀ w', Below w.heap.size w w' → R (.returned (.int .i64 (verE zs l st))) w') :
    Calls Try.prog 16 #[.slice ao zs.length c, .int .i64 l, .slice ao2 st.length c2] w R := by
  have HR := Lib.hid hR
  clear hR
  by_cases h : gvn zs l = 0
  · by_cases h3 : (tot zs st).2 = 0
    · obtain ⟨hs, hl1, hl2'⟩ := gvn_zero h
      have Hbd := Lib.hid hs.bd
      obtain ⟨n, rfl⟩ : ∃ n : Nat, l = n := ⟨l.toNat, by omega⟩
      have hl3 := hs.1
      clear hs
      go_enter Try.func16, Try.ntmps16
      go_wp2_with fail
      refine given_any ao zs c _ _ _ hl hc ?_
      go_wp2_with fail
      refine total_any ao ao2 zs st c c2 _ _ hl hl2 hc hc2 ?_
      go_wp2_with fail
      refine best_any ao zs c n _ _ hl3 hc Hbd.out (by omega) (fun hr ao' c' w' hb hcl => ?_) (fun hr w' hb => ?_)
      · have e1 : verE zs n st = if eqL (bestL zs 0 n) st = true then 0 else 15 := by rw [verE, Int.toNat_natCast, if_pos h, if_pos h3, hr]; simp
        have HB := Lib.hid hb
        have hle := bestL_length zs 0 n
        clear hb hr
        go_wp2_with fail
        refine equal_any ao' ao2 (bestL zs 0 n) st c' c2 _ _ (by omega) hl2 hcl (hc2.below HB.out) ?_
        rintro w2 ⟨q, rfl⟩
        have HR' := HR.out (w'.drewN q) (HB.out.trans ((Drew.refl _).drewN.below _))
        rw [e1] at HR'
        clear e1
        have HR'' := Lib.hid HR'
        clear HR'
        cases he : eqL (bestL zs 0 n) st with
        | true =>
          rw [he] at HR''
          go_wp2_with fail
          exact HR''.out
        | false =>
          rw [he] at HR''
          go_wp2_with fail
          exact HR''.out
      · have e1 : verE zs n st = 15 := by rw [verE, Int.toNat_natCast, if_pos h, if_pos h3, hr]; simp
        have HR' := Lib.hid (HR.out w' hb)
        rw [e1] at HR'
        clear hb hr e1
        go_wp2_with fail
        exact HR'.out
    · have h4 : ((tot zs st).2 != 0) = true := by simpa using h3
      have e1 : verE zs l st = (tot zs st).2 := by rw [verE, if_pos h, if_neg h3]
      have HR' := Lib.hid (HR.out w (Below.refl _ _))
      rw [e1] at HR'
      clear e1
      go_enter Try.func16, Try.ntmps16
      go_wp2_with fail
      refine given_any ao zs c _ _ _ hl hc ?_
      go_wp2_with fail
      refine total_any ao ao2 zs st c c2 _ _ hl hl2 hc hc2 ?_
      go_wp2_with fail
      exact HR'.out
  · have h2 : (gvn zs l != 0) = true := by simpa using h
    have e1 : verE zs l st = gvn zs l := by rw [verE, if_neg h]
    have HR' := Lib.hid (HR.out w (Below.refl _ _))
    rw [e1] at HR'
    clear e1 h
    go_enter Try.func16, Try.ntmps16
    go_wp2_with fail
    refine given_any ao zs c _ _ _ hl hc ?_
    go_wp2_with fail
    exact HR'.out
end Go.Proofs.Ytdmolmdenfepkaa
