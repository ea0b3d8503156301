/- The walks of given, Fewest, Verify, Count, Length and the reference's Length. -/
import Derived.Test.YteoniejpfmeibaaDoorD
import Derived.Test.YteoniejpfmeibaaDoorA
import Derived.Test.YteoniejpfmeibaaDoorSpec2
namespace Go.Proofs.YteoniejpfmeibaaDoor
open Go.RowKit

set_option maxHeartbeats 400000 in
theorem given_any (ao : Option Addr) (zs : List Int) (c : Nat) (l : Int) (w : World) (R : Ending → World → Prop)
   (hl : zs.length ≤ 9223372036854775807) (hc : CellsAt w ao (I64s zs)) (hR : R (.returned (.int .i64 (gvn zs l))) w) :
    Calls Tryd.prog 59 #[.slice ao zs.length c, .int .i64 l] w R := by
  have HR := Lib.hid hR
  clear hR
  by_cases h : chk zs = 0
  · cases h2 : insB l with
    | true =>
      have HR' : Hid (R (.returned (.int .i64 0)) w) := by have := HR.out; rw [gvn, if_pos h, h2] at this; exact this
      go_enter Tryd.func59, Tryd.ntmps59
      go_wp2_with (first | (go_at_call 52; refine check_any ao zs c _ _ hl hc ?_) | (go_at_call 68; refine inside_any _ _ _ ?_))
      exact HR'.out
    | false =>
      have HR' : Hid (R (.returned (.int .i64 2)) w) := by have := HR.out; rw [gvn, if_pos h, h2] at this; exact this
      go_enter Tryd.func59, Tryd.ntmps59
      go_wp2_with (first | (go_at_call 52; refine check_any ao zs c _ _ hl hc ?_) | (go_at_call 68; refine inside_any _ _ _ ?_))
      exact HR'.out
  · have h2 : (chk zs != 0) = true := by simpa using h
    have HR' : Hid (R (.returned (.int .i64 (chk zs))) w) := by have := HR.out; rw [gvn, if_neg h] at this; exact this
    go_enter Tryd.func59, Tryd.ntmps59
    go_wp2_with (first | (go_at_call 52; refine check_any ao zs c _ _ hl hc ?_) | (go_at_call 68; refine inside_any _ _ _ ?_))
    exact HR'.out

set_option maxHeartbeats 400000 in
theorem fewestX_any (ao : Option Addr) (zs : List Int) (c : Nat) (l : Int) (w : World) (R : Ending → World → Prop)
   (hl : zs.length ≤ 9223372036854775807) (hc : CellsAt w ao (I64s zs))
   (hR : ∀ ao' c' w', Below w.heap.size w w' → CellsAt w' ao' (I64s (fewL zs l)) → (∀ b o, ao' = some ⟨b, o, none⟩ → w.heap.size ≤ b) → R (.returned (.tuple #[.slice ao' (fewL zs l).length c', .int .i64 (fewE zs l)])) w') :
    Calls Tryd.prog 36 #[.slice ao zs.length c, .int .i64 l] w R := by
  have HR := Lib.hid hR
  clear hR
  by_cases h : gvn zs l = 0
  · obtain ⟨hs, hl1, hl2⟩ := gvn_zero h
    have Hbd := Lib.hid hs.bd
    obtain ⟨n, rfl⟩ : ∃ n : Nat, l = n := ⟨l.toNat, by omega⟩
    have hl3 := hs.1
    clear hs
    go_enter Tryd.func36, Tryd.ntmps36
    go_wp2_with fail
    refine given_any ao zs c _ _ _ hl hc ?_
    go_wp2_with fail
    refine best_any ao zs c n _ _ hl3 hc Hbd.out (by omega) (fun hr ao' c' w' hb hcl hfr => ?_) (fun hr w' hb => ?_)
    · have e1 : fewL zs n = bestL zs 0 n := by rw [fewL, Int.toNat_natCast, if_pos ⟨h, hr⟩]
      have e2 : fewE zs n = 0 := by rw [fewE, Int.toNat_natCast, if_pos h, if_pos hr]
      have HR' := Lib.hid (HR.out ao' c' w' hb (by rw [e1]; exact hcl) hfr)
      rw [e1, e2] at HR'
      clear hcl hb hr e1 e2 hfr
      go_wp2_with fail
      exact HR'.out
    · have e1 : fewL zs n = [] := by rw [fewL, Int.toNat_natCast, if_neg (by simp [hr])]
      have e2 : fewE zs n = 6 := by rw [fewE, Int.toNat_natCast, if_pos h, if_neg (by simp [hr])]
      have HR' := Lib.hid (HR.out none 0 w' hb (by rw [e1]; exact CellsAt.nil _ _) (fun _ _ h => by cases h))
      rw [e1, e2] at HR'
      clear hb hr e1 e2
      go_wp2_with fail
      exact HR'.out
  · have h2 : (gvn zs l != 0) = true := by simpa using h
    have e1 : fewL zs l = [] := by rw [fewL, if_neg (by simp [h])]
    have e2 : fewE zs l = gvn zs l := by rw [fewE, if_neg h]
    have HR' := Lib.hid (HR.out none 0 w (Below.refl _ _) (by rw [e1]; exact CellsAt.nil _ _) (fun _ _ h => by cases h))
    rw [e1, e2] at HR'
    clear e1 e2 h
    go_enter Tryd.func36, Tryd.ntmps36
    go_wp2_with fail
    refine given_any ao zs c _ _ _ hl hc ?_
    go_wp2_with fail
    exact HR'.out
/-- What 'stacked' asks. -/
theorem stk_zero {zs st : List Int} (h : stk zs st = 0) : ∀ j, j < st.length → 0 ≤ at0 st j ∧ at0 st j < zs.length := by
  intro j hj
  unfold stk at h
  cases hl : loopE (stkF zs st) st.length 0 () with
  | inl s =>
    cases s
    have := (loopE_unit _ _).1 hl j (by omega) (by omega)
    unfold stkF at this
    split at this
    · cases this
    · omega
  | inr r =>
    rw [hl] at h
    obtain ⟨i, _, _, hi⟩ := loopE_unit_inr _ _ hl
    unfold stkF at hi
    simp only [chkR] at h
    subst h
    split at hi
    · cases hi
    · split at hi <;> cases hi

end Go.Proofs.YteoniejpfmeibaaDoor
