/- Fewest of the reference of package blocks, with the freshness of what it returns; after XH. -/
import Derived.Test.YteoniejpfmeibaaDoorH
import Derived.Test.YteoniejpfmeibaaDoorR
namespace Go.Proofs.YteoniejpfmeibaaDoor
open Go.RowKit

set_option maxHeartbeats 400000 in
theorem rfewestX_any (ao : Option Addr) (zs : List Int) (c : Nat) (l : Int) (w : World) (R : Ending → World → Prop)
   (hl : zs.length ≤ 9223372036854775807) (hl9 : chk zs = 0 → zs.length ≤ 9) (hc : CellsAt w ao (I64s zs))
   (hR : ∀ ao' c' w', Below w.heap.size w w' → CellsAt w' ao' (I64s (rfewL zs l)) → (∀ b o, ao' = some ⟨b, o, none⟩ → w.heap.size ≤ b) → R (.returned (.tuple #[.slice ao' (rfewL zs l).length c', .int .i64 (rfewE zs l)])) w') :
    Calls Tryd.prog 54 #[.slice ao zs.length c, .int .i64 l] w R := by
  have HR := Lib.hid hR
  clear hR
  by_cases h : chk zs = 0
  · have h9 := hl9 h
    clear hl9
    cases h2 : insB l with
    | true =>
      have hg : gvn zs l = 0 := by rw [gvn, if_pos h, h2]; rfl
      have e1 : rfewL zs l = rbest zs l := by rw [rfewL, if_pos hg]
      have HE : Hid (rfewE zs l = if (rbest zs l).length = 0 then 6 else 0) := by unfold Hid; rw [rfewE, if_pos hg]
      rw [e1] at HR
      clear e1 hg
      go_enter Tryd.func54, Tryd.ntmps54
      go_wp2_with fail
      refine rcheck_any ao zs c _ _ hl hc ?_
      rintro w1 ⟨q1, rfl⟩
      go_wp2_with fail
      refine rinside_any _ _ _ ?_
      go_wp2_with fail
      refine rbest_any ao zs c l _ _ h9 (hc.below ((Drew.refl _).drewN.below _)) ?_
      intro v w2 hb hrow
      obtain ⟨aor, cr, rfl, hcr, hbase, hnr⟩ := OwnL.read hrow
      have HB := Lib.hid hb
      have HN := Lib.hid hnr
      have HCR := Lib.hid hcr
      have hcmp := Tryd.eqNil
      have HBA := Lib.hid hbase
      clear hb hrow hbase hnr hcr
      cases aor with
      | none =>
        have e0 : (rbest zs l).length = 0 := HN.out.1 rfl
        have HR' := Lib.hid (HR.out none 0 w2 (((Drew.refl _).drewN.below _).trans HB.out) HCR.out HBA.out)
        rw [HE.out, if_pos e0, e0] at HR'
        clear e0
        go_wp2_with fail
        exact HR'.out
      | some ad =>
        have e0 : ¬ (rbest zs l).length = 0 := fun e => by have := HN.out.2 e; cases this
        have HR' := Lib.hid (HR.out (some ad) cr w2 (((Drew.refl _).drewN.below _).trans HB.out) HCR.out HBA.out)
        rw [HE.out, if_neg e0] at HR'
        clear e0
        go_wp2_with fail
        exact HR'.out
    | false =>
      have hg : gvn zs l = 2 := by rw [gvn, if_pos h, h2]; rfl
      have e1 : rfewL zs l = [] := by rw [rfewL, hg]; rfl
      have e2 : rfewE zs l = 2 := by rw [rfewE, hg]; rfl
      rw [e1, e2] at HR
      clear e1 e2 hg
      go_enter Tryd.func54, Tryd.ntmps54
      go_wp2_with fail
      refine rcheck_any ao zs c _ _ hl hc ?_
      rintro w1 ⟨q1, rfl⟩
      go_wp2_with fail
      refine rinside_any _ _ _ ?_
      go_wp2_with fail
      exact HR.out none 0 _ ((Drew.refl _).drewN.below _) (CellsAt.nil _ _) (fun _ _ h => by cases h)
  · have h2 : (chk zs != 0) = true := by simpa using h
    have hg : gvn zs l = chk zs := by rw [gvn, if_neg h]
    have e1 : rfewL zs l = [] := by rw [rfewL, hg, if_neg h]
    have e2 : rfewE zs l = chk zs := by rw [rfewE, hg, if_neg h]
    rw [e1, e2] at HR
    clear e1 e2 hg hl9
    go_enter Tryd.func54, Tryd.ntmps54
    go_wp2_with fail
    refine rcheck_any ao zs c _ _ hl hc ?_
    rintro w1 ⟨q1, rfl⟩
    go_wp2_with fail
    exact HR.out none 0 _ ((Drew.refl _).drewN.below _) (CellsAt.nil _ _) (fun _ _ h => by cases h)
/-- The same, in the words of the program's. -/
theorem rfewestY_any (ao : Option Addr) (zs : List Int) (c : Nat) (l : Int) (w : World) (R : Ending → World → Prop)
   (hl : zs.length ≤ 9223372036854775807) (hl9 : chk zs = 0 → zs.length ≤ 9) (hc : CellsAt w ao (I64s zs))
   (hR : ∀ ao' c' w', Below w.heap.size w w' → CellsAt w' ao' (I64s (fewL zs l)) → (∀ b o, ao' = some ⟨b, o, none⟩ → w.heap.size ≤ b) → R (.returned (.tuple #[.slice ao' (fewL zs l).length c', .int .i64 (fewE zs l)])) w') :
    Calls Tryd.prog 54 #[.slice ao zs.length c, .int .i64 l] w R := by
  rw [(few_eq zs l).1, (few_eq zs l).2] at hR
  exact rfewestX_any ao zs c l w R hl hl9 hc hR
end Go.Proofs.YteoniejpfmeibaaDoor
