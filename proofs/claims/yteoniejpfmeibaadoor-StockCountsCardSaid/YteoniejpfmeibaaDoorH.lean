/- The walks of the reference's Best, Fewest, Verify, Count. -/
import Derived.Test.YteoniejpfmeibaaDoorG
import Derived.Test.YteoniejpfmeibaaDoorE
import Derived.Test.YteoniejpfmeibaaDoorSpec4
namespace Go.Proofs.YteoniejpfmeibaaDoor
open Go.RowKit

/-- The rows of a slice of slices, one by one. -/
theorem RowsV.at {e : TypeId} {w : World} {base : Nat} {vs : List Value} {ls : List (List Int)} (h : RowsV e w base vs ls) {i : Nat} (hi : i < ls.length) : RowV e w base (vs.getD i undef) ls[i] := by
  have := h.2 i hi
  rwa [List.getD_eq_getElem?_getD (l := ls), List.getElem?_eq_getElem hi, Option.getD_some] at this

set_option maxHeartbeats 400000 in
theorem rbest_any (ao : Option Addr) (zs : List Int) (c : Nat) (l : Int) (w : World) (R : Ending → World → Prop)
   (hl : zs.length ≤ 9) (hc : CellsAt w ao (I64s zs))
   (hR : ∀ v w', Below w.heap.size w w' → RowV 3 w' w.heap.size v (rbest zs l) → R (.returned v) w') :
    Calls Tryd.prog 70 #[.slice ao zs.length c, .int .i64 l] w R := by
  have HR := Lib.hid hR
  clear hR
  go_enter Tryd.func70, Tryd.ntmps70
  go_wp2_with fail
  refine stacks_any zs.length hl _ _ ?_
  intro v vs w' hb ho hr
  obtain ⟨aos, cs, rfl, hcs, hns⟩ := ho.read2
  have HB := Lib.hid hb
  have HRW := Lib.hid hr
  have hlen := hr.1
  have hcw := hc.below hb
  have hsz := stks_length' (n := zs.length) (k := zs.length) hl hl
  rw [hlen]
  have Hlen := Lib.hid hlen
  clear hb ho hr hns hlen
  go_wp2_with fail
  go_loop [6] (fun vi => ∃ i : Nat, i ≤ (stks zs.length zs.length).length ∧ vi = .int .i64 i ∧ Hid (((stks zs.length zs.length).drop i).find? (isLen zs l) = (stks zs.length zs.length).find? (isLen zs l))) (fun vi => (stks zs.length zs.length).length - (intOf vi).toNat)
  case atStart => exact ⟨0, Nat.zero_le _, rfl, rfl⟩
  case round =>
    obtain ⟨i, hi, rfl, hF⟩ := hrel
    by_cases hlt : i < (stks zs.length zs.length).length
    · obtain ⟨b, o, rfl, _, hcell⟩ := hcs (by rw [Hlen.out]; omega)
      have d1 := hcell i (by rw [Hlen.out]; exact hlt)
      obtain ⟨s, hs⟩ : ∃ s, (stks zs.length zs.length)[i] = s := ⟨_, rfl⟩
      have hok := stks_ok zs.length zs.length s (by rw [← hs]; exact List.getElem_mem _)
      have hrow := HRW.out.at hlt
      rw [hs] at hrow
      obtain ⟨aor, cr, hvr, hcr, hnr⟩ := OwnL.read2 hrow
      have hdrop : (stks zs.length zs.length).drop i = s :: (stks zs.length zs.length).drop (i + 1) := by rw [List.drop_eq_getElem_cons hlt, hs]
      have HROW := Lib.hid hrow
      rw [hvr] at d1 HROW
      have HD := Lib.hid hdrop
      have HOK := Lib.hid hok
      clear hs hok hrow hvr hdrop hcell hnr
      by_cases g : sum zs s = l
      · have g1 : (sum zs s == l) = true := by simpa using g
        have G : Hid ((stks zs.length zs.length).find? (isLen zs l) = some s) := by
          have h := hF.out
          rw [HD.out, List.find?_cons_of_pos (by simpa [isLen] using g)] at h
          exact h.symm
        clear g
        go_wp2_with fail
        refine rtotal_any _ aor zs s c cr _ _ (by omega) (by have := HOK.out.1; omega) hcw hcr HOK.out.2 ?_
        go_wp2_with fail
        refine HR.out _ w' HB.out ?_
        rw [rbest, G.out]
        exact HROW.out
      · have g1 : (sum zs s == l) = false := by simpa using g
        have G : Hid (((stks zs.length zs.length).drop (i + 1)).find? (isLen zs l) = (stks zs.length zs.length).find? (isLen zs l)) := by
          have h := hF.out
          rw [HD.out, List.find?_cons_of_neg (by simpa [isLen] using g)] at h
          exact h
        clear g
        go_wp2_with fail
        refine rtotal_any _ aor zs s c cr _ _ (by omega) (by have := HOK.out.1; omega) hcw hcr HOK.out.2 ?_
        go_wp2_with fail
        exact ⟨⟨i + 1, by omega, by go_num, G⟩, by simp [intOf]; omega⟩
    · have hG : (stks zs.length zs.length).find? (isLen zs l) = none := by
        have h := hF.out
        rw [List.drop_eq_nil_of_le (by omega)] at h
        exact h.symm
      have G := Lib.hid hG
      clear hG
      go_wp2_with fail
      refine HR.out _ w' HB.out ?_
      rw [rbest, G.out]
      exact RowV.nil _ _ _

theorem Tryd.eqNil (w : World) (a : Option Addr) (n c : Nat) : (binOp .eql 31 (.slice a n c) (.slice none 0 0)).run Tryd.prog w = .ok (.bool a.isNone) w :=
  Lib.run_eql_slice_nil w 31 3 a n c 0 0 Tryd.underlying31

set_option maxHeartbeats 400000 in
theorem rfewest_any (ao : Option Addr) (zs : List Int) (c : Nat) (l : Int) (w : World) (R : Ending → World → Prop)
   (hl : zs.length ≤ 9223372036854775807) (hl9 : chk zs = 0 → zs.length ≤ 9) (hc : CellsAt w ao (I64s zs))
   (hR : ∀ ao' c' w', Below w.heap.size w w' → CellsAt w' ao' (I64s (rfewL zs l)) → R (.returned (.tuple #[.slice ao' (rfewL zs l).length c', .int .i64 (rfewE zs l)])) w') :
    Calls Tryd.prog 54 #[.slice ao zs.length c, .int .i64 l] w R := by
  have HR := Lib.hid hR
  clear hR
  by_cases h : chk zs = 0
  · have h9 := hl9 h
    clear hl9
    cases h2 : insB l with
    | true =>
      have hg : gvn zs l = 0 := by rw [gvn, if_pos h, h2]; rfl
      have e1 : rfewL zs l = rbest zs l := by rw [rfewL, if_pos hg]
      have HE : Hid (rfewE zs l = if (rbest zs l).length = 0 then 6 else 0) := by unfold Hid; rw [rfewE, if_pos hg]
      rw [e1] at HR
      clear e1 hg
      go_enter Tryd.func54, Tryd.ntmps54
      go_wp2_with fail
      refine rcheck_any ao zs c _ _ hl hc ?_
      rintro w1 ⟨q1, rfl⟩
      go_wp2_with fail
      refine rinside_any _ _ _ ?_
      go_wp2_with fail
      refine rbest_any ao zs c l _ _ h9 (hc.below ((Drew.refl _).drewN.below _)) ?_
      intro v w2 hb hrow
      obtain ⟨aor, cr, rfl, hcr, hbase, hnr⟩ := OwnL.read hrow
      have HB := Lib.hid hb
      have HN := Lib.hid hnr
      have HCR := Lib.hid hcr
      have hcmp := Tryd.eqNil
      clear hb hrow hbase hnr hcr
      cases aor with
      | none =>
        have e0 : (rbest zs l).length = 0 := HN.out.1 rfl
        have HR' := Lib.hid (HR.out none 0 w2 (((Drew.refl _).drewN.below _).trans HB.out) HCR.out)
        rw [HE.out, if_pos e0, e0] at HR'
        clear e0
        go_wp2_with fail
        exact HR'.out
      | some ad =>
        have e0 : ¬ (rbest zs l).length = 0 := fun e => by have := HN.out.2 e; cases this
        have HR' := Lib.hid (HR.out (some ad) cr w2 (((Drew.refl _).drewN.below _).trans HB.out) HCR.out)
        rw [HE.out, if_neg e0] at HR'
        clear e0
        go_wp2_with fail
        exact HR'.out
    | false =>
      have hg : gvn zs l = 2 := by rw [gvn, if_pos h, h2]; rfl
      have e1 : rfewL zs l = [] := by rw [rfewL, hg]; rfl
      have e2 : rfewE zs l = 2 := by rw [rfewE, hg]; rfl
      rw [e1, e2] at HR
      clear e1 e2 hg
      go_enter Tryd.func54, Tryd.ntmps54
      go_wp2_with fail
      refine rcheck_any ao zs c _ _ hl hc ?_
      rintro w1 ⟨q1, rfl⟩
      go_wp2_with fail
      refine rinside_any _ _ _ ?_
      go_wp2_with fail
      exact HR.out none 0 _ ((Drew.refl _).drewN.below _) (CellsAt.nil _ _)
  · have h2 : (chk zs != 0) = true := by simpa using h
    have hg : gvn zs l = chk zs := by rw [gvn, if_neg h]
    have e1 : rfewL zs l = [] := by rw [rfewL, hg, if_neg h]
    have e2 : rfewE zs l = chk zs := by rw [rfewE, hg, if_neg h]
    rw [e1, e2] at HR
    clear e1 e2 hg hl9
    go_enter Tryd.func54, Tryd.ntmps54
    go_wp2_with fail
    refine rcheck_any ao zs c _ _ hl hc ?_
    rintro w1 ⟨q1, rfl⟩
    go_wp2_with fail
    exact HR.out none 0 _ ((Drew.refl _).drewN.below _) (CellsAt.nil _ _)
end Go.Proofs.YteoniejpfmeibaaDoor
