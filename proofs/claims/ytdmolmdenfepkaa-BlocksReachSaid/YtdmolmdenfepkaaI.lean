/- The walks of the reference's Verify, Count, Added, Reach, steps, Standard, Few. -/
import Derived.Test.YtdmolmdenfepkaaH
namespace Go.Proofs.Ytdmolmdenfepkaa
open Go.RowKit

set_option maxHeartbeats 400000 in
theorem rverify_any (ao ao2 : Option Addr) (zs st : List Int) (c c2 : Nat) (l : Int) (w : World) (R : Ending → World → Prop)
   (hl : zs.length ≤ 9223372036854775807) (hl9 : chk zs = 0 → zs.length ≤ 9) (hl2 : st.length ≤ 9223372036854775807) (hc : CellsAt w ao (I64s zs)) (hc2 : CellsAt w ao2 (I64s st))
   (hR : ∀ w', Below w.heap.size w w' → R (.returned (.int .i64 (rverE zs l st))) w') :
    Calls Try.prog 17 #[.slice ao zs.length c, .int .i64 l, .slice ao2 st.length c2] w R := by
  have HR := Lib.hid hR
  clear hR
  by_cases h : chk zs = 0
  · have h9 := hl9 h
    clear hl9
    cases h2 : insB l with
    | true =>
      have hg : gvn zs l = 0 := by rw [gvn, if_pos h, h2]; rfl
      by_cases h3 : stk zs st = 0
      · have HE : Hid (rverE zs l st = if eqL (rbest zs l) st = true ∧ st.length ≠ 0 then 0 else 15) := by unfold Hid; rw [rverE, if_pos hg, if_pos h3]
        clear hg
        go_enter Try.func17, Try.ntmps17
        go_wp2_with fail
        refine rcheck_any ao zs c _ _ hl hc ?_
        rintro w1 ⟨q1, rfl⟩
        go_wp2_with fail
        refine rinside_any _ _ _ ?_
        go_wp2_with fail
        refine stacked_any ao ao2 zs st c c2 _ _ hl hl2 (hc2.below ((Drew.refl _).drewN.below _)) ?_
        rintro w1 ⟨q2, rfl⟩
        go_wp2_with fail
        refine rbest_any ao zs c l _ _ h9 (hc.below ((Drew.refl _).drewN.below _)) ?_
        intro v w2 hb hrow
        obtain ⟨aor, cr, rfl, hcr, hbase, hnr⟩ := OwnL.read hrow
        have hb' : Below w.heap.size w w2 := ((Drew.refl _).drewN.below _).trans hb
        have HB := Lib.hid hb'
        have HCR := Lib.hid hcr
        have hrl : (rbest zs l).length ≤ 9 := by
          unfold rbest
          cases hf : (stks zs.length zs.length).find? (isLen zs l) with
          | none => simp
          | some s => have := (stks_ok _ _ s (List.mem_of_find?_eq_some hf)).1; simp; omega
        clear hb hb' hrow hbase hnr hcr
        go_wp2_with fail
        refine same_any aor ao2 (rbest zs l) st cr c2 _ _ (by omega) hl2 HCR.out (hc2.below HB.out) ?_
        rintro w3 ⟨q3, rfl⟩
        have HR' := Lib.hid (HR.out (w2.drewN q3) (HB.out.trans ((Drew.refl _).drewN.below _)))
        rw [HE.out] at HR'
        clear HE
        cases he : eqL (rbest zs l) st with
        | true =>
          by_cases h5 : st.length = 0
          · have h6 : ((st.length : Int) == 0) = true := by simp [h5]
            rw [he, if_neg (by simp [h5])] at HR'
            have H5 := Lib.hid h5
            clear h5
            go_wp2_with fail
            exact HR'.out
          · have h6 : ((st.length : Int) == 0) = false := by rw [beq_eq_false_iff_ne]; omega
            rw [he, if_pos ⟨rfl, h5⟩] at HR'
            go_wp2_with fail
            exact HR'.out
        | false =>
          rw [he, if_neg (by simp)] at HR'
          go_wp2_with fail
          exact HR'.out
      · have h4 : (stk zs st != 0) = true := by simpa using h3
        have e : rverE zs l st = stk zs st := by rw [rverE, if_pos hg, if_neg h3]
        rw [e] at HR
        clear e hg
        go_enter Try.func17, Try.ntmps17
        go_wp2_with fail
        refine rcheck_any ao zs c _ _ hl hc ?_
        rintro w1 ⟨q1, rfl⟩
        go_wp2_with fail
        refine rinside_any _ _ _ ?_
        go_wp2_with fail
        refine stacked_any ao ao2 zs st c c2 _ _ hl hl2 (hc2.below ((Drew.refl _).drewN.below _)) ?_
        rintro w1 ⟨q2, rfl⟩
        go_wp2_with fail
        exact HR.out _ (((Drew.refl _).drewN.below _))
    | false =>
      have e : rverE zs l st = 2 := by rw [rverE, gvn, if_pos h, h2]; rfl
      rw [e] at HR
      clear e
      go_enter Try.func17, Try.ntmps17
      go_wp2_with fail
      refine rcheck_any ao zs c _ _ hl hc ?_
      rintro w1 ⟨q1, rfl⟩
      go_wp2_with fail
      refine rinside_any _ _ _ ?_
      go_wp2_with fail
      exact HR.out _ ((Drew.refl _).drewN.below _)
  · have h2 : (chk zs != 0) = true := by simpa using h
    have e : rverE zs l st = chk zs := by rw [rverE, gvn, if_neg h, if_neg h]
    rw [e] at HR
    clear e hl9
    go_enter Try.func17, Try.ntmps17
    go_wp2_with fail
    refine rcheck_any ao zs c _ _ hl hc ?_
    rintro w1 ⟨q1, rfl⟩
    go_wp2_with fail
    exact HR.out _ ((Drew.refl _).drewN.below _)

set_option maxHeartbeats 400000 in
theorem few_any (ao : Option Addr) (zs : List Int) (c : Nat) (w : World) (R : Ending → World → Prop)
   (hl : zs.length ≤ 9223372036854775807) (hc : CellsAt w ao (I64s zs))
   (hR : ∀ w', Drew w w' → R (.returned (.bool (fewB zs))) w') :
    Calls Try.prog 11 #[.slice ao zs.length c] w R := by
  have HR := Lib.hid hR
  clear hR
  by_cases h1 : zs.length ≤ 9
  · have e : fewB zs = true := by simp [fewB, h1]
    rw [e] at HR
    clear e
    go_enter Try.func11, Try.ntmps11
    go_wp2_with fail
    exact HR.out _ (Drew.refl _)
  · by_cases h2 : zs.length ≤ 512
    · have e : fewB zs = (chk zs != 0) := by simp [fewB, h1, h2]
      rw [e] at HR
      clear e
      go_enter Try.func11, Try.ntmps11
      go_wp2_with fail
      refine rcheck_any ao zs c _ _ hl hc ?_
      rintro w1 ⟨q1, rfl⟩
      go_wp2_with fail
      exact ret_eq (HR.out _ ((Drew.refl _).drewN)) (by have : decide ((zs.length : Int) ≤ 9) = false := by simp; omega
                                                        simp [this])
    · have e : fewB zs = false := by simp [fewB, h1, h2]
      rw [e] at HR
      clear e
      go_enter Try.func11, Try.ntmps11
      go_wp2_with fail
      exact ret_eq (HR.out _ (Drew.refl _)) (by simp; omega)

set_option maxHeartbeats 400000 in
theorem rcount_any (ao : Option Addr) (zs : List Int) (c : Nat) (l : Int) (w : World) (R : Ending → World → Prop)
   (hl : zs.length ≤ 9223372036854775807) (hl9 : chk zs = 0 → zs.length ≤ 9) (hc : CellsAt w ao (I64s zs))
   (hR : ∀ w', Below w.heap.size w w' → R (.returned (.tuple #[.int .i64 (rcntN zs l), .int .i64 (rcntE zs l)])) w') :
    Calls Try.prog 19 #[.slice ao zs.length c, .int .i64 l] w R := by
  have HR := Lib.hid hR
  clear hR
  by_cases h : chk zs = 0
  · have h9 := hl9 h
    clear hl9
    cases h2 : insB l with
    | true =>
      have hg : gvn zs l = 0 := by rw [gvn, if_pos h, h2]; rfl
      have HE : Hid (rcntE zs l = if rcnt zs l ≤ 1048576 then 0 else 12) := by unfold Hid; rw [rcntE, if_pos hg]
      have HN : Hid (rcntN zs l = if rcnt zs l ≤ 1048576 then (rcnt zs l : Int) else 0) := by unfold Hid; rw [rcntN, if_pos hg]
      clear hg
      go_enter Try.func19, Try.ntmps19
      go_wp2_with fail
      refine rcheck_any ao zs c _ _ hl hc ?_
      rintro w1 ⟨q1, rfl⟩
      go_wp2_with fail
      refine rinside_any _ _ _ ?_
      go_wp2_with fail
      refine stacks_any zs.length h9 _ _ ?_
      intro v vs w' hb ho hr
      obtain ⟨aos, cs, rfl, hcs, hns⟩ := ho.read2
      have hb' : Below w.heap.size w w' := ((Drew.refl _).drewN.below _).trans hb
      have HB := Lib.hid hb'
      have HRW := Lib.hid hr
      have hlen := hr.1
      have hcw := hc.below hb'
      have hsz := stks_length' (n := zs.length) (k := zs.length) h9 h9
      rw [hlen]
      have Hlen := Lib.hid hlen
      clear hb hb' ho hr hns hlen
      go_wp2_with fail
      go_loop [7, 9] (fun vn vi => ∃ i : Nat, i ≤ (stks zs.length zs.length).length ∧ vi = .int .i64 i ∧ vn = .int .i64 ((((stks zs.length zs.length).take i).filter (isLen zs l)).length : Nat)) (fun _ vi => (stks zs.length zs.length).length - (intOf vi).toNat)
      case atStart => exact ⟨0, Nat.zero_le _, rfl, rfl⟩
      case round =>
        obtain ⟨i, hi, rfl, rfl⟩ := hrel
        by_cases hlt : i < (stks zs.length zs.length).length
        · obtain ⟨b, o, rfl, _, hcell⟩ := hcs (by rw [Hlen.out]; omega)
          have d1 := hcell i (by rw [Hlen.out]; exact hlt)
          obtain ⟨s, hs⟩ : ∃ s, (stks zs.length zs.length)[i] = s := ⟨_, rfl⟩
          have hok := stks_ok zs.length zs.length s (by rw [← hs]; exact List.getElem_mem _)
          have hrow := HRW.out.at hlt
          rw [hs] at hrow
          obtain ⟨aor, cr, hvr, hcr, hnr⟩ := OwnL.read2 hrow
          rw [hvr] at d1
          have htk : (stks zs.length zs.length).take (i + 1) = (stks zs.length zs.length).take i ++ [s] := by rw [List.take_succ_eq_append_getElem hlt, hs]
          have HT := Lib.hid htk
          have HOK := Lib.hid hok
          obtain ⟨t, ht⟩ : ∃ t, (((stks zs.length zs.length).take i).filter (isLen zs l)).length = t := ⟨_, rfl⟩
          have htl : t ≤ 435848050 := by
            rw [← ht]
            have h1 := List.length_filter_le (isLen zs l) ((stks zs.length zs.length).take i)
            have h2 : ((stks zs.length zs.length).take i).length ≤ (stks zs.length zs.length).length := by rw [List.length_take]; omega
            omega
          rw [ht]
          have HTT := Lib.hid ht
          clear hs hok hrow hvr hcell hnr htk ht
          by_cases g : sum zs s = l
          · have g1 : (sum zs s == l) = true := by simpa using g
            have G : Hid ((((stks zs.length zs.length).take (i + 1)).filter (isLen zs l)).length = t + 1) := by
              unfold Hid
              rw [HT.out, List.filter_append, List.length_append, HTT.out, List.filter_cons_of_pos (by simpa [isLen] using g)]; simp
            clear g
            go_wp2_with fail
            refine rtotal_any _ aor zs s c cr _ _ (by omega) (by have := HOK.out.1; omega) hcw hcr HOK.out.2 ?_
            go_wp2_with fail
            exact ⟨⟨i + 1, by omega, by go_num, by rw [G.out]; go_num⟩, by simp [intOf]; omega⟩
          · have g1 : (sum zs s == l) = false := by simpa using g
            have G : Hid ((((stks zs.length zs.length).take (i + 1)).filter (isLen zs l)).length = t) := by
              unfold Hid
              rw [HT.out, List.filter_append, List.length_append, HTT.out, List.filter_cons_of_neg (by simpa [isLen] using g)]; simp
            clear g
            go_wp2_with fail
            refine rtotal_any _ aor zs s c cr _ _ (by omega) (by have := HOK.out.1; omega) hcw hcr HOK.out.2 ?_
            go_wp2_with fail
            exact ⟨⟨i + 1, by omega, by go_num, by rw [G.out]⟩, by simp [intOf]; omega⟩
        · obtain rfl : i = (stks zs.length zs.length).length := by omega
          rw [List.take_length]
          have hfin : (((stks zs.length zs.length).filter (isLen zs l)).length : Nat) = rcnt zs l := rfl
          rw [hfin]
          clear hfin
          have HR' := Lib.hid (HR.out w' HB.out)
          rw [HE.out, HN.out] at HR'
          clear HE HN
          by_cases g : rcnt zs l ≤ 1048576
          · rw [if_pos g, if_pos g] at HR'
            go_wp2_with fail
            exact HR'.out
          · rw [if_neg g, if_neg g] at HR'
            go_wp2_with fail
            exact HR'.out
    | false =>
      have e1 : rcntE zs l = 2 := by rw [rcntE, gvn, if_pos h, h2]; rfl
      have e2 : rcntN zs l = 0 := by rw [rcntN, gvn, if_pos h, h2]; rfl
      rw [e1, e2] at HR
      clear e1 e2
      go_enter Try.func19, Try.ntmps19
      go_wp2_with fail
      refine rcheck_any ao zs c _ _ hl hc ?_
      rintro w1 ⟨q1, rfl⟩
      go_wp2_with fail
      refine rinside_any _ _ _ ?_
      go_wp2_with fail
      exact HR.out _ ((Drew.refl _).drewN.below _)
  · have h2 : (chk zs != 0) = true := by simpa using h
    have e1 : rcntE zs l = chk zs := by rw [rcntE, gvn, if_neg h, if_neg h]
    have e2 : rcntN zs l = 0 := by rw [rcntN, gvn, if_neg h, if_neg h]
    rw [e1, e2] at HR
    clear e1 e2 hl9
    go_enter Try.func19, Try.ntmps19
    go_wp2_with fail
    refine rcheck_any ao zs c _ _ hl hc ?_
    rintro w1 ⟨q1, rfl⟩
    go_wp2_with fail
    exact HR.out _ ((Drew.refl _).drewN.below _)
end Go.Proofs.Ytdmolmdenfepkaa
