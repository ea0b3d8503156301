/- The walk of Implied of the reference. (Printed by gen_rimp.py.) -/
import Derived.Test.YtlgjhjgdmomfoaaMdy
namespace Go.Proofs.Ytlgjhjgdmomfoaa
open Go.RowKit Go.Maps

set_option maxRecDepth 100000 in
set_option maxHeartbeats 16000000 in
theorem rimplied_any (ao : Option Addr) (vs : List Dm) (c : Nat) (ax : Int) (w : World) (R : Ending → World → Prop) (hl : vs.length ≤ 9223372036854775807) (hcl : vs.length ≤ c) (hc : CellsAt w ao (dC vs)) (hv : DmsOk vs)
   (hR : ∀ v w', Below w.heap.size w w' → w'.ownsRow w.heap.size 3 1 v (imX vs ax).length (dI (imX vs ax)) → R (.returned (.tuple #[v, .int .i64 (imE vs ax)])) w') :
    Calls Try.prog 17 #[.slice ao vs.length c, .int .i64 ax] w R := by
  have HR := Lib.hid hR
  have HC := Lib.hid hc
  have HV := Lib.hid hv
  clear hR hc hv
  have hX0 : Hid (imX vs ax = if giE vs ax = 0 then (if cfE vs ax = true then imF vs ax vs.length else []) else []) := rfl
  have hE0 : Hid (imE vs ax = if giE vs ax = 0 then (if cfE vs ax = true then 0 else 16) else giE vs ax) := rfl
  obtain ⟨E, hE⟩ : ∃ E, giE vs ax = E := ⟨_, rfl⟩
  have HE := Lib.hid hE
  rw [hE] at hX0 hE0
  clear hE
  go_enter Try.func17, Try.ntmps17
  go_wp2_with fail
  refine rgiven_any ao vs c ax _ _ hl HC.out HV.out ?_
  rw [HE.out]
  intro w1 hb
  have HB1 := Lib.hid hb
  clear hb
  by_cases h0 : E = 0
  · subst h0
    have hl2 := giE_len HE.out
    have HVA := Lib.hid (giE_all HE.out).2
    have hX1 := hX0.out
    have hE1 := hE0.out
    rw [if_pos rfl] at hX1 hE1
    have HX1 := Lib.hid hX1
    have HE1 := Lib.hid hE1
    clear hX0 hE0 hX1 hE1
    have sB1 := HB1.out.size
    go_wp2_with fail
    refine rpossible_any ao vs c ax _ _ hl2 (HC.out.below HB1.out) HVA.out ?_
    intro w2 hb
    have HB2 := Lib.hid (HB1.out.trans (hb.mono sB1))
    have sB2 := HB2.out.size
    clear hb
    cases hcf : cfE vs ax with
    | false =>
      have hX : Hid (imX vs ax = []) := by unfold Hid; rw [HX1.out, if_neg (by rw [hcf]; simp)]
      have hEz : Hid (imE vs ax = 16) := by unfold Hid; rw [HE1.out, if_neg (by rw [hcf]; simp)]
      clear hcf
      go_wp2_with fail
      have h := HR.out (.slice none 0 0) w2 HB2.out (by rw [hX.out]; exact World.ownsRow_nil _ _ _ _)
      rw [hEz.out] at h; exact h
    | true =>
      have Hcf := Lib.hid hcf
      have hX : Hid (imX vs ax = imF vs ax vs.length) := by unfold Hid; rw [HX1.out, if_pos hcf]
      have hEz : Hid (imE vs ax = 0) := by unfold Hid; rw [HE1.out, if_pos hcf]
      clear hcf HX1 HE1
      go_wp2_with fail
      go_loopw [8, 7] (fun j v wr => ∃ (k : Nat), k ≤ vs.length ∧ j = .int .i64 k ∧ Hid (Below w.heap.size w wr) ∧ Hid (wr.ownsRow w.heap.size 3 1 v (imF vs ax k).length (dI (imF vs ax k)))) (fun j _ _ => vs.length - (intOf j).toNat)
      case atStart => exact ⟨0, Nat.zero_le _, rfl, HB2, World.ownsRow_nil _ _ _ _⟩
      case round =>
        obtain ⟨k, hk, rfl, HB, HO⟩ := hrel
        have sB := HB.out.size
        have lnR := imF_len vs ax k
        by_cases hlt : k < vs.length
        · obtain ⟨b, o, rfl, hbb, hcell⟩ := HC.out.dms (by omega)
          obtain ⟨c0, c1, c2, c3, c4⟩ := hcell k hlt
          have hst : Hid (imF vs ax (k + 1) = if ((dAt vs k).x == ax && (jnX (wo vs k) ax (dAt vs k).f (dAt vs k).t && (decide ((dAt vs k).l ≤ spL (wo vs k) ax (dAt vs k).f (dAt vs k).t) && decide (spH (wo vs k) ax (dAt vs k).f (dAt vs k).t ≤ (dAt vs k).h)))) = true then imF vs ax k ++ [k] else imF vs ax k) := rfl
          have hne := va_ne (HVA.out k hlt)
          have hjn : hasL (rcA (wo vs k) ax (dAt vs k).f) (dAt vs k).t = jnX (wo vs k) ax (dAt vs k).f (dAt vs k).t := has_jn hne
          have hspl : Hid (jnX (wo vs k) ax (dAt vs k).f (dAt vs k).t = true → spL (wo vs k) ax (dAt vs k).f (dAt vs k).t = -waV (wo vs k) ax (dAt vs k).t (dAt vs k).f) := spL_way (cfE_wo hlt Hcf.out)
          have hsph : Hid (jnX (wo vs k) ax (dAt vs k).f (dAt vs k).t = true → spH (wo vs k) ax (dAt vs k).f (dAt vs k).t = waV (wo vs k) ax (dAt vs k).f (dAt vs k).t) := spH_way (cfE_wo hlt Hcf.out)
          have hwl := wo_len hlt
          have hwva := Lib.hid (wo_all (Q := fun d => vaE d = 0) hlt HVA.out)
          obtain ⟨u, hu⟩ : ∃ u, dAt vs k = u := ⟨_, rfl⟩
          obtain ⟨us, hus⟩ : ∃ us, wo vs k = us := ⟨_, rfl⟩
          obtain ⟨is, his⟩ : ∃ is, imF vs ax k = is := ⟨_, rfl⟩
          rw [hu, hus] at hst hjn hspl hsph
          rw [hu] at c0 c1 c2 c3 c4
          rw [hus] at hwl hwva
          rw [his] at hst HO lnR
          have Hjn := Lib.hid hjn
          have hul : us.length ≤ 256 := by omega
          clear hcell hu his hne hjn hwl
          go_wp2_with fail
          refine without_any b o vs c k _ _ hlt (by omega) hcl (HC.out.below HB.out) ?_
          rw [hus]
          intro v5 w5 hb ho
          obtain ⟨a5, c5, rfl, h5, _⟩ := ownsRow_read ho
          have W5 := Lib.hid (HB.out.trans (hb.mono sB))
          have O5 := Lib.hid (ownsRow_below HO.out hb)
          have K5 := Lib.hid h5
          have sW5 := W5.out.size
          have hbr : b < w5.heap.size := by omega
          have d0 := cellB W5.out c0 hbb
          have d1 := cellB W5.out c1 hbb
          have d2 := cellB W5.out c2 hbb
          have d3 := cellB W5.out c3 hbb
          have d4 := cellB W5.out c4 hbb
          clear hb ho h5 c0 c1 c2 c3 c4 hus
          have HBB : Hid (Below w5.heap.size w5 w5.drew) := (Below.refl _ _).drew
          cases hx : (u.x == ax) with
          | false =>
            have K : (u.x != ax) = true := by rw [bne, hx]; rfl
            have hst2 : Hid (imF vs ax (k + 1) = is) := by have h := hst.out; rw [hx, Bool.false_and, if_neg (by simp)] at h; exact h
            clear hx hst
            go_wp2_with fail
            refine regionQ (fun w' => w'.cell? ⟨b, o + k * 5, none⟩ = some (.string u.f) ∧ w'.cell? ⟨b, o + k * 5 + 1, none⟩ = some (.string u.t) ∧ w'.cell? ⟨b, o + k * 5 + 2, none⟩ = some (.int .i64 u.x)) (by kernel_rfl) (⟨d0, d1, d2⟩) (fun Qn hPQ hQn hS0 => ?_)
            refine takeQ (i := 0) (d := some 30) (v := ?_) rfl rfl (by kernel_rfl) (by kernel_rfl) (by kernel_rfl) hPQ hS0 (by kernel_rfl) ?_ ?_
            rotate_left
            · (intro w hSw; (try dsimp only at hSw); obtain ⟨k0, k1, k2⟩ := hSw; go_simp; (try with_reducible rfl))
            (try simp only [Act.put, List.setIfInBounds_toArray, List.set_cons_zero, List.set_cons_succ])
            refine takeQ (i := 1) (d := some 31) (v := ?_) rfl rfl (by kernel_rfl) (by kernel_rfl) (by kernel_rfl) hPQ hS0 (by kernel_rfl) ?_ ?_
            rotate_left
            · (intro w hSw; (try dsimp only at hSw); obtain ⟨k0, k1, k2⟩ := hSw; go_simp; (try with_reducible rfl))
            (try simp only [Act.put, List.setIfInBounds_toArray, List.set_cons_zero, List.set_cons_succ])
            refine takeQ (i := 2) (d := some 32) (v := ?_) rfl rfl (by kernel_rfl) (by kernel_rfl) (by kernel_rfl) hPQ hS0 (by kernel_rfl) ?_ ?_
            rotate_left
            · (intro w hSw; (try dsimp only at hSw); obtain ⟨k0, k1, k2⟩ := hSw; go_simp; (try with_reducible rfl))
            (try simp only [Act.put, List.setIfInBounds_toArray, List.set_cons_zero, List.set_cons_succ])
            refine takeQ (i := 3) (d := some 33) (v := ?_) rfl rfl (by kernel_rfl) (by kernel_rfl) (by kernel_rfl) hPQ hS0 (by kernel_rfl) ?_ ?_
            rotate_left
            · (intro w hSw; (try dsimp only at hSw); obtain ⟨k0, k1, k2⟩ := hSw; go_simp; (try with_reducible rfl))
            (try simp only [Act.put, List.setIfInBounds_toArray, List.set_cons_zero, List.set_cons_succ])
            refine takeQ (i := 4) (d := some 34) (v := ?_) rfl rfl (by kernel_rfl) (by kernel_rfl) (by kernel_rfl) hPQ hS0 (by kernel_rfl) ?_ ?_
            rotate_left
            · (intro w hSw; (try dsimp only at hSw); obtain ⟨k0, k1, k2⟩ := hSw; go_simp; (try with_reducible rfl))
            (try simp only [Act.put, List.setIfInBounds_toArray, List.set_cons_zero, List.set_cons_succ])
            refine takeQ (i := 5) (d := some 35) (v := ?_) rfl rfl (by kernel_rfl) (by kernel_rfl) (by kernel_rfl) hPQ hS0 (by kernel_rfl) ?_ ?_
            rotate_left
            · (intro w hSw; (try dsimp only at hSw); obtain ⟨k0, k1, k2⟩ := hSw; go_simp; (try with_reducible rfl))
            (try simp only [Act.put, List.setIfInBounds_toArray, List.set_cons_zero, List.set_cons_succ])
            refine takeQ (i := 6) (d := some 36) (v := ?_) rfl rfl (by kernel_rfl) (by kernel_rfl) (by kernel_rfl) hPQ hS0 (by kernel_rfl) ?_ ?_
            rotate_left
            · (intro w hSw; (try dsimp only at hSw); obtain ⟨k0, k1, k2⟩ := hSw; go_simp; (try with_reducible rfl))
            (try simp only [Act.put, List.setIfInBounds_toArray, List.set_cons_zero, List.set_cons_succ])
            refine takeQ (i := 7) (d := some 37) (v := ?_) rfl rfl (by kernel_rfl) (by kernel_rfl) (by kernel_rfl) hPQ hS0 (by kernel_rfl) ?_ ?_
            rotate_left
            · (intro w hSw; (try dsimp only at hSw); obtain ⟨k0, k1, k2⟩ := hSw; go_simp; (try with_reducible rfl))
            (try simp only [Act.put, List.setIfInBounds_toArray, List.set_cons_zero, List.set_cons_succ])
            refine skipQ (i := 8) (d := some 38) rfl rfl (by kernel_rfl) (by kernel_rfl) (by kernel_rfl) hPQ hS0 (by kernel_rfl) ?_
            (try simp only [Act.put, List.setIfInBounds_toArray, List.set_cons_zero, List.set_cons_succ])
            refine skipQ (i := 9) (d := some 39) rfl rfl (by kernel_rfl) (by kernel_rfl) (by kernel_rfl) hPQ hS0 (by kernel_rfl) ?_
            (try simp only [Act.put, List.setIfInBounds_toArray, List.set_cons_zero, List.set_cons_succ])
            refine skipQ (i := 10) (d := some 40) rfl rfl (by kernel_rfl) (by kernel_rfl) (by kernel_rfl) hPQ hS0 (by kernel_rfl) ?_
            (try simp only [Act.put, List.setIfInBounds_toArray, List.set_cons_zero, List.set_cons_succ])
            refine skipQ (i := 11) (d := some 41) rfl rfl (by kernel_rfl) (by kernel_rfl) (by kernel_rfl) hPQ hS0 (by kernel_rfl) ?_
            (try simp only [Act.put, List.setIfInBounds_toArray, List.set_cons_zero, List.set_cons_succ])
            refine skipQ (i := 12) (d := some 42) rfl rfl (by kernel_rfl) (by kernel_rfl) (by kernel_rfl) hPQ hS0 (by kernel_rfl) ?_
            (try simp only [Act.put, List.setIfInBounds_toArray, List.set_cons_zero, List.set_cons_succ])
            refine skipQ (i := 13) (d := some 43) rfl rfl (by kernel_rfl) (by kernel_rfl) (by kernel_rfl) hPQ hS0 (by kernel_rfl) ?_
            (try simp only [Act.put, List.setIfInBounds_toArray, List.set_cons_zero, List.set_cons_succ])
            refine skipQ (i := 14) (d := some 44) rfl rfl (by kernel_rfl) (by kernel_rfl) (by kernel_rfl) hPQ hS0 (by kernel_rfl) ?_
            (try simp only [Act.put, List.setIfInBounds_toArray, List.set_cons_zero, List.set_cons_succ])
            refine skipQ (i := 15) (d := some 45) rfl rfl (by kernel_rfl) (by kernel_rfl) (by kernel_rfl) hPQ hS0 (by kernel_rfl) ?_
            (try simp only [Act.put, List.setIfInBounds_toArray, List.set_cons_zero, List.set_cons_succ])
            refine skipQ (i := 16) (d := some 46) rfl rfl (by kernel_rfl) (by kernel_rfl) (by kernel_rfl) hPQ hS0 (by kernel_rfl) ?_
            (try simp only [Act.put, List.setIfInBounds_toArray, List.set_cons_zero, List.set_cons_succ])
            refine skipQ (i := 17) (d := some 47) rfl rfl (by kernel_rfl) (by kernel_rfl) (by kernel_rfl) hPQ hS0 (by kernel_rfl) ?_
            (try simp only [Act.put, List.setIfInBounds_toArray, List.set_cons_zero, List.set_cons_succ])
            refine skipQ (i := 18) (d := some 48) rfl rfl (by kernel_rfl) (by kernel_rfl) (by kernel_rfl) hPQ hS0 (by kernel_rfl) ?_
            (try simp only [Act.put, List.setIfInBounds_toArray, List.set_cons_zero, List.set_cons_succ])
            refine skipQ (i := 19) (d := some 49) rfl rfl (by kernel_rfl) (by kernel_rfl) (by kernel_rfl) hPQ hS0 (by kernel_rfl) ?_
            (try simp only [Act.put, List.setIfInBounds_toArray, List.set_cons_zero, List.set_cons_succ])
            refine skipQ (i := 20) (d := some 50) rfl rfl (by kernel_rfl) (by kernel_rfl) (by kernel_rfl) hPQ hS0 (by kernel_rfl) ?_
            (try simp only [Act.put, List.setIfInBounds_toArray, List.set_cons_zero, List.set_cons_succ])
            refine skipQ (i := 21) (d := some 51) rfl rfl (by kernel_rfl) (by kernel_rfl) (by kernel_rfl) hPQ hS0 (by kernel_rfl) ?_
            (try simp only [Act.put, List.setIfInBounds_toArray, List.set_cons_zero, List.set_cons_succ])
            refine skipQ (i := 22) (d := some 52) rfl rfl (by kernel_rfl) (by kernel_rfl) (by kernel_rfl) hPQ hS0 (by kernel_rfl) ?_
            (try simp only [Act.put, List.setIfInBounds_toArray, List.set_cons_zero, List.set_cons_succ])
            refine takeQ (i := 23) (d := some 53) (v := ?_) rfl rfl (by kernel_rfl) (by kernel_rfl) (by kernel_rfl) hPQ hS0 (by kernel_rfl) ?_ ?_
            rotate_left
            · (intro w hSw; (try dsimp only at hSw); obtain ⟨k0, k1, k2⟩ := hSw; go_simp; (try with_reducible rfl))
            (try simp only [Act.put, List.setIfInBounds_toArray, List.set_cons_zero, List.set_cons_succ])
            refine wpAnyH_done (by kernel_rfl) (hQn.out _ _ ?_) _
            clear hS0 hPQ hQn Qn
            go_wp2_with fail
            refine ⟨⟨k + 1, by omega, by go_num, W5.out.trans (HBB.out.mono sW5), ?_⟩, by simp [intOf]; omega⟩
            rw [hst2.out]; exact ownsRow_below O5.out HBB.out
          | true =>
            have K : (u.x != ax) = false := by rw [bne, hx]; rfl
            have hst1 := hst.out
            rw [hx, Bool.true_and] at hst1
            have Hst1 := Lib.hid hst1
            clear hx hst hst1
            obtain ⟨J, hJ'⟩ : ∃ J, jnX us ax u.f u.t = J := ⟨_, rfl⟩
            rw [hJ'] at Hst1 Hjn hspl hsph
            cases J with
            | false =>
              have hst2 : Hid (imF vs ax (k + 1) = is) := by have h := Hst1.out; rw [Bool.false_and, if_neg (by simp)] at h; exact h
              clear Hst1 hJ' hspl hsph
              go_wp2_with fail
              refine regionQ (fun w' => w'.cell? ⟨b, o + k * 5, none⟩ = some (.string u.f) ∧ w'.cell? ⟨b, o + k * 5 + 1, none⟩ = some (.string u.t) ∧ w'.cell? ⟨b, o + k * 5 + 2, none⟩ = some (.int .i64 u.x)) (by kernel_rfl) (⟨d0, d1, d2⟩) (fun Qn hPQ hQn hS0 => ?_)
              refine takeQ (i := 0) (d := some 30) (v := ?_) rfl rfl (by kernel_rfl) (by kernel_rfl) (by kernel_rfl) hPQ hS0 (by kernel_rfl) ?_ ?_
              rotate_left
              · (intro w hSw; (try dsimp only at hSw); obtain ⟨k0, k1, k2⟩ := hSw; go_simp; (try with_reducible rfl))
              (try simp only [Act.put, List.setIfInBounds_toArray, List.set_cons_zero, List.set_cons_succ])
              refine takeQ (i := 1) (d := some 31) (v := ?_) rfl rfl (by kernel_rfl) (by kernel_rfl) (by kernel_rfl) hPQ hS0 (by kernel_rfl) ?_ ?_
              rotate_left
              · (intro w hSw; (try dsimp only at hSw); obtain ⟨k0, k1, k2⟩ := hSw; go_simp; (try with_reducible rfl))
              (try simp only [Act.put, List.setIfInBounds_toArray, List.set_cons_zero, List.set_cons_succ])
              refine takeQ (i := 2) (d := some 32) (v := ?_) rfl rfl (by kernel_rfl) (by kernel_rfl) (by kernel_rfl) hPQ hS0 (by kernel_rfl) ?_ ?_
              rotate_left
              · (intro w hSw; (try dsimp only at hSw); obtain ⟨k0, k1, k2⟩ := hSw; go_simp; (try with_reducible rfl))
              (try simp only [Act.put, List.setIfInBounds_toArray, List.set_cons_zero, List.set_cons_succ])
              refine takeQ (i := 3) (d := some 33) (v := ?_) rfl rfl (by kernel_rfl) (by kernel_rfl) (by kernel_rfl) hPQ hS0 (by kernel_rfl) ?_ ?_
              rotate_left
              · (intro w hSw; (try dsimp only at hSw); obtain ⟨k0, k1, k2⟩ := hSw; go_simp; (try with_reducible rfl))
              (try simp only [Act.put, List.setIfInBounds_toArray, List.set_cons_zero, List.set_cons_succ])
              refine takeQ (i := 4) (d := some 34) (v := ?_) rfl rfl (by kernel_rfl) (by kernel_rfl) (by kernel_rfl) hPQ hS0 (by kernel_rfl) ?_ ?_
              rotate_left
              · (intro w hSw; (try dsimp only at hSw); obtain ⟨k0, k1, k2⟩ := hSw; go_simp; (try with_reducible rfl))
              (try simp only [Act.put, List.setIfInBounds_toArray, List.set_cons_zero, List.set_cons_succ])
              refine takeQ (i := 5) (d := some 35) (v := ?_) rfl rfl (by kernel_rfl) (by kernel_rfl) (by kernel_rfl) hPQ hS0 (by kernel_rfl) ?_ ?_
              rotate_left
              · (intro w hSw; (try dsimp only at hSw); obtain ⟨k0, k1, k2⟩ := hSw; go_simp; (try with_reducible rfl))
              (try simp only [Act.put, List.setIfInBounds_toArray, List.set_cons_zero, List.set_cons_succ])
              refine takeQ (i := 6) (d := some 36) (v := ?_) rfl rfl (by kernel_rfl) (by kernel_rfl) (by kernel_rfl) hPQ hS0 (by kernel_rfl) ?_ ?_
              rotate_left
              · (intro w hSw; (try dsimp only at hSw); obtain ⟨k0, k1, k2⟩ := hSw; go_simp; (try with_reducible rfl))
              (try simp only [Act.put, List.setIfInBounds_toArray, List.set_cons_zero, List.set_cons_succ])
              refine takeQ (i := 7) (d := some 37) (v := ?_) rfl rfl (by kernel_rfl) (by kernel_rfl) (by kernel_rfl) hPQ hS0 (by kernel_rfl) ?_ ?_
              rotate_left
              · (intro w hSw; (try dsimp only at hSw); obtain ⟨k0, k1, k2⟩ := hSw; go_simp; (try with_reducible rfl))
              (try simp only [Act.put, List.setIfInBounds_toArray, List.set_cons_zero, List.set_cons_succ])
              refine takeQ (i := 8) (d := some 38) (v := ?_) rfl rfl (by kernel_rfl) (by kernel_rfl) (by kernel_rfl) hPQ hS0 (by kernel_rfl) ?_ ?_
              rotate_left
              · (intro w hSw; (try dsimp only at hSw); obtain ⟨k0, k1, k2⟩ := hSw; go_simp; (try with_reducible rfl))
              (try simp only [Act.put, List.setIfInBounds_toArray, List.set_cons_zero, List.set_cons_succ])
              refine takeQ (i := 9) (d := some 39) (v := ?_) rfl rfl (by kernel_rfl) (by kernel_rfl) (by kernel_rfl) hPQ hS0 (by kernel_rfl) ?_ ?_
              rotate_left
              · (intro w hSw; (try dsimp only at hSw); obtain ⟨k0, k1, k2⟩ := hSw; go_simp; (try with_reducible rfl))
              (try simp only [Act.put, List.setIfInBounds_toArray, List.set_cons_zero, List.set_cons_succ])
              refine takeQ (i := 10) (d := some 40) (v := ?_) rfl rfl (by kernel_rfl) (by kernel_rfl) (by kernel_rfl) hPQ hS0 (by kernel_rfl) ?_ ?_
              rotate_left
              · (intro w hSw; (try dsimp only at hSw); obtain ⟨k0, k1, k2⟩ := hSw; go_simp; (try with_reducible rfl))
              (try simp only [Act.put, List.setIfInBounds_toArray, List.set_cons_zero, List.set_cons_succ])
              refine takeQ (i := 11) (d := some 41) (v := ?_) rfl rfl (by kernel_rfl) (by kernel_rfl) (by kernel_rfl) hPQ hS0 (by kernel_rfl) ?_ ?_
              rotate_left
              · (intro w hSw; (try dsimp only at hSw); obtain ⟨k0, k1, k2⟩ := hSw; go_simp; (try with_reducible rfl))
              (try simp only [Act.put, List.setIfInBounds_toArray, List.set_cons_zero, List.set_cons_succ])
              refine takeQ (i := 12) (d := some 42) (v := ?_) rfl rfl (by kernel_rfl) (by kernel_rfl) (by kernel_rfl) hPQ hS0 (by kernel_rfl) ?_ ?_
              rotate_left
              · (intro w hSw; (try dsimp only at hSw); obtain ⟨k0, k1, k2⟩ := hSw; go_simp; (try with_reducible rfl))
              (try simp only [Act.put, List.setIfInBounds_toArray, List.set_cons_zero, List.set_cons_succ])
              refine takeQ (i := 13) (d := some 43) (v := ?_) rfl rfl (by kernel_rfl) (by kernel_rfl) (by kernel_rfl) hPQ hS0 (by kernel_rfl) ?_ ?_
              rotate_left
              · (intro w hSw; (try dsimp only at hSw); obtain ⟨k0, k1, k2⟩ := hSw; go_simp; (try with_reducible rfl))
              (try simp only [Act.put, List.setIfInBounds_toArray, List.set_cons_zero, List.set_cons_succ])
              refine takeQ (i := 14) (d := some 44) (v := ?_) rfl rfl (by kernel_rfl) (by kernel_rfl) (by kernel_rfl) hPQ hS0 (by kernel_rfl) ?_ ?_
              rotate_left
              · (intro w hSw; (try dsimp only at hSw); obtain ⟨k0, k1, k2⟩ := hSw; go_simp; (try with_reducible rfl))
              (try simp only [Act.put, List.setIfInBounds_toArray, List.set_cons_zero, List.set_cons_succ])
              refine takeQ (i := 16) (d := some 46) (v := ?_) rfl rfl (by kernel_rfl) (by kernel_rfl) (by kernel_rfl) hPQ hS0 (by kernel_rfl) ?_ ?_
              rotate_left
              · (intro w hSw; (try dsimp only at hSw); obtain ⟨k0, k1, k2⟩ := hSw; go_simp; (try with_reducible rfl))
              (try simp only [Act.put, List.setIfInBounds_toArray, List.set_cons_zero, List.set_cons_succ])
              refine takeQ (i := 17) (d := some 47) (v := ?_) rfl rfl (by kernel_rfl) (by kernel_rfl) (by kernel_rfl) hPQ hS0 (by kernel_rfl) ?_ ?_
              rotate_left
              · (intro w hSw; (try dsimp only at hSw); obtain ⟨k0, k1, k2⟩ := hSw; go_simp; (try with_reducible rfl))
              (try simp only [Act.put, List.setIfInBounds_toArray, List.set_cons_zero, List.set_cons_succ])
              refine takeQ (i := 18) (d := some 48) (v := ?_) rfl rfl (by kernel_rfl) (by kernel_rfl) (by kernel_rfl) hPQ hS0 (by kernel_rfl) ?_ ?_
              rotate_left
              · (intro w hSw; (try dsimp only at hSw); obtain ⟨k0, k1, k2⟩ := hSw; go_simp; (try with_reducible rfl))
              (try simp only [Act.put, List.setIfInBounds_toArray, List.set_cons_zero, List.set_cons_succ])
              refine takeQ (i := 19) (d := some 49) (v := ?_) rfl rfl (by kernel_rfl) (by kernel_rfl) (by kernel_rfl) hPQ hS0 (by kernel_rfl) ?_ ?_
              rotate_left
              · (intro w hSw; (try dsimp only at hSw); obtain ⟨k0, k1, k2⟩ := hSw; go_simp; (try with_reducible rfl))
              (try simp only [Act.put, List.setIfInBounds_toArray, List.set_cons_zero, List.set_cons_succ])
              refine takeQ (i := 20) (d := some 50) (v := ?_) rfl rfl (by kernel_rfl) (by kernel_rfl) (by kernel_rfl) hPQ hS0 (by kernel_rfl) ?_ ?_
              rotate_left
              · (intro w hSw; (try dsimp only at hSw); obtain ⟨k0, k1, k2⟩ := hSw; go_simp; (try with_reducible rfl))
              (try simp only [Act.put, List.setIfInBounds_toArray, List.set_cons_zero, List.set_cons_succ])
              refine wpAnyH_ready (rs := [15]) (by kernel_rfl) (by simp) ?_
              refine AllReadyH.cons (o := _) rfl (fun K hK => ?_) AllReadyH.nil
              go_simp
              refine reached_any a5 us c5 ax u.f _ _ hul (K5.out.below HBB.out) ?_
              intro a9 n9 c9 w10 hb10 hn9 ho9
              have r4 : Hid (Below w5.heap.size w5 w10) := HBB.out.trans (hb10.mono (Nat.le_refl _))
              have r0 := cellB r4.out d0 hbr
              have r1 := cellB r4.out d1 hbr
              have r2 := cellB r4.out d2 hbr
              have G10 := Lib.hid (own_cells ho9)
              subst hn9
              clear hb10 ho9
              refine hK.out _ _ (⟨r0, r1, r2⟩) (fun hS1 => ?_)
              clear hK K hS0
              (try simp only [Act.put, List.setIfInBounds_toArray, List.set_cons_zero, List.set_cons_succ])
              refine wpAnyH_ready (rs := [21]) (by kernel_rfl) (by simp) ?_
              refine AllReadyH.cons (o := _) rfl (fun K hK => ?_) AllReadyH.nil
              go_simp
              refine rhas_any a9 _ c9 u.t _ _ (rcA_small _ _ _ hul) G10.out ?_
              rw [Hjn.out]
              intro w11 hd11
              have s4 : Hid (Below w5.heap.size w5 w11) := r4.out.trans (hd11.below _)
              have s0 := cellB s4.out d0 hbr
              have s1 := cellB s4.out d1 hbr
              have s2 := cellB s4.out d2 hbr
              clear hd11
              refine hK.out _ _ (⟨s0, s1, s2⟩) (fun hS2 => ?_)
              clear hK K hS1
              (try simp only [Act.put, List.setIfInBounds_toArray, List.set_cons_zero, List.set_cons_succ])
              refine takeQ (i := 22) (d := some 52) (v := ?_) rfl rfl (by kernel_rfl) (by kernel_rfl) (by kernel_rfl) hPQ hS2 (by kernel_rfl) ?_ ?_
              rotate_left
              · (intro w hSw; (try dsimp only at hSw); obtain ⟨k0, k1, k2⟩ := hSw; go_simp; (try with_reducible rfl))
              (try simp only [Act.put, List.setIfInBounds_toArray, List.set_cons_zero, List.set_cons_succ])
              refine takeQ (i := 23) (d := some 53) (v := ?_) rfl rfl (by kernel_rfl) (by kernel_rfl) (by kernel_rfl) hPQ hS2 (by kernel_rfl) ?_ ?_
              rotate_left
              · (intro w hSw; (try dsimp only at hSw); obtain ⟨k0, k1, k2⟩ := hSw; go_simp; (try with_reducible rfl))
              (try simp only [Act.put, List.setIfInBounds_toArray, List.set_cons_zero, List.set_cons_succ])
              refine wpAnyH_done (by kernel_rfl) (hQn.out _ _ ?_) _
              clear hS2 hPQ hQn Qn
              go_wp2_with fail
              refine ⟨⟨k + 1, by omega, by go_num, W5.out.trans (s4.out.mono sW5), ?_⟩, by simp [intOf]; omega⟩
              rw [hst2.out]; exact ownsRow_below O5.out s4.out
            | true =>
              have hst2 := Hst1.out
              rw [Bool.true_and, hspl.out rfl, hsph.out rfl] at hst2
              have bd1 := waV_bd (ax := ax) (s := u.t) (t := u.f) hul hwva.out
              have bd2 := waV_bd (ax := ax) (s := u.f) (t := u.t) hul hwva.out
              obtain ⟨lo, hlo⟩ : ∃ lo, -waV us ax u.t u.f = lo := ⟨_, rfl⟩
              obtain ⟨hi, hhi⟩ : ∃ hi, waV us ax u.f u.t = hi := ⟨_, rfl⟩
              rw [hlo, hhi] at hst2
              have Hst2 := Lib.hid hst2
              have Hlo := Lib.hid hlo
              have Hhi := Lib.hid hhi
              clear Hst1 hst2 hspl hsph hJ' hlo hhi bd1 bd2
              go_wp2_with fail
              refine regionQ (fun w' => w'.cell? ⟨b, o + k * 5, none⟩ = some (.string u.f) ∧ w'.cell? ⟨b, o + k * 5 + 1, none⟩ = some (.string u.t) ∧ w'.cell? ⟨b, o + k * 5 + 2, none⟩ = some (.int .i64 u.x)) (by kernel_rfl) (⟨d0, d1, d2⟩) (fun Qn hPQ hQn hS0 => ?_)
              refine takeQ (i := 0) (d := some 30) (v := ?_) rfl rfl (by kernel_rfl) (by kernel_rfl) (by kernel_rfl) hPQ hS0 (by kernel_rfl) ?_ ?_
              rotate_left
              · (intro w hSw; (try dsimp only at hSw); obtain ⟨k0, k1, k2⟩ := hSw; go_simp; (try with_reducible rfl))
              (try simp only [Act.put, List.setIfInBounds_toArray, List.set_cons_zero, List.set_cons_succ])
              refine takeQ (i := 1) (d := some 31) (v := ?_) rfl rfl (by kernel_rfl) (by kernel_rfl) (by kernel_rfl) hPQ hS0 (by kernel_rfl) ?_ ?_
              rotate_left
              · (intro w hSw; (try dsimp only at hSw); obtain ⟨k0, k1, k2⟩ := hSw; go_simp; (try with_reducible rfl))
              (try simp only [Act.put, List.setIfInBounds_toArray, List.set_cons_zero, List.set_cons_succ])
              refine takeQ (i := 2) (d := some 32) (v := ?_) rfl rfl (by kernel_rfl) (by kernel_rfl) (by kernel_rfl) hPQ hS0 (by kernel_rfl) ?_ ?_
              rotate_left
              · (intro w hSw; (try dsimp only at hSw); obtain ⟨k0, k1, k2⟩ := hSw; go_simp; (try with_reducible rfl))
              (try simp only [Act.put, List.setIfInBounds_toArray, List.set_cons_zero, List.set_cons_succ])
              refine takeQ (i := 3) (d := some 33) (v := ?_) rfl rfl (by kernel_rfl) (by kernel_rfl) (by kernel_rfl) hPQ hS0 (by kernel_rfl) ?_ ?_
              rotate_left
              · (intro w hSw; (try dsimp only at hSw); obtain ⟨k0, k1, k2⟩ := hSw; go_simp; (try with_reducible rfl))
              (try simp only [Act.put, List.setIfInBounds_toArray, List.set_cons_zero, List.set_cons_succ])
              refine takeQ (i := 4) (d := some 34) (v := ?_) rfl rfl (by kernel_rfl) (by kernel_rfl) (by kernel_rfl) hPQ hS0 (by kernel_rfl) ?_ ?_
              rotate_left
              · (intro w hSw; (try dsimp only at hSw); obtain ⟨k0, k1, k2⟩ := hSw; go_simp; (try with_reducible rfl))
              (try simp only [Act.put, List.setIfInBounds_toArray, List.set_cons_zero, List.set_cons_succ])
              refine takeQ (i := 5) (d := some 35) (v := ?_) rfl rfl (by kernel_rfl) (by kernel_rfl) (by kernel_rfl) hPQ hS0 (by kernel_rfl) ?_ ?_
              rotate_left
              · (intro w hSw; (try dsimp only at hSw); obtain ⟨k0, k1, k2⟩ := hSw; go_simp; (try with_reducible rfl))
              (try simp only [Act.put, List.setIfInBounds_toArray, List.set_cons_zero, List.set_cons_succ])
              refine takeQ (i := 6) (d := some 36) (v := ?_) rfl rfl (by kernel_rfl) (by kernel_rfl) (by kernel_rfl) hPQ hS0 (by kernel_rfl) ?_ ?_
              rotate_left
              · (intro w hSw; (try dsimp only at hSw); obtain ⟨k0, k1, k2⟩ := hSw; go_simp; (try with_reducible rfl))
              (try simp only [Act.put, List.setIfInBounds_toArray, List.set_cons_zero, List.set_cons_succ])
              refine takeQ (i := 7) (d := some 37) (v := ?_) rfl rfl (by kernel_rfl) (by kernel_rfl) (by kernel_rfl) hPQ hS0 (by kernel_rfl) ?_ ?_
              rotate_left
              · (intro w hSw; (try dsimp only at hSw); obtain ⟨k0, k1, k2⟩ := hSw; go_simp; (try with_reducible rfl))
              (try simp only [Act.put, List.setIfInBounds_toArray, List.set_cons_zero, List.set_cons_succ])
              refine takeQ (i := 8) (d := some 38) (v := ?_) rfl rfl (by kernel_rfl) (by kernel_rfl) (by kernel_rfl) hPQ hS0 (by kernel_rfl) ?_ ?_
              rotate_left
              · (intro w hSw; (try dsimp only at hSw); obtain ⟨k0, k1, k2⟩ := hSw; go_simp; (try with_reducible rfl))
              (try simp only [Act.put, List.setIfInBounds_toArray, List.set_cons_zero, List.set_cons_succ])
              refine takeQ (i := 9) (d := some 39) (v := ?_) rfl rfl (by kernel_rfl) (by kernel_rfl) (by kernel_rfl) hPQ hS0 (by kernel_rfl) ?_ ?_
              rotate_left
              · (intro w hSw; (try dsimp only at hSw); obtain ⟨k0, k1, k2⟩ := hSw; go_simp; (try with_reducible rfl))
              (try simp only [Act.put, List.setIfInBounds_toArray, List.set_cons_zero, List.set_cons_succ])
              refine takeQ (i := 10) (d := some 40) (v := ?_) rfl rfl (by kernel_rfl) (by kernel_rfl) (by kernel_rfl) hPQ hS0 (by kernel_rfl) ?_ ?_
              rotate_left
              · (intro w hSw; (try dsimp only at hSw); obtain ⟨k0, k1, k2⟩ := hSw; go_simp; (try with_reducible rfl))
              (try simp only [Act.put, List.setIfInBounds_toArray, List.set_cons_zero, List.set_cons_succ])
              refine takeQ (i := 11) (d := some 41) (v := ?_) rfl rfl (by kernel_rfl) (by kernel_rfl) (by kernel_rfl) hPQ hS0 (by kernel_rfl) ?_ ?_
              rotate_left
              · (intro w hSw; (try dsimp only at hSw); obtain ⟨k0, k1, k2⟩ := hSw; go_simp; (try with_reducible rfl))
              (try simp only [Act.put, List.setIfInBounds_toArray, List.set_cons_zero, List.set_cons_succ])
              refine takeQ (i := 12) (d := some 42) (v := ?_) rfl rfl (by kernel_rfl) (by kernel_rfl) (by kernel_rfl) hPQ hS0 (by kernel_rfl) ?_ ?_
              rotate_left
              · (intro w hSw; (try dsimp only at hSw); obtain ⟨k0, k1, k2⟩ := hSw; go_simp; (try with_reducible rfl))
              (try simp only [Act.put, List.setIfInBounds_toArray, List.set_cons_zero, List.set_cons_succ])
              refine takeQ (i := 13) (d := some 43) (v := ?_) rfl rfl (by kernel_rfl) (by kernel_rfl) (by kernel_rfl) hPQ hS0 (by kernel_rfl) ?_ ?_
              rotate_left
              · (intro w hSw; (try dsimp only at hSw); obtain ⟨k0, k1, k2⟩ := hSw; go_simp; (try with_reducible rfl))
              (try simp only [Act.put, List.setIfInBounds_toArray, List.set_cons_zero, List.set_cons_succ])
              refine takeQ (i := 14) (d := some 44) (v := ?_) rfl rfl (by kernel_rfl) (by kernel_rfl) (by kernel_rfl) hPQ hS0 (by kernel_rfl) ?_ ?_
              rotate_left
              · (intro w hSw; (try dsimp only at hSw); obtain ⟨k0, k1, k2⟩ := hSw; go_simp; (try with_reducible rfl))
              (try simp only [Act.put, List.setIfInBounds_toArray, List.set_cons_zero, List.set_cons_succ])
              refine takeQ (i := 16) (d := some 46) (v := ?_) rfl rfl (by kernel_rfl) (by kernel_rfl) (by kernel_rfl) hPQ hS0 (by kernel_rfl) ?_ ?_
              rotate_left
              · (intro w hSw; (try dsimp only at hSw); obtain ⟨k0, k1, k2⟩ := hSw; go_simp; (try with_reducible rfl))
              (try simp only [Act.put, List.setIfInBounds_toArray, List.set_cons_zero, List.set_cons_succ])
              refine takeQ (i := 17) (d := some 47) (v := ?_) rfl rfl (by kernel_rfl) (by kernel_rfl) (by kernel_rfl) hPQ hS0 (by kernel_rfl) ?_ ?_
              rotate_left
              · (intro w hSw; (try dsimp only at hSw); obtain ⟨k0, k1, k2⟩ := hSw; go_simp; (try with_reducible rfl))
              (try simp only [Act.put, List.setIfInBounds_toArray, List.set_cons_zero, List.set_cons_succ])
              refine takeQ (i := 18) (d := some 48) (v := ?_) rfl rfl (by kernel_rfl) (by kernel_rfl) (by kernel_rfl) hPQ hS0 (by kernel_rfl) ?_ ?_
              rotate_left
              · (intro w hSw; (try dsimp only at hSw); obtain ⟨k0, k1, k2⟩ := hSw; go_simp; (try with_reducible rfl))
              (try simp only [Act.put, List.setIfInBounds_toArray, List.set_cons_zero, List.set_cons_succ])
              refine takeQ (i := 19) (d := some 49) (v := ?_) rfl rfl (by kernel_rfl) (by kernel_rfl) (by kernel_rfl) hPQ hS0 (by kernel_rfl) ?_ ?_
              rotate_left
              · (intro w hSw; (try dsimp only at hSw); obtain ⟨k0, k1, k2⟩ := hSw; go_simp; (try with_reducible rfl))
              (try simp only [Act.put, List.setIfInBounds_toArray, List.set_cons_zero, List.set_cons_succ])
              refine takeQ (i := 20) (d := some 50) (v := ?_) rfl rfl (by kernel_rfl) (by kernel_rfl) (by kernel_rfl) hPQ hS0 (by kernel_rfl) ?_ ?_
              rotate_left
              · (intro w hSw; (try dsimp only at hSw); obtain ⟨k0, k1, k2⟩ := hSw; go_simp; (try with_reducible rfl))
              (try simp only [Act.put, List.setIfInBounds_toArray, List.set_cons_zero, List.set_cons_succ])
              refine wpAnyH_ready (rs := [15]) (by kernel_rfl) (by simp) ?_
              refine AllReadyH.cons (o := _) rfl (fun K hK => ?_) AllReadyH.nil
              go_simp
              refine reached_any a5 us c5 ax u.f _ _ hul (K5.out.below HBB.out) ?_
              intro a9 n9 c9 w10 hb10 hn9 ho9
              have r4 : Hid (Below w5.heap.size w5 w10) := HBB.out.trans (hb10.mono (Nat.le_refl _))
              have r0 := cellB r4.out d0 hbr
              have r1 := cellB r4.out d1 hbr
              have r2 := cellB r4.out d2 hbr
              have G10 := Lib.hid (own_cells ho9)
              subst hn9
              clear hb10 ho9
              refine hK.out _ _ (⟨r0, r1, r2⟩) (fun hS1 => ?_)
              clear hK K hS0
              (try simp only [Act.put, List.setIfInBounds_toArray, List.set_cons_zero, List.set_cons_succ])
              refine wpAnyH_ready (rs := [21]) (by kernel_rfl) (by simp) ?_
              refine AllReadyH.cons (o := _) rfl (fun K hK => ?_) AllReadyH.nil
              go_simp
              refine rhas_any a9 _ c9 u.t _ _ (rcA_small _ _ _ hul) G10.out ?_
              rw [Hjn.out]
              intro w11 hd11
              have s4 : Hid (Below w5.heap.size w5 w11) := r4.out.trans (hd11.below _)
              have s0 := cellB s4.out d0 hbr
              have s1 := cellB s4.out d1 hbr
              have s2 := cellB s4.out d2 hbr
              clear hd11
              refine hK.out _ _ (⟨s0, s1, s2⟩) (fun hS2 => ?_)
              clear hK K hS1
              (try simp only [Act.put, List.setIfInBounds_toArray, List.set_cons_zero, List.set_cons_succ])
              refine takeQ (i := 22) (d := some 52) (v := ?_) rfl rfl (by kernel_rfl) (by kernel_rfl) (by kernel_rfl) hPQ hS2 (by kernel_rfl) ?_ ?_
              rotate_left
              · (intro w hSw; (try dsimp only at hSw); obtain ⟨k0, k1, k2⟩ := hSw; go_simp; (try with_reducible rfl))
              (try simp only [Act.put, List.setIfInBounds_toArray, List.set_cons_zero, List.set_cons_succ])
              refine takeQ (i := 23) (d := some 53) (v := ?_) rfl rfl (by kernel_rfl) (by kernel_rfl) (by kernel_rfl) hPQ hS2 (by kernel_rfl) ?_ ?_
              rotate_left
              · (intro w hSw; (try dsimp only at hSw); obtain ⟨k0, k1, k2⟩ := hSw; go_simp; (try with_reducible rfl))
              (try simp only [Act.put, List.setIfInBounds_toArray, List.set_cons_zero, List.set_cons_succ])
              refine wpAnyH_done (by kernel_rfl) (hQn.out _ _ ?_) _
              clear hS2 hPQ hQn Qn
              go_wp2_with fail
              have U11 := Lib.hid (W5.out.trans (s4.out.mono sW5))
              have sU11 := U11.out.size
              have O11 := Lib.hid (ownsRow_below O5.out s4.out)
              have zz := s4.out.size
              have hbr2 : b < w11.heap.size := by omega
              have d0 := cellB s4.out d0 hbr
              have d1 := cellB s4.out d1 hbr
              have d3 := cellB s4.out d3 hbr
              have d4 := cellB s4.out d4 hbr
              have CC : Hid (Below w11.heap.size w11 w11.drew) := (Below.refl _ _).drew
              have K11 := Lib.hid (K5.out.below s4.out)
              clear d2
              refine regionQ (fun w' => w'.cell? ⟨b, o + k * 5, none⟩ = some (.string u.f) ∧ w'.cell? ⟨b, o + k * 5 + 1, none⟩ = some (.string u.t)) (by kernel_rfl) (⟨d0, d1⟩) (fun Qn hPQ hQn hS0 => ?_)
              refine takeQ (i := 0) (d := some 54) (v := ?_) rfl rfl (by kernel_rfl) (by kernel_rfl) (by kernel_rfl) hPQ hS0 (by kernel_rfl) ?_ ?_
              rotate_left
              · (intro w hSw; (try dsimp only at hSw); obtain ⟨k0, k1⟩ := hSw; go_simp; (try with_reducible rfl))
              (try simp only [Act.put, List.setIfInBounds_toArray, List.set_cons_zero, List.set_cons_succ])
              refine takeQ (i := 1) (d := some 55) (v := ?_) rfl rfl (by kernel_rfl) (by kernel_rfl) (by kernel_rfl) hPQ hS0 (by kernel_rfl) ?_ ?_
              rotate_left
              · (intro w hSw; (try dsimp only at hSw); obtain ⟨k0, k1⟩ := hSw; go_simp; (try with_reducible rfl))
              (try simp only [Act.put, List.setIfInBounds_toArray, List.set_cons_zero, List.set_cons_succ])
              refine takeQ (i := 2) (d := some 56) (v := ?_) rfl rfl (by kernel_rfl) (by kernel_rfl) (by kernel_rfl) hPQ hS0 (by kernel_rfl) ?_ ?_
              rotate_left
              · (intro w hSw; (try dsimp only at hSw); obtain ⟨k0, k1⟩ := hSw; go_simp; (try with_reducible rfl))
              (try simp only [Act.put, List.setIfInBounds_toArray, List.set_cons_zero, List.set_cons_succ])
              refine takeQ (i := 3) (d := some 57) (v := ?_) rfl rfl (by kernel_rfl) (by kernel_rfl) (by kernel_rfl) hPQ hS0 (by kernel_rfl) ?_ ?_
              rotate_left
              · (intro w hSw; (try dsimp only at hSw); obtain ⟨k0, k1⟩ := hSw; go_simp; (try with_reducible rfl))
              (try simp only [Act.put, List.setIfInBounds_toArray, List.set_cons_zero, List.set_cons_succ])
              refine takeQ (i := 4) (d := some 58) (v := ?_) rfl rfl (by kernel_rfl) (by kernel_rfl) (by kernel_rfl) hPQ hS0 (by kernel_rfl) ?_ ?_
              rotate_left
              · (intro w hSw; (try dsimp only at hSw); obtain ⟨k0, k1⟩ := hSw; go_simp; (try with_reducible rfl))
              (try simp only [Act.put, List.setIfInBounds_toArray, List.set_cons_zero, List.set_cons_succ])
              refine takeQ (i := 5) (d := some 59) (v := ?_) rfl rfl (by kernel_rfl) (by kernel_rfl) (by kernel_rfl) hPQ hS0 (by kernel_rfl) ?_ ?_
              rotate_left
              · (intro w hSw; (try dsimp only at hSw); obtain ⟨k0, k1⟩ := hSw; go_simp; (try with_reducible rfl))
              (try simp only [Act.put, List.setIfInBounds_toArray, List.set_cons_zero, List.set_cons_succ])
              refine takeQ (i := 6) (d := some 60) (v := ?_) rfl rfl (by kernel_rfl) (by kernel_rfl) (by kernel_rfl) hPQ hS0 (by kernel_rfl) ?_ ?_
              rotate_left
              · (intro w hSw; (try dsimp only at hSw); obtain ⟨k0, k1⟩ := hSw; go_simp; (try with_reducible rfl))
              (try simp only [Act.put, List.setIfInBounds_toArray, List.set_cons_zero, List.set_cons_succ])
              refine takeQ (i := 7) (d := some 61) (v := ?_) rfl rfl (by kernel_rfl) (by kernel_rfl) (by kernel_rfl) hPQ hS0 (by kernel_rfl) ?_ ?_
              rotate_left
              · (intro w hSw; (try dsimp only at hSw); obtain ⟨k0, k1⟩ := hSw; go_simp; (try with_reducible rfl))
              (try simp only [Act.put, List.setIfInBounds_toArray, List.set_cons_zero, List.set_cons_succ])
              refine takeQ (i := 8) (d := some 62) (v := ?_) rfl rfl (by kernel_rfl) (by kernel_rfl) (by kernel_rfl) hPQ hS0 (by kernel_rfl) ?_ ?_
              rotate_left
              · (intro w hSw; (try dsimp only at hSw); obtain ⟨k0, k1⟩ := hSw; go_simp; (try with_reducible rfl))
              (try simp only [Act.put, List.setIfInBounds_toArray, List.set_cons_zero, List.set_cons_succ])
              refine takeQ (i := 9) (d := some 63) (v := ?_) rfl rfl (by kernel_rfl) (by kernel_rfl) (by kernel_rfl) hPQ hS0 (by kernel_rfl) ?_ ?_
              rotate_left
              · (intro w hSw; (try dsimp only at hSw); obtain ⟨k0, k1⟩ := hSw; go_simp; (try with_reducible rfl))
              (try simp only [Act.put, List.setIfInBounds_toArray, List.set_cons_zero, List.set_cons_succ])
              refine takeQ (i := 10) (d := some 64) (v := ?_) rfl rfl (by kernel_rfl) (by kernel_rfl) (by kernel_rfl) hPQ hS0 (by kernel_rfl) ?_ ?_
              rotate_left
              · (intro w hSw; (try dsimp only at hSw); obtain ⟨k0, k1⟩ := hSw; go_simp; (try with_reducible rfl))
              (try simp only [Act.put, List.setIfInBounds_toArray, List.set_cons_zero, List.set_cons_succ])
              refine takeQ (i := 11) (d := some 65) (v := ?_) rfl rfl (by kernel_rfl) (by kernel_rfl) (by kernel_rfl) hPQ hS0 (by kernel_rfl) ?_ ?_
              rotate_left
              · (intro w hSw; (try dsimp only at hSw); obtain ⟨k0, k1⟩ := hSw; go_simp; (try with_reducible rfl))
              (try simp only [Act.put, List.setIfInBounds_toArray, List.set_cons_zero, List.set_cons_succ])
              refine wpAnyH_ready (rs := [12, 13]) (by kernel_rfl) (by simp) ?_
              refine AllReadyH.cons (o := _) rfl (fun K hK => ?_) (AllReadyH.cons (o := _) rfl (fun K hK => ?_) AllReadyH.nil)
              go_simp
              refine rspan_any a5 us _ c5 ax u.f u.t _ _ rfl hul (K11.out.below CC.out) hwva.out ?_
              rw [Hlo.out, Hhi.out]
              intro wS hb
              have t4 : Hid (Below w11.heap.size w11 wS) := CC.out.trans (hb.mono CC.out.size)
              have g0 := cellB t4.out d0 hbr2
              have g1 := cellB t4.out d1 hbr2
              clear hb
              refine hK.out _ _ (⟨g0, g1⟩) (fun hS1 => ?_)
              clear hK K hS0
              (try simp only [Act.put, List.setIfInBounds_toArray, List.set_cons_zero, List.set_cons_succ])
              refine wpAnyH_ready (rs := [13]) (by kernel_rfl) (by simp) ?_
              refine AllReadyH.cons (o := _) rfl (fun K hK => ?_) AllReadyH.nil
              go_simp
              have f4 : Hid (Below w11.heap.size w11 (wS.alloc (.cells #[.int .i64 0, .int .i64 0] 37))) := t4.out.alloc t4.out.size _
              have FB := Lib.hid (World.alloc_heap_new wS (.cells #[.int .i64 0, .int .i64 0] 37))
              have zS := t4.out.size
              obtain ⟨wT, hwT⟩ : ∃ wT, wS.alloc (.cells #[.int .i64 0, .int .i64 0] 37) = wT := ⟨_, rfl⟩
              rw [hwT] at f4 FB ⊢
              clear hwT
              have g0 := cellB f4.out d0 hbr2
              have g1 := cellB f4.out d1 hbr2
              have z0 := cell_of FB.out (j := 0) rfl
              have z1 := cell_of FB.out (j := 1) rfl
              have f0 := frozen_of FB.out 0
              have f1 := frozen_of FB.out 1
              refine hK.out _ _ (⟨g0, g1⟩) (fun hS2 => ?_)
              clear hK K hS1
              (try simp only [Act.put, List.setIfInBounds_toArray, List.set_cons_zero, List.set_cons_succ])
              refine wpAnyH_ready (rs := [14]) (by kernel_rfl) (by simp) ?_
              refine AllReadyH.cons (o := _) rfl (fun K hK => ?_) AllReadyH.nil
              go_simp
              have YB := Lib.hid (heap_setCell_same _ wS.heap.size 1 _ _ (.int .i64 hi) (heap_setCell_same _ wS.heap.size 0 _ _ (.int .i64 lo) FB.out))
              obtain ⟨yb, hyb⟩ : ∃ yb, wS.heap.size = yb := ⟨_, rfl⟩
              rw [hyb] at YB ⊢
              have y4 := Lib.hid ((f4.out.setCell (p := ⟨yb, 0, none⟩) (show w11.heap.size ≤ yb by omega) (.int .i64 lo)).setCell (p := ⟨yb, 1, none⟩) (show w11.heap.size ≤ yb by omega) (.int .i64 hi))
              clear hyb
              obtain ⟨wY, hwY⟩ : ∃ wY, (wT.setCell ⟨yb, 0, none⟩ (.int .i64 lo)).setCell ⟨yb, 1, none⟩ (.int .i64 hi) = wY := ⟨_, rfl⟩
              rw [hwY] at YB y4 ⊢
              clear hwY
              have g0 := cellB y4.out d0 hbr2
              have g1 := cellB y4.out d1 hbr2
              refine hK.out _ _ (⟨g0, g1⟩) (fun hS3 => ?_)
              clear hK K hS2
              (try simp only [Act.put, List.setIfInBounds_toArray, List.set_cons_zero, List.set_cons_succ])
              refine wpAnyH_done (by kernel_rfl) (hQn.out _ _ ?_) _
              clear hS3 hPQ hQn Qn
              rotate_left
              go_simp
              have e4 : Hid (Below w11.heap.size w11 ((w11.alloc (.cells #[.int .i64 0, .int .i64 0] 37)).drew)) := ((Below.refl _ _).alloc (Nat.le_refl _) _).drew
              have EB : Hid (((w11.alloc (.cells #[.int .i64 0, .int .i64 0] 37)).drew).heap[w11.heap.size]? = some (.cells #[.int .i64 0, .int .i64 0] 37 (0, 0))) := World.alloc_heap_new w11 (.cells #[.int .i64 0, .int .i64 0] 37)
              obtain ⟨wE, hwE⟩ : ∃ wE, (w11.alloc (.cells #[.int .i64 0, .int .i64 0] 37)).drew = wE := ⟨_, rfl⟩
              rw [hwE] at e4 EB ⊢
              clear hwE
              have g0 := cellB e4.out d0 hbr2
              have g1 := cellB e4.out d1 hbr2
              refine hK.out _ _ (⟨g0, g1⟩) (fun hS1 => ?_)
              clear hK K hS0
              (try simp only [Act.put, List.setIfInBounds_toArray, List.set_cons_zero, List.set_cons_succ])
              refine wpAnyH_ready (rs := [12]) (by kernel_rfl) (by simp) ?_
              refine AllReadyH.cons (o := _) rfl (fun K hK => ?_) AllReadyH.nil
              go_simp
              refine rspan_any a5 us _ c5 ax u.f u.t _ _ rfl hul (K11.out.below e4.out) hwva.out ?_
              rw [Hlo.out, Hhi.out]
              intro wT hb
              have f4 : Hid (Below w11.heap.size w11 wT) := e4.out.trans (hb.mono e4.out.size)
              have g0 := cellB f4.out d0 hbr2
              have g1 := cellB f4.out d1 hbr2
              have FB := Lib.hid (blk_box EB.out hb (lt_of_block EB.out))
              have z0 := cell_of FB.out (j := 0) rfl
              have z1 := cell_of FB.out (j := 1) rfl
              have f0 := frozen_of FB.out 0
              have f1 := frozen_of FB.out 1
              clear hb
              refine hK.out _ _ (⟨g0, g1⟩) (fun hS2 => ?_)
              clear hK K hS1
              (try simp only [Act.put, List.setIfInBounds_toArray, List.set_cons_zero, List.set_cons_succ])
              refine wpAnyH_ready (rs := [14]) (by kernel_rfl) (by simp) ?_
              refine AllReadyH.cons (o := _) rfl (fun K hK => ?_) AllReadyH.nil
              go_simp
              have YB := Lib.hid (heap_setCell_same _ w11.heap.size 1 _ _ (.int .i64 hi) (heap_setCell_same _ w11.heap.size 0 _ _ (.int .i64 lo) FB.out))
              obtain ⟨yb, hyb⟩ : ∃ yb, w11.heap.size = yb := ⟨_, rfl⟩
              rw [hyb] at YB ⊢
              have y4 := Lib.hid ((f4.out.setCell (p := ⟨yb, 0, none⟩) (show w11.heap.size ≤ yb by omega) (.int .i64 lo)).setCell (p := ⟨yb, 1, none⟩) (show w11.heap.size ≤ yb by omega) (.int .i64 hi))
              clear hyb
              obtain ⟨wY, hwY⟩ : ∃ wY, (wT.setCell ⟨yb, 0, none⟩ (.int .i64 lo)).setCell ⟨yb, 1, none⟩ (.int .i64 hi) = wY := ⟨_, rfl⟩
              rw [hwY] at YB y4 ⊢
              clear hwY
              have g0 := cellB y4.out d0 hbr2
              have g1 := cellB y4.out d1 hbr2
              refine hK.out _ _ (⟨g0, g1⟩) (fun hS3 => ?_)
              clear hK K hS2
              (try simp only [Act.put, List.setIfInBounds_toArray, List.set_cons_zero, List.set_cons_succ])
              refine wpAnyH_done (by kernel_rfl) (hQn.out _ _ ?_) _
              clear hS3 hPQ hQn Qn
              rotate_left
              all_goals
                have U13 := Lib.hid (U11.out.trans (y4.out.mono sU11))
                have sU13 := U13.out.size
                have O13 := Lib.hid (ownsRow_below O11.out y4.out)
                have x3 := cellB y4.out d3 hbr2
                have x4 := cellB y4.out d4 hbr2
                have l0 := cell_of YB.out (j := 0) (v := .int .i64 lo) rfl
                have l1 := cell_of YB.out (j := 1) (v := .int .i64 hi) rfl
                have ysz := lt_of_block YB.out
                have DD : Hid (Below wY.heap.size wY wY.drew) := (Below.refl _ _).drew
                clear d0 d1 d3 d4 CC
              all_goals
                by_cases hq1 : u.l ≤ lo
                · by_cases hq2 : hi ≤ u.h
                  · have hst4 := Hst2.out
                    rw [decide_eq_true hq1, decide_eq_true hq2, if_pos (by rfl)] at hst4
                    have Hst4 := Lib.hid hst4
                    clear hst4 Hst2
                    have e1 := eq_true hq1
                    have e2 := eq_true hq2
                    go_wp2_with fail
                    refine regionQ (fun w' => w'.cell? ⟨yb, 0, none⟩ = some (.int .i64 lo) ∧ w'.cell? ⟨yb, 1, none⟩ = some (.int .i64 hi) ∧ w'.cell? ⟨b, o + k * 5 + 3, none⟩ = some (.int .i64 u.l) ∧ w'.cell? ⟨b, o + k * 5 + 4, none⟩ = some (.int .i64 u.h)) (by kernel_rfl) (⟨l0, l1, x3, x4⟩) (fun Qn hPQ hQn hS0 => ?_)
                    refine takeQ (i := 0) (d := some 67) (v := ?_) rfl rfl (by kernel_rfl) (by kernel_rfl) (by kernel_rfl) hPQ hS0 (by kernel_rfl) ?_ ?_
                    rotate_left
                    · (intro w hSw; (try dsimp only at hSw); obtain ⟨k0, k1, k2, k3⟩ := hSw; go_simp; (try with_reducible rfl))
                    (try simp only [Act.put, List.setIfInBounds_toArray, List.set_cons_zero, List.set_cons_succ])
                    refine takeQ (i := 1) (d := some 68) (v := ?_) rfl rfl (by kernel_rfl) (by kernel_rfl) (by kernel_rfl) hPQ hS0 (by kernel_rfl) ?_ ?_
                    rotate_left
                    · (intro w hSw; (try dsimp only at hSw); obtain ⟨k0, k1, k2, k3⟩ := hSw; go_simp; (try with_reducible rfl))
                    (try simp only [Act.put, List.setIfInBounds_toArray, List.set_cons_zero, List.set_cons_succ])
                    refine takeQ (i := 2) (d := some 69) (v := ?_) rfl rfl (by kernel_rfl) (by kernel_rfl) (by kernel_rfl) hPQ hS0 (by kernel_rfl) ?_ ?_
                    rotate_left
                    · (intro w hSw; (try dsimp only at hSw); obtain ⟨k0, k1, k2, k3⟩ := hSw; go_simp; (try with_reducible rfl))
                    (try simp only [Act.put, List.setIfInBounds_toArray, List.set_cons_zero, List.set_cons_succ])
                    refine takeQ (i := 3) (d := some 70) (v := ?_) rfl rfl (by kernel_rfl) (by kernel_rfl) (by kernel_rfl) hPQ hS0 (by kernel_rfl) ?_ ?_
                    rotate_left
                    · (intro w hSw; (try dsimp only at hSw); obtain ⟨k0, k1, k2, k3⟩ := hSw; go_simp; (try with_reducible rfl))
                    (try simp only [Act.put, List.setIfInBounds_toArray, List.set_cons_zero, List.set_cons_succ])
                    refine takeQ (i := 4) (d := some 71) (v := ?_) rfl rfl (by kernel_rfl) (by kernel_rfl) (by kernel_rfl) hPQ hS0 (by kernel_rfl) ?_ ?_
                    rotate_left
                    · (intro w hSw; (try dsimp only at hSw); obtain ⟨k0, k1, k2, k3⟩ := hSw; go_simp; (try with_reducible rfl))
                    (try simp only [Act.put, List.setIfInBounds_toArray, List.set_cons_zero, List.set_cons_succ])
                    refine takeQ (i := 5) (d := some 72) (v := ?_) rfl rfl (by kernel_rfl) (by kernel_rfl) (by kernel_rfl) hPQ hS0 (by kernel_rfl) ?_ ?_
                    rotate_left
                    · (intro w hSw; (try dsimp only at hSw); obtain ⟨k0, k1, k2, k3⟩ := hSw; go_simp; (try with_reducible rfl))
                    (try simp only [Act.put, List.setIfInBounds_toArray, List.set_cons_zero, List.set_cons_succ])
                    refine takeQ (i := 6) (d := some 73) (v := ?_) rfl rfl (by kernel_rfl) (by kernel_rfl) (by kernel_rfl) hPQ hS0 (by kernel_rfl) ?_ ?_
                    rotate_left
                    · (intro w hSw; (try dsimp only at hSw); obtain ⟨k0, k1, k2, k3⟩ := hSw; go_simp; (try with_reducible rfl))
                    (try simp only [Act.put, List.setIfInBounds_toArray, List.set_cons_zero, List.set_cons_succ])
                    refine takeQ (i := 7) (d := some 74) (v := ?_) rfl rfl (by kernel_rfl) (by kernel_rfl) (by kernel_rfl) hPQ hS0 (by kernel_rfl) ?_ ?_
                    rotate_left
                    · (intro w hSw; (try dsimp only at hSw); obtain ⟨k0, k1, k2, k3⟩ := hSw; go_simp; (try with_reducible rfl))
                    (try simp only [Act.put, List.setIfInBounds_toArray, List.set_cons_zero, List.set_cons_succ])
                    refine takeQ (i := 8) (d := some 75) (v := ?_) rfl rfl (by kernel_rfl) (by kernel_rfl) (by kernel_rfl) hPQ hS0 (by kernel_rfl) ?_ ?_
                    rotate_left
                    · (intro w hSw; (try dsimp only at hSw); obtain ⟨k0, k1, k2, k3⟩ := hSw; go_simp; (try with_reducible rfl))
                    (try simp only [Act.put, List.setIfInBounds_toArray, List.set_cons_zero, List.set_cons_succ])
                    refine takeQ (i := 9) (d := some 76) (v := ?_) rfl rfl (by kernel_rfl) (by kernel_rfl) (by kernel_rfl) hPQ hS0 (by kernel_rfl) ?_ ?_
                    rotate_left
                    · (intro w hSw; (try dsimp only at hSw); obtain ⟨k0, k1, k2, k3⟩ := hSw; go_simp; (try with_reducible rfl))
                    (try simp only [Act.put, List.setIfInBounds_toArray, List.set_cons_zero, List.set_cons_succ])
                    refine takeQ (i := 10) (d := some 77) (v := ?_) rfl rfl (by kernel_rfl) (by kernel_rfl) (by kernel_rfl) hPQ hS0 (by kernel_rfl) ?_ ?_
                    rotate_left
                    · (intro w hSw; (try dsimp only at hSw); obtain ⟨k0, k1, k2, k3⟩ := hSw; go_simp; (try with_reducible rfl))
                    (try simp only [Act.put, List.setIfInBounds_toArray, List.set_cons_zero, List.set_cons_succ])
                    refine takeQ (i := 11) (d := some 78) (v := ?_) rfl rfl (by kernel_rfl) (by kernel_rfl) (by kernel_rfl) hPQ hS0 (by kernel_rfl) ?_ ?_
                    rotate_left
                    · (intro w hSw; (try dsimp only at hSw); obtain ⟨k0, k1, k2, k3⟩ := hSw; go_simp; (try with_reducible rfl))
                    (try simp only [Act.put, List.setIfInBounds_toArray, List.set_cons_zero, List.set_cons_succ])
                    refine takeQ (i := 12) (d := some 79) (v := ?_) rfl rfl (by kernel_rfl) (by kernel_rfl) (by kernel_rfl) hPQ hS0 (by kernel_rfl) ?_ ?_
                    rotate_left
                    · (intro w hSw; (try dsimp only at hSw); obtain ⟨k0, k1, k2, k3⟩ := hSw; go_simp; (try with_reducible rfl))
                    (try simp only [Act.put, List.setIfInBounds_toArray, List.set_cons_zero, List.set_cons_succ])
                    refine takeQ (i := 13) (d := some 80) (v := ?_) rfl rfl (by kernel_rfl) (by kernel_rfl) (by kernel_rfl) hPQ hS0 (by kernel_rfl) ?_ ?_
                    rotate_left
                    · (intro w hSw; (try dsimp only at hSw); obtain ⟨k0, k1, k2, k3⟩ := hSw; go_simp; (try with_reducible rfl))
                    (try simp only [Act.put, List.setIfInBounds_toArray, List.set_cons_zero, List.set_cons_succ])
                    refine takeQ (i := 14) (d := some 81) (v := ?_) rfl rfl (by kernel_rfl) (by kernel_rfl) (by kernel_rfl) hPQ hS0 (by kernel_rfl) ?_ ?_
                    rotate_left
                    · (intro w hSw; (try dsimp only at hSw); obtain ⟨k0, k1, k2, k3⟩ := hSw; go_simp; (try with_reducible rfl))
                    (try simp only [Act.put, List.setIfInBounds_toArray, List.set_cons_zero, List.set_cons_succ])
                    refine takeQ (i := 15) (d := some 82) (v := ?_) rfl rfl (by kernel_rfl) (by kernel_rfl) (by kernel_rfl) hPQ hS0 (by kernel_rfl) ?_ ?_
                    rotate_left
                    · (intro w hSw; (try dsimp only at hSw); obtain ⟨k0, k1, k2, k3⟩ := hSw; go_simp; (try with_reducible rfl))
                    (try simp only [Act.put, List.setIfInBounds_toArray, List.set_cons_zero, List.set_cons_succ])
                    refine takeQ (i := 16) (d := some 83) (v := ?_) rfl rfl (by kernel_rfl) (by kernel_rfl) (by kernel_rfl) hPQ hS0 (by kernel_rfl) ?_ ?_
                    rotate_left
                    · (intro w hSw; (try dsimp only at hSw); obtain ⟨k0, k1, k2, k3⟩ := hSw; go_simp; (try with_reducible rfl))
                    (try simp only [Act.put, List.setIfInBounds_toArray, List.set_cons_zero, List.set_cons_succ])
                    refine takeQ (i := 17) (d := some 84) (v := ?_) rfl rfl (by kernel_rfl) (by kernel_rfl) (by kernel_rfl) hPQ hS0 (by kernel_rfl) ?_ ?_
                    rotate_left
                    · (intro w hSw; (try dsimp only at hSw); obtain ⟨k0, k1, k2, k3⟩ := hSw; go_simp; (try with_reducible rfl))
                    (try simp only [Act.put, List.setIfInBounds_toArray, List.set_cons_zero, List.set_cons_succ])
                    refine takeQ (i := 18) (d := some 85) (v := ?_) rfl rfl (by kernel_rfl) (by kernel_rfl) (by kernel_rfl) hPQ hS0 (by kernel_rfl) ?_ ?_
                    rotate_left
                    · (intro w hSw; (try dsimp only at hSw); obtain ⟨k0, k1, k2, k3⟩ := hSw; go_simp; (try with_reducible rfl))
                    (try simp only [Act.put, List.setIfInBounds_toArray, List.set_cons_zero, List.set_cons_succ])
                    refine takeQ (i := 19) (d := some 86) (v := ?_) rfl rfl (by kernel_rfl) (by kernel_rfl) (by kernel_rfl) hPQ hS0 (by kernel_rfl) ?_ ?_
                    rotate_left
                    · (intro w hSw; (try dsimp only at hSw); obtain ⟨k0, k1, k2, k3⟩ := hSw; go_simp; (try with_reducible rfl))
                    (try simp only [Act.put, List.setIfInBounds_toArray, List.set_cons_zero, List.set_cons_succ])
                    refine wpAnyH_done (by kernel_rfl) (hQn.out _ _ ?_) _
                    clear hS0 hPQ hQn Qn
                    go_wp2_with (at_builtin; refine wp_appendF rfl (.tmp 87) (.tmp 89) 42 rfl w.heap.size 3 Try.underlying42 Try.infoI22 rfl (by decide) u7 is.length (dI is) rfl (ownsRow_below O13.out (((Below.refl _ _).alloc (Nat.le_refl _) _).drew)) ⟨wY.heap.size, 0, none⟩ 1 1 [.int .i64 k] rfl rfl ((cells_one wY (.int .i64 k) 3).below ((Below.refl _ _).drew)) (one1 _ rfl) (by omega) (by omega) (by simp; omega) ?_; intro v5 w15 hown hb5; have O15 := Lib.hid hown; have B15 := Lib.hid (((U13.out.alloc sU13 _).drew).trans hb5); clear hown hb5)
                    refine ⟨⟨k + 1, by omega, by go_num, B15, ?_⟩, by simp [intOf]; omega⟩
                    rw [Hst4.out, dI_append, List.length_append]; exact O15.out
                  · have hst4 := Hst2.out
                    rw [decide_eq_false hq2, Bool.and_false, if_neg (by simp)] at hst4
                    have Hst4 := Lib.hid hst4
                    clear hst4 Hst2
                    have e1 := eq_true hq1
                    have e2 := eq_false hq2
                    go_wp2_with fail
                    refine regionQ (fun w' => w'.cell? ⟨yb, 0, none⟩ = some (.int .i64 lo) ∧ w'.cell? ⟨yb, 1, none⟩ = some (.int .i64 hi) ∧ w'.cell? ⟨b, o + k * 5 + 3, none⟩ = some (.int .i64 u.l) ∧ w'.cell? ⟨b, o + k * 5 + 4, none⟩ = some (.int .i64 u.h)) (by kernel_rfl) (⟨l0, l1, x3, x4⟩) (fun Qn hPQ hQn hS0 => ?_)
                    refine takeQ (i := 0) (d := some 67) (v := ?_) rfl rfl (by kernel_rfl) (by kernel_rfl) (by kernel_rfl) hPQ hS0 (by kernel_rfl) ?_ ?_
                    rotate_left
                    · (intro w hSw; (try dsimp only at hSw); obtain ⟨k0, k1, k2, k3⟩ := hSw; go_simp; (try with_reducible rfl))
                    (try simp only [Act.put, List.setIfInBounds_toArray, List.set_cons_zero, List.set_cons_succ])
                    refine takeQ (i := 1) (d := some 68) (v := ?_) rfl rfl (by kernel_rfl) (by kernel_rfl) (by kernel_rfl) hPQ hS0 (by kernel_rfl) ?_ ?_
                    rotate_left
                    · (intro w hSw; (try dsimp only at hSw); obtain ⟨k0, k1, k2, k3⟩ := hSw; go_simp; (try with_reducible rfl))
                    (try simp only [Act.put, List.setIfInBounds_toArray, List.set_cons_zero, List.set_cons_succ])
                    refine takeQ (i := 2) (d := some 69) (v := ?_) rfl rfl (by kernel_rfl) (by kernel_rfl) (by kernel_rfl) hPQ hS0 (by kernel_rfl) ?_ ?_
                    rotate_left
                    · (intro w hSw; (try dsimp only at hSw); obtain ⟨k0, k1, k2, k3⟩ := hSw; go_simp; (try with_reducible rfl))
                    (try simp only [Act.put, List.setIfInBounds_toArray, List.set_cons_zero, List.set_cons_succ])
                    refine takeQ (i := 3) (d := some 70) (v := ?_) rfl rfl (by kernel_rfl) (by kernel_rfl) (by kernel_rfl) hPQ hS0 (by kernel_rfl) ?_ ?_
                    rotate_left
                    · (intro w hSw; (try dsimp only at hSw); obtain ⟨k0, k1, k2, k3⟩ := hSw; go_simp; (try with_reducible rfl))
                    (try simp only [Act.put, List.setIfInBounds_toArray, List.set_cons_zero, List.set_cons_succ])
                    refine takeQ (i := 4) (d := some 71) (v := ?_) rfl rfl (by kernel_rfl) (by kernel_rfl) (by kernel_rfl) hPQ hS0 (by kernel_rfl) ?_ ?_
                    rotate_left
                    · (intro w hSw; (try dsimp only at hSw); obtain ⟨k0, k1, k2, k3⟩ := hSw; go_simp; (try with_reducible rfl))
                    (try simp only [Act.put, List.setIfInBounds_toArray, List.set_cons_zero, List.set_cons_succ])
                    refine takeQ (i := 5) (d := some 72) (v := ?_) rfl rfl (by kernel_rfl) (by kernel_rfl) (by kernel_rfl) hPQ hS0 (by kernel_rfl) ?_ ?_
                    rotate_left
                    · (intro w hSw; (try dsimp only at hSw); obtain ⟨k0, k1, k2, k3⟩ := hSw; go_simp; (try with_reducible rfl))
                    (try simp only [Act.put, List.setIfInBounds_toArray, List.set_cons_zero, List.set_cons_succ])
                    refine takeQ (i := 6) (d := some 73) (v := ?_) rfl rfl (by kernel_rfl) (by kernel_rfl) (by kernel_rfl) hPQ hS0 (by kernel_rfl) ?_ ?_
                    rotate_left
                    · (intro w hSw; (try dsimp only at hSw); obtain ⟨k0, k1, k2, k3⟩ := hSw; go_simp; (try with_reducible rfl))
                    (try simp only [Act.put, List.setIfInBounds_toArray, List.set_cons_zero, List.set_cons_succ])
                    refine takeQ (i := 7) (d := some 74) (v := ?_) rfl rfl (by kernel_rfl) (by kernel_rfl) (by kernel_rfl) hPQ hS0 (by kernel_rfl) ?_ ?_
                    rotate_left
                    · (intro w hSw; (try dsimp only at hSw); obtain ⟨k0, k1, k2, k3⟩ := hSw; go_simp; (try with_reducible rfl))
                    (try simp only [Act.put, List.setIfInBounds_toArray, List.set_cons_zero, List.set_cons_succ])
                    refine takeQ (i := 8) (d := some 75) (v := ?_) rfl rfl (by kernel_rfl) (by kernel_rfl) (by kernel_rfl) hPQ hS0 (by kernel_rfl) ?_ ?_
                    rotate_left
                    · (intro w hSw; (try dsimp only at hSw); obtain ⟨k0, k1, k2, k3⟩ := hSw; go_simp; (try with_reducible rfl))
                    (try simp only [Act.put, List.setIfInBounds_toArray, List.set_cons_zero, List.set_cons_succ])
                    refine takeQ (i := 9) (d := some 76) (v := ?_) rfl rfl (by kernel_rfl) (by kernel_rfl) (by kernel_rfl) hPQ hS0 (by kernel_rfl) ?_ ?_
                    rotate_left
                    · (intro w hSw; (try dsimp only at hSw); obtain ⟨k0, k1, k2, k3⟩ := hSw; go_simp; (try with_reducible rfl))
                    (try simp only [Act.put, List.setIfInBounds_toArray, List.set_cons_zero, List.set_cons_succ])
                    refine takeQ (i := 10) (d := some 77) (v := ?_) rfl rfl (by kernel_rfl) (by kernel_rfl) (by kernel_rfl) hPQ hS0 (by kernel_rfl) ?_ ?_
                    rotate_left
                    · (intro w hSw; (try dsimp only at hSw); obtain ⟨k0, k1, k2, k3⟩ := hSw; go_simp; (try with_reducible rfl))
                    (try simp only [Act.put, List.setIfInBounds_toArray, List.set_cons_zero, List.set_cons_succ])
                    refine takeQ (i := 11) (d := some 78) (v := ?_) rfl rfl (by kernel_rfl) (by kernel_rfl) (by kernel_rfl) hPQ hS0 (by kernel_rfl) ?_ ?_
                    rotate_left
                    · (intro w hSw; (try dsimp only at hSw); obtain ⟨k0, k1, k2, k3⟩ := hSw; go_simp; (try with_reducible rfl))
                    (try simp only [Act.put, List.setIfInBounds_toArray, List.set_cons_zero, List.set_cons_succ])
                    refine takeQ (i := 12) (d := some 79) (v := ?_) rfl rfl (by kernel_rfl) (by kernel_rfl) (by kernel_rfl) hPQ hS0 (by kernel_rfl) ?_ ?_
                    rotate_left
                    · (intro w hSw; (try dsimp only at hSw); obtain ⟨k0, k1, k2, k3⟩ := hSw; go_simp; (try with_reducible rfl))
                    (try simp only [Act.put, List.setIfInBounds_toArray, List.set_cons_zero, List.set_cons_succ])
                    refine takeQ (i := 13) (d := some 80) (v := ?_) rfl rfl (by kernel_rfl) (by kernel_rfl) (by kernel_rfl) hPQ hS0 (by kernel_rfl) ?_ ?_
                    rotate_left
                    · (intro w hSw; (try dsimp only at hSw); obtain ⟨k0, k1, k2, k3⟩ := hSw; go_simp; (try with_reducible rfl))
                    (try simp only [Act.put, List.setIfInBounds_toArray, List.set_cons_zero, List.set_cons_succ])
                    refine takeQ (i := 14) (d := some 81) (v := ?_) rfl rfl (by kernel_rfl) (by kernel_rfl) (by kernel_rfl) hPQ hS0 (by kernel_rfl) ?_ ?_
                    rotate_left
                    · (intro w hSw; (try dsimp only at hSw); obtain ⟨k0, k1, k2, k3⟩ := hSw; go_simp; (try with_reducible rfl))
                    (try simp only [Act.put, List.setIfInBounds_toArray, List.set_cons_zero, List.set_cons_succ])
                    refine takeQ (i := 15) (d := some 82) (v := ?_) rfl rfl (by kernel_rfl) (by kernel_rfl) (by kernel_rfl) hPQ hS0 (by kernel_rfl) ?_ ?_
                    rotate_left
                    · (intro w hSw; (try dsimp only at hSw); obtain ⟨k0, k1, k2, k3⟩ := hSw; go_simp; (try with_reducible rfl))
                    (try simp only [Act.put, List.setIfInBounds_toArray, List.set_cons_zero, List.set_cons_succ])
                    refine takeQ (i := 16) (d := some 83) (v := ?_) rfl rfl (by kernel_rfl) (by kernel_rfl) (by kernel_rfl) hPQ hS0 (by kernel_rfl) ?_ ?_
                    rotate_left
                    · (intro w hSw; (try dsimp only at hSw); obtain ⟨k0, k1, k2, k3⟩ := hSw; go_simp; (try with_reducible rfl))
                    (try simp only [Act.put, List.setIfInBounds_toArray, List.set_cons_zero, List.set_cons_succ])
                    refine takeQ (i := 17) (d := some 84) (v := ?_) rfl rfl (by kernel_rfl) (by kernel_rfl) (by kernel_rfl) hPQ hS0 (by kernel_rfl) ?_ ?_
                    rotate_left
                    · (intro w hSw; (try dsimp only at hSw); obtain ⟨k0, k1, k2, k3⟩ := hSw; go_simp; (try with_reducible rfl))
                    (try simp only [Act.put, List.setIfInBounds_toArray, List.set_cons_zero, List.set_cons_succ])
                    refine takeQ (i := 18) (d := some 85) (v := ?_) rfl rfl (by kernel_rfl) (by kernel_rfl) (by kernel_rfl) hPQ hS0 (by kernel_rfl) ?_ ?_
                    rotate_left
                    · (intro w hSw; (try dsimp only at hSw); obtain ⟨k0, k1, k2, k3⟩ := hSw; go_simp; (try with_reducible rfl))
                    (try simp only [Act.put, List.setIfInBounds_toArray, List.set_cons_zero, List.set_cons_succ])
                    refine takeQ (i := 19) (d := some 86) (v := ?_) rfl rfl (by kernel_rfl) (by kernel_rfl) (by kernel_rfl) hPQ hS0 (by kernel_rfl) ?_ ?_
                    rotate_left
                    · (intro w hSw; (try dsimp only at hSw); obtain ⟨k0, k1, k2, k3⟩ := hSw; go_simp; (try with_reducible rfl))
                    (try simp only [Act.put, List.setIfInBounds_toArray, List.set_cons_zero, List.set_cons_succ])
                    refine wpAnyH_done (by kernel_rfl) (hQn.out _ _ ?_) _
                    clear hS0 hPQ hQn Qn
                    go_wp2_with fail
                    refine ⟨⟨k + 1, by omega, by go_num, U13.out.trans (DD.out.mono sU13), ?_⟩, by simp [intOf]; omega⟩
                    rw [Hst4.out]; exact ownsRow_below O13.out DD.out
                · have hst4 := Hst2.out
                  rw [decide_eq_false hq1, Bool.false_and, if_neg (by simp)] at hst4
                  have Hst4 := Lib.hid hst4
                  clear hst4 Hst2
                  have e1 := eq_false hq1
                  go_wp2_with fail
                  refine regionQ (fun w' => w'.cell? ⟨yb, 0, none⟩ = some (.int .i64 lo) ∧ w'.cell? ⟨yb, 1, none⟩ = some (.int .i64 hi) ∧ w'.cell? ⟨b, o + k * 5 + 3, none⟩ = some (.int .i64 u.l) ∧ w'.cell? ⟨b, o + k * 5 + 4, none⟩ = some (.int .i64 u.h)) (by kernel_rfl) (⟨l0, l1, x3, x4⟩) (fun Qn hPQ hQn hS0 => ?_)
                  refine takeQ (i := 0) (d := some 67) (v := ?_) rfl rfl (by kernel_rfl) (by kernel_rfl) (by kernel_rfl) hPQ hS0 (by kernel_rfl) ?_ ?_
                  rotate_left
                  · (intro w hSw; (try dsimp only at hSw); obtain ⟨k0, k1, k2, k3⟩ := hSw; go_simp; (try with_reducible rfl))
                  (try simp only [Act.put, List.setIfInBounds_toArray, List.set_cons_zero, List.set_cons_succ])
                  refine takeQ (i := 1) (d := some 68) (v := ?_) rfl rfl (by kernel_rfl) (by kernel_rfl) (by kernel_rfl) hPQ hS0 (by kernel_rfl) ?_ ?_
                  rotate_left
                  · (intro w hSw; (try dsimp only at hSw); obtain ⟨k0, k1, k2, k3⟩ := hSw; go_simp; (try with_reducible rfl))
                  (try simp only [Act.put, List.setIfInBounds_toArray, List.set_cons_zero, List.set_cons_succ])
                  refine takeQ (i := 2) (d := some 69) (v := ?_) rfl rfl (by kernel_rfl) (by kernel_rfl) (by kernel_rfl) hPQ hS0 (by kernel_rfl) ?_ ?_
                  rotate_left
                  · (intro w hSw; (try dsimp only at hSw); obtain ⟨k0, k1, k2, k3⟩ := hSw; go_simp; (try with_reducible rfl))
                  (try simp only [Act.put, List.setIfInBounds_toArray, List.set_cons_zero, List.set_cons_succ])
                  refine takeQ (i := 3) (d := some 70) (v := ?_) rfl rfl (by kernel_rfl) (by kernel_rfl) (by kernel_rfl) hPQ hS0 (by kernel_rfl) ?_ ?_
                  rotate_left
                  · (intro w hSw; (try dsimp only at hSw); obtain ⟨k0, k1, k2, k3⟩ := hSw; go_simp; (try with_reducible rfl))
                  (try simp only [Act.put, List.setIfInBounds_toArray, List.set_cons_zero, List.set_cons_succ])
                  refine takeQ (i := 4) (d := some 71) (v := ?_) rfl rfl (by kernel_rfl) (by kernel_rfl) (by kernel_rfl) hPQ hS0 (by kernel_rfl) ?_ ?_
                  rotate_left
                  · (intro w hSw; (try dsimp only at hSw); obtain ⟨k0, k1, k2, k3⟩ := hSw; go_simp; (try with_reducible rfl))
                  (try simp only [Act.put, List.setIfInBounds_toArray, List.set_cons_zero, List.set_cons_succ])
                  refine takeQ (i := 5) (d := some 72) (v := ?_) rfl rfl (by kernel_rfl) (by kernel_rfl) (by kernel_rfl) hPQ hS0 (by kernel_rfl) ?_ ?_
                  rotate_left
                  · (intro w hSw; (try dsimp only at hSw); obtain ⟨k0, k1, k2, k3⟩ := hSw; go_simp; (try with_reducible rfl))
                  (try simp only [Act.put, List.setIfInBounds_toArray, List.set_cons_zero, List.set_cons_succ])
                  refine takeQ (i := 6) (d := some 73) (v := ?_) rfl rfl (by kernel_rfl) (by kernel_rfl) (by kernel_rfl) hPQ hS0 (by kernel_rfl) ?_ ?_
                  rotate_left
                  · (intro w hSw; (try dsimp only at hSw); obtain ⟨k0, k1, k2, k3⟩ := hSw; go_simp; (try with_reducible rfl))
                  (try simp only [Act.put, List.setIfInBounds_toArray, List.set_cons_zero, List.set_cons_succ])
                  refine takeQ (i := 7) (d := some 74) (v := ?_) rfl rfl (by kernel_rfl) (by kernel_rfl) (by kernel_rfl) hPQ hS0 (by kernel_rfl) ?_ ?_
                  rotate_left
                  · (intro w hSw; (try dsimp only at hSw); obtain ⟨k0, k1, k2, k3⟩ := hSw; go_simp; (try with_reducible rfl))
                  (try simp only [Act.put, List.setIfInBounds_toArray, List.set_cons_zero, List.set_cons_succ])
                  refine takeQ (i := 8) (d := some 75) (v := ?_) rfl rfl (by kernel_rfl) (by kernel_rfl) (by kernel_rfl) hPQ hS0 (by kernel_rfl) ?_ ?_
                  rotate_left
                  · (intro w hSw; (try dsimp only at hSw); obtain ⟨k0, k1, k2, k3⟩ := hSw; go_simp; (try with_reducible rfl))
                  (try simp only [Act.put, List.setIfInBounds_toArray, List.set_cons_zero, List.set_cons_succ])
                  refine takeQ (i := 9) (d := some 76) (v := ?_) rfl rfl (by kernel_rfl) (by kernel_rfl) (by kernel_rfl) hPQ hS0 (by kernel_rfl) ?_ ?_
                  rotate_left
                  · (intro w hSw; (try dsimp only at hSw); obtain ⟨k0, k1, k2, k3⟩ := hSw; go_simp; (try with_reducible rfl))
                  (try simp only [Act.put, List.setIfInBounds_toArray, List.set_cons_zero, List.set_cons_succ])
                  refine skipQ (i := 10) (d := some 77) rfl rfl (by kernel_rfl) (by kernel_rfl) (by kernel_rfl) hPQ hS0 (by kernel_rfl) ?_
                  (try simp only [Act.put, List.setIfInBounds_toArray, List.set_cons_zero, List.set_cons_succ])
                  refine skipQ (i := 11) (d := some 78) rfl rfl (by kernel_rfl) (by kernel_rfl) (by kernel_rfl) hPQ hS0 (by kernel_rfl) ?_
                  (try simp only [Act.put, List.setIfInBounds_toArray, List.set_cons_zero, List.set_cons_succ])
                  refine skipQ (i := 12) (d := some 79) rfl rfl (by kernel_rfl) (by kernel_rfl) (by kernel_rfl) hPQ hS0 (by kernel_rfl) ?_
                  (try simp only [Act.put, List.setIfInBounds_toArray, List.set_cons_zero, List.set_cons_succ])
                  refine skipQ (i := 13) (d := some 80) rfl rfl (by kernel_rfl) (by kernel_rfl) (by kernel_rfl) hPQ hS0 (by kernel_rfl) ?_
                  (try simp only [Act.put, List.setIfInBounds_toArray, List.set_cons_zero, List.set_cons_succ])
                  refine skipQ (i := 14) (d := some 81) rfl rfl (by kernel_rfl) (by kernel_rfl) (by kernel_rfl) hPQ hS0 (by kernel_rfl) ?_
                  (try simp only [Act.put, List.setIfInBounds_toArray, List.set_cons_zero, List.set_cons_succ])
                  refine skipQ (i := 15) (d := some 82) rfl rfl (by kernel_rfl) (by kernel_rfl) (by kernel_rfl) hPQ hS0 (by kernel_rfl) ?_
                  (try simp only [Act.put, List.setIfInBounds_toArray, List.set_cons_zero, List.set_cons_succ])
                  refine skipQ (i := 16) (d := some 83) rfl rfl (by kernel_rfl) (by kernel_rfl) (by kernel_rfl) hPQ hS0 (by kernel_rfl) ?_
                  (try simp only [Act.put, List.setIfInBounds_toArray, List.set_cons_zero, List.set_cons_succ])
                  refine skipQ (i := 17) (d := some 84) rfl rfl (by kernel_rfl) (by kernel_rfl) (by kernel_rfl) hPQ hS0 (by kernel_rfl) ?_
                  (try simp only [Act.put, List.setIfInBounds_toArray, List.set_cons_zero, List.set_cons_succ])
                  refine skipQ (i := 18) (d := some 85) rfl rfl (by kernel_rfl) (by kernel_rfl) (by kernel_rfl) hPQ hS0 (by kernel_rfl) ?_
                  (try simp only [Act.put, List.setIfInBounds_toArray, List.set_cons_zero, List.set_cons_succ])
                  refine takeQ (i := 19) (d := some 86) (v := ?_) rfl rfl (by kernel_rfl) (by kernel_rfl) (by kernel_rfl) hPQ hS0 (by kernel_rfl) ?_ ?_
                  rotate_left
                  · (intro w hSw; (try dsimp only at hSw); obtain ⟨k0, k1, k2, k3⟩ := hSw; go_simp; (try with_reducible rfl))
                  (try simp only [Act.put, List.setIfInBounds_toArray, List.set_cons_zero, List.set_cons_succ])
                  refine wpAnyH_done (by kernel_rfl) (hQn.out _ _ ?_) _
                  clear hS0 hPQ hQn Qn
                  go_wp2_with fail
                  refine ⟨⟨k + 1, by omega, by go_num, U13.out.trans (DD.out.mono sU13), ?_⟩, by simp [intOf]; omega⟩
                  rw [Hst4.out]; exact ownsRow_below O13.out DD.out
        · obtain rfl : k = vs.length := by omega
          go_wp2_with fail
          have h := HR.out _ wr HB.out (by rw [hX.out]; exact HO.out)
          rw [hEz.out] at h; exact h
  · have K : (E != 0) = true := by simpa using h0
    have hX : Hid (imX vs ax = []) := by unfold Hid; rw [hX0.out, if_neg h0]
    have hEz : Hid (imE vs ax = E) := by unfold Hid; rw [hE0.out, if_neg h0]
    clear h0 hX0 hE0
    go_wp2_with fail
    have h := HR.out (.slice none 0 0) w1 HB1.out (by rw [hX.out]; exact World.ownsRow_nil _ _ _ _)
    rw [hEz.out] at h; exact h
end Go.Proofs.Ytlgjhjgdmomfoaa
