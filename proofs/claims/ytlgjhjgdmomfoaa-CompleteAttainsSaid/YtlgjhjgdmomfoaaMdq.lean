/- The walk of Reached of the reference. (Printed by gen_reached.py.) The groups of the reference: plain law; the walks of Sorted and Groups. The walk of Redundant of the reference. The walk of the law CompleteGroups. (Printed by gen_groupslaw.py.) -/
import Derived.Deep.RegionHeld3
import Derived.Test.YtlgjhjgdmomfoaaMck
import Derived.Test.YtlgjhjgdmomfoaaMda
import Derived.Test.YtlgjhjgdmomfoaaMdl
import Derived.Test.YtlgjhjgdmomfoaaMdn
namespace Go.Proofs.Ytlgjhjgdmomfoaa
open Go.RowKit Go.Maps

theorem own_cells {w : World} {base n m c : Nat} {e : TypeId} {a : Option Addr} {xs : List Value} (h : w.ownsRow base e 1 (.slice a m c) n xs) : CellsAt w a xs := by
  obtain ⟨ao, c', e, h2, _⟩ := ownsRow_read h
  cases e; exact h2
theorem rc_small {vs : List Dm} {ax : Int} {s : ByteArray} (hl : vs.length ≤ 256) {r k : Nat} (hr : r < vs.length) (hk : k ≤ vs.length) : (rcI vs ax (rcR vs ax s r) k).length ≤ 500000 := by
  have h1 := rcR_len vs ax s r
  have h2 := rcI_len (vs := vs) (ax := ax) (out := rcR vs ax s r) k
  have h3 : 2 * vs.length * r ≤ 2 * 256 * 256 := Nat.mul_le_mul (by omega) (by omega)
  omega
set_option maxRecDepth 100000 in
set_option maxHeartbeats 16000000 in
theorem reached_any (ao : Option Addr) (vs : List Dm) (c : Nat) (ax : Int) (s : ByteArray) (w : World) (R : Ending → World → Prop) (hl : vs.length ≤ 256) (hc : CellsAt w ao (dC vs))
   (hR : ∀ a n c' w', Below w.heap.size w w' → n = (rcA vs ax s).length → w'.ownsRow w.heap.size 9 1 (.slice a n c') n (sC (rcA vs ax s)) → R (.returned (.slice a n c')) w') :
    Calls Try.prog 55 #[.slice ao vs.length c, .int .i64 ax, .string s] w R := by
  have HR := Lib.hid hR
  have HC := Lib.hid hc
  clear hR hc
  have X0 : Hid ((w.alloc (.cells #[.string s] 9)).ownsRow w.heap.size 9 1 (.slice (some ⟨w.heap.size, 0, none⟩) 1 1) 1 (sC [s])) := World.ownsRow_lit w #[.string s] 1 (Nat.le_refl _) (by decide) rfl
  go_enter Try.func55, Try.ntmps55
  go_wp2_with fail
  go_loopw [8, 7] (fun j v wr => ∃ (r n : Nat) (a : Option Addr) (c' : Nat), r ≤ vs.length ∧ j = .int .i64 r ∧ v = .slice a n c' ∧ Hid (n = (rcR vs ax s r).length) ∧ Hid (Below w.heap.size w wr) ∧ Hid (wr.ownsRow w.heap.size 9 1 (.slice a n c') n (sC (rcR vs ax s r)))) (fun j _ _ => vs.length - (intOf j).toNat)
  case atStart => exact ⟨0, 1, _, 1, Nat.zero_le _, rfl, rfl, rfl, (Below.refl _ _).alloc (Nat.le_refl _) _, X0⟩
  case round =>
    clear X0
    obtain ⟨r, n, a, c', hr, rfl, rfl, hn, HB, HO⟩ := hrel
    by_cases hlr : r < vs.length
    · go_wp2_with fail
      go_loopw [9, 7] (fun j v wr => ∃ (k n : Nat) (a : Option Addr) (c' : Nat), k ≤ vs.length ∧ j = .int .i64 k ∧ v = .slice a n c' ∧ Hid (n = (rcI vs ax (rcR vs ax s r) k).length) ∧ Hid (Below w.heap.size w wr) ∧ Hid (wr.ownsRow w.heap.size 9 1 (.slice a n c') n (sC (rcI vs ax (rcR vs ax s r) k)))) (fun j _ _ => vs.length - (intOf j).toNat)
      case atStart => exact ⟨0, n, a, c', Nat.zero_le _, rfl, rfl, hn, HB, HO⟩
      case round =>
        clear hn HB HO
        obtain ⟨k, n, a, c', hk, rfl, rfl, hn, HB, HO⟩ := hrel
        have HK := Lib.hid (own_cells HO.out)
        have sB := HB.out.size
        have hkl := rc_small (ax := ax) (s := s) hl hlr hk
        by_cases hlt : k < vs.length
        · obtain ⟨b, o, rfl, hbb, hcell⟩ := HC.out.dms (by omega)
          obtain ⟨c0, c1, c2, _, _⟩ := hcell k hlt
          have d0 := cellB HB.out c0 hbb
          have d1 := cellB HB.out c1 hbb
          have d2 := cellB HB.out c2 hbb
          have hst : Hid (rcI vs ax (rcR vs ax s r) (k + 1) = if ((dAt vs k).x == ax && (hasL (rcI vs ax (rcR vs ax s r) k) (dAt vs k).f != hasL (rcI vs ax (rcR vs ax s r) k) (dAt vs k).t)) = true then putL (dAt vs k).t false (putL (dAt vs k).f false (rcI vs ax (rcR vs ax s r) k)) else rcI vs ax (rcR vs ax s r) k) := rfl
          obtain ⟨u, hu⟩ : ∃ u, dAt vs k = u := ⟨_, rfl⟩
          obtain ⟨ks, hks⟩ : ∃ ks, rcI vs ax (rcR vs ax s r) k = ks := ⟨_, rfl⟩
          rw [hu] at d0 d1 d2 hst
          rw [hks] at hst hn HK hkl HO
          have hkl : ks.length ≤ 1000000 := by omega
          have hk1 := putL_len u.f false ks
          obtain rfl := hn.out
          have hbr : b < wr.heap.size := by omega
          clear hcell hu hks c0 c1 c2 hn
          cases hx : (u.x == ax) with
          | false =>
            have hst2 : Hid (rcI vs ax (rcR vs ax s r) (k + 1) = ks) := by have h := hst.out; rw [hx, Bool.false_and, if_neg (by simp)] at h; exact h
            clear hst
            go_wp2_with fail
            go_quiet (fail)
            go_wp2_with fail
            have hq : Below wr.heap.size wr (wr.drewN nq) := ⟨rfl, rfl, rfl, Nat.le_refl _, fun _ _ => rfl⟩
            exact ⟨⟨k + 1, _, a, c', by omega, by go_num, rfl, by rw [hst2.out]; exact rfl, HB.out.trans (hq.mono sB), by rw [hst2.out]; exact ownsRow_below HO.out hq⟩, by simp [intOf]; omega⟩
          | true =>
            have hst1 := hst.out
            rw [hx, Bool.true_and] at hst1
            obtain ⟨bA, hA0⟩ : ∃ bA, hasL ks u.f = bA := ⟨_, rfl⟩
            obtain ⟨bB, hB0⟩ : ∃ bB, hasL ks u.t = bB := ⟨_, rfl⟩
            rw [hA0, hB0] at hst1
            have hA := Lib.hid hA0
            have hB := Lib.hid hB0
            have Hst := Lib.hid hst1
            have HBB : Hid (Below wr.heap.size wr wr.drew) := (Below.refl _ _).drew
            clear hst hst1 hA0 hB0
            cases hd : (bA != bB) with
            | false =>
              have hst2 : Hid (rcI vs ax (rcR vs ax s r) (k + 1) = ks) := by have h := Hst.out; rw [hd, if_neg (by simp)] at h; exact h
              cases bA <;> cases bB
              · clear hd
                go_wp2_with fail
                go_region_held3 (fun w' => w'.cell? ⟨b, o + k * 5, none⟩ = some (.string u.f) ∧ w'.cell? ⟨b, o + k * 5 + 1, none⟩ = some (.string u.t) ∧ w'.cell? ⟨b, o + k * 5 + 2, none⟩ = some (.int .i64 u.x) ∧ Hid (Below wr.heap.size wr w'))
                  (first | go_keep | exact ⟨d0, d1, d2, HBB⟩ | exact ⟨rA0, rA1, rA2, tA⟩ | exact ⟨rB0, rB1, rB2, tB⟩)
                  (first
                    | ((fail_if_success (have gg := tA.out)); (fail_if_success (have gg := tB.out)); go_at_call 54; refine rhas_any a ks c' u.f _ _ hkl (HK.out.below HBB.out) ?_; rw [hA.out]; intro wA hd; have tA : Hid (Below wr.heap.size wr wA) := HBB.out.trans (hd.below _); have rA0 := cellB tA.out d0 hbr; have rA1 := cellB tA.out d1 hbr; have rA2 := cellB tA.out d2 hbr; clear hd)
                    | ((fail_if_success (have gg := tA.out)); (fail_if_success (have gg := tB.out)); go_at_call 54; refine rhas_any a ks c' u.t _ _ hkl (HK.out.below HBB.out) ?_; rw [hB.out]; intro wB hd; have tB : Hid (Below wr.heap.size wr wB) := HBB.out.trans (hd.below _); have rB0 := cellB tB.out d0 hbr; have rB1 := cellB tB.out d1 hbr; have rB2 := cellB tB.out d2 hbr; clear hd)
                    | ((fail_if_success (have gg := tA.out)); (have gg := tB.out; clear gg); go_at_call 54; refine rhas_any a ks c' u.f _ _ hkl (HK.out.below tB.out) ?_; rw [hA.out]; intro wA hd; have tA : Hid (Below wr.heap.size wr wA) := tB.out.trans (hd.below _); have rA0 := cellB tA.out d0 hbr; have rA1 := cellB tA.out d1 hbr; have rA2 := cellB tA.out d2 hbr; clear hd)
                    | ((fail_if_success (have gg := tB.out)); (have gg := tA.out; clear gg); go_at_call 54; refine rhas_any a ks c' u.t _ _ hkl (HK.out.below tA.out) ?_; rw [hB.out]; intro wB hd; have tB : Hid (Below wr.heap.size wr wB) := tA.out.trans (hd.below _); have rB0 := cellB tB.out d0 hbr; have rB1 := cellB tB.out d1 hbr; have rB2 := cellB tB.out d2 hbr; clear hd))
                all_goals
                  go_wp2_with fail
                  first
                    | exact ⟨⟨k + 1, _, a, c', by omega, by go_num, rfl, by rw [hst2.out]; exact rfl, HB.out.trans (tA.out.mono sB), by rw [hst2.out]; exact ownsRow_below HO.out tA.out⟩, by simp [intOf]; omega⟩
                    | exact ⟨⟨k + 1, _, a, c', by omega, by go_num, rfl, by rw [hst2.out]; exact rfl, HB.out.trans (tB.out.mono sB), by rw [hst2.out]; exact ownsRow_below HO.out tB.out⟩, by simp [intOf]; omega⟩
              · cases hd
              · cases hd
              · clear hd
                go_wp2_with fail
                go_region_held3 (fun w' => w'.cell? ⟨b, o + k * 5, none⟩ = some (.string u.f) ∧ w'.cell? ⟨b, o + k * 5 + 1, none⟩ = some (.string u.t) ∧ w'.cell? ⟨b, o + k * 5 + 2, none⟩ = some (.int .i64 u.x) ∧ Hid (Below wr.heap.size wr w'))
                  (first | go_keep | exact ⟨d0, d1, d2, HBB⟩ | exact ⟨rA0, rA1, rA2, tA⟩ | exact ⟨rB0, rB1, rB2, tB⟩)
                  (first
                    | ((fail_if_success (have gg := tA.out)); (fail_if_success (have gg := tB.out)); go_at_call 54; refine rhas_any a ks c' u.f _ _ hkl (HK.out.below HBB.out) ?_; rw [hA.out]; intro wA hd; have tA : Hid (Below wr.heap.size wr wA) := HBB.out.trans (hd.below _); have rA0 := cellB tA.out d0 hbr; have rA1 := cellB tA.out d1 hbr; have rA2 := cellB tA.out d2 hbr; clear hd)
                    | ((fail_if_success (have gg := tA.out)); (fail_if_success (have gg := tB.out)); go_at_call 54; refine rhas_any a ks c' u.t _ _ hkl (HK.out.below HBB.out) ?_; rw [hB.out]; intro wB hd; have tB : Hid (Below wr.heap.size wr wB) := HBB.out.trans (hd.below _); have rB0 := cellB tB.out d0 hbr; have rB1 := cellB tB.out d1 hbr; have rB2 := cellB tB.out d2 hbr; clear hd)
                    | ((fail_if_success (have gg := tA.out)); (have gg := tB.out; clear gg); go_at_call 54; refine rhas_any a ks c' u.f _ _ hkl (HK.out.below tB.out) ?_; rw [hA.out]; intro wA hd; have tA : Hid (Below wr.heap.size wr wA) := tB.out.trans (hd.below _); have rA0 := cellB tA.out d0 hbr; have rA1 := cellB tA.out d1 hbr; have rA2 := cellB tA.out d2 hbr; clear hd)
                    | ((fail_if_success (have gg := tB.out)); (have gg := tA.out; clear gg); go_at_call 54; refine rhas_any a ks c' u.t _ _ hkl (HK.out.below tA.out) ?_; rw [hB.out]; intro wB hd; have tB : Hid (Below wr.heap.size wr wB) := tA.out.trans (hd.below _); have rB0 := cellB tB.out d0 hbr; have rB1 := cellB tB.out d1 hbr; have rB2 := cellB tB.out d2 hbr; clear hd))
                all_goals
                  go_wp2_with fail
                  first
                    | exact ⟨⟨k + 1, _, a, c', by omega, by go_num, rfl, by rw [hst2.out]; exact rfl, HB.out.trans (tA.out.mono sB), by rw [hst2.out]; exact ownsRow_below HO.out tA.out⟩, by simp [intOf]; omega⟩
                    | exact ⟨⟨k + 1, _, a, c', by omega, by go_num, rfl, by rw [hst2.out]; exact rfl, HB.out.trans (tB.out.mono sB), by rw [hst2.out]; exact ownsRow_below HO.out tB.out⟩, by simp [intOf]; omega⟩
            | true =>
              have hst2 : Hid (rcI vs ax (rcR vs ax s r) (k + 1) = putL u.t false (putL u.f false ks)) := by have h := Hst.out; rw [hd, if_pos rfl] at h; exact h
              have d0' := d0
              have d1' := d1
              cases bA <;> cases bB
              · cases hd
              all_goals try (cases hd; done)
              all_goals
                clear hd
                go_wp2_with fail
                go_region_held3 (fun w' => w'.cell? ⟨b, o + k * 5, none⟩ = some (.string u.f) ∧ w'.cell? ⟨b, o + k * 5 + 1, none⟩ = some (.string u.t) ∧ w'.cell? ⟨b, o + k * 5 + 2, none⟩ = some (.int .i64 u.x) ∧ Hid (Below wr.heap.size wr w'))
                  (first | go_keep | exact ⟨d0, d1, d2, HBB⟩ | exact ⟨rA0, rA1, rA2, tA⟩ | exact ⟨rB0, rB1, rB2, tB⟩)
                  (first
                    | ((fail_if_success (have gg := tA.out)); (fail_if_success (have gg := tB.out)); go_at_call 54; refine rhas_any a ks c' u.f _ _ hkl (HK.out.below HBB.out) ?_; rw [hA.out]; intro wA hd; have tA : Hid (Below wr.heap.size wr wA) := HBB.out.trans (hd.below _); have rA0 := cellB tA.out d0 hbr; have rA1 := cellB tA.out d1 hbr; have rA2 := cellB tA.out d2 hbr; clear hd)
                    | ((fail_if_success (have gg := tA.out)); (fail_if_success (have gg := tB.out)); go_at_call 54; refine rhas_any a ks c' u.t _ _ hkl (HK.out.below HBB.out) ?_; rw [hB.out]; intro wB hd; have tB : Hid (Below wr.heap.size wr wB) := HBB.out.trans (hd.below _); have rB0 := cellB tB.out d0 hbr; have rB1 := cellB tB.out d1 hbr; have rB2 := cellB tB.out d2 hbr; clear hd)
                    | ((fail_if_success (have gg := tA.out)); (have gg := tB.out; clear gg); go_at_call 54; refine rhas_any a ks c' u.f _ _ hkl (HK.out.below tB.out) ?_; rw [hA.out]; intro wA hd; have tA : Hid (Below wr.heap.size wr wA) := tB.out.trans (hd.below _); have rA0 := cellB tA.out d0 hbr; have rA1 := cellB tA.out d1 hbr; have rA2 := cellB tA.out d2 hbr; clear hd)
                    | ((fail_if_success (have gg := tB.out)); (have gg := tA.out; clear gg); go_at_call 54; refine rhas_any a ks c' u.t _ _ hkl (HK.out.below tA.out) ?_; rw [hB.out]; intro wB hd; have tB : Hid (Below wr.heap.size wr wB) := tA.out.trans (hd.below _); have rB0 := cellB tB.out d0 hbr; have rB1 := cellB tB.out d1 hbr; have rB2 := cellB tB.out d2 hbr; clear hd))
              all_goals
                go_wp2_with fail
              all_goals
                first
                  | (have XX : Hid (Below wr.heap.size wr wB.drew) := tB.out.drew; have x0 := cellB XX.out d0' hbr; have x1 := cellB XX.out d1' hbr; clear tA)
                  | (have XX : Hid (Below wr.heap.size wr wA.drew) := tA.out.drew; have x0 := cellB XX.out d0' hbr; have x1 := cellB XX.out d1' hbr; clear tB)
                go_region_held3 (fun w' => w'.cell? ⟨b, o + k * 5, none⟩ = some (.string u.f) ∧ w'.cell? ⟨b, o + k * 5 + 1, none⟩ = some (.string u.t) ∧ Hid (Below wr.heap.size wr w'))
                  (first | go_keep | exact ⟨x0, x1, XX⟩ | exact ⟨r0, r1, r4⟩ | exact ⟨s0, s1', s4⟩)
                  (first
                    | ((fail_if_success (have gg := r4.out)); go_at_call 42; refine rput_any a ks c' u.f _ _ hkl (HK.out.below XX.out) ?_; intro v1 w1 hb1 ho1; obtain ⟨a1, c1, rfl, hc1, _⟩ := ownsRow_read ho1.1; have r4 : Hid (Below wr.heap.size wr w1) := XX.out.trans (hb1.mono (by have := XX.out.size; omega)); have r0 := cellB r4.out d0' hbr; have r1 := cellB r4.out d1' hbr; have K1 := Lib.hid hc1; clear hb1 ho1 hc1)
                    | (have gg := r4.out; clear gg; go_at_call 42; refine rput_any a1 (putL u.f false ks) c1 u.t _ _ (by omega) K1.out ?_; intro v2 w2 hb2 ho2; obtain ⟨a2, c2, rfl, hc2, _⟩ := ownsRow_read ho2.1; have s4 : Hid (Below wr.heap.size wr w2) := r4.out.trans (hb2.mono r4.out.size); have s0 := cellB s4.out d0' hbr; have s1' := cellB s4.out d1' hbr; have K2 := Lib.hid (ownsRow_mono ho2.1 (Nat.le_trans sB r4.out.size)); clear hb2 ho2 hc2))
              all_goals
                go_wp2_with fail
                exact ⟨⟨k + 1, _, a2, c2, by omega, by go_num, rfl, by rw [hst2.out]; exact rfl, HB.out.trans (s4.out.mono sB), by rw [hst2.out]; exact K2⟩, by simp [intOf]; omega⟩
        · obtain rfl : k = vs.length := by omega
          go_wp2_with fail
          exact ⟨⟨r + 1, _, a, c', by omega, by go_num, rfl, hn, HB, HO⟩, by simp [intOf]; omega⟩
    · obtain rfl : r = vs.length := by omega
      go_wp2_with fail
      exact HR.out a n c' wr HB.out hn.out HO.out
end Go.Proofs.Ytlgjhjgdmomfoaa
namespace Go.Proofs.Ytlgjhjgdmomfoaa
open Go.RowKit Go.Maps

theorem nmG_up (vs : List Dm) (ax : Int) : (nmG vs ax).Pairwise fun a b => bL a < bL b := by
  classical
  exact (sortU_srt (rawN vs ax vs.length) (fun s => decide (s ∈ rawN vs ax vs.length)) (fun s => by simp)).up
theorem up_unique {ks js : List ByteArray} (h : ks.Pairwise fun a b => bL a < bL b) (h' : js.Pairwise fun a b => bL a < bL b) (hm : ∀ s, s ∈ ks ↔ s ∈ js) : ks = js := by
  classical
  exact SrtIs.unique (Q := fun s => decide (s ∈ js)) ⟨h, fun s => by rw [hm s]; simp⟩ ⟨h', fun s => by simp⟩
theorem map_kAt (ks : List ByteArray) : (List.range ks.length).map (kAt ks) = ks := by
  apply List.ext_getElem
  · simp
  · intro i h1 h2
    rw [List.getElem_map, List.getElem_range]
    unfold kAt
    rw [List.getD_eq_getElem?_getD, List.getElem?_eq_getElem h2]; rfl
theorem gmL_up (vs : List Dm) (ax : Int) (f : Nat) : (gmL vs ax (nmG vs ax).length f).Pairwise fun a b => bL a < bL b := by
  have h : (gmL vs ax (nmG vs ax).length f).Sublist ((List.range (nmG vs ax).length).map (kAt (nmG vs ax))) := List.Sublist.map _ List.filter_sublist
  rw [map_kAt] at h
  exact (nmG_up vs ax).sublist h
theorem gmL_mem {vs : List Dm} {ax : Int} {f : Nat} {t : ByteArray} : t ∈ gmL vs ax (nmG vs ax).length f ↔ ∃ v, v < (nmG vs ax).length ∧ nAt (grG vs ax) v = f ∧ kAt (nmG vs ax) v = t := by
  unfold gmL
  rw [List.mem_map]
  constructor
  · rintro ⟨v, h1, h2⟩
    rw [List.mem_filter, List.mem_range, beq_iff_eq] at h1
    exact ⟨v, h1.1, h1.2, h2⟩
  · rintro ⟨v, h1, h2, h3⟩
    exact ⟨v, by rw [List.mem_filter, List.mem_range, beq_iff_eq]; exact ⟨h1, h2⟩, h3⟩
theorem CnN.inN {vs : List Dm} {ax : Int} {s t : ByteArray} (h : CnN vs ax s t) (hs : s ∈ nmG vs ax) : t ∈ nmG vs ax := by
  cases h with
  | refl => exact hs
  | fwd _ hi => exact (onA_names (onD_iff.1 hi)).2.2
  | bwd _ hi => exact (onA_names (onD_iff.1 hi)).2.1
theorem rcA_group {vs : List Dm} {ax : Int} {k : Nat} (hk : k < (nmG vs ax).length) : rcA vs ax (kAt (nmG vs ax) k) = gmL vs ax (nmG vs ax).length (nAt (grG vs ax) k) := by
  refine up_unique (rcA_up _ _ _) (gmL_up _ _ _) fun t => ?_
  have hn := nmG_nodup vs ax
  rw [rcA_mem, gmL_mem]
  constructor
  · intro h
    have ht := CnN.inN h (kAt_mem hk)
    have h2 := CnN.places h
    rw [pos_kAt hn hk] at h2
    exact ⟨pos (nmG vs ax) t, pos_lt ht, ((grG_eq hk (pos_lt ht)).2 h2).symm, kAt_pos ht⟩
  · rintro ⟨v, h1, h2, rfl⟩
    exact CnP.names ((grG_eq hk h1).1 h2.symm)
theorem gmL_first {vs : List Dm} {ax : Int} {f : Nat} (hf : f < (nmG vs ax).length) (h : nAt (grG vs ax) f = f) : kAt (gmL vs ax (nmG vs ax).length f) 0 = kAt (nmG vs ax) f := by
  have hm : f ∈ (List.range (nmG vs ax).length).filter (fun v => nAt (grG vs ax) v == f) := by
    rw [List.mem_filter, List.mem_range, beq_iff_eq]; exact ⟨hf, h⟩
  have hp : ((List.range (nmG vs ax).length).filter (fun v => nAt (grG vs ax) v == f)).Pairwise (· < ·) := List.Pairwise.filter _ List.pairwise_lt_range
  have ha : ∀ v ∈ (List.range (nmG vs ax).length).filter (fun v => nAt (grG vs ax) v == f), f ≤ v := by
    intro v hv
    rw [List.mem_filter, List.mem_range, beq_iff_eq] at hv
    have := (grG_inv vs ax).le v hv.1
    omega
  unfold gmL
  obtain ⟨l, hl⟩ : ∃ l, (List.range (nmG vs ax).length).filter (fun v => nAt (grG vs ax) v == f) = l := ⟨_, rfl⟩
  rw [hl] at hm hp ha ⊢
  cases l with
  | nil => cases hm
  | cons v0 l =>
    have h1 := ha v0 (by simp)
    have h2 : v0 = f := by
      rcases List.mem_cons.1 hm with e | e
      · exact e.symm
      · have := (List.pairwise_cons.1 hp).1 f e; omega
    rw [h2]; rfl
theorem sameD_iff {a b : ByteArray} : sameD a b = true ↔ a = b := sameB_iff
/-- The groups of some names. -/
def srF (vs : List Dm) (ax : Int) (ks : List ByteArray) : Nat → List (List ByteArray)
  | 0 => []
  | k + 1 => if sameD (kAt (rcA vs ax (kAt ks k)) 0) (kAt ks k) = true then srF vs ax ks k ++ [rcA vs ax (kAt ks k)] else srF vs ax ks k
theorem srF_len (vs : List Dm) (ax : Int) (ks : List ByteArray) : ∀ k, (srF vs ax ks k).length ≤ k
  | 0 => Nat.le_refl _
  | k + 1 => by
    have := srF_len vs ax ks k
    rw [srF]
    split
    · rw [List.length_append]; simp; omega
    · omega
theorem srF_groups {vs : List Dm} {ax : Int} : ∀ k, k ≤ (nmG vs ax).length → srF vs ax (nmG vs ax) k = (fsL vs ax k).map (gmL vs ax (nmG vs ax).length)
  | 0, _ => rfl
  | k + 1, hk => by
    have hk' : k < (nmG vs ax).length := by omega
    have hf := grG_lt hk'
    rw [srF, srF_groups k (by omega), rcA_group hk', gmL_first hf (grG_idem hk'), fsL_succ]
    by_cases e : nAt (grG vs ax) k = k
    · rw [if_pos e, if_pos (by rw [e]; exact sameD_iff.2 rfl), List.map_append, e]; rfl
    · rw [if_neg e, if_neg]
      intro h
      have h2 := sameD_iff.1 h
      have h3 := congrArg (pos (nmG vs ax)) h2
      rw [pos_kAt (nmG_nodup vs ax) hf, pos_kAt (nmG_nodup vs ax) hk'] at h3
      exact e h3
theorem srF_all (vs : List Dm) (ax : Int) : srF vs ax (nmG vs ax) (nmG vs ax).length = gsX vs ax := srF_groups _ (Nat.le_refl _)
theorem rcA_pos (vs : List Dm) (ax : Int) (s : ByteArray) : 0 < (rcA vs ax s).length := List.length_pos_of_mem (rcA_mem.2 (.refl : CnN vs ax s s))

/-! ### the walks -/
theorem NsAt.pushRow {W W' : World} {base B : Nat} {ov v u : Value} {vals : List Value} {rows : List (List ByteArray)} {r : List ByteArray} (h : NsAt W base ov vals rows) (hB : base ≤ B) (hlo : ∀ i, i < rows.length → ∀ g, (vAt vals i).ownBlock = some g → g < B)
    (_ho : ∀ g, ov.ownBlock = some g → g < B) (hu : W.ownsRow B 9 1 u r.length (sC r)) (hg : W.grownBy W' ov.ownBlock) (hown : W'.ownsRow base 60 1 v (vals.length + 1) (vals ++ [u])) : NsAt W' base v (vals ++ [u]) (rows ++ [r]) := by
  refine ⟨by simp [h.len], by rw [List.length_append]; exact hown, fun j hj => ?_, fun i j hij hi hj => ?_⟩
  · rw [List.length_append] at hj
    by_cases e : j < rows.length
    · rw [vAt_app (by rw [h.len]; exact e), rAt_app e]
      exact (h.row j e).kept hg (own_ne (h.row j e) h.out (by decide))
    · obtain rfl : j = rows.length := by simp at hj; omega
      rw [rAt_new, ← h.len, vAt_new]
      exact ownsRow_mono (hu.kept hg (own_ne hu h.out (by decide))) hB
  · rw [List.length_append] at hi hj
    by_cases e1 : i < rows.length
    · by_cases e2 : j < rows.length
      · rw [vAt_app (by rw [h.len]; exact e1), vAt_app (by rw [h.len]; exact e2)]; exact h.apart i j hij e1 e2
      · obtain rfl : j = rows.length := by simp at hj; omega
        rw [← h.len, vAt_new, vAt_app (by rw [h.len]; exact e1)]
        cases hv : (vAt vals i).ownBlock with
        | none => exact .inl rfl
        | some g =>
          refine .inr fun e => ?_
          have h1 := hlo i e1 g hv
          have h2 := (hu.lt g e.symm).1
          omega
    · obtain rfl : i = rows.length := by simp at hi; omega
      have e2 : j < rows.length := by simp at hj; omega
      rw [← h.len, vAt_new, vAt_app (by rw [h.len]; exact e2)]
      cases hv : u.ownBlock with
      | none => exact .inl rfl
      | some g =>
        refine .inr fun e => ?_
        have h1 := hlo j e2 g e.symm
        have h2 := (hu.lt g hv).1
        omega
set_option maxRecDepth 100000 in
set_option maxHeartbeats 8000000 in
theorem sorted_any (ao : Option Addr) (vs : List Dm) (c : Nat) (ax : Int) (an : Option Addr) (ks : List ByteArray) (cn : Nat) (w : World) (R : Ending → World → Prop) (hl : vs.length ≤ 256) (hkl : ks.length ≤ 100000) (hc : CellsAt w ao (dC vs)) (hn : CellsAt w an (sC ks))
   (hR : ∀ v vals w', Below w.heap.size w w' → NsAt w' w.heap.size v vals (srF vs ax ks ks.length) → R (.returned v) w') :
    Calls Try.prog 63 #[.slice ao vs.length c, .int .i64 ax, .slice an ks.length cn] w R := by
  have HR := Lib.hid hR
  have HC := Lib.hid hc
  have HN := Lib.hid hn
  clear hR hc hn
  go_enter Try.func63, Try.ntmps63
  go_wp2_with fail
  go_loopw [8, 7] (fun j v wr => ∃ (k : Nat) (vals : List Value), k ≤ ks.length ∧ j = .int .i64 k ∧ Hid (Below w.heap.size w wr) ∧ Hid (NsAt wr w.heap.size v vals (srF vs ax ks k))) (fun j _ _ => ks.length - (intOf j).toNat)
  case atStart => exact ⟨0, [], Nat.zero_le _, rfl, Below.refl _ _, NsAt.nil _ _⟩
  case round =>
    obtain ⟨k, vals, hk, rfl, HB, HO⟩ := hrel
    have sB := HB.out.size
    by_cases hlt : k < ks.length
    · obtain ⟨b, o, rfl, hbb, _⟩ := HN.out (by rw [sC_length]; omega)
      have n0 := HN.out.get rfl (sC_get hlt)
      have n1 := cellB HB.out n0 hbb
      have hst : Hid (srF vs ax ks (k + 1) = if sameD (kAt (rcA vs ax (kAt ks k)) 0) (kAt ks k) = true then srF vs ax ks k ++ [rcA vs ax (kAt ks k)] else srF vs ax ks k) := rfl
      have hvl : vals.length ≤ k := by rw [HO.out.len]; exact srF_len _ _ _ _
      obtain ⟨s, hs⟩ : ∃ s, kAt ks k = s := ⟨_, rfl⟩
      rw [hs] at n0 n1 hst
      clear hs
      go_wp2_with fail
      refine reached_any ao vs c ax s _ _ hl (HC.out.below HB.out) ?_
      intro a n c' w1 hb hnr ho
      have hr0 := rcA_pos vs ax s
      obtain ⟨r, hr⟩ : ∃ r, rcA vs ax s = r := ⟨_, rfl⟩
      rw [hr] at hnr ho hr0 hst
      subst hnr
      have HB1 := Lib.hid (HB.out.trans (hb.mono sB))
      have HO1 := Lib.hid (HO.out.below hb)
      have HU1 := Lib.hid ho
      have n2 := cellB hb n1 (by omega)
      obtain ⟨b2, o2, rfl, _, _⟩ := own_cells ho (by rw [sC_length]; omega)
      have g0 := (own_cells ho).get rfl (sC_get hr0)
      rw [Nat.add_zero] at g0
      have hlo1 : Hid (∀ i, i < (srF vs ax ks k).length → ∀ g, (vAt vals i).ownBlock = some g → g < wr.heap.size) := fun i hi g hg => ((HO.out.row i hi).lt g hg).2
      have hlo2 : Hid (∀ g, u7.ownBlock = some g → g < wr.heap.size) := fun g hg => (HO.out.out.lt g hg).2
      have s1 := hb.size
      have hr1 : (0 : Int) < (r.length : Int) := by omega
      obtain ⟨x, hx⟩ : ∃ x, kAt r 0 = x := ⟨_, rfl⟩
      rw [hx] at g0 hst
      clear hb ho hr n0 n1 hx
      cases hq : sameD x s with
      | true =>
        have hq1 : (x.toList == s.toList) = true := hq
        have hst2 : Hid (srF vs ax ks (k + 1) = srF vs ax ks k ++ [r]) := by have h := hst.out; rw [hq, if_pos rfl] at h; exact h
        clear hst hq
        go_wp2_with fail
        go_quiet (fail)
        have hd : Below w1.heap.size w1 (w1.drewN nq) := ⟨rfl, rfl, rfl, Nat.le_refl _, fun _ _ => rfl⟩
        have hda : Below w1.heap.size w1 ((w1.drewN nq).alloc (.cells #[.slice (some ⟨b2, o2, none⟩) r.length c'] 60)) := hd.alloc (Nat.le_refl _) _
        have HOa := Lib.hid (HO1.out.below hda)
        have HUa := Lib.hid (ownsRow_below HU1.out hda)
        have HBa := Lib.hid (HB1.out.trans (hda.mono HB1.out.size))
        have hza : ((w1.drewN nq).alloc (.cells #[.slice (some ⟨b2, o2, none⟩) r.length c'] 60)).heap.size = w1.heap.size + 1 := by rw [World.size_alloc]; rfl
        have Xa := Lib.hid (lit_cells (w1.drewN nq) #[.slice (some ⟨b2, o2, none⟩) r.length c'] 60 [.slice (some ⟨b2, o2, none⟩) r.length c'] rfl)
        clear hd hda
        go_wp2_with (at_builtin; refine wp_appendT rfl (.tmp 31) (.tmp 33) 65 rfl w.heap.size 60 Try.underlying65 Try.infoSS rfl (by decide) u7 vals.length vals rfl HOa.out.out ⟨w1.heap.size, 0, none⟩ 1 1 [.slice (some ⟨b2, o2, none⟩) r.length c'] rfl rfl Xa.out (by intro u hu; simp at hu; subst hu; rfl) (by omega) (by omega) (by omega) ?_; intro v8 w8 hown hgrow _; have hN8 := NsAt.pushRow HOa.out sB hlo1.out hlo2.out HUa.out hgrow hown; have hB8 := HBa.out.grown hgrow (by omega) (fun j e => (HOa.out.out.lt j e).1); have HN8 := Lib.hid hN8; have HB8 := Lib.hid hB8; clear hown hgrow hN8 hB8)
        refine ⟨⟨k + 1, vals ++ [.slice (some ⟨b2, o2, none⟩) r.length c'], by omega, by go_num, HB8, ?_⟩, by simp [intOf]; omega⟩
        rw [hst2.out]; exact HN8
      | false =>
        have hq1 : (x.toList == s.toList) = false := hq
        have hst2 : Hid (srF vs ax ks (k + 1) = srF vs ax ks k) := by have h := hst.out; rw [hq, if_neg (by simp)] at h; exact h
        clear hst hq
        go_wp2_with fail
        go_quiet (fail)
        have hd : Below w1.heap.size w1 (w1.drewN nq) := ⟨rfl, rfl, rfl, Nat.le_refl _, fun _ _ => rfl⟩
        have HO2 := Lib.hid (HO1.out.below hd)
        have HB2 := Lib.hid (HB1.out.trans (hd.mono HB1.out.size))
        clear hd
        go_wp2_with fail
        refine ⟨⟨k + 1, vals, by omega, by go_num, HB2, ?_⟩, by simp [intOf]; omega⟩
        rw [hst2.out]; exact HO2
    · obtain rfl : k = ks.length := by omega
      go_wp2_with fail
      exact HR.out _ _ wr HB.out HO.out
set_option maxRecDepth 100000 in
set_option maxHeartbeats 4000000 in
theorem rgroups_any (ao : Option Addr) (vs : List Dm) (c : Nat) (ax : Int) (w : World) (R : Ending → World → Prop) (hl : vs.length ≤ 9223372036854775807) (hc : CellsAt w ao (dC vs)) (hv : DmsOk vs)
   (hR1 : giE vs ax ≠ 0 → ∀ w', Below w.heap.size w w' → R (.returned (.tuple #[.slice none 0 0, .int .i64 (giE vs ax)])) w')
   (hR2 : giE vs ax = 0 → ∀ v vals w', Below w.heap.size w w' → NsAt w' w.heap.size v vals (gsX vs ax) → R (.returned (.tuple #[v, .int .i64 0])) w') :
    Calls Try.prog 27 #[.slice ao vs.length c, .int .i64 ax] w R := by
  have HR1 := Lib.hid hR1
  have HR2 := Lib.hid hR2
  have HC := Lib.hid hc
  have HV := Lib.hid hv
  clear hR1 hR2 hc hv
  obtain ⟨E, hE⟩ : ∃ E, giE vs ax = E := ⟨_, rfl⟩
  have HE := Lib.hid hE
  rw [hE] at HR1 HR2
  clear hE
  go_enter Try.func27, Try.ntmps27
  go_wp2_with fail
  refine rgiven_any ao vs c ax _ _ hl HC.out HV.out ?_
  rw [HE.out]
  intro w1 hb
  have HB1 := Lib.hid hb
  clear hb
  by_cases h0 : E = 0
  · subst h0
    have hl2 := giE_len HE.out
    have sB1 := HB1.out.size
    go_wp2_with fail
    refine rall_any ao vs c ax _ _ (by omega) (HC.out.below HB1.out) ?_
    rw [alN_eq]
    intro a n c' w2 hb hn hk
    have HB2 := Lib.hid (HB1.out.trans (hb.mono sB1))
    have hkl := nmG_len (ax := ax) hl2
    have sB2 := HB2.out.size
    have HK := Lib.hid hk
    subst hn
    clear hb hk
    go_wp2_with fail
    refine sorted_any ao vs c ax a (nmG vs ax) c' _ _ hl2 (by omega) (HC.out.below HB2.out) HK.out ?_
    rw [srF_all]
    intro v vals w3 hb hn
    have HB3 := Lib.hid (HB2.out.trans (hb.mono sB2))
    have HN3 := Lib.hid (hn.mono sB2)
    clear hb hn
    go_wp2_with fail
    exact HR2.out (by simp) v vals w3 HB3.out HN3.out
  · have K : (E != 0) = true := by simpa using h0
    have h0' := Lib.hid h0
    clear h0
    go_wp2_with fail
    exact HR1.out h0'.out w1 HB1.out
end Go.Proofs.Ytlgjhjgdmomfoaa
namespace Go.Proofs.Ytlgjhjgdmomfoaa
open Go.RowKit Go.Maps

theorem va_ne {v : Dm} (h1 : vaE v = 0) : v.f ≠ v.t := fun e2 => by
  unfold vaE at h1
  by_cases a : nmE v.f = 0
  · rw [if_pos a] at h1
    by_cases b : nmE v.t = 0
    · rw [if_pos b, if_pos (by rw [e2]; simp [sameD])] at h1; omega
    · rw [if_neg b] at h1; exact b h1
  · rw [if_neg a] at h1; exact a h1
theorem has_jn {vs : List Dm} {ax : Int} {s t : ByteArray} (h : s ≠ t) : hasL (rcA vs ax s) t = jnX vs ax s t := by
  rw [Bool.eq_iff_iff, hasL_iff, rcA_mem, jnX_iff]
  exact ⟨fun hc => ⟨(CnN.mem hc h).1, (CnN.mem hc h).2, hc⟩, fun hc => hc.2.2⟩
theorem reachedT_any (ao : Option Addr) (vs : List Dm) (k c : Nat) (ax : Int) (s : ByteArray) (w : World) (R : Ending → World → Prop) (hk : k ≤ vs.length) (hl : vs.length ≤ 256) (hc : CellsAt w ao (dC vs))
   (hR : ∀ a n c' w', Below w.heap.size w w' → n = (rcA (vs.take k) ax s).length → w'.ownsRow w.heap.size 9 1 (.slice a n c') n (sC (rcA (vs.take k) ax s)) → R (.returned (.slice a n c')) w') :
    Calls Try.prog 55 #[.slice ao k c, .int .i64 ax, .string s] w R := by
  have hlen : (vs.take k).length = k := by rw [List.length_take]; omega
  have h := reached_any ao (vs.take k) c ax s w R (by omega) (cells_takeD hc k) hR
  rw [hlen] at h; exact h
theorem rcA_small (vs : List Dm) (ax : Int) (s : ByteArray) (hl : vs.length ≤ 256) : (rcA vs ax s).length ≤ 1000000 := by
  have h1 := rcR_len vs ax s vs.length
  have h3 : 2 * vs.length * vs.length ≤ 2 * 256 * 256 := Nat.mul_le_mul (by omega) hl
  show (rcR vs ax s vs.length).length ≤ _
  omega
set_option maxRecDepth 100000 in
set_option maxHeartbeats 8000000 in
theorem rredundant_any (ao : Option Addr) (vs : List Dm) (c : Nat) (ax : Int) (w : World) (R : Ending → World → Prop) (hl : vs.length ≤ 9223372036854775807) (hcl : vs.length ≤ c) (hc : CellsAt w ao (dC vs)) (hv : DmsOk vs)
   (hR : ∀ v w', Below w.heap.size w w' → w'.ownsRow w.heap.size 3 1 v (rdX vs ax).length (dI (rdX vs ax)) → R (.returned (.tuple #[v, .int .i64 (giE vs ax)])) w') :
    Calls Try.prog 29 #[.slice ao vs.length c, .int .i64 ax] w R := by
  have HR := Lib.hid hR
  have HC := Lib.hid hc
  have HV := Lib.hid hv
  clear hR hc hv
  obtain ⟨E, hE⟩ : ∃ E, giE vs ax = E := ⟨_, rfl⟩
  have HE := Lib.hid hE
  clear hE
  go_enter Try.func29, Try.ntmps29
  go_wp2_with fail
  refine rgiven_any ao vs c ax _ _ hl HC.out HV.out ?_
  rw [HE.out]
  intro w1 hb
  have HB1 := Lib.hid hb
  clear hb
  by_cases h0 : E = 0
  · subst h0
    have hX : Hid (rdX vs ax = rdF vs ax vs.length) := by unfold Hid rdX; rw [if_pos HE.out]
    have hl2 := giE_len HE.out
    have HVA := Lib.hid (giE_all HE.out).2
    go_wp2_with fail
    go_loopw [8, 7] (fun j v wr => ∃ (k : Nat), k ≤ vs.length ∧ j = .int .i64 k ∧ Hid (Below w.heap.size w wr) ∧ Hid (wr.ownsRow w.heap.size 3 1 v (rdF vs ax k).length (dI (rdF vs ax k)))) (fun j _ _ => vs.length - (intOf j).toNat)
    case atStart => exact ⟨0, Nat.zero_le _, rfl, HB1, World.ownsRow_nil _ _ _ _⟩
    case round =>
      obtain ⟨k, hk, rfl, HB, HO⟩ := hrel
      have sB := HB.out.size
      have lnR := rdF_len vs ax k
      by_cases hlt : k < vs.length
      · obtain ⟨b, o, rfl, hbb, hcell⟩ := HC.out.dms (by omega)
        obtain ⟨c0, c1, c2, _, _⟩ := hcell k hlt
        have d0 := cellB HB.out c0 hbb
        have d1 := cellB HB.out c1 hbb
        have d2 := cellB HB.out c2 hbb
        have hbr : b < wr.heap.size := by omega
        have hne := va_ne (HVA.out k hlt)
        have hjn : jnX (vs.take k) ax (dAt vs k).f (dAt vs k).t = hasL (rcA (vs.take k) ax (dAt vs k).f) (dAt vs k).t := (has_jn hne).symm
        have hst : Hid (rdF vs ax (k + 1) = if ((dAt vs k).x == ax && jnX (vs.take k) ax (dAt vs k).f (dAt vs k).t) = true then rdF vs ax k ++ [k] else rdF vs ax k) := rfl
        obtain ⟨u, hu⟩ : ∃ u, dAt vs k = u := ⟨_, rfl⟩
        obtain ⟨is, his⟩ : ∃ is, rdF vs ax k = is := ⟨_, rfl⟩
        rw [hu] at d0 d1 d2 hst hjn
        rw [his] at hst HO lnR
        have q1 : (0 : Int) ≤ (k : Int) := by omega
        have q2 : (k : Int) ≤ (c : Int) := by omega
        clear hcell hu his c0 c1 c2 hne
        cases hx : (u.x == ax) with
        | true =>
          have hst1 := hst.out
          rw [hx, Bool.true_and] at hst1
          obtain ⟨J, hJ'⟩ : ∃ J, jnX (vs.take k) ax u.f u.t = J := ⟨_, rfl⟩
          rw [hJ'] at hst1 hjn
          have hJ : Hid (hasL (rcA (vs.take k) ax u.f) u.t = J) := hjn.symm
          have Hst1 := Lib.hid hst1
          have HBB : Hid (Below wr.heap.size wr wr.drew) := (Below.refl _ _).drew
          clear hJ' hst1 hst hjn
          cases J with
          | false =>
            have hst2 : Hid (rdF vs ax (k + 1) = is) := by have h := Hst1.out; rw [if_neg (by simp)] at h; exact h
            go_wp2_with fail
            go_region_held3 (fun w' => w'.cell? ⟨b, o + k * 5, none⟩ = some (.string u.f) ∧ w'.cell? ⟨b, o + k * 5 + 1, none⟩ = some (.string u.t) ∧ w'.cell? ⟨b, o + k * 5 + 2, none⟩ = some (.int .i64 u.x) ∧ Hid (Below wr.heap.size wr w'))
              (first | go_keep | exact ⟨d0, d1, d2, HBB⟩ | exact ⟨r0, r1, r2, r4⟩ | exact ⟨s0, s1', s2, s4⟩)
              (first
                | (go_at_call 55; refine reachedT_any (some ⟨b, o, none⟩) vs k c ax u.f _ _ hk hl2 (HC.out.below (HB.out.trans (HBB.out.mono sB))) ?_; intro a9 n9 c9 w10 hb10 hn9 ho9; have r4 : Hid (Below wr.heap.size wr w10) := HBB.out.trans (hb10.mono (Nat.le_refl _)); have r0 := cellB r4.out d0 hbr; have r1 := cellB r4.out d1 hbr; have r2 := cellB r4.out d2 hbr; have G10 := Lib.hid (own_cells ho9); subst hn9; clear hb10 ho9)
                | (go_at_call 54; refine rhas_any a9 _ c9 u.t _ _ (rcA_small _ _ _ (by rw [List.length_take]; omega)) G10.out ?_; rw [hJ.out]; intro w11 hd11; have s4 : Hid (Below wr.heap.size wr w11) := r4.out.trans (hd11.below _); have s0 := cellB s4.out d0 hbr; have s1' := cellB s4.out d1 hbr; have s2 := cellB s4.out d2 hbr; clear hd11))
            all_goals
              go_wp2_with fail
              refine ⟨⟨k + 1, by omega, by go_num, HB.out.trans (s4.out.mono sB), ?_⟩, by simp [intOf]; omega⟩
              rw [hst2.out]; exact ownsRow_below HO.out s4.out
          | true =>
            have hst2 : Hid (rdF vs ax (k + 1) = is ++ [k]) := by have h := Hst1.out; rw [if_pos rfl] at h; exact h
            go_wp2_with fail
            go_region_held3 (fun w' => w'.cell? ⟨b, o + k * 5, none⟩ = some (.string u.f) ∧ w'.cell? ⟨b, o + k * 5 + 1, none⟩ = some (.string u.t) ∧ w'.cell? ⟨b, o + k * 5 + 2, none⟩ = some (.int .i64 u.x) ∧ Hid (Below wr.heap.size wr w'))
              (first | go_keep | exact ⟨d0, d1, d2, HBB⟩ | exact ⟨r0, r1, r2, r4⟩ | exact ⟨s0, s1', s2, s4⟩)
              (first
                | (go_at_call 55; refine reachedT_any (some ⟨b, o, none⟩) vs k c ax u.f _ _ hk hl2 (HC.out.below (HB.out.trans (HBB.out.mono sB))) ?_; intro a9 n9 c9 w10 hb10 hn9 ho9; have r4 : Hid (Below wr.heap.size wr w10) := HBB.out.trans (hb10.mono (Nat.le_refl _)); have r0 := cellB r4.out d0 hbr; have r1 := cellB r4.out d1 hbr; have r2 := cellB r4.out d2 hbr; have G10 := Lib.hid (own_cells ho9); subst hn9; clear hb10 ho9)
                | (go_at_call 54; refine rhas_any a9 _ c9 u.t _ _ (rcA_small _ _ _ (by rw [List.length_take]; omega)) G10.out ?_; rw [hJ.out]; intro w11 hd11; have s4 : Hid (Below wr.heap.size wr w11) := r4.out.trans (hd11.below _); have s0 := cellB s4.out d0 hbr; have s1' := cellB s4.out d1 hbr; have s2 := cellB s4.out d2 hbr; clear hd11))
            all_goals
              have O11 := Lib.hid (ownsRow_below HO.out s4.out)
              have B11 := Lib.hid (HB.out.trans (s4.out.mono sB))
              have sz11 := B11.out.size
              go_wp2_with (at_builtin; refine wp_appendT rfl (.tmp 46) (.tmp 48) 42 rfl w.heap.size 3 Try.underlying42 Try.infoI22 rfl (by decide) u7 is.length (dI is) rfl (ownsRow_below O11.out ((Below.refl _ _).alloc (Nat.le_refl _) _)) ⟨w11.heap.size, 0, none⟩ 1 1 [.int .i64 k] rfl rfl (by have h := cells_one w11 (.int .i64 k) 3; simpa using h) (one1 _ rfl) (by omega) (by omega) (by simp; omega) ?_; intro v5 w5 hown hgrow _; have O5 := Lib.hid hown; have B5 := Lib.hid ((B11.out.alloc sz11 _).grown hgrow (by simp; omega) (fun j e => (O11.out.lt j e).1)); clear hown hgrow)
              refine ⟨⟨k + 1, by omega, by go_num, B5, ?_⟩, by simp [intOf]; omega⟩
              rw [hst2.out, dI_append, List.length_append]; exact O5.out
        | false =>
          have hst2 : Hid (rdF vs ax (k + 1) = is) := by have h := hst.out; rw [hx, Bool.false_and, if_neg (by simp)] at h; exact h
          clear hst hjn
          go_wp2_with fail
          go_quiet (fail)
          go_wp2_with fail
          have hq : Below wr.heap.size wr (wr.drewN nq) := ⟨rfl, rfl, rfl, Nat.le_refl _, fun _ _ => rfl⟩
          refine ⟨⟨k + 1, by omega, by go_num, HB.out.trans (hq.mono sB), ?_⟩, by simp [intOf]; omega⟩
          rw [hst2.out]; exact ownsRow_below HO.out hq
      · obtain rfl : k = vs.length := by omega
        go_wp2_with fail
        have h := HR.out _ wr HB.out (by rw [hX.out]; exact HO.out)
        rw [HE.out] at h; exact h
  · have K : (E != 0) = true := by simpa using h0
    have hX : Hid (rdX vs ax = []) := by unfold Hid rdX; rw [if_neg (by rw [HE.out]; exact h0)]
    clear h0
    go_wp2_with fail
    have h := HR.out (.slice none 0 0) w1 HB1.out (by rw [hX.out]; exact World.ownsRow_nil _ _ _ _)
    rw [HE.out] at h; exact h
end Go.Proofs.Ytlgjhjgdmomfoaa
namespace Go.Proofs.Ytlgjhjgdmomfoaa
open Go.RowKit Go.Maps

/-- The groups, or none behind an error. -/
def gsY (vs : List Dm) (ax : Int) : List (List ByteArray) := if giE vs ax = 0 then gsX vs ax else []
theorem NsC.nil (W : World) : NsC W none [] := ⟨[], rfl, CellsAt.nil _ _, fun j h => absurd h (by simp)⟩
theorem gsY_len (vs : List Dm) (ax : Int) : (gsY vs ax).length ≤ 1000 := by
  unfold gsY
  by_cases e : giE vs ax = 0
  · rw [if_pos e]
    have h1 := nmG_len (ax := ax) (giE_len e)
    have h2 := fsL_le (vs := vs) (ax := ax) (k := (nmG vs ax).length)
    unfold gsX; rw [gsF_len]; omega
  · rw [if_neg e]; simp
theorem gsY_row (vs : List Dm) (ax : Int) : ∀ j, j < (gsY vs ax).length → (rAt (gsY vs ax) j).length ≤ 1000000 := by
  intro j hj
  unfold gsY at hj ⊢
  by_cases e : giE vs ax = 0
  · rw [if_pos e] at hj ⊢
    have h1 := nmG_len (ax := ax) (giE_len e)
    have hj' : j < (fsL vs ax (nmG vs ax).length).length := by unfold gsX at hj; rw [gsF_len] at hj; exact hj
    unfold gsX gsF rAt
    rw [List.getD_eq_getElem?_getD, List.getElem?_map, List.getElem?_eq_getElem hj']
    have := gmL_le (vs := vs) (ax := ax) (k := (nmG vs ax).length) (f := (fsL vs ax (nmG vs ax).length)[j])
    show (gmL vs ax (nmG vs ax).length _).length ≤ _
    omega
  · rw [if_neg e] at hj; simp at hj
theorem nmX_len (vs : List Dm) (ax : Int) : (nmX vs ax).length ≤ 1000 := by
  unfold nmX
  by_cases e : giE vs ax = 0
  · rw [if_pos e]; have := nmG_len (ax := ax) (giE_len e); omega
  · rw [if_neg e]; simp
theorem rdX_len (vs : List Dm) (ax : Int) : (rdX vs ax).length ≤ 1000 := by
  unfold rdX
  by_cases e : giE vs ax = 0
  · rw [if_pos e]; have := rdF_len vs ax vs.length; have := giE_len e; omega
  · rw [if_neg e]; simp
theorem groupsY_any (ao : Option Addr) (vs : List Dm) (c : Nat) (ax : Int) (w : World) (R : Ending → World → Prop) (hl : vs.length ≤ 9223372036854775807) (hc : CellsAt w ao (dC vs)) (hv : DmsOk vs)
   (hR : ∀ a c' w', Below w.heap.size w w' → NsC w' a (gsY vs ax) → R (.returned (.tuple #[.slice a (gsY vs ax).length c', .int .i64 (giE vs ax)])) w') :
    Calls Try.prog 26 #[.slice ao vs.length c, .int .i64 ax] w R := by
  refine groups22_any ao vs c ax w R hl hc hv (fun h w' hb => ?_) (fun h v vals w' hb hn => ?_)
  · have e : gsY vs ax = [] := by unfold gsY; rw [if_neg h]
    rw [e] at hR
    exact hR none 0 w' hb (NsC.nil _)
  · have e : gsY vs ax = gsX vs ax := by unfold gsY; rw [if_pos h]
    rw [e, h] at hR
    obtain ⟨a, c', rfl, h2⟩ := hn.reads
    exact hR a c' w' hb h2
theorem rgroupsY_any (ao : Option Addr) (vs : List Dm) (c : Nat) (ax : Int) (w : World) (R : Ending → World → Prop) (hl : vs.length ≤ 9223372036854775807) (hc : CellsAt w ao (dC vs)) (hv : DmsOk vs)
   (hR : ∀ a c' w', Below w.heap.size w w' → NsC w' a (gsY vs ax) → R (.returned (.tuple #[.slice a (gsY vs ax).length c', .int .i64 (giE vs ax)])) w') :
    Calls Try.prog 27 #[.slice ao vs.length c, .int .i64 ax] w R := by
  refine rgroups_any ao vs c ax w R hl hc hv (fun h w' hb => ?_) (fun h v vals w' hb hn => ?_)
  · have e : gsY vs ax = [] := by unfold gsY; rw [if_neg h]
    rw [e] at hR
    exact hR none 0 w' hb (NsC.nil _)
  · have e : gsY vs ax = gsX vs ax := by unfold gsY; rw [if_pos h]
    rw [e, h] at hR
    obtain ⟨a, c', rfl, h2⟩ := hn.reads
    exact hR a c' w' hb h2
theorem namesY_any (ao : Option Addr) (vs : List Dm) (c : Nat) (ax : Int) (w : World) (R : Ending → World → Prop) (hl : vs.length ≤ 9223372036854775807) (hc : CellsAt w ao (dC vs)) (hv : DmsOk vs)
   (hR : ∀ a c' w', Below w.heap.size w w' → CellsAt w' a (sC (nmX vs ax)) → R (.returned (.tuple #[.slice a (nmX vs ax).length c', .int .i64 (giE vs ax)])) w') :
    Calls Try.prog 24 #[.slice ao vs.length c, .int .i64 ax] w R :=
  names22_any ao vs c ax w R hl hc hv fun a n c' w' hb hn hk => by subst hn; exact hR a c' w' hb hk
theorem rnamesY_any (ao : Option Addr) (vs : List Dm) (c : Nat) (ax : Int) (w : World) (R : Ending → World → Prop) (hl : vs.length ≤ 9223372036854775807) (hc : CellsAt w ao (dC vs)) (hv : DmsOk vs)
   (hR : ∀ a c' w', Below w.heap.size w w' → CellsAt w' a (sC (nmX vs ax)) → R (.returned (.tuple #[.slice a (nmX vs ax).length c', .int .i64 (giE vs ax)])) w') :
    Calls Try.prog 25 #[.slice ao vs.length c, .int .i64 ax] w R :=
  rnames22_any ao vs c ax w R hl hc hv fun a n c' w' hb hn hk => by
    have e : (if giE vs ax = 0 then alN vs ax vs.length else []) = nmX vs ax := by unfold nmX; rw [alN_eq]
    rw [e] at hn hk
    subst hn; exact hR a c' w' hb hk
theorem redundantY_any (ao : Option Addr) (vs : List Dm) (c : Nat) (ax : Int) (w : World) (R : Ending → World → Prop) (hl : vs.length ≤ 9223372036854775807) (hcl : vs.length ≤ c) (hc : CellsAt w ao (dC vs)) (hv : DmsOk vs)
   (hR : ∀ a c' w', Below w.heap.size w w' → CellsAt w' a (dI (rdX vs ax)) → R (.returned (.tuple #[.slice a (rdX vs ax).length c', .int .i64 (giE vs ax)])) w') :
    Calls Try.prog 28 #[.slice ao vs.length c, .int .i64 ax] w R :=
  redundant_any ao vs c ax w R hl hcl hc hv fun v w' hb ho => by
    obtain ⟨a, c', rfl, h, _⟩ := ownsRow_read ho
    exact hR a c' w' hb h
theorem rredundantY_any (ao : Option Addr) (vs : List Dm) (c : Nat) (ax : Int) (w : World) (R : Ending → World → Prop) (hl : vs.length ≤ 9223372036854775807) (hcl : vs.length ≤ c) (hc : CellsAt w ao (dC vs)) (hv : DmsOk vs)
   (hR : ∀ a c' w', Below w.heap.size w w' → CellsAt w' a (dI (rdX vs ax)) → R (.returned (.tuple #[.slice a (rdX vs ax).length c', .int .i64 (giE vs ax)])) w') :
    Calls Try.prog 29 #[.slice ao vs.length c, .int .i64 ax] w R :=
  rredundant_any ao vs c ax w R hl hcl hc hv fun v w' hb ho => by
    obtain ⟨a, c', rfl, h, _⟩ := ownsRow_read ho
    exact hR a c' w' hb h
set_option maxRecDepth 100000 in
set_option maxHeartbeats 8000000 in
theorem lawGroups_any (ao : Option Addr) (vs : List Dm) (c : Nat) (ax : Int) (w : World) (R : Ending → World → Prop) (hl : vs.length ≤ 9223372036854775807) (hcl : vs.length ≤ c) (hc : CellsAt w ao (dC vs)) (hv : DmsOk vs)
   (hR : ∀ w', Below w.heap.size w w' → R (.returned (.bool true)) w') :
    Calls Try.prog 6 #[.slice ao vs.length c, .int .i64 ax] w R := by
  have HR := Lib.hid hR
  have D := Lib.hid hc
  have HV := Lib.hid hv
  clear hR hc hv
  obtain ⟨F, hF⟩ : ∃ F, Hid (fw22 vs = F) := ⟨_, rfl⟩
  have l1 := gsY_len vs ax
  have l2 := nmX_len vs ax
  have l3 := rdX_len vs ax
  have U0 : Hid (Below w.heap.size w w) := Below.refl _ _
  go_enter Try.func6, Try.ntmps6
  go_wp2_with fail
  refine rfew22_any ao vs c _ _ hl D.out HV.out ?_
  rw [hF.out]
  intro w1 hb
  have U1 := Lib.hid (U0.out.trans (hb.mono U0.out.size))
  have D := Lib.hid (D.out.below hb)
  clear hb
  cases F with
  | false =>
    go_wp2_with fail
    refine awake22_any _ _ ?_
    intro w2 hb
    have U2 := Lib.hid (U1.out.trans (hb.mono U1.out.size))
    clear hb
    go_wp2_with fail
    exact HR.out _ U2.out
  | true =>
    go_wp2_with fail
    refine namesY_any ao vs c ax _ _ hl D.out HV.out ?_
    intro a2 c2 w2 hb hN2
    have U2 := Lib.hid (U1.out.trans (hb.mono U1.out.size))
    have D := Lib.hid (D.out.below hb)
    have N2 := Lib.hid hN2
    clear hb hN2
    go_wp2_with fail
    refine rnamesY_any ao vs c ax _ _ hl D.out HV.out ?_
    intro a3 c3 w3 hb hN3
    have U3 := Lib.hid (U2.out.trans (hb.mono U2.out.size))
    have D := Lib.hid (D.out.below hb)
    have N2 := Lib.hid (N2.out.below hb)
    have N3 := Lib.hid hN3
    clear hb hN3
    go_wp2_with fail
    refine groupsY_any ao vs c ax _ _ hl D.out HV.out ?_
    intro a4 c4 w4 hb hG4
    have U4 := Lib.hid (U3.out.trans (hb.mono U3.out.size))
    have D := Lib.hid (D.out.below hb)
    have N2 := Lib.hid (N2.out.below hb)
    have N3 := Lib.hid (N3.out.below hb)
    have G4 := Lib.hid hG4
    clear hb hG4
    go_wp2_with fail
    refine rgroupsY_any ao vs c ax _ _ hl D.out HV.out ?_
    intro a5 c5 w5 hb hG5
    have U5 := Lib.hid (U4.out.trans (hb.mono U4.out.size))
    have D := Lib.hid (D.out.below hb)
    have N2 := Lib.hid (N2.out.below hb)
    have N3 := Lib.hid (N3.out.below hb)
    have G4 := Lib.hid (G4.out.below hb)
    have G5 := Lib.hid hG5
    clear hb hG5
    go_wp2_with fail
    refine redundantY_any ao vs c ax _ _ hl hcl D.out HV.out ?_
    intro a6 c6 w6 hb hR6
    have U6 := Lib.hid (U5.out.trans (hb.mono U5.out.size))
    have D := Lib.hid (D.out.below hb)
    have N2 := Lib.hid (N2.out.below hb)
    have N3 := Lib.hid (N3.out.below hb)
    have G4 := Lib.hid (G4.out.below hb)
    have G5 := Lib.hid (G5.out.below hb)
    have R6 := Lib.hid hR6
    clear hb hR6
    go_wp2_with fail
    refine rredundantY_any ao vs c ax _ _ hl hcl D.out HV.out ?_
    intro a7 c7 w7 hb hR7
    have U7 := Lib.hid (U6.out.trans (hb.mono U6.out.size))
    have D := Lib.hid (D.out.below hb)
    have N2 := Lib.hid (N2.out.below hb)
    have N3 := Lib.hid (N3.out.below hb)
    have G4 := Lib.hid (G4.out.below hb)
    have G5 := Lib.hid (G5.out.below hb)
    have R6 := Lib.hid (R6.out.below hb)
    have R7 := Lib.hid hR7
    clear hb hR7
    have hng : (dI (rdX vs ax)).length = (rdX vs ax).length := dI_length _
    go_wp2_with fail
    refine awake22_any _ _ ?_
    intro w8 hb
    have U8 := Lib.hid (U7.out.trans (hb.mono U7.out.size))
    have N2 := Lib.hid (N2.out.below hb)
    have N3 := Lib.hid (N3.out.below hb)
    have G4 := Lib.hid (G4.out.below hb)
    have G5 := Lib.hid (G5.out.below hb)
    have R6 := Lib.hid (R6.out.below hb)
    have R7 := Lib.hid (R7.out.below hb)
    clear hb
    obtain ⟨E, hE⟩ : ∃ E, giE vs ax = E := ⟨_, rfl⟩
    rw [hE]
    have K : (E == E) = true := by simp
    clear hE
    go_wp2_with fail
    refine equalS_same a2 a3 (nmX vs ax) _ c2 c3 _ _ rfl (by omega) N2.out N3.out ?_
    intro w9 hd
    have hb := hd.below w8.heap.size
    have U9 := Lib.hid (U8.out.trans (hb.mono U8.out.size))
    have N2 := Lib.hid (N2.out.below hb)
    have N3 := Lib.hid (N3.out.below hb)
    have G4 := Lib.hid (G4.out.below hb)
    have G5 := Lib.hid (G5.out.below hb)
    have R6 := Lib.hid (R6.out.below hb)
    have R7 := Lib.hid (R7.out.below hb)
    clear hb hd
    go_wp2_with fail
    refine sameGroups_same a4 a5 (gsY vs ax) _ c4 c5 _ _ rfl (by omega) (gsY_row vs ax) G4.out G5.out ?_
    intro w10 hd
    have hb := hd.below w9.heap.size
    have U10 := Lib.hid (U9.out.trans (hb.mono U9.out.size))
    have G4 := Lib.hid (G4.out.below hb)
    have G5 := Lib.hid (G5.out.below hb)
    have R6 := Lib.hid (R6.out.below hb)
    have R7 := Lib.hid (R7.out.below hb)
    clear hb hd
    go_wp2_with fail
    refine equalI_same a6 a7 ((rdX vs ax).map fun (y : Nat) => (y : Int)) _ c6 c7 _ _ (by simp) (by omega) R6.out R7.out ?_
    intro w11 hd
    have hb := hd.below w10.heap.size
    have U11 := Lib.hid (U10.out.trans (hb.mono U10.out.size))
    have R6 := Lib.hid (R6.out.below hb)
    have R7 := Lib.hid (R7.out.below hb)
    clear hb hd
    go_wp2_with fail
    exact HR.out _ U11.out
end Go.Proofs.Ytlgjhjgdmomfoaa
