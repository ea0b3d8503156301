/- The walk of Run of package stock. -/
import Derived.Test.YteoniejpfmeibaaDoorSak
namespace Go.Proofs.YteoniejpfmeibaaDoor
open Go.RowKit Go.Shelf

set_option maxRecDepth 100000 in
set_option maxHeartbeats 4000000 in
theorem run_any (m : Int) (ao : Option Addr) (bs : List B5) (c : Nat) (ae : Option Addr) (vs : List V5) (ce : Nat) (w : World) (R : Ending → World → Prop) (hl : bs.length ≤ 9223372036854775807) (hn : ao = none → bs.length = 0 ∧ c = 0) (hc : CellsAt w ao (bC bs)) (hs : StrOk bs)
   (hvl : vs.length ≤ 9223372036854775807) (hv : CellsAt w ae (vC vs)) (hvw : WhoOk vs)
   (hR : ∀ a' c' w', Below w.heap.size w w' → BSl w' a' c' (rnB m bs vs) → Fresh w.heap.size a' → R (.returned (.tuple #[.agg #[.int .i64 (okM m (rnE m bs vs)), .slice a' (rnB m bs vs).length c'], .int .i64 (rnI m bs vs), .int .i64 (rnE m bs vs)])) w') :
    Calls Tryd.prog 40 #[.agg #[.int .i64 m, .slice ao bs.length c], .slice ae vs.length ce] w R := by
  have HR := Lib.hid hR
  have HC := Lib.hid hc
  have HV := Lib.hid hv
  have HN := Lib.hid hn
  clear hR hc hv hn
  obtain ⟨w1, E1', HB1, s1, X1⟩ := box_ex w #[.int .i64 m, .slice ao bs.length c] 24
  have E1 := Lib.hid E1'
  have hz1 : w1.heap.size = w.heap.size + 1 := by rw [← E1', World.size_alloc]
  obtain ⟨w2, E2', HB2, s2, X2⟩ := box_ex w1 #[.int .i64 0, .slice none 0 0] 24
  have E2 := Lib.hid E2'
  have HV2 : Hid (Below w.heap.size w w2) := HB1.out.trans (HB2.out.mono (by omega))
  rw [hz1] at X2
  have X1' := Lib.hid (heap_below X1.out HB2.out s1)
  have hz2 : w2.heap.size = w.heap.size + 2 := by rw [← E2', World.size_alloc]; omega
  have HC2 := Lib.hid (HC.out.below HV2.out)
  have HVV2 := Lib.hid (HV.out.below HV2.out)
  have a0 := cell_at X1'.out (j := 0) (v := .int .i64 m) rfl
  have a1 := cell_at X1'.out (j := 1) (v := .slice ao bs.length c) rfl
  have f0 := frozen_at X2.out 0
  have f1 := frozen_at X2.out 1
  have y0 := cell_at X2.out (j := 0) (v := .int .i64 0) rfl
  have y1 := cell_at X2.out (j := 1) (v := .slice none 0 0) rfl
  rw [← E2', ← E1'] at a0 a1 f0 f1 y0 y1
  have HZ2 := Lib.hid hz2
  clear E1' E2' hz1 hz2
  have HZE : Hid (∀ w', Below w.heap.size w w' → ∀ (i e : Int), (rnI m bs vs : Int) = i → rnE m bs vs = e → e ≠ 0 → R (.returned (.tuple #[.agg #[.int .i64 0, .slice none 0 0], .int .i64 i, .int .i64 e])) w') := by
    intro w' hb i e hi he h0
    have hB : rnB m bs vs = [] := by unfold rnB; rw [if_neg (by omega)]
    have h := HR.out none 0 w' hb (by rw [hB]; exact BSl.nil _) (Fresh.nil _)
    rw [hi, he, hB, okM, if_neg h0] at h
    exact h
  by_cases hE : chkS m bs = 0
  · have HE := Lib.hid hE
    have hlen := chkS_len hE
    have hRS := (chkS_zero _ _).1 hE
    have HRS := Lib.hid hRS
    by_cases h4 : 4096 < vs.length
    · have h4' : decide ((4096 : Int) < (vs.length : Int)) = true := by rw [decide_eq_true_eq]; omega
      have hI : Hid ((rnI m bs vs : Int) = 0) := by unfold Hid rnI; rw [if_pos hE, if_pos h4]; rfl
      have hEE : Hid (rnE m bs vs = 5) := by unfold Hid rnE; rw [if_pos hE, if_pos h4]
      clear hE hRS
      go_enter Tryd.func40, Tryd.ntmps40
      go_wp2_with fail
      rw [E1.out, E2.out]
      refine of_any m ao bs c _ _ hl HN.out HC2.out hs ?_ (fun h => absurd HE.out h)
      intro _ C v w3 hb3 hcp3
      have HB3 : Hid (Below w.heap.size w w3) := HV2.out.trans (hb3.mono HV2.out.size)
      have X3 := Lib.hid (heap_below X2.out hb3 (by have := HZ2.out; omega))
      obtain ⟨a2, c2, rfl, r1, r2, r3, r4⟩ := hcp3.read
      have HROW := Lib.hid hcp3.2.2
      have s3 := hb3.size
      have HC3 : Hid (BSl w3 a2 c2 bs) := ⟨r1, r2⟩
      have HVV3 := Lib.hid (HVV2.out.below hb3)
      clear hb3 hcp3 r1 r2 a0 a1 f0 f1 y0 y1
      have f0 := frozen_at X3.out 0
      have f1 := frozen_at X3.out 1
      have y0 := cell_at X3.out (j := 0) (v := .int .i64 0) rfl
      have y1 := cell_at X3.out (j := 1) (v := .slice none 0 0) rfl
      go_wp2_with fail
      refine bodyPost_ret (v := .tuple #[.agg #[.int .i64 0, .slice none 0 0], .int .i64 0, .int .i64 5]) (by simp [results, Tryd.results40, go_sem, y0, y1]) rfl ?_
      exact HZE.out _ ((HB3.out.setCell (p := ⟨w.heap.size + 1, 0, none⟩) (by show w.heap.size ≤ w.heap.size + 1; omega) _).setCell (p := ⟨w.heap.size + 1, 1, none⟩) (by show w.heap.size ≤ w.heap.size + 1; omega) _) 0 5 hI.out hEE.out (by omega)
    · have h4' : decide ((4096 : Int) < (vs.length : Int)) = false := by rw [decide_eq_false_iff_not]; omega
      have hI : Hid (rnI m bs vs = (rnR2 (rnX m bs vs)).1) := by unfold Hid rnI; rw [if_pos hE, if_neg h4]
      have hEE : Hid (rnE m bs vs = (rnR2 (rnX m bs vs)).2) := by unfold Hid rnE; rw [if_pos hE, if_neg h4]
      clear hE hRS
      go_enter Tryd.func40, Tryd.ntmps40
      go_wp2_with fail
      rw [E1.out, E2.out]
      refine of_any m ao bs c _ _ hl HN.out HC2.out hs ?_ (fun h => absurd HE.out h)
      intro _ C v w3 hb3 hcp3
      have HB3 : Hid (Below w.heap.size w w3) := HV2.out.trans (hb3.mono HV2.out.size)
      have X3 := Lib.hid (heap_below X2.out hb3 (by have := HZ2.out; omega))
      obtain ⟨a2, c2, rfl, r1, r2, r3, r4⟩ := hcp3.read
      have HROW := Lib.hid hcp3.2.2
      have s3 := hb3.size
      have HC3 : Hid (BSl w3 a2 c2 bs) := ⟨r1, r2⟩
      have HVV3 := Lib.hid (HVV2.out.below hb3)
      clear hb3 hcp3 r1 r2 a0 a1 f0 f1 y0 y1
      have f0 := frozen_at X3.out 0
      have f1 := frozen_at X3.out 1
      have y0 := cell_at X3.out (j := 0) (v := .int .i64 0) rfl
      have y1 := cell_at X3.out (j := 1) (v := .slice none 0 0) rfl
      obtain ⟨w4, E4', HB4, s4, X4⟩ := box_ex w3 #[.int .i64 m, .slice a2 bs.length c2] 24
      have E4 := Lib.hid E4'
      have HV4 : Hid (Below w.heap.size w w4) := HB3.out.trans (HB4.out.mono HB3.out.size)
      have X4r := Lib.hid (heap_below X3.out HB4.out (by have := HZ2.out; omega))
      have HF4 : Hid (Fresh (w.heap.size + 2) a2) := ownsRow_fresh HROW.out (by have := HZ2.out; omega)
      have HC4 := Lib.hid (HC3.out.below HB4.out)
      have HVV4 := Lib.hid (HVV3.out.below HB4.out)
      have hz := HZ2.out
      clear E4'
      go_wp2_with fail
      rw [E4.out]
      clear f0 f1 y0 y1
      go_loopw [33] (fun i wr => ∃ (k : Nat) (s : List B5) (a' : Option Addr) (c' : Nat), k ≤ vs.length ∧ i = .int .i64 k ∧ Hid (Below w.heap.size w wr) ∧ w4.heap.size ≤ wr.heap.size ∧ Hid (wr.heap[w3.heap.size]? = some (.cells #[.int .i64 m, .slice a' s.length c'] 24 (0, 0))) ∧ Hid (wr.heap[w.heap.size + 1]? = some (.cells #[.int .i64 0, .slice none 0 0] 24 (0, 0))) ∧
        Hid (BSl wr a' c' s) ∧ Hid (Fresh (w.heap.size + 2) a') ∧ Hid (Kin m bs s) ∧ Hid (CellsAt wr ae (vC vs)) ∧ Hid (loopE (rnF m vs) (vs.length - k) k s = rnX m bs vs)) (fun i _ => vs.length - (intOf i).toNat)
      case atStart => exact ⟨0, bs, a2, c2, Nat.zero_le _, rfl, HV4, Nat.le_refl _, X4, X4r, HC4, HF4, Kin.refl HRS.out, HVV4, rfl⟩
      case round =>
        obtain ⟨k, s, a', c', hk, rfl, HB, sr, XO, XZ, HS, HF, HK, HVr, hLp⟩ := hrel
        have hsl : s.length ≤ 256 := HK.out.right.2.1
        have hso : StrOk s := HK.out.right.strOk
        have o0 := cell_at XO.out (j := 0) (v := .int .i64 m) rfl
        have o1 := cell_at XO.out (j := 1) (v := .slice a' s.length c') rfl
        by_cases hlt : k < vs.length
        · have hwk := hvw k hlt
          obtain ⟨b, o, rfl, hbb, hcell⟩ := HVr.out.evs (by omega)
          obtain ⟨e0, e1, e2, e3⟩ := hcell k hlt
          have hF : rnF m vs k s = if dnE m s (vAt vs k) = 0 then .inl (dnB m s (vAt vs k)) else .inr (k, dnE m s (vAt vs k)) := rfl
          obtain ⟨⟨ek, ew, el, ex⟩, hev⟩ : ∃ v, vAt vs k = v := ⟨_, rfl⟩
          rw [hev] at e0 e1 e2 e3 hwk hF
          simp only at e0 e1 e2 e3 hwk
          have HFF := Lib.hid hF
          obtain ⟨w5, E5', HB5, s5, X5⟩ := box_ex wr #[.int .i64 ek, .string ew, .int .i64 el, .int .i64 ex] 106
          have E5 := Lib.hid E5'
          have XO5 := Lib.hid (heap_below XO.out HB5.out (by omega))
          have XZ5 := Lib.hid (heap_below XZ.out HB5.out (by omega))
          have HB5' : Hid (Below w.heap.size w w5) := HB.out.trans (HB5.out.mono HB.out.size)
          have HS5 := Lib.hid (HS.out.below HB5.out)
          have q0 := cell_at X5.out (j := 0) (v := .int .i64 ek) rfl
          have q1 := cell_at X5.out (j := 1) (v := .string ew) rfl
          have q2 := cell_at X5.out (j := 2) (v := .int .i64 el) rfl
          have q3 := cell_at X5.out (j := 3) (v := .int .i64 ex) rfl
          have p0 := cell_at XO5.out (j := 0) (v := .int .i64 m) rfl
          have p1 := cell_at XO5.out (j := 1) (v := .slice a' s.length c') rfl
          rw [← E5.out] at q0 q1 q2 q3 p0 p1
          clear hcell hev hF E5' o0 o1
          by_cases hd : dnE m s ⟨ek, ew, el, ex⟩ = 0
          · have HD := Lib.hid hd
            have hst : Hid (rnF m vs k s = .inl (dnB m s ⟨ek, ew, el, ex⟩)) := by unfold Hid; rw [HFF.out, if_pos hd]
            have hkin := Lib.hid (HK.out.trans (dn_kin hd))
            have hM : Hid (okM m 0 = m) := rfl
            clear hd
            go_wp2_with fail
            rw [E5.out]
            refine done_any m a' s c' ek el ex ew _ _ (by omega) HS5.out.2 HS5.out.1 hso hwk ?_
            rw [HD.out, hM.out]
            generalize dnB m s ⟨ek, ew, el, ex⟩ = B at hst hkin ⊢
            intro a7 c7 w7 hb7 hs7 hf7
            have s7 := hb7.size
            have XO7 := Lib.hid (heap_below XO5.out hb7 (by omega))
            have XZ7 := Lib.hid (heap_below XZ5.out hb7 (by omega))
            have HB7 : Hid (Below w.heap.size w w7) := HB5'.out.trans (hb7.mono HB5'.out.size)
            have HV7 := Lib.hid ((HVr.out.below HB5.out).below hb7)
            have HS7 := Lib.hid hs7
            have HF7 : Hid (Fresh w5.heap.size a7) := hf7
            obtain ⟨w8, E8', HB8, s8, X8⟩ := box_ex w7 #[.int .i64 m, .slice a7 B.length c7] 24
            have E8 := Lib.hid E8'
            have XO8 := Lib.hid (heap_below XO7.out HB8.out (by omega))
            have XZ8 := Lib.hid (heap_below XZ7.out HB8.out (by omega))
            have HB8' : Hid (Below w.heap.size w w8) := HB7.out.trans (HB8.out.mono HB7.out.size)
            have HV8 := Lib.hid (HV7.out.below HB8.out)
            have HS8 := Lib.hid (HS7.out.below HB8.out)
            clear hb7 hs7 hf7 E8' q0 q1 q2 q3 p0 p1
            have n0 := cell_at X8.out (j := 0) (v := .int .i64 m) rfl
            have n1 := cell_at X8.out (j := 1) (v := .slice a7 B.length c7) rfl
            have o0 := cell_at XO8.out (j := 0) (v := .int .i64 m) rfl
            have o1 := cell_at XO8.out (j := 1) (v := .slice a' s.length c') rfl
            have of0 := frozen_at XO8.out 0
            have of1 := frozen_at XO8.out 1
            rw [← E8.out] at n0 n1 o0 o1 of0 of1
            go_wp2_with fail
            rw [E8.out]
            have hS := (HS8.out.set HF7.out (p := ⟨w3.heap.size, 0, none⟩) (by show w3.heap.size < w5.heap.size; omega) (.int .i64 m)).set HF7.out (p := ⟨w3.heap.size, 1, none⟩) (by show w3.heap.size < w5.heap.size; omega) (.slice a7 B.length c7)
            have hne : w3.heap.size ≠ b := by have := HVV4.out; obtain ⟨b', o', e', hb', _⟩ := HVV3.out.evs (by omega); cases e'; omega
            refine ⟨⟨k + 1, B, a7, c7, by omega, by go_num, (HB8'.out.setCell (p := ⟨w3.heap.size, 0, none⟩) (by show w.heap.size ≤ w3.heap.size; omega) (.int .i64 m)).setCell (p := ⟨w3.heap.size, 1, none⟩) (by show w.heap.size ≤ w3.heap.size; omega) (.slice a7 B.length c7), by simp; omega, box_set2 XO8.out, ?_, hS, HF7.out.mono (by omega), hkin, (HV8.out.setOther (a := ⟨w3.heap.size, 0, none⟩) hne _).setOther (a := ⟨w3.heap.size, 1, none⟩) hne _, loopE_step hLp hlt hst.out⟩, by simp [intOf]; omega⟩
            exact (Below.heap_setCell _ _ _ _ (by show w.heap.size + 1 ≠ w3.heap.size; omega)).trans ((Below.heap_setCell _ _ _ _ (by show w.heap.size + 1 ≠ w3.heap.size; omega)).trans XZ8.out)
          · have hst : Hid (rnX m bs vs = .inr (k, dnE m s ⟨ek, ew, el, ex⟩)) := loopE_hit hLp hlt (by rw [HFF.out, if_neg hd])
            have HD := Lib.hid hd
            have hd1 : (dnE m s ⟨ek, ew, el, ex⟩ == 0) = false := by simpa using hd
            have hd2 : (dnE m s ⟨ek, ew, el, ex⟩ != 0) = true := by simpa using hd
            clear hd
            go_wp2_with fail
            rw [E5.out]
            refine done_any m a' s c' ek el ex ew _ _ (by omega) HS5.out.2 HS5.out.1 hso hwk ?_
            intro a7 c7 w7 hb7 hs7 hf7
            generalize okM m (dnE m s ⟨ek, ew, el, ex⟩) = M
            generalize (dnB m s ⟨ek, ew, el, ex⟩).length = BL
            have s7 := hb7.size
            have XZ7 := Lib.hid (heap_below XZ5.out hb7 (by omega))
            have HB7 : Hid (Below w.heap.size w w7) := HB5'.out.trans (hb7.mono HB5'.out.size)
            obtain ⟨w8, E8', HB8, s8, X8⟩ := box_ex w7 #[.int .i64 M, .slice a7 BL c7] 24
            have E8 := Lib.hid E8'
            have XZ8 := Lib.hid (heap_below XZ7.out HB8.out (by omega))
            have HB8' : Hid (Below w.heap.size w w8) := HB7.out.trans (HB8.out.mono HB7.out.size)
            clear hb7 hs7 hf7 E8' q0 q1 q2 q3 p0 p1
            have f0 := frozen_at XZ8.out 0
            have f1 := frozen_at XZ8.out 1
            have y0 := cell_at XZ8.out (j := 0) (v := .int .i64 0) rfl
            have y1 := cell_at XZ8.out (j := 1) (v := .slice none 0 0) rfl
            rw [← E8.out] at f0 f1 y0 y1
            go_wp2_with fail
            rw [E8.out] at y0 y1 ⊢
            refine bodyPost_ret (v := .tuple #[.agg #[.int .i64 0, .slice none 0 0], .int .i64 k, .int .i64 (dnE m s ⟨ek, ew, el, ex⟩)]) (by simp [results, Tryd.results40, go_sem, y0, y1]) rfl ?_
            exact HZE.out _ ((HB8'.out.setCell (p := ⟨w.heap.size + 1, 0, none⟩) (by show w.heap.size ≤ w.heap.size + 1; omega) _).setCell (p := ⟨w.heap.size + 1, 1, none⟩) (by show w.heap.size ≤ w.heap.size + 1; omega) _) k _ (by rw [hI.out, hst.out]; rfl) (by rw [hEE.out, hst.out]; rfl) HD.out
        · obtain rfl : k = vs.length := by omega
          have hr : Hid (rnX m bs vs = .inl s) := loopE_done hLp hlt
          have HE0 : Hid (rnE m bs vs = 0) := by unfold Hid; rw [hEE.out, hr.out]; rfl
          have HI0 : Hid (rnI m bs vs = 0) := by unfold Hid; rw [hI.out, hr.out]; rfl
          have HB0 : Hid (rnB m bs vs = s) := by unfold Hid rnB; rw [if_pos HE0.out, hr.out]; rfl
          have f0 := frozen_at XZ.out 0
          have f1 := frozen_at XZ.out 1
          have y0 := cell_at XZ.out (j := 0) (v := .int .i64 0) rfl
          have y1 := cell_at XZ.out (j := 1) (v := .slice none 0 0) rfl
          go_wp2_with fail
          refine bodyPost_ret (v := .tuple #[.agg #[.int .i64 m, .slice a' s.length c'], .int .i64 0, .int .i64 0]) (by simp [results, Tryd.results40, go_sem, y0, y1]) rfl ?_
          have hS := (HS.out.set HF.out (p := ⟨w.heap.size + 1, 0, none⟩) (by show w.heap.size + 1 < w.heap.size + 2; omega) (.int .i64 m)).set HF.out (p := ⟨w.heap.size + 1, 1, none⟩) (by show w.heap.size + 1 < w.heap.size + 2; omega) (.slice a' s.length c')
          have HR' := HR.out a' c' _ ((HB.out.setCell (p := ⟨w.heap.size + 1, 0, none⟩) (by show w.heap.size ≤ w.heap.size + 1; omega) (.int .i64 m)).setCell (p := ⟨w.heap.size + 1, 1, none⟩) (by show w.heap.size ≤ w.heap.size + 1; omega) (.slice a' s.length c')) (by rw [HB0.out]; exact hS) (HF.out.mono (by omega))
          rw [HE0.out, HI0.out, HB0.out, okM, if_pos rfl] at HR'
          exact HR'
  · have HE := Lib.hid hE
    have hE' : (chkS m bs == 0) = false := by simpa using hE
    have hE'' : (chkS m bs != 0) = true := by simpa using hE
    have hI : Hid ((rnI m bs vs : Int) = 0) := by unfold Hid rnI; rw [if_neg hE]; rfl
    have hEE : Hid (rnE m bs vs = chkS m bs) := by unfold Hid rnE; rw [if_neg hE]
    clear hE
    go_enter Tryd.func40, Tryd.ntmps40
    go_wp2_with fail
    rw [E1.out, E2.out]
    refine of_any m ao bs c _ _ hl HN.out HC2.out hs (fun h => absurd h HE.out) ?_
    intro _ w3 hb3
    have HB3 : Hid (Below w.heap.size w w3) := HV2.out.trans (hb3.mono HV2.out.size)
    have X3 := Lib.hid (heap_below X2.out hb3 (by have := HZ2.out; omega))
    clear hb3 a0 a1 f0 f1 y0 y1
    have f0 := frozen_at X3.out 0
    have f1 := frozen_at X3.out 1
    have y0 := cell_at X3.out (j := 0) (v := .int .i64 0) rfl
    have y1 := cell_at X3.out (j := 1) (v := .slice none 0 0) rfl
    go_wp2_with fail
    refine bodyPost_ret (v := .tuple #[.agg #[.int .i64 0, .slice none 0 0], .int .i64 0, .int .i64 (chkS m bs)]) (by simp [results, Tryd.results40, go_sem, y0, y1]) rfl ?_
    exact HZE.out _ ((HB3.out.setCell (p := ⟨w.heap.size + 1, 0, none⟩) (by show w.heap.size ≤ w.heap.size + 1; omega) _).setCell (p := ⟨w.heap.size + 1, 1, none⟩) (by show w.heap.size ≤ w.heap.size + 1; omega) _) 0 _ hI.out hEE.out HE.out
end Go.Proofs.YteoniejpfmeibaaDoor
