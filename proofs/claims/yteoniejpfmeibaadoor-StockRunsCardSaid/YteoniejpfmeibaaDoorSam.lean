/- The walk of Run of the reference. -/
import Derived.Deep.AppendLies
import Derived.Deep.RegionLaw
import Derived.Deep.Upon
import Derived.Test.YteoniejpfmeibaaDoorSal
import Derived.Test.YteoniejpfmeibaaDoorSu
namespace Go.Proofs.YteoniejpfmeibaaDoor
open Go.RowKit Go.Shelf

theorem step_nothing {P : Program} {w : World} {ops : Array Oper} {o : Oper} {a : Act} {K : Act → World → Prop} {Q : Exit → Act → World → Prop} {E : Prop} (hgd : o.guard = none) (s x : Operand) (t : TypeId)
    (ho : o.op = .call { callee := .builtin .append, args := #[s, x], argTypes := #[t, t] }) (e : TypeId) (i : TypeInfo) (ht : P.underlying t = some (.slice e)) (hi : P.info? e = some i)
    (b : Option Addr) (n c : Nat) (hle : n ≤ c) (hs : a.eval s = .slice b n c) (a2 : Option Addr) (c2 : Nat) (hx : a.eval x = .slice a2 0 c2) (h : K (a.put o.dst (.slice b n c)) w) :
    if Region.wanted o (yielded ops a.tmps) = true then Oper.wp P o a w K Q else E := by
  have hw : Region.wanted o (yielded ops a.tmps) = true := by simp [Region.wanted, hgd]
  rw [if_pos hw]
  have hr : (Builtin.append_ #[t, t] o.type #[.slice b n c, .slice a2 0 c2]).run P w = .ok (.slice b n c) w := by
    refine run_append_nothing w t t o.type e i ht hi b n c hle _ ?_
    cases a2 with
    | some ad => exact Src.ofSlice w ht ad 0 c2 [] (by simp) (by simp) (by simp)
    | none =>
      exact Src.ofNil w ht c2
  unfold Oper.wp execOp
  simp only [ho, resolve, invoke, builtin, Sem.run_bind, Sem.run_pure, Result.andThen_ok, List.map_toArray, List.map_cons, List.map_nil, hs, hx, hr]
  exact h

set_option maxRecDepth 100000 in
set_option maxHeartbeats 4000000 in
theorem rrun_any (m : Int) (ao : Option Addr) (bs : List B5) (c : Nat) (ae : Option Addr) (vs : List V5) (ce : Nat) (w : World) (R : Ending → World → Prop) (hl : bs.length ≤ 9223372036854775807) (h8 : chkS m bs = 0 → bs.length ≤ 8) (hc : CellsAt w ao (bC bs)) (hs : StrOk bs)
   (hvl : vs.length ≤ 9223372036854775807) (hv : CellsAt w ae (vC vs)) (hvw : WhoOk vs)
   (hR : ∀ a' c' w', Below w.heap.size w w' → BSl w' a' c' (rnB m bs vs) → Fresh w.heap.size a' → R (.returned (.tuple #[.agg #[.int .i64 (okM m (rnE m bs vs)), .slice a' (rnB m bs vs).length c'], .int .i64 (rnI m bs vs), .int .i64 (rnE m bs vs)])) w') :
    Calls Tryd.prog 41 #[.agg #[.int .i64 m, .slice ao bs.length c], .slice ae vs.length ce] w R := by
  have HR := Lib.hid hR
  have HC := Lib.hid hc
  have HV := Lib.hid hv
  clear hR hc hv
  obtain ⟨w1, E1', HB1, s1, X1⟩ := box_ex w #[.int .i64 m, .slice ao bs.length c] 28
  have E1 := Lib.hid E1'
  have hz1 : w1.heap.size = w.heap.size + 1 := by rw [← E1', World.size_alloc]
  obtain ⟨w2, E2', HB2, s2, X2⟩ := box_ex w1 #[.int .i64 0, .slice none 0 0] 28
  have E2 := Lib.hid E2'
  have HV2 : Hid (Below w.heap.size w w2) := HB1.out.trans (HB2.out.mono (by omega))
  rw [hz1] at X2
  have X1' := Lib.hid (heap_below X1.out HB2.out s1)
  have hz2 : w2.heap.size = w.heap.size + 2 := by rw [← E2', World.size_alloc]; omega
  have HC2 := Lib.hid (HC.out.below HV2.out)
  have HVV2 := Lib.hid (HV.out.below HV2.out)
  have a0 := cell_at X1'.out (j := 0) (v := .int .i64 m) rfl
  have a1 := cell_at X1'.out (j := 1) (v := .slice ao bs.length c) rfl
  have f0 := frozen_at X2.out 0
  have f1 := frozen_at X2.out 1
  have y0 := cell_at X2.out (j := 0) (v := .int .i64 0) rfl
  have y1 := cell_at X2.out (j := 1) (v := .slice none 0 0) rfl
  rw [← E2', ← E1'] at a0 a1 f0 f1 y0 y1
  have HZ2 := Lib.hid hz2
  clear E1' E2' hz1 hz2
  have HZE : Hid (∀ w', Below w.heap.size w w' → ∀ (i e : Int), (rnI m bs vs : Int) = i → rnE m bs vs = e → e ≠ 0 → R (.returned (.tuple #[.agg #[.int .i64 0, .slice none 0 0], .int .i64 i, .int .i64 e])) w') := by
    intro w' hb i e hi he h0
    have hB : rnB m bs vs = [] := by unfold rnB; rw [if_neg (by omega)]
    have h := HR.out none 0 w' hb (by rw [hB]; exact BSl.nil _) (Fresh.nil _)
    rw [hi, he, hB, okM, if_neg h0] at h
    exact h
  by_cases hE : chkS m bs = 0
  · have HE := Lib.hid hE
    have hlen := chkS_len hE
    have hRS := (chkS_zero _ _).1 hE
    have HRS := Lib.hid hRS
    have hE' := hE
    by_cases h4 : 4096 < vs.length
    · have h4' : decide ((4096 : Int) < (vs.length : Int)) = true := by rw [decide_eq_true_eq]; omega
      have hI : Hid ((rnI m bs vs : Int) = 0) := by unfold Hid rnI; rw [if_pos hE, if_pos h4]; rfl
      have hEE : Hid (rnE m bs vs = 5) := by unfold Hid rnE; rw [if_pos hE, if_pos h4]
      clear hE hRS
      go_enter Tryd.func41, Tryd.ntmps41
      go_wp2_with fail
      rw [E1.out, E2.out]
      refine rcheck51_any m ao bs c _ _ hl HC2.out hs ?_
      rw [HE.out]
      intro w3 hb3
      have HB3 : Hid (Below w.heap.size w w3) := HV2.out.trans (hb3.mono HV2.out.size)
      have X3 := Lib.hid (heap_below X2.out hb3 (by have := HZ2.out; omega))
      have XS3 := Lib.hid (heap_below X1'.out hb3 (by have := HZ2.out; omega))
      have s3 := hb3.size
      have HC3 := Lib.hid (HC2.out.below hb3)
      have HVV3 := Lib.hid (HVV2.out.below hb3)
      clear hb3 a0 a1 f0 f1 y0 y1
      have f0 := frozen_at X3.out 0
      have f1 := frozen_at X3.out 1
      have y0 := cell_at X3.out (j := 0) (v := .int .i64 0) rfl
      have y1 := cell_at X3.out (j := 1) (v := .slice none 0 0) rfl
      go_wp2_with fail
      refine bodyPost_ret (v := .tuple #[.agg #[.int .i64 0, .slice none 0 0], .int .i64 0, .int .i64 5]) (by simp [results, Tryd.results41, go_sem, y0, y1]) rfl ?_
      exact HZE.out _ ((HB3.out.setCell (p := ⟨w.heap.size + 1, 0, none⟩) (by show w.heap.size ≤ w.heap.size + 1; omega) _).setCell (p := ⟨w.heap.size + 1, 1, none⟩) (by show w.heap.size ≤ w.heap.size + 1; omega) _) 0 5 hI.out hEE.out (by omega)
    · have h4' : decide ((4096 : Int) < (vs.length : Int)) = false := by rw [decide_eq_false_iff_not]; omega
      have hI : Hid (rnI m bs vs = (rnR2 (rnX m bs vs)).1) := by unfold Hid rnI; rw [if_pos hE, if_neg h4]
      have hEE : Hid (rnE m bs vs = (rnR2 (rnX m bs vs)).2) := by unfold Hid rnE; rw [if_pos hE, if_neg h4]
      clear hE hRS
      go_enter Tryd.func41, Tryd.ntmps41
      go_wp2_with fail
      rw [E1.out, E2.out]
      refine rcheck51_any m ao bs c _ _ hl HC2.out hs ?_
      rw [HE.out]
      intro w3 hb3
      have HB3 : Hid (Below w.heap.size w w3) := HV2.out.trans (hb3.mono HV2.out.size)
      have X3 := Lib.hid (heap_below X2.out hb3 (by have := HZ2.out; omega))
      have XS3 := Lib.hid (heap_below X1'.out hb3 (by have := HZ2.out; omega))
      have s3 := hb3.size
      have HC3 := Lib.hid (HC2.out.below hb3)
      have HVV3 := Lib.hid (HVV2.out.below hb3)
      clear hb3 a0 a1 f0 f1 y0 y1
      have f0 := frozen_at X3.out 0
      have f1 := frozen_at X3.out 1
      have y0 := cell_at X3.out (j := 0) (v := .int .i64 0) rfl
      have y1 := cell_at X3.out (j := 1) (v := .slice none 0 0) rfl
      have hz := HZ2.out
      have h8' := h8 hE'
      go_wp2_with fail
      clear f0 f1 y0 y1
      go_loopw [8] (fun i wr => ∃ (k : Nat) (s : List B5) (a' : Option Addr) (c' : Nat), k ≤ vs.length ∧ i = .int .i64 k ∧ Hid (Below w.heap.size w wr) ∧ w3.heap.size ≤ wr.heap.size ∧ Hid (wr.heap[w.heap.size]? = some (.cells #[.int .i64 m, .slice a' s.length c'] 28 (0, 0))) ∧ Hid (wr.heap[w.heap.size + 1]? = some (.cells #[.int .i64 0, .slice none 0 0] 28 (0, 0))) ∧
        Hid (CellsAt wr a' (bC s)) ∧ Hid (Kin m bs s) ∧ Hid (CellsAt wr ae (vC vs)) ∧ Hid (loopE (rnF m vs) (vs.length - k) k s = rnX m bs vs)) (fun i _ => vs.length - (intOf i).toNat)
      case atStart => exact ⟨0, bs, ao, c, Nat.zero_le _, rfl, HB3, Nat.le_refl _, XS3, X3, HC3, Kin.refl HRS.out, HVV3, rfl⟩
      case round =>
        obtain ⟨k, s, a', c', hk, rfl, HB, sr, XO, XZ, HS, HK, HVr, hLp⟩ := hrel
        have hsl : s.length ≤ 8 := by have := HK.out.len; omega
        have hso : StrOk s := HK.out.right.strOk
        have o0 := cell_at XO.out (j := 0) (v := .int .i64 m) rfl
        have o1 := cell_at XO.out (j := 1) (v := .slice a' s.length c') rfl
        have hl1 : w.heap.size < wr.heap.size := by omega
        have hl2 : w.heap.size + 1 < wr.heap.size := by omega
        by_cases hlt : k < vs.length
        · have hwk := hvw k hlt
          obtain ⟨b, o, rfl, hbb, hcell⟩ := HVr.out.evs (by omega)
          obtain ⟨e0, e1, e2, e3⟩ := hcell k hlt
          have hF : rnF m vs k s = if dnE m s (vAt vs k) = 0 then .inl (dnB m s (vAt vs k)) else .inr (k, dnE m s (vAt vs k)) := rfl
          obtain ⟨⟨ek, ew, el, ex⟩, hev⟩ : ∃ v, vAt vs k = v := ⟨_, rfl⟩
          rw [hev] at e0 e1 e2 e3 hwk hF
          simp only at e0 e1 e2 e3 hwk
          have HFF := Lib.hid hF
          obtain ⟨E, hE⟩ : ∃ E, Hid (dnE m s ⟨ek, ew, el, ex⟩ = E) := ⟨_, rfl⟩
          obtain ⟨B, hB⟩ : ∃ B, Hid (dnB m s ⟨ek, ew, el, ex⟩ = B) := ⟨_, rfl⟩
          obtain ⟨M, hM⟩ : ∃ M, Hid (okM m E = M) := ⟨_, rfl⟩
          clear hcell hev hF
          go_upto_region 9 with fail
          go_cut [9, 10] (fun s9 s10 wx => ∃ (X : Nat) (a7 : Option Addr) (c7 : Nat), s9 = .pointer (some ⟨X, 0, none⟩) ∧ s10 = .int .i64 E ∧ wr.heap.size ≤ X ∧ Hid (Below wr.heap.size wr wx) ∧ Hid (wx.heap[X]? = some (.cells #[.int .i64 M, .slice a7 B.length c7] 28 (0, 0))) ∧ Hid (BSl wx a7 c7 B) ∧ Hid (Fresh wr.heap.size a7))
          case first =>
            go_region_with ((go_at_call 62; refine rdone_any m a' s c' ek el ex ew _ _ (by omega) (fun _ => hsl) (HS.out.below (by first | exact (Below.refl _ _).drew | exact ((Below.refl _ _).alloc (Nat.le_refl _) _).drew)) hso hwk ?_; rw [hE.out, hB.out, hM.out]; intro a7 c7 w7 hb7 hs7 hf7; have U7 : Hid (Below wr.heap.size wr w7) := (by first | exact ((Below.refl wr.heap.size wr).drew).trans (hb7.mono (Nat.le_refl _)) | exact (((Below.refl wr.heap.size wr).alloc (Nat.le_refl _) _).drew).trans (hb7.mono (by simp))); have HF7 : Hid (Fresh wr.heap.size a7) := (Fresh.mono hf7 (by first | exact Nat.le_refl _ | simp)); have HS7 := Lib.hid hs7; (first | (have XB : Hid (w7.heap[wr.heap.size]? = some (.cells #[.int .i64 0, .slice none 0 0] 28 (0, 0))) := (hb7.block wr.heap.size (by simp)).trans (World.alloc_heap_new wr _); have HFB : Hid (Fresh (wr.heap.size + 1) a7) := Fresh.mono hf7 (by simp); have xf0 := frozen_at XB.out 0; have xf1 := frozen_at XB.out 1; have xv0 := cell_at XB.out (j := 0) (v := .int .i64 0) rfl; have xv1 := cell_at XB.out (j := 1) (v := .slice none 0 0) rfl) | (have XB : Hid True := trivial; have HFB : Hid True := trivial)); clear hb7 hs7 hf7))
            all_goals
              go_wp2_with fail
              go_meet
              first
                | exact ⟨w7.heap.size, a7, c7, rfl, rfl, U7.out.size, U7.out.alloc U7.out.size _, World.alloc_heap_new _ _, HS7.out.below ((Below.refl _ _).alloc (Nat.le_refl _) _), HF7.out⟩
                | exact ⟨wr.heap.size, a7, c7, rfl, rfl, Nat.le_refl _, (U7.out.setCell (p := ⟨wr.heap.size, 0, none⟩) (Nat.le_refl _) _).setCell (p := ⟨wr.heap.size, 1, none⟩) (Nat.le_refl _) _, box_set2 XB.out, (HS7.out.set HFB.out (p := ⟨wr.heap.size, 0, none⟩) (by show wr.heap.size < wr.heap.size + 1; omega) _).set HFB.out (p := ⟨wr.heap.size, 1, none⟩) (by show wr.heap.size < wr.heap.size + 1; omega) _, HF7.out⟩
          case rest =>
            obtain ⟨X, a7, c7, rfl, rfl, hX, HBx, HX, HS7, HF7⟩ := hcut
            have sx := HBx.out.size
            have XO7 := Lib.hid (heap_below XO.out HBx.out hl1)
            have XZ7 := Lib.hid (heap_below XZ.out HBx.out hl2)
            have HB7 : Hid (Below w.heap.size w wc) := HB.out.trans (HBx.out.mono HB.out.size)
            have HV7 := Lib.hid (HVr.out.below HBx.out)
            clear o0 o1 e0 e1 e2 e3
            by_cases hd : E = 0
            · subst hd
              obtain rfl : M = m := hM.out.symm
              have hst : Hid (rnF M vs k s = .inl B) := by unfold Hid; rw [HFF.out, if_pos hE.out, hB.out]
              have hkin : Hid (Kin M bs B) := by have h := HK.out.trans (dn_kin hE.out); rw [hB.out] at h; exact h
              have n0 := cell_at HX.out (j := 0) (v := .int .i64 M) rfl
              have n1 := cell_at HX.out (j := 1) (v := .slice a7 B.length c7) rfl
              have o0 := cell_at XO7.out (j := 0) (v := .int .i64 M) rfl
              have o1 := cell_at XO7.out (j := 1) (v := .slice a' s.length c') rfl
              have of0 := frozen_at XO7.out 0
              have of1 := frozen_at XO7.out 1
              go_wp2_with fail
              have hS := (HS7.out.set HF7.out (p := ⟨w.heap.size, 0, none⟩) (by show w.heap.size < wr.heap.size; omega) (.int .i64 M)).set HF7.out (p := ⟨w.heap.size, 1, none⟩) (by show w.heap.size < wr.heap.size; omega) (.slice a7 B.length c7)
              have hne : w.heap.size ≠ b := by obtain ⟨b', o', e', hb', _⟩ := HV.out.evs (by omega); cases e'; omega
              refine ⟨⟨k + 1, B, a7, c7, by omega, by go_num, (HB7.out.setCell (p := ⟨w.heap.size, 0, none⟩) (Nat.le_refl _) (.int .i64 M)).setCell (p := ⟨w.heap.size, 1, none⟩) (Nat.le_refl _) (.slice a7 B.length c7), by simp; omega, box_set2 XO7.out, ?_, hS.1, hkin, (HV7.out.setOther (a := ⟨w.heap.size, 0, none⟩) hne _).setOther (a := ⟨w.heap.size, 1, none⟩) hne _, loopE_step hLp hlt hst.out⟩, by simp [intOf]; omega⟩
              exact (Below.heap_setCell _ _ _ _ (by show w.heap.size + 1 ≠ w.heap.size; omega)).trans ((Below.heap_setCell _ _ _ _ (by show w.heap.size + 1 ≠ w.heap.size; omega)).trans XZ7.out)
            · have hst : Hid (rnX m bs vs = .inr (k, E)) := loopE_hit hLp hlt (by rw [HFF.out, hE.out, if_neg hd])
              have HD := Lib.hid hd
              have hd1 : (E == 0) = false := by simpa using hd
              have hd2 : (E != 0) = true := by simpa using hd
              clear hd
              have f0 := frozen_at XZ7.out 0
              have f1 := frozen_at XZ7.out 1
              have y0 := cell_at XZ7.out (j := 0) (v := .int .i64 0) rfl
              have y1 := cell_at XZ7.out (j := 1) (v := .slice none 0 0) rfl
              go_wp2_with fail
              refine bodyPost_ret (v := .tuple #[.agg #[.int .i64 0, .slice none 0 0], .int .i64 k, .int .i64 E]) (by simp [results, Tryd.results41, go_sem, y0, y1]) rfl ?_
              exact HZE.out _ ((HB7.out.setCell (p := ⟨w.heap.size + 1, 0, none⟩) (by show w.heap.size ≤ w.heap.size + 1; omega) _).setCell (p := ⟨w.heap.size + 1, 1, none⟩) (by show w.heap.size ≤ w.heap.size + 1; omega) _) k _ (by rw [hI.out, hst.out]; rfl) (by rw [hEE.out, hst.out]; rfl) HD.out
        · obtain rfl : k = vs.length := by omega
          have hr : Hid (rnX m bs vs = .inl s) := loopE_done hLp hlt
          have HE0 : Hid (rnE m bs vs = 0) := by unfold Hid; rw [hEE.out, hr.out]; rfl
          have HI0 : Hid (rnI m bs vs = 0) := by unfold Hid; rw [hI.out, hr.out]; rfl
          have HB0 : Hid (rnB m bs vs = s) := by unfold Hid rnB; rw [if_pos HE0.out, hr.out]; rfl
          have f0 := frozen_at XZ.out 0
          have f1 := frozen_at XZ.out 1
          have y0 := cell_at XZ.out (j := 0) (v := .int .i64 0) rfl
          have y1 := cell_at XZ.out (j := 1) (v := .slice none 0 0) rfl
          have hsl : s.length ≤ 8 := by have := HK.out.len; omega
          by_cases h0 : s.length = 0
          · obtain rfl := List.length_eq_zero_iff.1 h0
            obtain ⟨i0, hi0, _, _, _⟩ := info_parts Tryd.infoRBlk
            have XW : Hid (((((wr.setCell ⟨w.heap.size + 1, 0, none⟩ (.int .i64 m)).setCell ⟨w.heap.size + 1, 1, none⟩ (.slice (some ⟨wr.heap.size, 0, none⟩) 0 0)).alloc (.cells #[] 78)).drew).heap[w.heap.size + 1]? = some (.cells #[.int .i64 m, .slice (some ⟨wr.heap.size, 0, none⟩) 0 0] 28 (0, 0))) := (Below.heap_alloc _ _ _ (by simp; omega)).trans (box_set2 XZ.out)
            have HBW : Hid (Below w.heap.size w ((((wr.setCell ⟨w.heap.size + 1, 0, none⟩ (.int .i64 m)).setCell ⟨w.heap.size + 1, 1, none⟩ (.slice (some ⟨wr.heap.size, 0, none⟩) 0 0)).alloc (.cells #[] 78)).drew)) := (((HB.out.setCell (p := ⟨w.heap.size + 1, 0, none⟩) (by show w.heap.size ≤ w.heap.size + 1; omega) _).setCell (p := ⟨w.heap.size + 1, 1, none⟩) (by show w.heap.size ≤ w.heap.size + 1; omega) _).alloc (by simp; omega) _).drew
            have r0 := cell_at XW.out (j := 0) (v := .int .i64 m) rfl
            have r1 := cell_at XW.out (j := 1) (v := .slice (some ⟨wr.heap.size, 0, none⟩) 0 0) rfl
            go_wp2_with fail
            go_region_law ((refine step_nothing (by rfl) (.tmp 44) (.tmp 46) _ (by rfl) 78 i0 Tryd.underlying26 hi0 (some ⟨wr.heap.size, 0, none⟩) 0 0 (Nat.le_refl _) (by rfl) a' c' (by rfl) ?_; have BZ : Hid (Below wr.heap.size wr ((wr.alloc (.cells #[] 78)).drew)) := ((Below.refl _ _).alloc (Nat.le_refl _) _).drew; have XZ4 := Lib.hid (heap_below XZ.out BZ.out hl2); have q0 := cell_at XZ4.out (j := 0) (v := .int .i64 0) rfl; have q1 := cell_at XZ4.out (j := 1) (v := .slice none 0 0) rfl; have xf0 := frozen_at XZ4.out 0; have xf1 := frozen_at XZ4.out 1))
            all_goals
              go_wp2_with fail
              refine bodyPost_ret (v := .tuple #[.agg #[.int .i64 m, .slice (some ⟨wr.heap.size, 0, none⟩) 0 0], .int .i64 0, .int .i64 0]) (by simp [results, Tryd.results41, go_sem, r0, r1]) rfl ?_
              have HR' := HR.out (some ⟨wr.heap.size, 0, none⟩) 0 _ HBW.out (by rw [HB0.out]; exact ⟨fun h => absurd h (by simp [bC]), fun e => by cases e⟩) (Fresh.blk (by omega))
              rw [HE0.out, HI0.out, HB0.out, okM, if_pos rfl] at HR'
              exact HR'
          · obtain ⟨bb, ob, rfl, hbb, _⟩ := HS.out.blks (by omega)
            obtain ⟨i0, hi0, hi1, hi2, hi3⟩ := info_parts Tryd.infoRBlk
            go_wp2_with fail
            go_region_law ((refine step_append_lies _ (by rfl) (.tmp 44) (.tmp 46) _ (by rfl) wr.heap.size 78 i0 _ 4 40 Tryd.underlying26 hi0 hi1 hi2 hi3 rfl (by omega) _ 0 [] (by rfl) ?own ⟨bb, ob, none⟩ s.length c' (bC s) (by rfl) (bC_length s) ?news (bC_one s) (by omega) (by unfold maxLen; omega) (by omega) (by simp <;> omega) _ rfl ?_; (case own => first | exact (lit0 wr _ (Nat.le_refl _)).drew | exact lit0d wr); (case news => exact news_of (HS.out.below (((Below.refl _ _).alloc (Nat.le_refl _) _).drew))); intro gg cap w4 hown1 hgrow hat hlt; have Hb4 : Hid (Below wr.heap.size wr w4) := (by refine Below.grown (((Below.refl _ _).alloc (Nat.le_refl _) _).drew) hgrow ?_ ?_; (simp <;> omega); (intro j e; cases e; simp <;> omega)); have H1 : Hid (w4.ownsRow wr.heap.size 78 4 (.slice (some ⟨gg, 0, none⟩) s.length cap) s.length (bC s)) := (by have h := hown1; rw [Nat.zero_add, List.nil_append] at h; exact h); have XZ4 := Lib.hid (heap_below XZ.out Hb4.out hl2); have q0 := cell_at XZ4.out (j := 0) (v := .int .i64 0) rfl; have q1 := cell_at XZ4.out (j := 1) (v := .slice none 0 0) rfl; have xf0 := frozen_at XZ4.out 0; have xf1 := frozen_at XZ4.out 1; have m0 := cellB Hb4.out o0 hl1; have m1 := cellB Hb4.out o1 hl1; clear hown1 hgrow hat hlt))
            all_goals
              go_wp2_with fail
              refine bodyPost_ret (v := .tuple #[.agg #[.int .i64 m, .slice (some ⟨gg, 0, none⟩) s.length cap], .int .i64 0, .int .i64 0]) (by simp [results, Tryd.results41, go_sem, q0, q1]) rfl ?_
              have hrow := ownsRow_set (ownsRow_set H1.out (a := ⟨w.heap.size + 1, 0, none⟩) (by show w.heap.size + 1 < wr.heap.size; omega) (.int .i64 m)) (a := ⟨w.heap.size + 1, 1, none⟩) (by show w.heap.size + 1 < wr.heap.size; omega) (.slice (some ⟨gg, 0, none⟩) s.length cap)
              obtain ⟨ar, cr, er, rr, rn⟩ := ownsRow_read hrow
              obtain ⟨rfl, -, rfl⟩ := Value.slice.inj er
              have HB4 : Below w.heap.size w w4 := HB.out.trans (Hb4.out.mono HB.out.size)
              have HR' := HR.out _ _ _ ((HB4.setCell (p := ⟨w.heap.size + 1, 0, none⟩) (by show w.heap.size ≤ w.heap.size + 1; omega) (.int .i64 m)).setCell (p := ⟨w.heap.size + 1, 1, none⟩) (by show w.heap.size ≤ w.heap.size + 1; omega) (.slice (some ⟨gg, 0, none⟩) s.length cap)) (by rw [HB0.out]; exact ⟨rr, rn⟩) (ownsRow_fresh hrow (by omega))
              rw [HE0.out, HI0.out, HB0.out, okM, if_pos rfl] at HR'
              exact HR'
  · have HE := Lib.hid hE
    have hE' : (chkS m bs == 0) = false := by simpa using hE
    have hE'' : (chkS m bs != 0) = true := by simpa using hE
    have hI : Hid ((rnI m bs vs : Int) = 0) := by unfold Hid rnI; rw [if_neg hE]; rfl
    have hEE : Hid (rnE m bs vs = chkS m bs) := by unfold Hid rnE; rw [if_neg hE]
    clear hE
    go_enter Tryd.func41, Tryd.ntmps41
    go_wp2_with fail
    rw [E1.out, E2.out]
    refine rcheck51_any m ao bs c _ _ hl HC2.out hs ?_
    skip
    intro w3 hb3
    have HB3 : Hid (Below w.heap.size w w3) := HV2.out.trans (hb3.mono HV2.out.size)
    have X3 := Lib.hid (heap_below X2.out hb3 (by have := HZ2.out; omega))
    have XS3 := Lib.hid (heap_below X1'.out hb3 (by have := HZ2.out; omega))
    have s3 := hb3.size
    have HC3 := Lib.hid (HC2.out.below hb3)
    have HVV3 := Lib.hid (HVV2.out.below hb3)
    clear hb3 a0 a1 f0 f1 y0 y1
    have f0 := frozen_at X3.out 0
    have f1 := frozen_at X3.out 1
    have y0 := cell_at X3.out (j := 0) (v := .int .i64 0) rfl
    have y1 := cell_at X3.out (j := 1) (v := .slice none 0 0) rfl
    go_wp2_with fail
    refine bodyPost_ret (v := .tuple #[.agg #[.int .i64 0, .slice none 0 0], .int .i64 0, .int .i64 (chkS m bs)]) (by simp [results, Tryd.results41, go_sem, y0, y1]) rfl ?_
    exact HZE.out _ ((HB3.out.setCell (p := ⟨w.heap.size + 1, 0, none⟩) (by show w.heap.size ≤ w.heap.size + 1; omega) _).setCell (p := ⟨w.heap.size + 1, 1, none⟩) (by show w.heap.size ≤ w.heap.size + 1; omega) _) 0 _ hI.out hEE.out HE.out
end Go.Proofs.YteoniejpfmeibaaDoor
