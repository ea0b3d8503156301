/- The walk of Check of package recall. (Printed by gen_check.py.) -/
import Derived.Test.YtfamennpajjajaaRf
import Derived.Test.YtfamennpajjajaaRd
namespace Go.Proofs.Ytfamennpajjajaa
open Go.RowKit Go.Maps

theorem zeroS (w : World) : (zeroValue 9).run Try.prog w = .ok (.string ⟨#[]⟩) w := by kernel_rfl
theorem zeroB (w : World) : (zeroValue 4).run Try.prog w = .ok (.bool false) w := by kernel_rfl

set_option maxRecDepth 100000 in
set_option maxHeartbeats 8000000 in
theorem check53_any (ao : Option Addr) (vs : List Ev) (c : Nat) (w : World) (R : Ending → World → Prop) (hl : vs.length ≤ 9223372036854775807) (hc : CellsAt w ao (eC vs)) (hv : LogOk vs)
   (hR : ∀ w', Below w.heap.size w w' → R (.returned (.int .i64 (chk3 vs))) w') :
    Calls Try.prog 16 #[.slice ao vs.length c] w R := by
  have HR := Lib.hid hR
  have HC := Lib.hid hc
  clear hR hc
  by_cases h4 : 4096 < vs.length
  · have h4' : decide ((4096 : Int) < (vs.length : Int)) = true := by rw [decide_eq_true_eq]; omega
    have hE : Hid (chk3 vs = 5) := by unfold Hid chk3; rw [if_pos h4]
    go_enter Try.func16, Try.ntmps16
    go_wp2_with fail
    exact ret_i (HR.out _ (Below.refl _ _)) rfl hE.out
  · have h4' : decide ((4096 : Int) < (vs.length : Int)) = false := by rw [decide_eq_false_iff_not]; omega
    have hE : Hid (chk3 vs = chkR (loopE (c3F vs) vs.length 0 ())) := by unfold Hid chk3; rw [if_neg h4]
    have hmm := @run_makeMap Try.prog
    have M0 : Hid (MapIs Try.prog 9 ((w.alloc (.map #[] 0)).alloc (.map #[] 0)) w.heap.size 0 (fun _ => none)) := (mapIs_made w).below ((Below.refl (w.heap.size + 1) _).alloc (by simp) _) (by omega)
    have M1 : Hid (MapIs Try.prog 9 ((w.alloc (.map #[] 0)).alloc (.map #[] 0)) (w.heap.size + 1) 0 (fun _ => none)) := by
      have h := mapIs_made (P := Try.prog) (k := 9) (w.alloc (.map #[] 0))
      rw [World.size_alloc] at h; exact h
    have HB2 : Hid (Below w.heap.size w ((w.alloc (.map #[] 0)).alloc (.map #[] 0))) := ((Below.refl _ _).alloc (Nat.le_refl _) _).alloc (by simp) _
    obtain ⟨w2, E2⟩ : ∃ w2, Hid ((w.alloc (.map #[] 0)).alloc (.map #[] 0) = w2) := ⟨_, rfl⟩
    have hz2 : w2.heap.size = w.heap.size + 2 := by rw [← E2.out]; simp
    rw [E2.out] at M0 M1 HB2
    go_enter Try.func16, Try.ntmps16
    go_wp2_with fail
    rw [E2.out]
    clear hmm
    have HZ2 := Lib.hid hz2
    clear hz2
    go_loopw [17] (fun i wr => ∃ (k : Nat) (f g : SMap), k ≤ vs.length ∧ i = .int .i64 k ∧ Hid (Below w.heap.size w wr) ∧ w2.heap.size ≤ wr.heap.size ∧ Hid (MapIs Try.prog 9 wr w.heap.size k f) ∧ Hid (MapIs Try.prog 9 wr (w.heap.size + 1) k g) ∧ Hid (LotsIs vs k f) ∧ Hid (GoneIs vs k g) ∧
      Hid (loopE (c3F vs) (vs.length - k) k () = loopE (c3F vs) vs.length 0 ())) (fun i _ => vs.length - (intOf i).toNat)
    case atStart => exact ⟨0, _, _, Nat.zero_le _, rfl, HB2, Nat.le_refl _, M0, M1, lots_start vs, gone_start vs, rfl⟩
    case round =>
      obtain ⟨k, f, g, hk, rfl, HB, sr, MF, MG, LF, GG, hL⟩ := hrel
      have hz2 := HZ2.out
      by_cases hlt : k < vs.length
      · obtain ⟨b, o, rfl, hbb, hcell⟩ := (HC.out.below HB.out).evts (by omega)
        obtain ⟨c0, c1, c2, c3⟩ := hcell k hlt
        have hok := hv k hlt
        have hF : Hid (c3F vs k () = if evE (eAt vs k) = 0 then
            if (eAt vs k).k = 0 then (if anyTo (wdQ (eAt vs k).p) vs k = true then .inr 14 else if anyTo (ltQ (eAt vs k).p (eAt vs k).t) vs k = true then .inr 16 else .inl ())
            else if (eAt vs k).k = 3 then (if anyTo (msQ (eAt vs k).p) vs k = true then if anyTo (wdQ (eAt vs k).p) vs k = true then .inr 14 else .inl () else .inr 6)
            else .inl ()
          else .inr (evE (eAt vs k))) := rfl
        have hlots0 : Hid ((eAt vs k).k ≠ 0 → LotsIs vs (k + 1) f) := fun h => LF.out.skip h
        have hlots1 : Hid ((eAt vs k).k = 0 → anyTo (ltQ (eAt vs k).p (eAt vs k).t) vs k = false → LotsIs vs (k + 1) (f.put (eAt vs k).p (.string (eAt vs k).t))) := fun h1 h2 => LF.out.put h1 h2
        have hgone0 : Hid ((eAt vs k).k ≠ 3 → GoneIs vs (k + 1) g) := fun h => GG.out.skip h
        have hgone1 : Hid ((eAt vs k).k = 3 → GoneIs vs (k + 1) (g.put (eAt vs k).p (.bool true))) := fun h => GG.out.put h
        have hknow := LF.out.known (eAt vs k).p
        have hlot := Lib.hid (fun h => LF.out.lot (p := (eAt vs k).p) h)
        have hgon := GG.out (eAt vs k).p
        obtain ⟨v, hev⟩ : ∃ v, eAt vs k = v := ⟨_, rfl⟩
        rw [hev] at c0 c1 c2 c3 hok hF hlots0 hlots1 hgone0 hgone1 hknow hlot hgon
        have hpl : v.p.size ≤ maxLen := hok.2.1
        obtain ⟨ms, hms⟩ : ∃ m, anyTo (msQ v.p) vs k = m := ⟨_, rfl⟩
        obtain ⟨wd, hwd⟩ : ∃ m, anyTo (wdQ v.p) vs k = m := ⟨_, rfl⟩
        obtain ⟨lq, hlq⟩ : ∃ m, anyTo (ltQ v.p v.t) vs k = m := ⟨_, rfl⟩
        rw [hms, hwd, hlq] at hF
        rw [hms] at hknow hlot
        rw [hwd] at hgon
        rw [hlq] at hlots1
        have HLQ := Lib.hid hlq
        have HLM : Hid (lq = true → ms = true) := fun h => by have := lt_ms (hlq.trans h); rw [hms] at this; exact this
        obtain ⟨w5, E5', HB5, s5, X5⟩ := box_ex wr #[.int .i64 v.k, .string v.g, .string v.p, .string v.t] 51
        have E5 := Lib.hid E5'
        have B5 : Hid (Below w.heap.size w w5) := HB.out.trans (HB5.out.mono HB.out.size)
        have x0 := cell_at X5.out (j := 0) (v := .int .i64 v.k) rfl
        have x1 := cell_at X5.out (j := 1) (v := .string v.g) rfl
        have x2 := cell_at X5.out (j := 2) (v := .string v.p) rfl
        have x3 := cell_at X5.out (j := 3) (v := .string v.t) rfl
        rw [← E5'] at x0 x1 x2 x3
        have KNOW := Lib.hid hknow
        have GON := Lib.hid hgon
        clear hcell hev hms hwd hlq E5' hknow hgon
        by_cases h0 : evE v = 0
        case neg =>
          have hst : Hid (loopE (c3F vs) vs.length 0 () = .inr (evE v)) := loopE_hit hL hlt (by rw [hF.out, if_neg h0])
          have h1 : (evE v == 0) = false := by simpa using h0
          have h2 : (evE v != 0) = true := by simpa using h0
          clear h0
          go_wp2_with fail
          rw [E5.out]
          refine names_any v _ _ hok ?_
          intro w6 hb6
          have B6 := Lib.hid (B5.out.trans (hb6.mono B5.out.size))
          clear hb6
          go_wp2_with fail
          exact ret_i (HR.out _ B6.out) rfl (by rw [hE.out, hst.out]; rfl)
        have H0 := Lib.hid h0
        by_cases hk0 : v.k = 0
        · have K0 : (v.k == 0) = true := by rw [hk0]; rfl
          have HK0 := Lib.hid hk0
          cases wd with
          | true =>
            obtain ⟨FU, FE⟩ : ∃ FU, Hid ((f v.p).getD (.string ⟨#[]⟩) = FU) := ⟨_, Lib.hid rfl⟩
            have FK : Hid ((f v.p).isSome = ms) := KNOW
            have GE : Hid ((g v.p).getD (.bool false) = .bool true) := by unfold Hid; rw [GON.out]; rfl
            have hst : Hid (loopE (c3F vs) vs.length 0 () = .inr 14) := loopE_hit hL hlt (by rw [hF.out, if_pos h0, if_pos hk0, if_pos rfl])
            clear hk0
            try clear hk3
            try clear HK0
            go_wp2_with fail
            rw [E5.out]
            refine names_any v _ _ hok ?_
            rw [H0.out]
            intro w6 hb6
            have B6 := Lib.hid (B5.out.trans (hb6.mono B5.out.size))
            have MF6 := Lib.hid ((MF.out.below HB5.out (by omega)).below hb6 (by omega))
            have MG6 := Lib.hid ((MG.out.below HB5.out (by omega)).below hb6 (by omega))
            have s6 := hb6.size
            clear x0 x1 x2 x3
            have X6 := Lib.hid (heap_below X5.out hb6 (by omega))
            have x0 := cell_at X6.out (j := 0) (v := .int .i64 v.k) rfl
            have x2 := cell_at X6.out (j := 2) (v := .string v.p) rfl
            have x3 := cell_at X6.out (j := 3) (v := .string v.t) rfl
            clear hb6
            go_wp2_with (first | (at_lookup; refine wp_mapLookOk _ rfl _ _ 71 rfl 9 9 Try.underlying9 Try.underlying71 w.heap.size k f rfl MF6.out (zeroS _) v.p rfl hpl _ _ FE.out FK.out ?_) | (at_lookup; refine wp_mapLook _ rfl _ _ 49 rfl 9 4 Try.underlying9 Try.underlying49 (w.heap.size + 1) k g rfl MG6.out (zeroB _) v.p rfl hpl _ GE.out ?_))
            exact ret_i (HR.out _ B6.out) rfl (by rw [hE.out, hst.out]; rfl)
          | false =>
            have GE : Hid ((g v.p).getD (.bool false) = .bool false) := by unfold Hid; rw [GON.out]; rfl
            cases ms with
            | true =>
              obtain ⟨L, hf, hlt2⟩ := hlot.out rfl
              have FE : Hid ((f v.p).getD (.string ⟨#[]⟩) = .string L) := by unfold Hid; rw [hf]; rfl
              have FK : Hid ((f v.p).isSome = true) := KNOW
              clear hf
              have hlv := (hlt2 v.t).symm.trans HLQ.out
              cases lq with
              | true =>
                have hd : sameB L v.t = false := by simpa using hlv
                have hd1 : (L.toList == v.t.toList) = false := hd
                have hd2 : (L.toList != v.t.toList) = true := by rw [bne, hd1]; rfl
                have hst : Hid (loopE (c3F vs) vs.length 0 () = .inr 16) := loopE_hit hL hlt (by rw [hF.out, if_pos h0, if_pos hk0, if_neg (by simp), if_pos rfl])
                clear hk0
                try clear hk3
                try clear HK0
                go_wp2_with fail
                rw [E5.out]
                refine names_any v _ _ hok ?_
                rw [H0.out]
                intro w6 hb6
                have B6 := Lib.hid (B5.out.trans (hb6.mono B5.out.size))
                have MF6 := Lib.hid ((MF.out.below HB5.out (by omega)).below hb6 (by omega))
                have MG6 := Lib.hid ((MG.out.below HB5.out (by omega)).below hb6 (by omega))
                have s6 := hb6.size
                clear x0 x1 x2 x3
                have X6 := Lib.hid (heap_below X5.out hb6 (by omega))
                have x0 := cell_at X6.out (j := 0) (v := .int .i64 v.k) rfl
                have x2 := cell_at X6.out (j := 2) (v := .string v.p) rfl
                have x3 := cell_at X6.out (j := 3) (v := .string v.t) rfl
                clear hb6
                go_wp2_with (first | (at_lookup; refine wp_mapLookOk _ rfl _ _ 71 rfl 9 9 Try.underlying9 Try.underlying71 w.heap.size k f rfl MF6.out (zeroS _) v.p rfl hpl _ _ FE.out FK.out ?_) | (at_lookup; refine wp_mapLook _ rfl _ _ 49 rfl 9 4 Try.underlying9 Try.underlying49 (w.heap.size + 1) k g rfl MG6.out (zeroB _) v.p rfl hpl _ GE.out ?_))
                exact ret_i (HR.out _ B6.out) rfl (by rw [hE.out, hst.out]; rfl)
              | false =>
                have hd : sameB L v.t = true := by simpa using hlv
                have hd1 : (L.toList == v.t.toList) = true := hd
                have hd2 : (L.toList != v.t.toList) = false := by rw [bne, hd1]; rfl
                have hst : Hid (c3F vs k () = .inl ()) := by unfold Hid; rw [hF.out, if_pos h0, if_pos hk0, if_neg (by simp), if_neg (by simp)]
                have hl1 := Lib.hid (hlots1.out hk0 rfl)
                have hg1 := Lib.hid (hgone0.out (by omega))
                clear hk0
                try clear hk3
                try clear HK0
                go_wp2_with fail
                rw [E5.out]
                refine names_any v _ _ hok ?_
                rw [H0.out]
                intro w6 hb6
                have B6 := Lib.hid (B5.out.trans (hb6.mono B5.out.size))
                have MF6 := Lib.hid ((MF.out.below HB5.out (by omega)).below hb6 (by omega))
                have MG6 := Lib.hid ((MG.out.below HB5.out (by omega)).below hb6 (by omega))
                have s6 := hb6.size
                clear x0 x1 x2 x3
                have X6 := Lib.hid (heap_below X5.out hb6 (by omega))
                have x0 := cell_at X6.out (j := 0) (v := .int .i64 v.k) rfl
                have x2 := cell_at X6.out (j := 2) (v := .string v.p) rfl
                have x3 := cell_at X6.out (j := 3) (v := .string v.t) rfl
                clear hb6
                go_wp2_with (first | (at_lookup; refine wp_mapLookOk _ rfl _ _ 71 rfl 9 9 Try.underlying9 Try.underlying71 w.heap.size k f rfl MF6.out (zeroS _) v.p rfl hpl _ _ FE.out FK.out ?_) | (at_lookup; refine wp_mapLook _ rfl _ _ 49 rfl 9 4 Try.underlying9 Try.underlying49 (w.heap.size + 1) k g rfl MG6.out (zeroB _) v.p rfl hpl _ GE.out ?_) | (at_mapUpdate; refine wp_mapStore _ rfl _ _ _ 71 rfl 9 9 Try.underlying9 Try.underlying71 w.heap.size k f rfl MF6.out (by unfold maxLen; omega) v.p (.string v.t) rfl rfl hpl ?_; intro w7 h7 g7; have M7 := Lib.hid h7; have G7 := Lib.hid g7; clear h7 g7))
                exact ⟨⟨k + 1, _, g, by omega, by go_num, B6.out.grown G7.out B6.out.size (fun j e => by cases e; exact Nat.le_refl _), by have := G7.out.size; omega, M7, (MG6.out.keep (G7.out.block _ (by have := MG6.out.lt; omega) (by simp))).mono (by omega), hl1, hg1, loopE_step hL hlt hst.out⟩, by simp [intOf]; omega⟩
            | false =>
              have hf : f v.p = none := by
                have := KNOW.out
                cases e : f v.p with
                | none => rfl
                | some u => rw [e] at this; cases this
              have FE : Hid ((f v.p).getD (.string ⟨#[]⟩) = .string ⟨#[]⟩) := by unfold Hid; rw [hf]; rfl
              have FK : Hid ((f v.p).isSome = false) := KNOW
              clear hf
              have hlqf : lq = false := by
                cases lq with
                | false => rfl
                | true => exact absurd (HLM.out rfl) (by simp)
              subst hlqf
              have hst : Hid (c3F vs k () = .inl ()) := by unfold Hid; rw [hF.out, if_pos h0, if_pos hk0, if_neg (by simp), if_neg (by simp)]
              have hl1 := Lib.hid (hlots1.out hk0 rfl)
              have hg1 := Lib.hid (hgone0.out (by omega))
              clear hk0
              try clear hk3
              try clear HK0
              go_wp2_with fail
              rw [E5.out]
              refine names_any v _ _ hok ?_
              rw [H0.out]
              intro w6 hb6
              have B6 := Lib.hid (B5.out.trans (hb6.mono B5.out.size))
              have MF6 := Lib.hid ((MF.out.below HB5.out (by omega)).below hb6 (by omega))
              have MG6 := Lib.hid ((MG.out.below HB5.out (by omega)).below hb6 (by omega))
              have s6 := hb6.size
              clear x0 x1 x2 x3
              have X6 := Lib.hid (heap_below X5.out hb6 (by omega))
              have x0 := cell_at X6.out (j := 0) (v := .int .i64 v.k) rfl
              have x2 := cell_at X6.out (j := 2) (v := .string v.p) rfl
              have x3 := cell_at X6.out (j := 3) (v := .string v.t) rfl
              clear hb6
              go_wp2_with (first | (at_lookup; refine wp_mapLookOk _ rfl _ _ 71 rfl 9 9 Try.underlying9 Try.underlying71 w.heap.size k f rfl MF6.out (zeroS _) v.p rfl hpl _ _ FE.out FK.out ?_) | (at_lookup; refine wp_mapLook _ rfl _ _ 49 rfl 9 4 Try.underlying9 Try.underlying49 (w.heap.size + 1) k g rfl MG6.out (zeroB _) v.p rfl hpl _ GE.out ?_) | (at_mapUpdate; refine wp_mapStore _ rfl _ _ _ 71 rfl 9 9 Try.underlying9 Try.underlying71 w.heap.size k f rfl MF6.out (by unfold maxLen; omega) v.p (.string v.t) rfl rfl hpl ?_; intro w7 h7 g7; have M7 := Lib.hid h7; have G7 := Lib.hid g7; clear h7 g7))
              exact ⟨⟨k + 1, _, g, by omega, by go_num, B6.out.grown G7.out B6.out.size (fun j e => by cases e; exact Nat.le_refl _), by have := G7.out.size; omega, M7, (MG6.out.keep (G7.out.block _ (by have := MG6.out.lt; omega) (by simp))).mono (by omega), hl1, hg1, loopE_step hL hlt hst.out⟩, by simp [intOf]; omega⟩
        · have K0 : (v.k == 0) = false := by simpa using hk0
          by_cases hk3 : v.k = 3
          · have K3 : (v.k == 3) = true := by rw [hk3]; rfl
            cases ms with
            | false =>
              have hf : f v.p = none := by
                have := KNOW.out
                cases e : f v.p with
                | none => rfl
                | some u => rw [e] at this; cases this
              have FE : Hid ((f v.p).getD (.string ⟨#[]⟩) = .string ⟨#[]⟩) := by unfold Hid; rw [hf]; rfl
              have FK : Hid ((f v.p).isSome = false) := KNOW
              clear hf
              obtain ⟨GU, GE⟩ : ∃ GU, Hid ((g v.p).getD (.bool false) = GU) := ⟨_, Lib.hid rfl⟩
              have hst : Hid (loopE (c3F vs) vs.length 0 () = .inr 6) := loopE_hit hL hlt (by rw [hF.out, if_pos h0, if_neg hk0, if_pos hk3, if_neg (by simp)])
              clear hk0
              try clear hk3
              try clear HK0
              go_wp2_with fail
              rw [E5.out]
              refine names_any v _ _ hok ?_
              rw [H0.out]
              intro w6 hb6
              have B6 := Lib.hid (B5.out.trans (hb6.mono B5.out.size))
              have MF6 := Lib.hid ((MF.out.below HB5.out (by omega)).below hb6 (by omega))
              have MG6 := Lib.hid ((MG.out.below HB5.out (by omega)).below hb6 (by omega))
              have s6 := hb6.size
              clear x0 x1 x2 x3
              have X6 := Lib.hid (heap_below X5.out hb6 (by omega))
              have x0 := cell_at X6.out (j := 0) (v := .int .i64 v.k) rfl
              have x2 := cell_at X6.out (j := 2) (v := .string v.p) rfl
              have x3 := cell_at X6.out (j := 3) (v := .string v.t) rfl
              clear hb6
              go_wp2_with (first | (at_lookup; refine wp_mapLookOk _ rfl _ _ 71 rfl 9 9 Try.underlying9 Try.underlying71 w.heap.size k f rfl MF6.out (zeroS _) v.p rfl hpl _ _ FE.out FK.out ?_) | (at_lookup; refine wp_mapLook _ rfl _ _ 49 rfl 9 4 Try.underlying9 Try.underlying49 (w.heap.size + 1) k g rfl MG6.out (zeroB _) v.p rfl hpl _ GE.out ?_))
              exact ret_i (HR.out _ B6.out) rfl (by rw [hE.out, hst.out]; rfl)
            | true =>
              obtain ⟨L, hf, _⟩ := hlot.out rfl
              have FE : Hid ((f v.p).getD (.string ⟨#[]⟩) = .string L) := by unfold Hid; rw [hf]; rfl
              have FK : Hid ((f v.p).isSome = true) := KNOW
              clear hf
              cases wd with
              | true =>
                have GE : Hid ((g v.p).getD (.bool false) = .bool true) := by unfold Hid; rw [GON.out]; rfl
                have hst : Hid (loopE (c3F vs) vs.length 0 () = .inr 14) := loopE_hit hL hlt (by rw [hF.out, if_pos h0, if_neg hk0, if_pos hk3, if_pos rfl, if_pos rfl])
                clear hk0
                try clear hk3
                try clear HK0
                go_wp2_with fail
                rw [E5.out]
                refine names_any v _ _ hok ?_
                rw [H0.out]
                intro w6 hb6
                have B6 := Lib.hid (B5.out.trans (hb6.mono B5.out.size))
                have MF6 := Lib.hid ((MF.out.below HB5.out (by omega)).below hb6 (by omega))
                have MG6 := Lib.hid ((MG.out.below HB5.out (by omega)).below hb6 (by omega))
                have s6 := hb6.size
                clear x0 x1 x2 x3
                have X6 := Lib.hid (heap_below X5.out hb6 (by omega))
                have x0 := cell_at X6.out (j := 0) (v := .int .i64 v.k) rfl
                have x2 := cell_at X6.out (j := 2) (v := .string v.p) rfl
                have x3 := cell_at X6.out (j := 3) (v := .string v.t) rfl
                clear hb6
                go_wp2_with (first | (at_lookup; refine wp_mapLookOk _ rfl _ _ 71 rfl 9 9 Try.underlying9 Try.underlying71 w.heap.size k f rfl MF6.out (zeroS _) v.p rfl hpl _ _ FE.out FK.out ?_) | (at_lookup; refine wp_mapLook _ rfl _ _ 49 rfl 9 4 Try.underlying9 Try.underlying49 (w.heap.size + 1) k g rfl MG6.out (zeroB _) v.p rfl hpl _ GE.out ?_))
                exact ret_i (HR.out _ B6.out) rfl (by rw [hE.out, hst.out]; rfl)
              | false =>
                have GE : Hid ((g v.p).getD (.bool false) = .bool false) := by unfold Hid; rw [GON.out]; rfl
                have hst : Hid (c3F vs k () = .inl ()) := by unfold Hid; rw [hF.out, if_pos h0, if_neg hk0, if_pos hk3, if_pos rfl, if_neg (by simp)]
                have hl1 := Lib.hid (hlots0.out hk0)
                have hg1 := Lib.hid (hgone1.out hk3)
                clear hk0
                try clear hk3
                try clear HK0
                go_wp2_with fail
                rw [E5.out]
                refine names_any v _ _ hok ?_
                rw [H0.out]
                intro w6 hb6
                have B6 := Lib.hid (B5.out.trans (hb6.mono B5.out.size))
                have MF6 := Lib.hid ((MF.out.below HB5.out (by omega)).below hb6 (by omega))
                have MG6 := Lib.hid ((MG.out.below HB5.out (by omega)).below hb6 (by omega))
                have s6 := hb6.size
                clear x0 x1 x2 x3
                have X6 := Lib.hid (heap_below X5.out hb6 (by omega))
                have x0 := cell_at X6.out (j := 0) (v := .int .i64 v.k) rfl
                have x2 := cell_at X6.out (j := 2) (v := .string v.p) rfl
                have x3 := cell_at X6.out (j := 3) (v := .string v.t) rfl
                clear hb6
                go_wp2_with (first | (at_lookup; refine wp_mapLookOk _ rfl _ _ 71 rfl 9 9 Try.underlying9 Try.underlying71 w.heap.size k f rfl MF6.out (zeroS _) v.p rfl hpl _ _ FE.out FK.out ?_) | (at_lookup; refine wp_mapLook _ rfl _ _ 49 rfl 9 4 Try.underlying9 Try.underlying49 (w.heap.size + 1) k g rfl MG6.out (zeroB _) v.p rfl hpl _ GE.out ?_) | (at_mapUpdate; refine wp_mapStore _ rfl _ _ _ 49 rfl 9 4 Try.underlying9 Try.underlying49 (w.heap.size + 1) k g rfl MG6.out (by unfold maxLen; omega) v.p (.bool true) rfl rfl hpl ?_; intro w7 h7 g7; have M7 := Lib.hid h7; have G7 := Lib.hid g7; clear h7 g7))
                exact ⟨⟨k + 1, f, _, by omega, by go_num, B6.out.grown G7.out B6.out.size (fun j e => by cases e; omega), by have := G7.out.size; omega, (MF6.out.keep (G7.out.block _ (by have := MF6.out.lt; omega) (by simp))).mono (by omega), M7, hl1, hg1, loopE_step hL hlt hst.out⟩, by simp [intOf]; omega⟩
          · have K3 : (v.k == 3) = false := by simpa using hk3
            have hst : Hid (c3F vs k () = .inl ()) := by unfold Hid; rw [hF.out, if_pos h0, if_neg hk0, if_neg hk3]
            have hl1 := Lib.hid (hlots0.out hk0)
            have hg1 := Lib.hid (hgone0.out hk3)
            obtain ⟨FU, FE⟩ : ∃ FU, Hid ((f v.p).getD (.string ⟨#[]⟩) = FU) := ⟨_, Lib.hid rfl⟩
            have FK : Hid ((f v.p).isSome = ms) := KNOW
            obtain ⟨GU, GE⟩ : ∃ GU, Hid ((g v.p).getD (.bool false) = GU) := ⟨_, Lib.hid rfl⟩
            clear hk0
            try clear hk3
            try clear HK0
            go_wp2_with fail
            rw [E5.out]
            refine names_any v _ _ hok ?_
            rw [H0.out]
            intro w6 hb6
            have B6 := Lib.hid (B5.out.trans (hb6.mono B5.out.size))
            have MF6 := Lib.hid ((MF.out.below HB5.out (by omega)).below hb6 (by omega))
            have MG6 := Lib.hid ((MG.out.below HB5.out (by omega)).below hb6 (by omega))
            have s6 := hb6.size
            clear x0 x1 x2 x3
            have X6 := Lib.hid (heap_below X5.out hb6 (by omega))
            have x0 := cell_at X6.out (j := 0) (v := .int .i64 v.k) rfl
            have x2 := cell_at X6.out (j := 2) (v := .string v.p) rfl
            have x3 := cell_at X6.out (j := 3) (v := .string v.t) rfl
            clear hb6
            go_wp2_with (first | (at_lookup; refine wp_mapLookOk _ rfl _ _ 71 rfl 9 9 Try.underlying9 Try.underlying71 w.heap.size k f rfl MF6.out (zeroS _) v.p rfl hpl _ _ FE.out FK.out ?_) | (at_lookup; refine wp_mapLook _ rfl _ _ 49 rfl 9 4 Try.underlying9 Try.underlying49 (w.heap.size + 1) k g rfl MG6.out (zeroB _) v.p rfl hpl _ GE.out ?_))
            exact ⟨⟨k + 1, f, g, by omega, by go_num, B6, by omega, MF6.out.mono (by omega), MG6.out.mono (by omega), hl1, hg1, loopE_step hL hlt hst.out⟩, by simp [intOf]; omega⟩
      · have hst : Hid (loopE (c3F vs) vs.length 0 () = .inl ()) := loopE_done hL hlt
        go_wp2_with fail
        exact ret_i (HR.out _ HB.out) rfl (by rw [hE.out, hst.out]; rfl)
end Go.Proofs.Ytfamennpajjajaa
