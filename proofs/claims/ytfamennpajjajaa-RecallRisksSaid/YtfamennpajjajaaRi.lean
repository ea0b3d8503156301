/- The walk of Check of the reference. (Printed by gen_rcheck.py.) -/
import Derived.Test.YtfamennpajjajaaRh
namespace Go.Proofs.Ytfamennpajjajaa
open Go.RowKit

theorem rwd_q (ao : Option Addr) (vs : List Ev) (n c : Nat) (p : ByteArray) (b : Bool) (w : World) (hl : vs.length ≤ 9223372036854775807) (hn : n ≤ vs.length) (hc : CellsAt w ao (eC vs)) (hb : anyTo (wdQ p) vs n = b) :
    Calls Try.prog 45 #[.slice ao n c, .string p] w fun e w' => e = .returned (.bool b) ∧ ∃ m, w' = w.drewN m :=
  rwd_any ao vs n c p w _ hl hn hc fun w' h => ⟨by rw [hb], h⟩
theorem rms_q (ao : Option Addr) (vs : List Ev) (n c : Nat) (p : ByteArray) (b : Bool) (w : World) (hl : vs.length ≤ 9223372036854775807) (hn : n ≤ vs.length) (hc : CellsAt w ao (eC vs)) (hb : anyTo (msQ p) vs n = b) :
    Calls Try.prog 46 #[.slice ao n c, .string p] w fun e w' => e = .returned (.bool b) ∧ ∃ m, w' = w.drewN m :=
  rms_any ao vs n c p w _ hl hn hc fun w' h => ⟨by rw [hb], h⟩
theorem quiet_add {P : Program} {f : FuncId} {args : Array Value} {w : World} {a n : Nat} {v : Value}
    (h : Calls P f args (w.drewN (a + n)) fun e w' => e = .returned v ∧ ∃ m, w' = (w.drewN (a + n)).drewN m) :
    Calls P f args (w.drewN (a + n)) fun e w'' => e = .returned v ∧ ∃ m, w'' = w.drewN (a + m) :=
  h.mono fun _ _ ⟨he, m, hm⟩ => ⟨he, n + m, by rw [hm, World.drewN_drewN, Nat.add_assoc]⟩
theorem CellsAt.drewN {w : World} {ao : Option Addr} {cs : List Value} (h : CellsAt w ao cs) (n : Nat) : CellsAt (w.drewN n) ao cs := h.below ((Drew.refl _).drewN.below _)

set_option maxRecDepth 100000 in
set_option maxHeartbeats 8000000 in
theorem rcheck53_any (ao : Option Addr) (vs : List Ev) (c : Nat) (w : World) (R : Ending → World → Prop) (hl : vs.length ≤ 9223372036854775807) (hcap : vs.length ≤ c) (hc : CellsAt w ao (eC vs)) (hv : LogOk vs)
   (hR : ∀ w', Below w.heap.size w w' → R (.returned (.int .i64 (chk3 vs))) w') :
    Calls Try.prog 17 #[.slice ao vs.length c] w R := by
  have HR := Lib.hid hR
  have HC := Lib.hid hc
  clear hR hc
  by_cases h4 : 4096 < vs.length
  · have h4' : decide ((4096 : Int) < (vs.length : Int)) = true := by rw [decide_eq_true_eq]; omega
    have hE : Hid (chk3 vs = 5) := by unfold Hid chk3; rw [if_pos h4]
    go_enter Try.func17, Try.ntmps17
    go_wp2_with fail
    exact ret_i (HR.out _ (Below.refl _ _)) rfl hE.out
  · have h4' : decide ((4096 : Int) < (vs.length : Int)) = false := by rw [decide_eq_false_iff_not]; omega
    have hE : Hid (chk3 vs = chkR (loopE (c3F vs) vs.length 0 ())) := by unfold Hid chk3; rw [if_neg h4]
    go_enter Try.func17, Try.ntmps17
    go_wp2_with fail
    go_loopw [3] (fun i wr => ∃ (k : Nat), k ≤ vs.length ∧ i = .int .i64 k ∧ Hid (Below w.heap.size w wr) ∧ Hid (loopE (c3F vs) (vs.length - k) k () = loopE (c3F vs) vs.length 0 ())) (fun i _ => vs.length - (intOf i).toNat)
    case atStart => exact ⟨0, Nat.zero_le _, rfl, Below.refl _ _, rfl⟩
    case round =>
      obtain ⟨k, hk, rfl, HB, hL⟩ := hrel
      have hkc : k ≤ c := by omega
      by_cases hlt : k < vs.length
      · obtain ⟨b, o, rfl, hbb, hcell⟩ := (HC.out.below HB.out).evts (by omega)
        obtain ⟨c0, c1, c2, c3⟩ := hcell k hlt
        have HCr := Lib.hid (HC.out.below HB.out)
        have hok := hv k hlt
        have hF : Hid (c3F vs k () = if evE (eAt vs k) = 0 then
            if (eAt vs k).k = 0 then (if anyTo (wdQ (eAt vs k).p) vs k = true then .inr 14 else if anyTo (ltQ (eAt vs k).p (eAt vs k).t) vs k = true then .inr 16 else .inl ())
            else if (eAt vs k).k = 3 then (if anyTo (msQ (eAt vs k).p) vs k = true then if anyTo (wdQ (eAt vs k).p) vs k = true then .inr 14 else .inl () else .inr 6)
            else .inl ()
          else .inr (evE (eAt vs k))) := rfl
        obtain ⟨v, hev⟩ : ∃ v, eAt vs k = v := ⟨_, rfl⟩
        rw [hev] at c0 c1 c2 c3 hok hF
        obtain ⟨ms, hms⟩ : ∃ m, Hid (anyTo (msQ v.p) vs k = m) := ⟨_, Lib.hid rfl⟩
        obtain ⟨wd, hwd⟩ : ∃ m, Hid (anyTo (wdQ v.p) vs k = m) := ⟨_, Lib.hid rfl⟩
        obtain ⟨lq, hlq⟩ : ∃ m, Hid (anyTo (ltQ v.p v.t) vs k = m) := ⟨_, Lib.hid rfl⟩
        rw [hms.out, hwd.out, hlq.out] at hF
        obtain ⟨w5, E5', HB5, s5, X5⟩ := box_ex wr #[.int .i64 v.k, .string v.g, .string v.p, .string v.t] 67
        have E5 := Lib.hid E5'
        have B5 : Hid (Below w.heap.size w w5) := HB.out.trans (HB5.out.mono HB.out.size)
        have x0 := cell_at X5.out (j := 0) (v := .int .i64 v.k) rfl
        have x1 := cell_at X5.out (j := 1) (v := .string v.g) rfl
        have x2 := cell_at X5.out (j := 2) (v := .string v.p) rfl
        have x3 := cell_at X5.out (j := 3) (v := .string v.t) rfl
        rw [← E5'] at x0 x1 x2 x3
        clear hcell hev E5'
        by_cases h0 : evE v = 0
        case neg =>
          have hst : Hid (loopE (c3F vs) vs.length 0 () = .inr (evE v)) := loopE_hit hL hlt (by rw [hF.out, if_neg h0])
          have h1 : (evE v == 0) = false := by simpa using h0
          have h2 : (evE v != 0) = true := by simpa using h0
          clear h0
          go_wp2_with fail
          rw [E5.out]
          refine rform_any v _ _ hok ?_
          intro w6 hb6
          have B6 := Lib.hid (B5.out.trans (hb6.mono B5.out.size))
          clear hb6
          go_wp2_with fail
          exact ret_i (HR.out _ B6.out) rfl (by rw [hE.out, hst.out]; rfl)
        have H0 := Lib.hid h0
        have HK0 : Hid True := trivial
        clear HK0
        obtain ⟨wO, rfl⟩ : ∃ wO, wO = wr := ⟨wr, rfl⟩
        by_cases hk0 : v.k = 0
        · have K0 : (v.k == 0) = true := by rw [hk0]; rfl
          have K3 : (v.k == 3) = false := by rw [hk0]; rfl
          have HK0 := Lib.hid hk0
          clear hk0
          cases wd with
          | true =>
            have hst : Hid (loopE (c3F vs) vs.length 0 () = .inr 14) := loopE_hit hL hlt (by rw [hF.out, if_pos h0, if_pos HK0.out, if_pos rfl])
            go_wp2_with fail
            rw [E5.out]
            refine rform_any v _ _ hok ?_
            rw [H0.out]
            intro w6 hb6
            have B6 := Lib.hid (B5.out.trans (hb6.mono B5.out.size))
            have HC6 := Lib.hid ((HCr.out.below HB5.out).below hb6)
            have X6 := Lib.hid (heap_below X5.out hb6 (by omega))
            clear x0 x1 x2 x3 hb6
            have x0 := cell_at X6.out (j := 0) (v := .int .i64 v.k) rfl
            have x2 := cell_at X6.out (j := 2) (v := .string v.p) rfl
            have x3 := cell_at X6.out (j := 3) (v := .string v.t) rfl
            go_wp2_with fail
            go_quiet (first | (go_at_call 45; exact Calls.quiet_of (rwd_q _ vs k _ v.p _ _ hl hk (HC6.out.drewN _) hwd.out)) | (go_at_call 46; exact Calls.quiet_of (rms_q _ vs k _ v.p _ _ hl hk (HC6.out.drewN _) hms.out)))
            go_wp2_with fail
            exact ret_i (HR.out _ (B6.out.trans ((by repeat first | exact Drew.refl _ | apply Drew.drewN : Drew _ _).below _))) rfl (by rw [hE.out, hst.out]; rfl)
          | false =>
            go_wp2_with fail
            rw [E5.out]
            refine rform_any v _ _ hok ?_
            rw [H0.out]
            intro w6 hb6
            have B6 := Lib.hid (B5.out.trans (hb6.mono B5.out.size))
            have HC6 := Lib.hid ((HCr.out.below HB5.out).below hb6)
            have X6 := Lib.hid (heap_below X5.out hb6 (by omega))
            clear x0 x1 x2 x3 hb6
            have x0 := cell_at X6.out (j := 0) (v := .int .i64 v.k) rfl
            have x2 := cell_at X6.out (j := 2) (v := .string v.p) rfl
            have x3 := cell_at X6.out (j := 3) (v := .string v.t) rfl
            go_wp2_with fail
            go_quiet (first | (go_at_call 45; exact Calls.quiet_of (rwd_q _ vs k _ v.p _ _ hl hk (HC6.out.drewN _) hwd.out)) | (go_at_call 46; exact Calls.quiet_of (rms_q _ vs k _ v.p _ _ hl hk (HC6.out.drewN _) hms.out)))
            go_wp2_with fail
            go_loopw [6] (fun i wr => ∃ (j : Nat), j ≤ k ∧ i = .int .i64 j ∧ Hid (Below w.heap.size w wr) ∧ Hid (CellsAt wr (some ⟨b, o, none⟩) (eC vs)) ∧ Hid (wr.heap[wO.heap.size]? = some (.cells #[.int .i64 v.k, .string v.g, .string v.p, .string v.t] 67 (0, 0))) ∧ Hid (∀ j', j' < j → ltQ v.p v.t (eAt vs j') = false)) (fun i _ => k - (intOf i).toNat)
            case atStart => exact ⟨0, Nat.zero_le _, rfl, B6.out.trans ((by repeat first | exact Drew.refl _ | apply Drew.drewN : Drew _ _).below _), HC6.out.below ((by repeat first | exact Drew.refl _ | apply Drew.drewN : Drew _ _).below _), heap_below X6.out ((by repeat first | exact Drew.refl _ | apply Drew.drewN : Drew _ _).below _) (lt_of_block X6.out), fun j h => absurd h (by omega)⟩
            case round =>
              obtain ⟨j, hj, rfl, BQ, HCQ, XQ, HJ⟩ := hrel
              have x0 := cell_at XQ.out (j := 0) (v := .int .i64 v.k) rfl
              have x2 := cell_at XQ.out (j := 2) (v := .string v.p) rfl
              have x3 := cell_at XQ.out (j := 3) (v := .string v.t) rfl
              by_cases hjk : j < k
              · obtain ⟨b', o', eb, hbb', hcell⟩ := HCQ.out.evts (by omega)
                cases eb
                obtain ⟨d0, d1, d2, d3⟩ := hcell j (by omega)
                obtain ⟨u, hu⟩ : ∃ u, eAt vs j = u := ⟨_, rfl⟩
                rw [hu] at d0 d1 d2 d3
                have HU := Lib.hid hu
                clear hcell hu
                skip
                have hnext : Hid (ltQ v.p v.t u = false → ∀ j', j' < j + 1 → ltQ v.p v.t (eAt vs j') = false) := by
                  intro h j' hj'
                  by_cases e : j' = j
                  · subst e; rw [HU.out]; exact h
                  · exact HJ.out j' (by omega)
                have hdef : Hid (ltQ v.p v.t u = ((u.k == 0 && sameB u.p v.p) && !sameB u.t v.t)) := rfl
                by_cases hu0 : u.k = 0
                · have U0 : (u.k == 0) = true := by rw [hu0]; rfl
                  clear hu0
                  cases hs : sameB u.p v.p with
                  | true =>
                    have hs1 : (u.p.toList == v.p.toList) = true := hs
                    cases ht : sameB u.t v.t with
                    | true =>
                      have ht1 : (u.t.toList == v.t.toList) = true := ht
                      have ht2 : (u.t.toList != v.t.toList) = false := by rw [bne, ht1]; rfl
                      have hfin : Hid (ltQ v.p v.t u = false) := by unfold Hid; rw [hdef.out, ht]; simp
                      clear hs ht
                      have e := Lib.hid (hnext.out (by exact hfin.out))
                      go_wp2_with fail
                      try (go_quiet (fail); go_wp2_with fail)
                      exact ⟨⟨j + 1, by omega, by go_num, BQ.out.trans ((by repeat first | exact Drew.refl _ | apply Drew.drewN : Drew _ _).below _), HCQ.out.below ((by repeat first | exact Drew.refl _ | apply Drew.drewN : Drew _ _).below _), heap_below XQ.out ((by repeat first | exact Drew.refl _ | apply Drew.drewN : Drew _ _).below _) (lt_of_block XQ.out), e⟩, by simp [intOf]; omega⟩
                    | false =>
                      have ht1 : (u.t.toList == v.t.toList) = false := ht
                      have ht2 : (u.t.toList != v.t.toList) = true := by rw [bne, ht1]; rfl
                      have hlq1 : lq = true := by
                        rw [← hlq.out]; exact (anyTo_iff k).2 ⟨j, hjk, by rw [HU.out, hdef.out, U0, hs, ht]; rfl⟩
                      have hst : Hid (loopE (c3F vs) vs.length 0 () = .inr 16) := loopE_hit hL hlt (by rw [hF.out, if_pos h0, if_pos HK0.out, if_neg (by simp), if_pos hlq1])
                      clear hs ht hlq1
                      go_wp2_with fail
                      try (go_quiet (fail); go_wp2_with fail)
                      exact ret_i (HR.out _ (BQ.out.trans ((by repeat first | exact Drew.refl _ | apply Drew.drewN : Drew _ _).below _))) rfl (by rw [hE.out, hst.out]; rfl)
                  | false =>
                    have hs1 : (u.p.toList == v.p.toList) = false := hs
                    have hfin : Hid (ltQ v.p v.t u = false) := by unfold Hid; rw [hdef.out, hs]; simp
                    clear hs
                    have e := Lib.hid (hnext.out (by exact hfin.out))
                    go_wp2_with fail
                    try (go_quiet (fail); go_wp2_with fail)
                    exact ⟨⟨j + 1, by omega, by go_num, BQ.out.trans ((by repeat first | exact Drew.refl _ | apply Drew.drewN : Drew _ _).below _), HCQ.out.below ((by repeat first | exact Drew.refl _ | apply Drew.drewN : Drew _ _).below _), heap_below XQ.out ((by repeat first | exact Drew.refl _ | apply Drew.drewN : Drew _ _).below _) (lt_of_block XQ.out), e⟩, by simp [intOf]; omega⟩
                · have U0 : (u.k == 0) = false := by simpa using hu0
                  have hfin : Hid (ltQ v.p v.t u = false) := by unfold Hid; rw [hdef.out, U0]; rfl
                  clear hu0
                  have e := Lib.hid (hnext.out (by exact hfin.out))
                  go_wp2_with fail
                  try (go_quiet (fail); go_wp2_with fail)
                  exact ⟨⟨j + 1, by omega, by go_num, BQ.out.trans ((by repeat first | exact Drew.refl _ | apply Drew.drewN : Drew _ _).below _), HCQ.out.below ((by repeat first | exact Drew.refl _ | apply Drew.drewN : Drew _ _).below _), heap_below XQ.out ((by repeat first | exact Drew.refl _ | apply Drew.drewN : Drew _ _).below _) (lt_of_block XQ.out), e⟩, by simp [intOf]; omega⟩
              · obtain rfl : j = k := by omega
                have hlq0 : lq = false := by rw [← hlq.out]; exact anyTo_false HJ.out
                have hst : Hid (c3F vs j () = .inl ()) := by unfold Hid; rw [hF.out, if_pos h0, if_pos HK0.out, if_neg (by simp), if_neg (by rw [hlq0]; simp)]
                clear hlq0
                go_wp2_with fail
                try (go_quiet (fail); go_wp2_with fail)
                try (go_quiet (fail); go_wp2_with fail)
                exact ⟨⟨j + 1, by omega, by go_num, BQ.out.trans ((by repeat first | exact Drew.refl _ | apply Drew.drewN : Drew _ _).below _), loopE_step hL hlt hst.out⟩, by simp [intOf]; omega⟩
        · have K0 : (v.k == 0) = false := by simpa using hk0
          by_cases hk3 : v.k = 3
          · have K3 : (v.k == 3) = true := by rw [hk3]; rfl
            have hFF : Hid (c3F vs k () = if ms = true then if wd = true then .inr 14 else .inl () else .inr 6) := by unfold Hid; rw [hF.out, if_pos h0, if_neg hk0, if_pos hk3]
            clear hk0 hk3
            cases ms with
            | false =>
              have hst : Hid (loopE (c3F vs) vs.length 0 () = .inr 6) := loopE_hit hL hlt (by rw [hFF.out, if_neg (by simp)])
              go_wp2_with fail
              rw [E5.out]
              refine rform_any v _ _ hok ?_
              rw [H0.out]
              intro w6 hb6
              have B6 := Lib.hid (B5.out.trans (hb6.mono B5.out.size))
              have HC6 := Lib.hid ((HCr.out.below HB5.out).below hb6)
              have X6 := Lib.hid (heap_below X5.out hb6 (by omega))
              clear x0 x1 x2 x3 hb6
              have x0 := cell_at X6.out (j := 0) (v := .int .i64 v.k) rfl
              have x2 := cell_at X6.out (j := 2) (v := .string v.p) rfl
              have x3 := cell_at X6.out (j := 3) (v := .string v.t) rfl
              go_wp2_with fail
              go_quiet (first | (go_at_call 45; exact Calls.quiet_of (rwd_q _ vs k _ v.p _ _ hl hk (HC6.out.drewN _) hwd.out)) | (go_at_call 46; exact Calls.quiet_of (rms_q _ vs k _ v.p _ _ hl hk (HC6.out.drewN _) hms.out)))
              go_wp2_with fail
              go_loopw [6] (fun i wr => ∃ (j : Nat), j ≤ k ∧ i = .int .i64 j ∧ Hid (Below w.heap.size w wr) ∧ Hid (CellsAt wr (some ⟨b, o, none⟩) (eC vs)) ∧ Hid (wr.heap[wO.heap.size]? = some (.cells #[.int .i64 v.k, .string v.g, .string v.p, .string v.t] 67 (0, 0)))) (fun i _ => k - (intOf i).toNat)
              case atStart => exact ⟨0, Nat.zero_le _, rfl, B6.out.trans ((by repeat first | exact Drew.refl _ | apply Drew.drewN : Drew _ _).below _), HC6.out.below ((by repeat first | exact Drew.refl _ | apply Drew.drewN : Drew _ _).below _), heap_below X6.out ((by repeat first | exact Drew.refl _ | apply Drew.drewN : Drew _ _).below _) (lt_of_block X6.out)⟩
              case round =>
                obtain ⟨j, hj, rfl, BQ, HCQ, XQ⟩ := hrel
                have x0 := cell_at XQ.out (j := 0) (v := .int .i64 v.k) rfl
                have x2 := cell_at XQ.out (j := 2) (v := .string v.p) rfl
                have x3 := cell_at XQ.out (j := 3) (v := .string v.t) rfl
                by_cases hjk : j < k
                · obtain ⟨b', o', eb, hbb', hcell⟩ := HCQ.out.evts (by omega)
                  cases eb
                  obtain ⟨d0, d1, d2, d3⟩ := hcell j (by omega)
                  obtain ⟨u, hu⟩ : ∃ u, eAt vs j = u := ⟨_, rfl⟩
                  rw [hu] at d0 d1 d2 d3
                  have HU := Lib.hid hu
                  clear hcell hu
                  skip
                  go_wp2_with fail
                  try (go_quiet (fail); go_wp2_with fail)
                  exact ⟨⟨j + 1, by omega, by go_num, BQ.out.trans ((by repeat first | exact Drew.refl _ | apply Drew.drewN : Drew _ _).below _), HCQ.out.below ((by repeat first | exact Drew.refl _ | apply Drew.drewN : Drew _ _).below _), heap_below XQ.out ((by repeat first | exact Drew.refl _ | apply Drew.drewN : Drew _ _).below _) (lt_of_block XQ.out)⟩, by simp [intOf]; omega⟩
                · obtain rfl : j = k := by omega
                  go_wp2_with fail
                  go_quiet (first | (go_at_call 45; exact Calls.quiet_of (rwd_q _ vs j _ v.p _ _ hl hk (HCQ.out.drewN _) hwd.out)) | (go_at_call 46; exact Calls.quiet_of (rms_q _ vs j _ v.p _ _ hl hk (HCQ.out.drewN _) hms.out)))
                  go_wp2_with fail
                  exact ret_i (HR.out _ (BQ.out.trans ((by repeat first | exact Drew.refl _ | apply Drew.drewN : Drew _ _).below _))) rfl (by rw [hE.out, hst.out]; rfl)
            | true =>
              cases wd with
              | true =>
                have hst : Hid (loopE (c3F vs) vs.length 0 () = .inr 14) := loopE_hit hL hlt (by rw [hFF.out, if_pos rfl, if_pos rfl])
                go_wp2_with fail
                rw [E5.out]
                refine rform_any v _ _ hok ?_
                rw [H0.out]
                intro w6 hb6
                have B6 := Lib.hid (B5.out.trans (hb6.mono B5.out.size))
                have HC6 := Lib.hid ((HCr.out.below HB5.out).below hb6)
                have X6 := Lib.hid (heap_below X5.out hb6 (by omega))
                clear x0 x1 x2 x3 hb6
                have x0 := cell_at X6.out (j := 0) (v := .int .i64 v.k) rfl
                have x2 := cell_at X6.out (j := 2) (v := .string v.p) rfl
                have x3 := cell_at X6.out (j := 3) (v := .string v.t) rfl
                go_wp2_with fail
                go_quiet (first | (go_at_call 45; exact Calls.quiet_of (rwd_q _ vs k _ v.p _ _ hl hk (HC6.out.drewN _) hwd.out)) | (go_at_call 46; exact Calls.quiet_of (rms_q _ vs k _ v.p _ _ hl hk (HC6.out.drewN _) hms.out)))
                go_wp2_with fail
                go_loopw [6] (fun i wr => ∃ (j : Nat), j ≤ k ∧ i = .int .i64 j ∧ Hid (Below w.heap.size w wr) ∧ Hid (CellsAt wr (some ⟨b, o, none⟩) (eC vs)) ∧ Hid (wr.heap[wO.heap.size]? = some (.cells #[.int .i64 v.k, .string v.g, .string v.p, .string v.t] 67 (0, 0)))) (fun i _ => k - (intOf i).toNat)
                case atStart => exact ⟨0, Nat.zero_le _, rfl, B6.out.trans ((by repeat first | exact Drew.refl _ | apply Drew.drewN : Drew _ _).below _), HC6.out.below ((by repeat first | exact Drew.refl _ | apply Drew.drewN : Drew _ _).below _), heap_below X6.out ((by repeat first | exact Drew.refl _ | apply Drew.drewN : Drew _ _).below _) (lt_of_block X6.out)⟩
                case round =>
                  obtain ⟨j, hj, rfl, BQ, HCQ, XQ⟩ := hrel
                  have x0 := cell_at XQ.out (j := 0) (v := .int .i64 v.k) rfl
                  have x2 := cell_at XQ.out (j := 2) (v := .string v.p) rfl
                  have x3 := cell_at XQ.out (j := 3) (v := .string v.t) rfl
                  by_cases hjk : j < k
                  · obtain ⟨b', o', eb, hbb', hcell⟩ := HCQ.out.evts (by omega)
                    cases eb
                    obtain ⟨d0, d1, d2, d3⟩ := hcell j (by omega)
                    obtain ⟨u, hu⟩ : ∃ u, eAt vs j = u := ⟨_, rfl⟩
                    rw [hu] at d0 d1 d2 d3
                    have HU := Lib.hid hu
                    clear hcell hu
                    skip
                    go_wp2_with fail
                    try (go_quiet (fail); go_wp2_with fail)
                    exact ⟨⟨j + 1, by omega, by go_num, BQ.out.trans ((by repeat first | exact Drew.refl _ | apply Drew.drewN : Drew _ _).below _), HCQ.out.below ((by repeat first | exact Drew.refl _ | apply Drew.drewN : Drew _ _).below _), heap_below XQ.out ((by repeat first | exact Drew.refl _ | apply Drew.drewN : Drew _ _).below _) (lt_of_block XQ.out)⟩, by simp [intOf]; omega⟩
                  · obtain rfl : j = k := by omega
                    go_wp2_with fail
                    go_quiet (first | (go_at_call 45; exact Calls.quiet_of (rwd_q _ vs j _ v.p _ _ hl hk (HCQ.out.drewN _) hwd.out)) | (go_at_call 46; exact Calls.quiet_of (rms_q _ vs j _ v.p _ _ hl hk (HCQ.out.drewN _) hms.out)))
                    go_wp2_with fail
                    go_quiet ((go_at_call 45; exact quiet_add (rwd_q _ vs j _ v.p _ _ hl hk (HCQ.out.drewN _) hwd.out)))
                    go_wp2_with fail
                    exact ret_i (HR.out _ (BQ.out.trans ((by repeat first | exact Drew.refl _ | apply Drew.drewN : Drew _ _).below _))) rfl (by rw [hE.out, hst.out]; rfl)
              | false =>
                have hst : Hid (c3F vs k () = .inl ()) := by unfold Hid; rw [hFF.out, if_pos rfl, if_neg (by simp)]
                go_wp2_with fail
                rw [E5.out]
                refine rform_any v _ _ hok ?_
                rw [H0.out]
                intro w6 hb6
                have B6 := Lib.hid (B5.out.trans (hb6.mono B5.out.size))
                have HC6 := Lib.hid ((HCr.out.below HB5.out).below hb6)
                have X6 := Lib.hid (heap_below X5.out hb6 (by omega))
                clear x0 x1 x2 x3 hb6
                have x0 := cell_at X6.out (j := 0) (v := .int .i64 v.k) rfl
                have x2 := cell_at X6.out (j := 2) (v := .string v.p) rfl
                have x3 := cell_at X6.out (j := 3) (v := .string v.t) rfl
                go_wp2_with fail
                go_quiet (first | (go_at_call 45; exact Calls.quiet_of (rwd_q _ vs k _ v.p _ _ hl hk (HC6.out.drewN _) hwd.out)) | (go_at_call 46; exact Calls.quiet_of (rms_q _ vs k _ v.p _ _ hl hk (HC6.out.drewN _) hms.out)))
                go_wp2_with fail
                go_loopw [6] (fun i wr => ∃ (j : Nat), j ≤ k ∧ i = .int .i64 j ∧ Hid (Below w.heap.size w wr) ∧ Hid (CellsAt wr (some ⟨b, o, none⟩) (eC vs)) ∧ Hid (wr.heap[wO.heap.size]? = some (.cells #[.int .i64 v.k, .string v.g, .string v.p, .string v.t] 67 (0, 0)))) (fun i _ => k - (intOf i).toNat)
                case atStart => exact ⟨0, Nat.zero_le _, rfl, B6.out.trans ((by repeat first | exact Drew.refl _ | apply Drew.drewN : Drew _ _).below _), HC6.out.below ((by repeat first | exact Drew.refl _ | apply Drew.drewN : Drew _ _).below _), heap_below X6.out ((by repeat first | exact Drew.refl _ | apply Drew.drewN : Drew _ _).below _) (lt_of_block X6.out)⟩
                case round =>
                  obtain ⟨j, hj, rfl, BQ, HCQ, XQ⟩ := hrel
                  have x0 := cell_at XQ.out (j := 0) (v := .int .i64 v.k) rfl
                  have x2 := cell_at XQ.out (j := 2) (v := .string v.p) rfl
                  have x3 := cell_at XQ.out (j := 3) (v := .string v.t) rfl
                  by_cases hjk : j < k
                  · obtain ⟨b', o', eb, hbb', hcell⟩ := HCQ.out.evts (by omega)
                    cases eb
                    obtain ⟨d0, d1, d2, d3⟩ := hcell j (by omega)
                    obtain ⟨u, hu⟩ : ∃ u, eAt vs j = u := ⟨_, rfl⟩
                    rw [hu] at d0 d1 d2 d3
                    have HU := Lib.hid hu
                    clear hcell hu
                    skip
                    go_wp2_with fail
                    try (go_quiet (fail); go_wp2_with fail)
                    exact ⟨⟨j + 1, by omega, by go_num, BQ.out.trans ((by repeat first | exact Drew.refl _ | apply Drew.drewN : Drew _ _).below _), HCQ.out.below ((by repeat first | exact Drew.refl _ | apply Drew.drewN : Drew _ _).below _), heap_below XQ.out ((by repeat first | exact Drew.refl _ | apply Drew.drewN : Drew _ _).below _) (lt_of_block XQ.out)⟩, by simp [intOf]; omega⟩
                  · obtain rfl : j = k := by omega
                    go_wp2_with fail
                    go_quiet (first | (go_at_call 45; exact Calls.quiet_of (rwd_q _ vs j _ v.p _ _ hl hk (HCQ.out.drewN _) hwd.out)) | (go_at_call 46; exact Calls.quiet_of (rms_q _ vs j _ v.p _ _ hl hk (HCQ.out.drewN _) hms.out)))
                    go_wp2_with fail
                    go_quiet ((go_at_call 45; exact quiet_add (rwd_q _ vs j _ v.p _ _ hl hk (HCQ.out.drewN _) hwd.out)))
                    go_wp2_with fail
                    exact ⟨⟨j + 1, by omega, by go_num, BQ.out.trans ((by repeat first | exact Drew.refl _ | apply Drew.drewN : Drew _ _).below _), loopE_step hL hlt hst.out⟩, by simp [intOf]; omega⟩
          · have K3 : (v.k == 3) = false := by simpa using hk3
            have hst : Hid (c3F vs k () = .inl ()) := by unfold Hid; rw [hF.out, if_pos h0, if_neg hk0, if_neg hk3]
            clear hk0 hk3
            go_wp2_with fail
            rw [E5.out]
            refine rform_any v _ _ hok ?_
            rw [H0.out]
            intro w6 hb6
            have B6 := Lib.hid (B5.out.trans (hb6.mono B5.out.size))
            have HC6 := Lib.hid ((HCr.out.below HB5.out).below hb6)
            have X6 := Lib.hid (heap_below X5.out hb6 (by omega))
            clear x0 x1 x2 x3 hb6
            have x0 := cell_at X6.out (j := 0) (v := .int .i64 v.k) rfl
            have x2 := cell_at X6.out (j := 2) (v := .string v.p) rfl
            have x3 := cell_at X6.out (j := 3) (v := .string v.t) rfl
            go_wp2_with fail
            go_quiet (first | (go_at_call 45; exact Calls.quiet_of (rwd_q _ vs k _ v.p _ _ hl hk (HC6.out.drewN _) hwd.out)) | (go_at_call 46; exact Calls.quiet_of (rms_q _ vs k _ v.p _ _ hl hk (HC6.out.drewN _) hms.out)))
            go_wp2_with fail
            go_loopw [6] (fun i wr => ∃ (j : Nat), j ≤ k ∧ i = .int .i64 j ∧ Hid (Below w.heap.size w wr) ∧ Hid (CellsAt wr (some ⟨b, o, none⟩) (eC vs)) ∧ Hid (wr.heap[wO.heap.size]? = some (.cells #[.int .i64 v.k, .string v.g, .string v.p, .string v.t] 67 (0, 0)))) (fun i _ => k - (intOf i).toNat)
            case atStart => exact ⟨0, Nat.zero_le _, rfl, B6.out.trans ((by repeat first | exact Drew.refl _ | apply Drew.drewN : Drew _ _).below _), HC6.out.below ((by repeat first | exact Drew.refl _ | apply Drew.drewN : Drew _ _).below _), heap_below X6.out ((by repeat first | exact Drew.refl _ | apply Drew.drewN : Drew _ _).below _) (lt_of_block X6.out)⟩
            case round =>
              obtain ⟨j, hj, rfl, BQ, HCQ, XQ⟩ := hrel
              have x0 := cell_at XQ.out (j := 0) (v := .int .i64 v.k) rfl
              have x2 := cell_at XQ.out (j := 2) (v := .string v.p) rfl
              have x3 := cell_at XQ.out (j := 3) (v := .string v.t) rfl
              by_cases hjk : j < k
              · obtain ⟨b', o', eb, hbb', hcell⟩ := HCQ.out.evts (by omega)
                cases eb
                obtain ⟨d0, d1, d2, d3⟩ := hcell j (by omega)
                obtain ⟨u, hu⟩ : ∃ u, eAt vs j = u := ⟨_, rfl⟩
                rw [hu] at d0 d1 d2 d3
                have HU := Lib.hid hu
                clear hcell hu
                skip
                go_wp2_with fail
                try (go_quiet (fail); go_wp2_with fail)
                exact ⟨⟨j + 1, by omega, by go_num, BQ.out.trans ((by repeat first | exact Drew.refl _ | apply Drew.drewN : Drew _ _).below _), HCQ.out.below ((by repeat first | exact Drew.refl _ | apply Drew.drewN : Drew _ _).below _), heap_below XQ.out ((by repeat first | exact Drew.refl _ | apply Drew.drewN : Drew _ _).below _) (lt_of_block XQ.out)⟩, by simp [intOf]; omega⟩
              · obtain rfl : j = k := by omega
                go_wp2_with fail
                try (go_quiet (fail); go_wp2_with fail)
                try (go_quiet (fail); go_wp2_with fail)
                exact ⟨⟨j + 1, by omega, by go_num, BQ.out.trans ((by repeat first | exact Drew.refl _ | apply Drew.drewN : Drew _ _).below _), loopE_step hL hlt hst.out⟩, by simp [intOf]; omega⟩
      · have hst : Hid (loopE (c3F vs) vs.length 0 () = .inl ()) := loopE_done hL hlt
        go_wp2_with fail
        exact ret_i (HR.out _ HB.out) rfl (by rw [hE.out, hst.out]; rfl)
end Go.Proofs.Ytfamennpajjajaa
