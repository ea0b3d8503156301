/- The walk of the law RecallEnds. -/
import Derived.Test.YtfamennpajjajaaRaq
namespace Go.Proofs.Ytfamennpajjajaa
open Go.RowKit Go.Maps

set_option maxRecDepth 100000 in
set_option maxHeartbeats 16000000 in
theorem lawEnds (ao : Option Addr) (vs : List Ev) (c : Nat) (w : World) (R : Ending → World → Prop) (hl : vs.length * 56 ≤ 140737488355328) (hnil : ao = none → vs.length = 0 ∧ c = 0) (hc : CellsAt w ao (eC vs)) (hv : LogOk vs)
   (hR : ∀ w', Below w.heap.size w w' → R (.returned (.bool true)) w') :
    Calls Try.prog 7 #[.slice ao vs.length c] w R := by
  have HR := Lib.hid hR
  have HC := Lib.hid hc
  have HV := Lib.hid hv
  have HNil := Lib.hid hnil
  clear hR hc hv hnil
  obtain ⟨F, hF⟩ : ∃ F, Hid (rgL vs = F) := ⟨_, rfl⟩
  go_enter Try.func7, Try.ntmps7
  go_wp2_with fail
  refine right53_any ao vs c _ _ hl HC.out HV.out ?_
  rw [hF.out]
  intro w1 hb
  have HB1 := Lib.hid hb
  clear hb
  cases F with
  | false =>
    go_wp2_with fail
    refine awake53_any _ _ ?_
    intro w2 hb
    have HB2 : Hid (Below w.heap.size w w2) := HB1.out.trans (hb.mono HB1.out.size)
    clear hb
    go_wp2_with fail
    exact HR.out _ HB2.out
  | true =>
    obtain ⟨hE', hln⟩ := rg_is hF.out
    have hE := Lib.hid hE'
    clear hE'
    obtain ⟨L, hL⟩ : ∃ L, Hid (allL vs = L) := ⟨_, rfl⟩
    have hLl : L.length ≤ 16 := by rw [← hL.out]; exact Nat.le_trans (allL_len vs) hln
    have hmem : Hid (∀ p, p ∈ L → rcl vs p = true) := fun p hp => ((allL_srt vs).mem p).1 (by rw [hL.out]; exact hp)
    have hsz : Hid (∀ p, p ∈ L → p.size ≤ 24) := fun p hp => nm_size (rcl_nm hE.out (hmem.out p hp))
    go_wp2_with fail
    refine parts53At ao vs vs.length L.length c L _ _ rfl (by omega) hE.out hL.out rfl (HC.out.below HB1.out) HV.out ?_
    intro a2 c2 w2 hb hc2
    have HB2 : Hid (Below w.heap.size w w2) := HB1.out.trans (hb.mono HB1.out.size)
    have HP := Lib.hid hc2
    clear hb hc2
    go_wp2_with fail
    refine clone53_any ao vs c _ _ (by omega) HNil.out (HC.out.below HB2.out) ?_
    intro v3 w3 hb ho
    have T3 := Lib.hid hb
    have HO3 := Lib.hid ho
    have s2 := HB2.out.size
    clear hb ho
    go_wp2_with fail
    go_loopw [29, 5] (fun j v wr => ∃ k : Nat, k ≤ L.length ∧ j = .int .i64 k ∧ Hid (Below w2.heap.size w2 wr) ∧ Hid (wr.ownsRow w2.heap.size 51 4 v (vs.length + k) (eC (vs ++ (L.take k).map wdEv)))) (fun j _ _ => L.length - (intOf j).toNat)
    case atStart => exact ⟨0, Nat.zero_le _, rfl, T3, by unfold Hid; rw [List.take_zero, List.map_nil, List.append_nil]; exact HO3.out⟩
    case round =>
      obtain ⟨k, hk, rfl, HB, HO⟩ := hrel
      have sB := HB.out.size
      have HBw : Hid (Below w.heap.size w wr) := HB2.out.trans (HB.out.mono s2)
      by_cases hlt : k < L.length
      · obtain ⟨bp, op, rfl, hbp, hcell⟩ := HP.out.strs (by omega)
        have cp := hcell k hlt
        have dp := cellB HB.out cp hbp
        have hkm : kat L k ∈ L := by rw [kat_lt hlt]; exact List.getElem_mem _
        have hr := hmem.out _ hkm
        have hps := hsz.out _ hkm
        have hms := (rcl_ms hr).1
        rw [← List.take_length (l := vs), ← anyTo_take _ vs vs.length (Nat.le_refl _)] at hms
        have hnm := rcl_nm hE.out hr
        obtain ⟨i, j, r1, r2, rij, rj, rp, rk, rkj, rg⟩ := reason_is hr
        have hst : Hid (eC (vs ++ (L.take (k + 1)).map wdEv) = eC (vs ++ (L.take k).map wdEv) ++ eC [wdEv (kat L k)]) := by
          unfold Hid; rw [List.take_succ_eq_append_getElem hlt, List.map_append, ← List.append_assoc, eC_append, kat_lt hlt]; rfl
        obtain ⟨p, hp⟩ : ∃ p, kat L k = p := ⟨_, rfl⟩
        rw [hp] at dp hr hps hms hnm r1 r2 rp hst
        obtain ⟨b, o, rfl, hbb, hcell2⟩ := HC.out.evts (by omega)
        obtain ⟨i0, i1, i2, i3⟩ := hcell2 i (by omega)
        obtain ⟨j0, j1, j2, j3⟩ := hcell2 j rj
        obtain ⟨u, hu⟩ : ∃ u, eAt vs i = u := ⟨_, rfl⟩
        obtain ⟨x, hx⟩ : ∃ x, eAt vs j = x := ⟨_, rfl⟩
        rw [hu] at i0 i1 i2 i3 rp rk rg
        rw [hx] at j0 j1 j2 j3 rkj rg
        have HM := Lib.hid hms
        have HN := Lib.hid hnm
        have HRc := Lib.hid hr
        have R1 := Lib.hid r1
        have R2 := Lib.hid r2
        have K1 : (u.p.toList == p.toList) = true := by rw [rp]; simp
        have K2 : (u.k != 0) = false := by rw [rk]; rfl
        have K3 : (x.k != 2) = false := by rw [rkj]; rfl
        have K4 : (x.g.toList == u.g.toList) = true := by rw [rg]; simp
        have L0 : i < vs.length := by omega
        have L1 : ¬ ((i : Int) < 0) := by omega
        have L2 : ¬ ((j : Int) ≤ i) := by omega
        have L3 : ¬ ((vs.length : Int) ≤ j) := by omega
        clear hcell hcell2 cp hkm hp hu hx rp rk rkj rg r1 r2 hr hms hnm
        go_wp2_with fail
        refine reason53At _ vs vs.length c p i j 0 _ _ rfl (by omega) (by omega) hE.out HN.out HM.out (.inl ⟨HRc.out, R1.out, R2.out, rfl⟩) (HC.out.below HBw.out) HV.out ?_
        intro w4 hb
        have T4 : Hid (Below w2.heap.size w2 w4) := HB.out.trans (hb.mono sB)
        have HO4 : Hid (w4.ownsRow w2.heap.size 51 4 u5 (vs.length + k) (eC (vs ++ (L.take k).map wdEv))) := ownsRow_below HO.out hb
        have HBw4 : Below w.heap.size w w4 := HBw.out.trans (hb.mono HBw.out.size)
        have e0 := cellB HBw4 i0 hbb
        have e1 := cellB HBw4 i1 hbb
        have e2 := cellB HBw4 i2 hbb
        have f0 := cellB HBw4 j0 hbb
        have f1 := cellB HBw4 j1 hbb
        have s4 := T4.out.size
        have H4 := Lib.hid HBw4
        clear hb i0 i1 i2 i3 j0 j1 j2 j3 dp HBw4
        go_wp2_with fail
        go_quiet (fail)
        go_wp2_with (at_builtin; refine wp_appendE rfl (.tmp 95) (.tmp 98) 22 rfl w2.heap.size 51 Try.underlying22 Try.infoPEv rfl (by decide) u5 (vs.length + k) (eC (vs ++ (L.take k).map wdEv)) rfl (ownsRow_below (ownsRow_below HO4.out (Drew.below (by repeat first | exact Drew.refl _ | apply Drew.drewN) _)) ((Below.refl _ _).alloc (Nat.le_refl _) _)) (some ⟨w4.heap.size, 0, none⟩) 1 1 (eC [wdEv p]) rfl rfl (by simp) (by exact cells4 _ (.int .i64 3) (.string ⟨#[]⟩) (.string p) (.string ⟨#[]⟩) 51) (eC_one _) (by omega) (by omega) (by simp; omega) ?_; intro v5 w5 hown hb; have HO5 := Lib.hid hown; have T5 : Hid (Below w2.heap.size w2 w5) := ((T4.out.trans (Drew.below (by repeat first | exact Drew.refl _ | apply Drew.drewN) _)).alloc (by exact s4) _).trans hb; clear hown hb)
        exact ⟨⟨k + 1, by omega, by go_num, T5, by unfold Hid; rw [hst.out]; exact HO5.out⟩, by simp [intOf]; omega⟩
      · obtain rfl : k = L.length := by omega
        rw [List.take_length] at HO
        obtain ⟨a5, c5, rfl, h5, _⟩ := ownsRow_read HO.out
        have H5 := Lib.hid h5
        have HO5 := Lib.hid (ok_wds HV.out L hsz.out)
        have hlen : Hid (vs.length + L.length = (vs ++ L.map wdEv).length) := by unfold Hid; rw [List.length_append, List.length_map]
        have hnd : L.Nodup := by rw [← hL.out]; exact (allL_srt vs).nodup
        have HE5 := Lib.hid (chk_wds hE.out L.length L rfl (by omega) hnd hmem.out)
        have HA5 : Hid (allL (vs ++ L.map wdEv) = []) := by unfold Hid; rw [← hL.out]; exact all_wds vs
        have HT5 : Hid (lotL (vs ++ L.map wdEv) = []) := by unfold Hid; rw [← hL.out]; exact lot_wds vs
        clear h5 hnd
        go_wp2_with fail
        refine parts53At a5 (vs ++ L.map wdEv) (vs.length + L.length) 0 c5 [] _ _ hlen.out.symm (by omega) HE5.out HA5.out rfl H5.out HO5.out ?_
        intro a6 c6 w6 hb _
        have s6 := HBw.out.size
        have HB6 : Hid (Below w.heap.size w w6) := HBw.out.trans (hb.mono HBw.out.size)
        have H6 := Lib.hid (H5.out.below hb)
        clear hb
        go_wp2_with fail
        refine lots53At a5 (vs ++ L.map wdEv) (vs.length + L.length) 0 c5 [] _ _ hlen.out.symm (by omega) HE5.out HT5.out rfl H6.out HO5.out ?_
        intro a7 c7 w7 hb _
        have HB7 : Hid (Below w.heap.size w w7) := HB6.out.trans (hb.mono HB6.out.size)
        clear hb
        go_wp2_with fail
        refine awake53_any _ _ ?_
        intro w8 hb
        have HB8 : Hid (Below w.heap.size w w8) := HB7.out.trans (hb.mono HB7.out.size)
        clear hb
        go_wp2_with fail
        exact HR.out _ HB8.out
end Go.Proofs.Ytfamennpajjajaa
