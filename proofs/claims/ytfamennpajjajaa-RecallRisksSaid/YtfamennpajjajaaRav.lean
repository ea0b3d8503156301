/- The walk of the law RecallRisks. (Printed by gen_risks.py.) -/
import Derived.Test.YtfamennpajjajaaRau
namespace Go.Proofs.Ytfamennpajjajaa
open Go.RowKit Go.Maps

theorem perm_len {a b : List ByteArray} (ha : a.Nodup) (hb : b.Nodup) (h : ∀ s, s ∈ a ↔ s ∈ b) : a.length = b.length := ((List.perm_ext_iff_of_nodup ha hb).2 h).length_eq
set_option maxRecDepth 100000 in
set_option maxHeartbeats 16000000 in
theorem lawRisks (ao : Option Addr) (vs : List Ev) (c : Nat) (g : ByteArray) (w : World) (R : Ending → World → Prop) (hl : vs.length * 56 ≤ 140737488355328) (hnil : ao = none → vs.length = 0 ∧ c = 0) (hc : CellsAt w ao (eC vs)) (hv : LogOk vs) (hgl : g.size ≤ 9223372036854775807)
   (hR : ∀ w', Below w.heap.size w w' → R (.returned (.bool true)) w') :
    Calls Try.prog 8 #[.slice ao vs.length c, .string g] w R := by
  have HR := Lib.hid hR
  have HC := Lib.hid hc
  have HV := Lib.hid hv
  have HNil := Lib.hid hnil
  clear hR hc hv hnil
  obtain ⟨F, hF⟩ : ∃ F, Hid (rgL vs = F) := ⟨_, rfl⟩
  obtain ⟨E2, hE2⟩ : ∃ E, Hid (nmE g = E) := ⟨_, rfl⟩
  go_enter Try.func8, Try.ntmps8
  go_wp2_with fail
  refine right53_any ao vs c _ _ hl HC.out HV.out ?_
  rw [hF.out]
  intro w1 hb
  have HB1 := Lib.hid hb
  clear hb
  cases F with
  | false =>
    go_wp2_with fail
    refine awake53_any _ _ ?_
    intro wa hb
    have HBa : Hid (Below w.heap.size w wa) := HB1.out.trans (hb.mono HB1.out.size)
    clear hb
    go_wp2_with fail
    exact HR.out _ HBa.out
  | true =>
    by_cases h60 : 60 < g.size
    · 
      go_wp2_with fail
      refine awake53_any _ _ ?_
      intro wa hb
      have HBa : Hid (Below w.heap.size w wa) := HB1.out.trans (hb.mono HB1.out.size)
      clear hb
      go_wp2_with fail
      exact HR.out _ HBa.out
    have h60' : (g.size : Int) ≤ 60 := by omega
    go_wp2_with fail
    refine rname_any g _ _ hgl ?_
    rw [hE2.out]
    by_cases h2 : E2 = 0
    case neg =>
      have K0 : (E2 != 0) = true := by simpa using h2
      clear h2
      go_wp2_with fail
      refine awake53_any _ _ ?_
      intro wa hb
      have HBa : Hid (Below w.heap.size w wa) := HB1.out.trans (hb.mono HB1.out.size)
      clear hb
      go_wp2_with fail
      exact HR.out _ HBa.out
    subst h2
    obtain ⟨hE', hln⟩ := rg_is hF.out
    have hE := Lib.hid hE'
    have hg6 : g.size ≤ 60 := by omega
    clear hE'
    obtain ⟨P, hP⟩ : ∃ P, Hid (allL vs = P) := ⟨_, rfl⟩
    obtain ⟨K, hK⟩ : ∃ K, Hid (riskL vs g = K) := ⟨_, rfl⟩
    obtain ⟨A, hA⟩ : ∃ A, Hid (allL (vs ++ [ckEv 2 g]) = A) := ⟨_, rfl⟩
    obtain ⟨G, hG⟩ : ∃ G, Hid (allL (vs ++ [ckEv 1 g]) = G) := ⟨_, rfl⟩
    obtain ⟨U, hU⟩ : ∃ U, Hid (unsL (vs ++ [ckEv 2 g]) = U) := ⟨_, rfl⟩
    obtain ⟨V, hVv⟩ : ∃ V, Hid (unsL (vs ++ [ckEv 1 g]) = V) := ⟨_, rfl⟩
    have lP : P.length ≤ 16 := by rw [← hP.out]; exact Nat.le_trans (allL_len vs) hln
    have lA : A.length ≤ 17 := by rw [← hA.out]; refine Nat.le_trans (allL_len _) ?_; rw [len1]; omega
    have lG : G.length ≤ 17 := by rw [← hG.out]; refine Nat.le_trans (allL_len _) ?_; rw [len1]; omega
    have lK : K.length ≤ 17 := by rw [← hK.out]; refine Nat.le_trans (List.length_filter_le _ _) (Nat.le_trans (allL_len _) ?_); rw [len1]; omega
    have lU : U.length ≤ 17 := by rw [← hU.out]; refine Nat.le_trans (putsTo_len _ _ _) ?_; rw [len1]; omega
    have lV : V.length ≤ 17 := by rw [← hVv.out]; refine Nat.le_trans (putsTo_len _ _ _) ?_; rw [len1]; omega
    have hE2b : Hid (chk3 (vs ++ [ckEv 2 g]) = 0) := chk_app hE.out (by omega) (ok_check (.inr rfl) hE2.out)
    have hE1b : Hid (chk3 (vs ++ [ckEv 1 g]) = 0) := chk_app hE.out (by omega) (ok_check (.inl rfl) hE2.out)
    have hO2b : Hid (LogOk (vs ++ [ckEv 2 g])) := ok_app HV.out ⟨by show g.size ≤ _; omega, by show (0 : Nat) ≤ _; omega, by show (0 : Nat) ≤ _; omega⟩
    have hO1b : Hid (LogOk (vs ++ [ckEv 1 g])) := ok_app HV.out ⟨by show g.size ≤ _; omega, by show (0 : Nat) ≤ _; omega, by show (0 : Nat) ≤ _; omega⟩
    have hUg : Hid (hasL U g = false) := by
      unfold Hid; rw [← hU.out]
      cases hx : hasL (unsL (vs ++ [ckEv 2 g])) g with
      | false => rfl
      | true => exact absurd (hasL_iff.1 hx) (uns_check (.inr rfl))
    have hVg : Hid (hasL V g = false) := by
      unfold Hid; rw [← hVv.out]
      cases hx : hasL (unsL (vs ++ [ckEv 1 g])) g with
      | false => rfl
      | true => exact absurd (hasL_iff.1 hx) (uns_check (.inl rfl))
    have hPKm : Hid (∀ s, s ∈ P ++ K ↔ rcl (vs ++ [ckEv 2 g]) s = true) := by
      intro s
      rw [List.mem_append, ← hP.out, ← hK.out, (allL_srt vs).mem, risk_mem]
      constructor
      · rintro (h | h)
        · exact rcl_bad h
        · exact h.1
      · intro h
        by_cases h2 : rcl vs s = true
        · exact .inl h2
        · exact .inr ⟨h, h2⟩
    have hPKn : Hid ((P ++ K).Nodup) := by
      unfold Hid
      rw [List.nodup_append]
      refine ⟨by rw [← hP.out]; exact (allL_srt vs).nodup, by rw [← hK.out]; exact ((allL_srt (vs ++ [badEv g])).nodup).sublist List.filter_sublist, fun a ha b hb e => ?_⟩
      subst e
      rw [← hP.out, (allL_srt vs).mem] at ha
      rw [← hK.out, risk_mem] at hb
      exact hb.2 ha
    have hAs : Hid (SrtIs A (rcl (vs ++ [ckEv 2 g]))) := by unfold Hid; rw [← hA.out]; exact allL_srt _
    have hlen : Hid (P.length + K.length = A.length) := by
      unfold Hid
      rw [← List.length_append]
      exact perm_len hPKn.out hAs.out.nodup fun s => by rw [hPKm.out, hAs.out.mem]
    have hGP : Hid (∀ s, s ∈ G → hasL P s = true) := fun s hs => by
      rw [hasL_iff, ← hP.out, (allL_srt vs).mem]
      rw [← hG.out, (allL_srt _).mem] at hs
      exact rcl_good hs
    have hn1 : ∀ v, Hid ((vs ++ [v]).length = vs.length + 1) := fun v => len1 vs v
    go_wp2_with fail
    refine parts53At ao vs vs.length P.length c P _ _ rfl (by omega) hE.out hP.out rfl (HC.out.below HB1.out) HV.out ?_
    intro a2 c2 w2 hb hc2
    have HB2 : Hid (Below w.heap.size w w2) := HB1.out.trans (hb.mono HB1.out.size)
    have HP2 := Lib.hid hc2
    clear hb hc2
    go_wp2_with fail
    refine atRisk53At ao vs vs.length K.length c g K _ _ rfl (by omega) hg6 hE.out hE2.out hK.out rfl (HC.out.below HB2.out) HV.out ?_
    intro a3 c3 w3 hb hc3
    have HB3 : Hid (Below w.heap.size w w3) := HB2.out.trans (hb.mono HB2.out.size)
    have HP3 := Lib.hid (HP2.out.below hb)
    have HK3 := Lib.hid hc3
    have s3 := HB3.out.size
    clear hb hc3
    go_wp2_with fail
    refine clone53_any ao vs c _ _ (by omega) HNil.out (HC.out.below HB3.out) ?_
    intro v4 w4 hb ho
    have TC5 := Lib.hid hb
    have HO4 := Lib.hid ho
    have s4 := TC5.out.size
    clear hb ho
    go_wp2_with (first | (at_builtin; refine wp_appendE rfl (.tmp 48) (.tmp 51) 22 rfl w3.heap.size 51 Try.underlying22 Try.infoPEv rfl (by decide) v4 vs.length (eC vs) rfl (ownsRow_below HO4.out ((Below.refl _ _).alloc (Nat.le_refl _) _)) (some ⟨w4.heap.size, 0, none⟩) 1 1 (eC [ckEv 2 g]) rfl rfl (by simp) (by exact cells4 w4 (.int .i64 2) (.string g) (.string ⟨#[]⟩) (.string ⟨#[]⟩) 51) (eC_one _) (by omega) (by omega) (by simp only [World.size_alloc]; omega) ?_; intro v5 w5 hown hb; rw [← eC_append] at hown; have T5 : Hid (Below w3.heap.size w3 w5) := ((TC5.out).alloc TC5.out.size _).trans hb; obtain ⟨a5, c5, rfl, hr, _⟩ := ownsRow_read hown; have HL5 := Lib.hid hr; clear hown hb hr) | fail)
    have HB5 : Hid (Below w.heap.size w w5) := HB3.out.trans (T5.out.mono s3)
    have s5 := HB5.out.size
    refine clone53_any ao vs c _ _ (by omega) HNil.out (HC.out.below HB5.out) ?_
    intro v6 w6 hb ho
    have TC7 := Lib.hid hb
    have HO6 := Lib.hid ho
    have s6 := TC7.out.size
    clear hb ho
    go_wp2_with (first | (at_builtin; refine wp_appendE rfl (.tmp 54) (.tmp 57) 22 rfl w5.heap.size 51 Try.underlying22 Try.infoPEv rfl (by decide) v6 vs.length (eC vs) rfl (ownsRow_below HO6.out ((Below.refl _ _).alloc (Nat.le_refl _) _)) (some ⟨w6.heap.size, 0, none⟩) 1 1 (eC [ckEv 1 g]) rfl rfl (by simp) (by exact cells4 w6 (.int .i64 1) (.string g) (.string ⟨#[]⟩) (.string ⟨#[]⟩) 51) (eC_one _) (by omega) (by omega) (by simp only [World.size_alloc]; omega) ?_; intro v7 w7 hown hb; rw [← eC_append] at hown; have T7 : Hid (Below w5.heap.size w5 w7) := ((TC7.out).alloc TC7.out.size _).trans hb; obtain ⟨a7, c7, rfl, hr, _⟩ := ownsRow_read hown; have HL7 := Lib.hid hr; clear hown hb hr) | fail)
    have T57 := T7
    have HL5b := Lib.hid (HL5.out.below T7.out)
    have T37 : Hid (Below w3.heap.size w3 w7) := T5.out.trans (T7.out.mono T5.out.size)
    refine parts53At a5 (vs ++ [ckEv 2 g]) (vs.length + 1) A.length c5 A _ _ (hn1 _).out (by omega) hE2b.out hA.out rfl HL5b.out hO2b.out ?_
    intro a8 c8 w8 hb hc8
    have T8 := Lib.hid hb
    have HA8 := Lib.hid hc8
    clear hb hc8
    go_wp2_with fail
    refine parts53At a7 (vs ++ [ckEv 1 g]) (vs.length + 1) G.length c7 G _ _ (hn1 _).out (by omega) hE1b.out hG.out rfl (HL7.out.below T8.out) hO1b.out ?_
    intro a9 c9 w9 hb hc9
    have T9 : Hid (Below w7.heap.size w7 w9) := T8.out.trans (hb.mono T8.out.size)
    have HA9 := Lib.hid (HA8.out.below hb)
    have HG9 := Lib.hid hc9
    clear hb hc9
    go_wp2_with fail
    refine unsure53At a5 (vs ++ [ckEv 2 g]) (vs.length + 1) U.length c5 U _ _ (hn1 _).out (by omega) hE2b.out hU.out rfl (HL5b.out.below T9.out) hO2b.out ?_
    intro a10 c10 w10 hb hc10
    have T10 : Hid (Below w7.heap.size w7 w10) := T9.out.trans (hb.mono T9.out.size)
    have HA10 := Lib.hid (HA9.out.below hb)
    have HG10 := Lib.hid (HG9.out.below hb)
    have HU10 := Lib.hid hc10
    clear hb hc10
    go_wp2_with fail
    refine unsure53At a7 (vs ++ [ckEv 1 g]) (vs.length + 1) V.length c7 V _ _ (hn1 _).out (by omega) hE1b.out hVv.out rfl (HL7.out.below T10.out) hO1b.out ?_
    intro a11 c11 w11 hb hc11
    have T11 : Hid (Below w7.heap.size w7 w11) := T10.out.trans (hb.mono T10.out.size)
    have HA11 := Lib.hid (HA10.out.below hb)
    have HG11 := Lib.hid (HG10.out.below hb)
    have HU11 := Lib.hid (HU10.out.below hb)
    have HV11 := Lib.hid hc11
    have T311 : Hid (Below w3.heap.size w3 w11) := T37.out.trans (T11.out.mono T37.out.size)
    have HP11 := Lib.hid (HP3.out.below T311.out)
    have HK11 := Lib.hid (HK3.out.below T311.out)
    have HB11 : Hid (Below w.heap.size w w11) := HB3.out.trans (T311.out.mono s3)
    clear hb hc11
    go_wp2_with fail
    refine contS_any a10 U U.length c10 g false _ _ rfl (by omega) hUg.out HU11.out ?_
    go_wp2_with fail
    refine contS_any a11 V V.length c11 g false _ _ rfl (by omega) hVg.out HV11.out ?_
    go_wp2_with fail
    have hA12 : Below w11.heap.size w11 (w11.alloc (.cells #[.slice a2 P.length c2, .slice a3 K.length c3] 33)) := (Below.refl _ _).alloc (Nat.le_refl _) _
    refine concatS_any w11.heap.size a2 a3 P K c2 c3 _ _ (by omega) (by omega) (by simp) (cell_at (World.alloc_heap_new w11 _) rfl) (cell_at (World.alloc_heap_new w11 _) rfl) (HP11.out.below hA12) (HK11.out.below hA12) ?_
    intro v12 w12 hb ho
    have T12 : Hid (Below w11.heap.size w11 w12) := hA12.trans (hb.mono (by simp))
    have HO12 : Hid (w12.ownsRow w11.heap.size 9 1 v12 (P ++ K).length (sC (P ++ K))) := by unfold Hid; rw [List.length_append]; exact ownsRow_mono ho (by simp)
    clear hb ho hA12
    go_wp2_with fail
    refine sortS_any w11.heap.size (P ++ K) A (rcl (vs ++ [ckEv 2 g])) v12 _ _ (by rw [List.length_append]; omega) T12.out.size HO12.out hPKn.out hPKm.out hAs.out ?_
    intro w13 hb ho
    have T13 : Hid (Below w11.heap.size w11 w13) := T12.out.trans hb
    rw [List.length_append, hlen.out] at ho
    obtain ⟨a12, c12, rfl, hr, _⟩ := ownsRow_read ho
    have HS13 := Lib.hid hr
    have HG13 := Lib.hid (HG11.out.below T13.out)
    have HA13 := Lib.hid (HA11.out.below T13.out)
    have HP13 := Lib.hid (HP11.out.below T13.out)
    have HB13 : Hid (Below w.heap.size w w13) := HB11.out.trans (T13.out.mono HB11.out.size)
    clear hb ho hr
    go_wp2_with fail
    go_loopw [109] (fun j wr => ∃ k : Nat, k ≤ G.length ∧ j = .int .i64 k ∧ Drew w13 wr) (fun j _ => G.length - (intOf j).toNat)
    case atStart => exact ⟨0, Nat.zero_le _, rfl, Drew.refl _⟩
    case round =>
      obtain ⟨k, hk, rfl, ⟨q, rfl⟩⟩ := hrel
      have hbq : Below w13.heap.size w13 (w13.drewN q) := (Drew.refl _).drewN.below _
      by_cases hlt : k < G.length
      · obtain ⟨bp, op, rfl, hbp, hcell⟩ := HG13.out.strs (by omega)
        have cp := hcell k hlt
        have hkm : kat G k ∈ G := by rw [kat_lt hlt]; exact List.getElem_mem _
        have hPs := Lib.hid (hGP.out _ hkm)
        obtain ⟨p, hp⟩ : ∃ p, kat G k = p := ⟨_, rfl⟩
        rw [hp] at cp hPs
        have HPq := Lib.hid (HP13.out.below hbq)
        clear hcell hkm hp hbq
        go_wp2_with fail
        refine contS_any a2 P P.length c2 p true _ _ rfl (by omega) hPs.out HPq.out ?_
        go_wp2_with fail
        exact ⟨⟨k + 1, by omega, by go_num, (by repeat first | exact Drew.refl _ | apply Drew.drewN)⟩, by simp [intOf]; omega⟩
      · have HSq := Lib.hid (HS13.out.below hbq)
        have HAq := Lib.hid (HA13.out.below hbq)
        have HBq : Hid (Below w.heap.size w (w13.drewN q)) := HB13.out.trans (hbq.mono HB13.out.size)
        clear hbq
        go_wp2_with fail
        refine equalS_same a12 a8 A A.length c12 c8 _ _ rfl (by omega) HSq.out HAq.out ?_
        intro w14 hd
        have HB14 : Hid (Below w.heap.size w w14) := HBq.out.trans (hd.below _)
        clear hd
        go_wp2_with fail
        refine awake53_any _ _ ?_
        intro wa hb
        have HBa : Hid (Below w.heap.size w wa) := HB14.out.trans (hb.mono HB14.out.size)
        clear hb
        go_wp2_with fail
        exact HR.out _ HBa.out
end Go.Proofs.Ytfamennpajjajaa
