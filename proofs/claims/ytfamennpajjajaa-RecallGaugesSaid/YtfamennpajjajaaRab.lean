/- slices.ContainsFunc at events. (Printed by gen_contains.py.) -/
import Derived.Test.YtfamennpajjajaaRaa
namespace Go.Proofs.Ytfamennpajjajaa
open Go.RowKit Go.Maps

theorem closEG (u : Ev) (hul : u.g.size ≤ maxLen) (Bp Bm b n : Nat) (p : ByteArray) (g : SMap) (gq : ByteArray → Bool) (w : World) (hp : w.cell? ⟨Bp, 0, none⟩ = some (.string p)) (hpl : Bp < w.heap.size) (hm : Boxed w Bm 49 (.map (some b))) (hM : MapIs Try.prog 9 w b n g) (hg : ∀ s, g s = if gq s = true then some (.bool true) else none) :
    Calls Try.prog 30 (#[.agg #[.int .i64 u.k, .string u.g, .string u.p, .string u.t]] ++ #[.pointer (some ⟨Bp, 0, none⟩), .pointer (some ⟨Bm, 0, none⟩)]) w fun e w' => e = .returned (.bool (msQ p u && gq u.g)) ∧ Below w.heap.size w w' := by
  have hE : Hid (msQ p u = (u.k == 0 && (u.p.toList == p.toList))) := rfl
  have hB : Hid (Below w.heap.size w (w.alloc (.cells #[.int .i64 u.k, .string u.g, .string u.p, .string u.t] 51))) := (Below.refl _ _).alloc (Nat.le_refl _) _
  have hmc := hm.cell
  have hml := hm.lt
  have hlook := (hM.below hB.out hM.lt).look (t := 49) Try.underlying9 Try.underlying49 (zeroB _) hul
  rw [hg u.g] at hlook
  have hG : Hid (gq u.g = gq u.g) := rfl
  obtain ⟨G, hGG⟩ : ∃ G, gq u.g = G := ⟨_, rfl⟩
  rw [hGG] at hlook ⊢
  rw [show (if G = true then some (Value.bool true) else none).getD (Value.bool false) = Value.bool G from by cases G <;> rfl] at hlook
  clear hm hM hg hG hGG
  by_cases h0 : u.k = 0
  · have K0 : (u.k == 0) = true := by rw [h0]; rfl
    rw [K0] at hE
    clear h0
    cases hs : (u.p.toList == p.toList) with
    | true =>
      rw [hs] at hE
      go_enter Try.func30, Try.ntmps30
      go_wp2_with fail
      refine bodyPost_ret (results_tmp rfl _ _ _) rfl ⟨?_, hB.out⟩
      rw [hE.out]; rfl
    | false =>
      rw [hs] at hE
      go_enter Try.func30, Try.ntmps30
      go_wp2_with fail
      refine bodyPost_ret (results_tmp rfl _ _ _) rfl ⟨?_, hB.out⟩
      rw [hE.out]; rfl
  · have K0 : (u.k == 0) = false := by simpa using h0
    rw [K0] at hE
    clear h0
    go_enter Try.func30, Try.ntmps30
    go_wp2_with fail
    refine bodyPost_ret (results_tmp rfl _ _ _) rfl ⟨?_, hB.out⟩
    rw [hE.out]; rfl

set_option maxRecDepth 100000 in
set_option maxHeartbeats 2000000 in
theorem indexFG_any (ao : Option Addr) (vs : List Ev) (c : Nat) (Bp Bm b n : Nat) (p : ByteArray) (g : SMap) (gq : ByteArray → Bool) (w : World) (R : Ending → World → Prop) (hl : vs.length ≤ 1000000) (hc : CellsAt w ao (eC vs)) (hv : LogOk vs) (hp : w.cell? ⟨Bp, 0, none⟩ = some (.string p)) (hpl : Bp < w.heap.size) (hm : Boxed w Bm 49 (.map (some b))) (hM : MapIs Try.prog 9 w b n g) (hg : ∀ s, g s = if gq s = true then some (.bool true) else none)
   (hR : ∀ w', Below w.heap.size w w' → R (.returned (.int .i64 (idxQ (fun i => msQ p (eAt vs i) && gq (eAt vs i).g) vs.length 0))) w') :
    Calls Try.prog 58 #[.slice ao vs.length c, .func (.func 30) #[] #[.pointer (some ⟨Bp, 0, none⟩), .pointer (some ⟨Bm, 0, none⟩)]] w R := by
  have HR := Lib.hid hR
  have HC := Lib.hid hc
  clear hR hc
  have HV := Lib.hid hv
  clear hv
  obtain ⟨X, hX⟩ : ∃ X, Hid (idxQ (fun i => msQ p (eAt vs i) && gq (eAt vs i).g) vs.length 0 = X) := ⟨_, Lib.hid rfl⟩
  have hX2 : Hid (idxQ (fun i => msQ p (eAt vs i) && gq (eAt vs i).g) (vs.length - 0) 0 = X) := hX
  rw [hX.out] at HR
  go_enter Try.func58, Try.ntmps58
  go_wp2_with fail
  go_loopw [8] (fun j wr => ∃ k : Nat, k ≤ vs.length ∧ j = .int .i64 k ∧ Hid (Below w.heap.size w wr) ∧ Hid (idxQ (fun i => msQ p (eAt vs i) && gq (eAt vs i).g) (vs.length - k) k = X)) (fun j _ => vs.length - (intOf j).toNat)
  case atStart => exact ⟨0, Nat.zero_le _, rfl, Below.refl _ _, hX2⟩
  case round =>
    obtain ⟨k, hk, rfl, HB, hL⟩ := hrel
    by_cases hlt : k < vs.length
    · obtain ⟨b1, o, rfl, hbb, hcell⟩ := (HC.out.below HB.out).evts (by omega)
      obtain ⟨c0, c1, c2, c3⟩ := hcell k hlt
      have hok := HV.out k hlt
      have hst := Lib.hid (idxQ_step hL hlt)
      have hht := Lib.hid (idxQ_hit hL hlt)
      obtain ⟨u, hu⟩ : ∃ u, eAt vs k = u := ⟨_, rfl⟩
      rw [hu] at c0 c1 c2 c3 hst hht hok
      have HK := Lib.hid (closEG u hok.1 Bp Bm b n p g gq _ (cellB HB.out hp hpl) (by have := HB.out.size; omega) ((HB.out.block _ hm.lt).trans hm) (hM.below HB.out hM.lt) hg)
      clear hcell hu
      cases hq : (msQ p u && gq u.g) with
      | true =>
        rw [hq] at HK
        have e := Lib.hid (hht.out hq)
        clear hst hht hq
        go_wp2_with (go_at_call 30; refine HK.out.mono ?_; rintro e w' ⟨rfl, h8⟩; have H8 := Lib.hid h8; clear h8)
        exact ret_i (HR.out _ (HB.out.trans (H8.out.mono HB.out.size))) rfl e.out
      | false =>
        rw [hq] at HK
        have e := Lib.hid (hst.out hq)
        clear hst hht hq
        go_wp2_with (go_at_call 30; refine HK.out.mono ?_; rintro e w' ⟨rfl, h8⟩; have H8 := Lib.hid h8; clear h8)
        exact ⟨⟨k + 1, by omega, by go_num, HB.out.trans (H8.out.mono HB.out.size), e.out⟩, by simp [intOf]; omega⟩
    · have e := Lib.hid (idxQ_end hL hlt)
      go_wp2_with fail
      exact ret_i (HR.out _ HB.out) rfl e.out

theorem containsG_any (ao : Option Addr) (vs : List Ev) (c : Nat) (Bp Bm b n : Nat) (p : ByteArray) (g : SMap) (gq : ByteArray → Bool) (w : World) (R : Ending → World → Prop) (hl : vs.length ≤ 1000000) (hc : CellsAt w ao (eC vs)) (hv : LogOk vs) (hp : w.cell? ⟨Bp, 0, none⟩ = some (.string p)) (hpl : Bp < w.heap.size) (hm : Boxed w Bm 49 (.map (some b))) (hM : MapIs Try.prog 9 w b n g) (hg : ∀ s, g s = if gq s = true then some (.bool true) else none)
   (hR : ∀ w', Below w.heap.size w w' → R (.returned (.bool (exF (fun i => msQ p (eAt vs i) && gq (eAt vs i).g) vs.length 0))) w') :
    Calls Try.prog 29 #[.slice ao vs.length c, .func (.func 30) #[] #[.pointer (some ⟨Bp, 0, none⟩), .pointer (some ⟨Bm, 0, none⟩)]] w R := by
  have HR := Lib.hid hR
  have HC := Lib.hid hc
  have hE := Lib.hid (idxQ_ex (fun i => msQ p (eAt vs i) && gq (eAt vs i).g) vs.length 0)
  obtain ⟨X, hX⟩ : ∃ X, Hid (idxQ (fun i => msQ p (eAt vs i) && gq (eAt vs i).g) vs.length 0 = X) := ⟨_, Lib.hid rfl⟩
  rw [hX.out] at hE
  clear hR hc
  go_enter Try.func29, Try.ntmps29
  go_wp2_with fail
  refine indexFG_any _ vs c Bp Bm b n p g gq _ _ hl HC.out hv hp hpl hm hM hg ?_
  intro w1 hb
  have HB := Lib.hid hb
  clear hb
  rw [hX.out]
  go_wp2_with fail
  exact ret_b (HR.out w1 HB.out) rfl hE.out.symm
end Go.Proofs.Ytfamennpajjajaa
