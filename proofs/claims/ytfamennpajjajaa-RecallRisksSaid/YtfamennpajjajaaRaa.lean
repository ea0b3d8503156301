/- slices.ContainsFunc at events. (Printed by gen_contains.py.) -/
import Derived.Test.YtfamennpajjajaaRw
namespace Go.Proofs.Ytfamennpajjajaa
open Go.RowKit Go.Maps

def idxQ (q : Nat → Bool) : Nat → Nat → Int
  | 0, _ => -1
  | d + 1, k => if q k = true then (k : Int) else idxQ q d (k + 1)
theorem idxQ_ex (q : Nat → Bool) : ∀ d k, decide (0 ≤ idxQ q d k) = exF q d k
  | 0, _ => rfl
  | d + 1, k => by
    rw [idxQ, exF]
    cases h : q k with
    | true => simp
    | false => simp only [Bool.false_eq_true, if_false, Bool.false_or]; exact idxQ_ex q d (k + 1)
theorem idxQ_step {q : Nat → Bool} {n k : Nat} {X : Int} (h : Hid (idxQ q (n - k) k = X)) (hk : k < n) (hf : q k = false) : Hid (idxQ q (n - (k + 1)) (k + 1) = X) := by
  have h := h.out
  rw [show n - k = (n - (k + 1)) + 1 from by omega, idxQ, if_neg (by rw [hf]; simp)] at h
  exact h
theorem idxQ_hit {q : Nat → Bool} {n k : Nat} {X : Int} (h : Hid (idxQ q (n - k) k = X)) (hk : k < n) (hf : q k = true) : X = k := by
  have h := h.out
  rw [show n - k = (n - (k + 1)) + 1 from by omega, idxQ, if_pos hf] at h
  exact h.symm
theorem idxQ_end {q : Nat → Bool} {n k : Nat} {X : Int} (h : Hid (idxQ q (n - k) k = X)) (hk : ¬ k < n) : X = -1 := by
  have h := h.out
  rw [show n - k = 0 from by omega, idxQ] at h
  exact h.symm
theorem closEA (u : Ev) (Bp : Nat) (p : ByteArray) (w : World) (hp : w.cell? ⟨Bp, 0, none⟩ = some (.string p)) (hpl : Bp < w.heap.size) :
    Calls Try.prog 50 (#[.agg #[.int .i64 u.k, .string u.g, .string u.p, .string u.t]] ++ #[.pointer (some ⟨Bp, 0, none⟩)]) w fun e w' => e = .returned (.bool (msQ p u)) ∧ Below w.heap.size w w' := by
  have hE : Hid (msQ p u = (u.k == 0 && (u.p.toList == p.toList))) := rfl
  have hB : Hid (Below w.heap.size w (w.alloc (.cells #[.int .i64 u.k, .string u.g, .string u.p, .string u.t] 51))) := (Below.refl _ _).alloc (Nat.le_refl _) _
  by_cases h0 : u.k = 0
  · have K0 : (u.k == 0) = true := by rw [h0]; rfl
    rw [K0] at hE
    clear h0
    go_enter Try.func50, Try.ntmps50
    go_wp2_with fail
    refine bodyPost_ret (results_tmp rfl _ _ _) rfl ⟨?_, hB.out⟩
    rw [hE.out]; rfl
  · have K0 : (u.k == 0) = false := by simpa using h0
    rw [K0] at hE
    clear h0
    go_enter Try.func50, Try.ntmps50
    go_wp2_with fail
    refine bodyPost_ret (results_tmp rfl _ _ _) rfl ⟨?_, hB.out⟩
    rw [hE.out]; rfl

set_option maxRecDepth 100000 in
set_option maxHeartbeats 2000000 in
theorem indexFA_any (ao : Option Addr) (vs : List Ev) (c : Nat) (Bp : Nat) (p : ByteArray) (w : World) (R : Ending → World → Prop) (hl : vs.length ≤ 1000000) (hc : CellsAt w ao (eC vs)) (hp : w.cell? ⟨Bp, 0, none⟩ = some (.string p)) (hpl : Bp < w.heap.size)
   (hR : ∀ w', Below w.heap.size w w' → R (.returned (.int .i64 (idxQ (fun i => msQ p (eAt vs i)) vs.length 0))) w') :
    Calls Try.prog 58 #[.slice ao vs.length c, .func (.func 50) #[] #[.pointer (some ⟨Bp, 0, none⟩)]] w R := by
  have HR := Lib.hid hR
  have HC := Lib.hid hc
  clear hR hc
  obtain ⟨X, hX⟩ : ∃ X, Hid (idxQ (fun i => msQ p (eAt vs i)) vs.length 0 = X) := ⟨_, Lib.hid rfl⟩
  have hX2 : Hid (idxQ (fun i => msQ p (eAt vs i)) (vs.length - 0) 0 = X) := hX
  rw [hX.out] at HR
  go_enter Try.func58, Try.ntmps58
  go_wp2_with fail
  go_loopw [8] (fun j wr => ∃ k : Nat, k ≤ vs.length ∧ j = .int .i64 k ∧ Hid (Below w.heap.size w wr) ∧ Hid (idxQ (fun i => msQ p (eAt vs i)) (vs.length - k) k = X)) (fun j _ => vs.length - (intOf j).toNat)
  case atStart => exact ⟨0, Nat.zero_le _, rfl, Below.refl _ _, hX2⟩
  case round =>
    obtain ⟨k, hk, rfl, HB, hL⟩ := hrel
    by_cases hlt : k < vs.length
    · obtain ⟨b1, o, rfl, hbb, hcell⟩ := (HC.out.below HB.out).evts (by omega)
      obtain ⟨c0, c1, c2, c3⟩ := hcell k hlt
      have hst := Lib.hid (idxQ_step hL hlt)
      have hht := Lib.hid (idxQ_hit hL hlt)
      obtain ⟨u, hu⟩ : ∃ u, eAt vs k = u := ⟨_, rfl⟩
      rw [hu] at c0 c1 c2 c3 hst hht
      have HK := Lib.hid (closEA u Bp p _ (cellB HB.out hp hpl) (by have := HB.out.size; omega))
      clear hcell hu
      cases hq : (msQ p u) with
      | true =>
        rw [hq] at HK
        have e := Lib.hid (hht.out hq)
        clear hst hht hq
        go_wp2_with (go_at_call 50; refine HK.out.mono ?_; rintro e w' ⟨rfl, h8⟩; have H8 := Lib.hid h8; clear h8)
        exact ret_i (HR.out _ (HB.out.trans (H8.out.mono HB.out.size))) rfl e.out
      | false =>
        rw [hq] at HK
        have e := Lib.hid (hst.out hq)
        clear hst hht hq
        go_wp2_with (go_at_call 50; refine HK.out.mono ?_; rintro e w' ⟨rfl, h8⟩; have H8 := Lib.hid h8; clear h8)
        exact ⟨⟨k + 1, by omega, by go_num, HB.out.trans (H8.out.mono HB.out.size), e.out⟩, by simp [intOf]; omega⟩
    · have e := Lib.hid (idxQ_end hL hlt)
      go_wp2_with fail
      exact ret_i (HR.out _ HB.out) rfl e.out

theorem containsA_any (ao : Option Addr) (vs : List Ev) (c : Nat) (Bp : Nat) (p : ByteArray) (w : World) (R : Ending → World → Prop) (hl : vs.length ≤ 1000000) (hc : CellsAt w ao (eC vs)) (hp : w.cell? ⟨Bp, 0, none⟩ = some (.string p)) (hpl : Bp < w.heap.size)
   (hR : ∀ w', Below w.heap.size w w' → R (.returned (.bool (exF (fun i => msQ p (eAt vs i)) vs.length 0))) w') :
    Calls Try.prog 29 #[.slice ao vs.length c, .func (.func 50) #[] #[.pointer (some ⟨Bp, 0, none⟩)]] w R := by
  have HR := Lib.hid hR
  have HC := Lib.hid hc
  have hE := Lib.hid (idxQ_ex (fun i => msQ p (eAt vs i)) vs.length 0)
  obtain ⟨X, hX⟩ : ∃ X, Hid (idxQ (fun i => msQ p (eAt vs i)) vs.length 0 = X) := ⟨_, Lib.hid rfl⟩
  rw [hX.out] at hE
  clear hR hc
  go_enter Try.func29, Try.ntmps29
  go_wp2_with fail
  refine indexFA_any _ vs c Bp p _ _ hl HC.out hp hpl ?_
  intro w1 hb
  have HB := Lib.hid hb
  clear hb
  rw [hX.out]
  go_wp2_with fail
  exact ret_b (HR.out w1 HB.out) rfl hE.out.symm
end Go.Proofs.Ytfamennpajjajaa
