/- The walks of slices.Clone of events, slices.Contains of names. -/
import Derived.Test.YtfamennpajjajaaRak
import Derived.Test.YtfamennpajjajaaRap
namespace Go.Proofs.Ytfamennpajjajaa
open Go.RowKit

theorem Try.infoPEv : (Try.prog.info? 51).map (fun i => (i.zero, i.size, i.bytes)) = some (some (.agg #[.int .i64 0, .string ⟨#[]⟩, .string ⟨#[]⟩, .string ⟨#[]⟩]), 4, 56) := by kernel_rfl
theorem eqNilE (w : World) (a : Option Addr) (n c : Nat) : (binOp .eql 22 (.slice a n c) (.slice none 0 0)).run Try.prog w = .ok (.bool a.isNone) w :=
  Lib.run_eql_slice_nil w 22 51 a n c 0 0 Try.underlying22
/-- slices.Clone of events. -/
theorem clone53_any (ao : Option Addr) (vs : List Ev) (c : Nat) (w : World) (R : Ending → World → Prop) (hl : vs.length ≤ 1000000) (hn : ao = none → vs.length = 0 ∧ c = 0) (hc : CellsAt w ao (eC vs))
   (hR : ∀ v w', Below w.heap.size w w' → w'.ownsRow w.heap.size 51 4 v vs.length (eC vs) → R (.returned v) w') :
    Calls Try.prog 31 #[.slice ao vs.length c] w R := by
  have HR := Lib.hid hR
  have HC := Lib.hid hc
  clear hR hc
  cases ao with
  | none =>
    obtain ⟨h0, h1⟩ := hn rfl
    obtain rfl := List.length_eq_zero_iff.1 h0
    subst h1
    have hq := eqNilE
    go_enter Try.func31, Try.ntmps31
    go_wp2_with fail
    exact HR.out _ _ (Below.refl _ _) (World.ownsRow_nil _ _ _ _)
  | some a =>
    clear hn
    have HO0 : Hid ((w.alloc (.cells #[] 51)).ownsRow w.heap.size 51 4 (.slice (some ⟨w.heap.size, 0, none⟩) 0 0) 0 []) := World.ownsRow_lit w #[] 0 (Nat.le_refl _) (by decide) rfl
    have hq := eqNilE
    go_enter Try.func31, Try.ntmps31
    go_wp2_with (at_builtin; refine wp_appendT rfl (.tmp 5) (.tmp 6) 22 rfl w.heap.size 51 Try.underlying22 Try.infoPEv rfl (by decide) (.slice (some ⟨w.heap.size, 0, none⟩) 0 0) 0 [] rfl HO0.out a vs.length c (eC vs) (eC_length vs) rfl (HC.out.below ((Below.refl _ _).alloc (Nat.le_refl _) _)) (eC_one vs) (by omega) (by omega) (by simp) ?_; intro v1 w1 hown1 hgrow1 hn1; have H1 : Hid (w1.ownsRow w.heap.size 51 4 v1 vs.length (eC vs)) := (by have h := hown1; rw [Nat.zero_add, List.nil_append] at h; exact h); have Hb1 := Lib.hid (Below.grown ((Below.refl w.heap.size w).alloc (Nat.le_refl _) _) hgrow1 (by simp) (fun k e => by cases e; exact Nat.le_refl _)); clear hown1 hgrow1 hn1)
    exact HR.out _ _ Hb1.out H1.out


theorem nm_size {s : ByteArray} (h : nmE s = 0) : s.size ≤ 24 := by
  unfold nmE at h
  by_cases e : 24 < s.size
  · rw [if_pos e] at h; cases h
  · omega
theorem contS_any (ao : Option Addr) (ks : List ByteArray) (n c : Nat) (s : ByteArray) (b : Bool) (w : World) (R : Ending → World → Prop) (hn : ks.length = n) (hl : n ≤ 1000000) (hb : hasL ks s = b) (hc : CellsAt w ao (sC ks)) (hR : R (.returned (.bool b)) w) :
    Calls Try.prog 33 #[.slice ao n c, .string s] w R := by
  subst hn hb
  by_cases h0 : ks.length = 0
  · rw [h0]
    obtain rfl := List.length_eq_zero_iff.1 h0
    refine (Try.slices_Contains_string_empty ao c s w).mono ?_
    rintro e w' ⟨rfl, rfl⟩
    exact hR
  · obtain ⟨b, o, rfl, _, hcell⟩ := hc.strs (by omega)
    refine (Try.slices_Contains_string b o ks.length c ks s w (Nat.le_refl _) (by omega) (fun j hj => hcell j hj)).mono ?_
    rintro e w' ⟨rfl, rfl⟩
    rw [List.take_length]
    have : Lib.containsS ks s = hasL ks s := by rw [Bool.eq_iff_iff, hasL_iff, Lib.containsS_iff]
    rw [this]
    exact hR
/-- What follows the walk of right: the log is right and small. -/
theorem rg_is {vs : List Ev} (h : rgL vs = true) : chk3 vs = 0 ∧ vs.length ≤ 16 := by
  unfold rgL at h
  rw [Bool.and_eq_true, Bool.and_eq_true, decide_eq_true_eq, decide_eq_true_eq] at h
  exact ⟨h.2.2, h.1⟩
theorem ok_app {vs : List Ev} {v : Ev} (h : LogOk vs) (hv : EvOk v) : LogOk (vs ++ [v]) := by
  intro i hi
  rw [len1] at hi
  by_cases e : i < vs.length
  · rw [eAt_app e]; exact h i e
  · obtain rfl : i = vs.length := by omega
    rw [eAt_last]; exact hv
theorem ok_wds {vs : List Ev} (h : LogOk vs) (ks : List ByteArray) (hk : ∀ p ∈ ks, p.size ≤ 24) : LogOk (vs ++ ks.map wdEv) := by
  intro i hi
  rw [List.length_append, List.length_map] at hi
  by_cases e : i < vs.length
  · have : eAt (vs ++ ks.map wdEv) i = eAt vs i := by unfold eAt; rw [List.getD_eq_getElem?_getD, List.getElem?_append_left e, List.getD_eq_getElem?_getD]
    rw [this]; exact h i e
  · have : eAt (vs ++ ks.map wdEv) i = wdEv ks[i - vs.length] := by
      unfold eAt
      rw [List.getD_eq_getElem?_getD, List.getElem?_append_right (by omega), List.getElem?_map, List.getElem?_eq_getElem (by omega)]; rfl
    rw [this]
    have h2 := hk _ (List.getElem_mem (l := ks) (n := i - vs.length) (by omega))
    exact ⟨by show (0 : Nat) ≤ _; omega, by show ks[i - vs.length].size ≤ _; omega, by show (0 : Nat) ≤ _; omega⟩
end Go.Proofs.Ytfamennpajjajaa
