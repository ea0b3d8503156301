/- The walks of Few, Has, Put of the reference; sorted lists of names. -/
import Derived.Sort.Walk0
import Derived.Test.YtfamennpajjajaaRl
import Derived.Test.YtfamennpajjajaaRj
import Derived.Test.YtfamennpajjajaaRq
namespace Go.Proofs.Ytfamennpajjajaa
open Go.RowKit

theorem Try.infoStr53 : (Try.prog.info? 9).map (fun i => (i.zero, i.size, i.bytes)) = some (some (.string ⟨#[]⟩), 1, 16) := by kernel_rfl

/-! ### Few -/
set_option maxRecDepth 100000 in
set_option maxHeartbeats 4000000 in
theorem rfew_any (ao : Option Addr) (vs : List Ev) (c : Nat) (w : World) (R : Ending → World → Prop) (hl : vs.length ≤ 9223372036854775807) (hc : CellsAt w ao (eC vs)) (hv : LogOk vs)
   (hR : ∀ w', Drew w w' → R (.returned (.bool (fwL vs))) w') :
    Calls Try.prog 36 #[.slice ao vs.length c] w R := by
  have HR := Lib.hid hR
  have HC := Lib.hid hc
  have HV := Lib.hid hv
  clear hR hc hv
  by_cases hm : (16 < vs.length ∧ vs.length ≤ 4096) ∨ 8192 < vs.length
  · have hE : Hid (fwL vs = false) := by unfold Hid fwL; rw [if_pos hm]
    rcases hm with ⟨m1, m2⟩ | m1
    · go_enter Try.func36, Try.ntmps36
      go_wp2_with fail
      exact ret_b (HR.out _ (by repeat first | exact Drew.refl _ | apply Drew.drewN)) rfl hE.out
    · have m2 : ¬ vs.length ≤ 4096 := by omega
      have m3 : 16 < vs.length := by omega
      go_enter Try.func36, Try.ntmps36
      go_wp2_with fail
      exact ret_b (HR.out _ (by repeat first | exact Drew.refl _ | apply Drew.drewN)) rfl hE.out
  · have hE : Hid (fwL vs = !anyTo loQ vs vs.length) := by unfold Hid fwL; rw [if_neg hm]
    have m8 : ¬ 8192 < vs.length := by omega
    have HM := Lib.hid hm
    have key : ∀ (P : Prop), (¬ 16 < vs.length → P) → (16 < vs.length → ¬ vs.length ≤ 4096 → P) → P := fun P h1 h2 => by
      by_cases a : 16 < vs.length
      · exact h2 a (by omega)
      · exact h1 a
    clear hm
    refine key _ (fun m16 => ?_) (fun m16 m40 => ?_)
    all_goals
      clear key
      go_enter Try.func36, Try.ntmps36
      go_wp2_with fail
      go_loopw [3] (fun j wr => ∃ k : Nat, k ≤ vs.length ∧ j = .int .i64 k ∧ Drew w wr ∧ Hid (anyTo loQ vs k = false)) (fun j _ => vs.length - (intOf j).toNat)
      case atStart => exact ⟨0, Nat.zero_le _, rfl, Drew.refl _, rfl⟩
      case round =>
        obtain ⟨k, hk, rfl, ⟨q, rfl⟩, hL⟩ := hrel
        by_cases hlt : k < vs.length
        · obtain ⟨b, o, rfl, _, hcell⟩ := HC.out.evts (by omega)
          obtain ⟨d0, d1, d2, d3⟩ := hcell k hlt
          have hok := HV.out k hlt
          have hst : Hid (loQ (eAt vs k) = false → anyTo loQ vs (k + 1) = false) := fun h => by rw [anyTo, hL.out, h]; rfl
          have hht : Hid (loQ (eAt vs k) = true → fwL vs = false) := fun h => by rw [hE.out, (anyTo_iff _).2 ⟨k, hlt, h⟩]; rfl
          obtain ⟨u, hu⟩ : ∃ u, eAt vs k = u := ⟨_, rfl⟩
          rw [hu] at d0 d1 d2 d3 hst hht hok
          have hg1 : u.g.size ≤ 9223372036854775807 := hok.1
          have hg2 : u.p.size ≤ 9223372036854775807 := hok.2.1
          have hg3 : u.t.size ≤ 9223372036854775807 := hok.2.2
          clear hcell hu hok
          by_cases x1 : 60 < u.g.size
          · have e := Lib.hid (hht.out (by unfold loQ; simp [x1]))
            go_wp2_with fail
            exact ret_b (HR.out _ (by repeat first | exact Drew.refl _ | apply Drew.drewN)) rfl e.out
          · by_cases x2 : 60 < u.p.size
            · have e := Lib.hid (hht.out (by unfold loQ; simp [x2]))
              go_wp2_with fail
              exact ret_b (HR.out _ (by repeat first | exact Drew.refl _ | apply Drew.drewN)) rfl e.out
            · by_cases x3 : 60 < u.t.size
              · have e := Lib.hid (hht.out (by unfold loQ; simp [x3]))
                go_wp2_with fail
                exact ret_b (HR.out _ (by repeat first | exact Drew.refl _ | apply Drew.drewN)) rfl e.out
              · have e := Lib.hid (hst.out (by unfold loQ; simp [x1, x2, x3]))
                go_wp2_with fail
                exact ⟨⟨k + 1, by omega, by go_num, (by repeat first | exact Drew.refl _ | apply Drew.drewN), e⟩, by simp [intOf]; omega⟩
        · obtain rfl : k = vs.length := by omega
          have e : Hid (fwL vs = true) := by unfold Hid; rw [hE.out, hL.out]; rfl
          go_wp2_with fail
          exact ret_b (HR.out _ (by repeat first | exact Drew.refl _ | apply Drew.drewN)) rfl e.out

/-! ### lists of names -/
def kat (ks : List ByteArray) (k : Nat) : ByteArray := ks.getD k ⟨#[]⟩
theorem kat_lt {ks : List ByteArray} {k : Nat} (h : k < ks.length) : kat ks k = ks[k] := by unfold kat; rw [List.getD_eq_getElem?_getD, List.getElem?_eq_getElem h]; rfl
theorem kat_drop {ks : List ByteArray} {k : Nat} (h : k < ks.length) : ks.drop k = kat ks k :: ks.drop (k + 1) := by
  rw [List.drop_eq_getElem_cons h, kat_lt h]
theorem CellsAt.strs {w : World} {ao : Option Addr} {ks : List ByteArray} (h : CellsAt w ao (sC ks)) (h0 : 0 < ks.length) :
    ∃ b o, ao = some ⟨b, o, none⟩ ∧ b < w.heap.size ∧ ∀ j, j < ks.length → w.cell? ⟨b, o + j, none⟩ = some (.string (kat ks j)) := by
  obtain ⟨b, o, e, hl, hc⟩ := h (by rw [sC_length]; omega)
  refine ⟨b, o, e, hl, fun j hj => ?_⟩
  rw [hc j (by rw [sC_length]; exact hj), kat_lt hj, List.getD_eq_getElem?_getD, sC, List.getElem?_map, List.getElem?_eq_getElem hj]; rfl
def hasL (ks : List ByteArray) (s : ByteArray) : Bool := ks.any (fun k => sameB k s)
theorem hasL_iff {ks : List ByteArray} {s : ByteArray} : hasL ks s = true ↔ s ∈ ks := by
  unfold hasL; rw [List.any_eq_true]
  exact ⟨fun ⟨k, h1, h2⟩ => by rw [← sameB_iff.1 h2]; exact h1, fun h => ⟨s, h, sameB_iff.2 rfl⟩⟩
theorem sC_append (a b : List ByteArray) : sC (a ++ b) = sC a ++ sC b := by unfold sC; rw [List.map_append]

set_option maxRecDepth 100000 in
set_option maxHeartbeats 2000000 in
theorem rhas_any (ao : Option Addr) (ks : List ByteArray) (c : Nat) (s : ByteArray) (w : World) (R : Ending → World → Prop) (hl : ks.length ≤ 1000000) (hc : CellsAt w ao (sC ks))
   (hR : ∀ w', Drew w w' → R (.returned (.bool (hasL ks s))) w') :
    Calls Try.prog 57 #[.slice ao ks.length c, .string s] w R := by
  have HR := Lib.hid hR
  have HC := Lib.hid hc
  clear hR hc
  obtain ⟨X, hX⟩ : ∃ X, Hid (hasL ks s = X) := ⟨_, Lib.hid rfl⟩
  have hX2 : Hid (hasL (ks.drop 0) s = X) := hX
  rw [hX.out] at HR
  go_enter Try.func57, Try.ntmps57
  go_wp2_with fail
  go_loopw [5] (fun j wr => ∃ k : Nat, k ≤ ks.length ∧ j = .int .i64 k ∧ Drew w wr ∧ Hid (hasL (ks.drop k) s = X)) (fun j _ => ks.length - (intOf j).toNat)
  case atStart => exact ⟨0, Nat.zero_le _, rfl, Drew.refl _, hX2⟩
  case round =>
    obtain ⟨k, hk, rfl, ⟨q, rfl⟩, hL⟩ := hrel
    by_cases hlt : k < ks.length
    · obtain ⟨b, o, rfl, _, hcell⟩ := HC.out.strs (by omega)
      have d0 := hcell k hlt
      have hst : Hid (hasL (ks.drop k) s = (sameB (kat ks k) s || hasL (ks.drop (k + 1)) s)) := by unfold Hid; rw [kat_drop hlt]; rfl
      obtain ⟨u, hu⟩ : ∃ u, kat ks k = u := ⟨_, rfl⟩
      rw [hu] at d0 hst
      clear hcell hu
      cases hs : sameB u s with
      | true =>
        have hs1 : (u.toList == s.toList) = true := hs
        have e : Hid (X = true) := by unfold Hid; rw [← hL.out, hst.out, hs]; rfl
        clear hs
        go_wp2_with fail
        exact ret_b (HR.out _ (by repeat first | exact Drew.refl _ | apply Drew.drewN)) rfl e.out
      | false =>
        have hs1 : (u.toList == s.toList) = false := hs
        have e : Hid (hasL (ks.drop (k + 1)) s = X) := by unfold Hid; rw [← hL.out, hst.out, hs]; rfl
        clear hs
        go_wp2_with fail
        exact ⟨⟨k + 1, by omega, by go_num, (by repeat first | exact Drew.refl _ | apply Drew.drewN), e⟩, by simp [intOf]; omega⟩
    · have e : Hid (X = false) := by unfold Hid; rw [← hL.out, List.drop_of_length_le (by omega)]; rfl
      go_wp2_with fail
      exact ret_b (HR.out _ (by repeat first | exact Drew.refl _ | apply Drew.drewN)) rfl e.out

/-! ### Put -/
def ltB (a b : ByteArray) : Bool := Op.bytesLess a.toList b.toList
theorem ltB_iff {a b : ByteArray} : ltB a b = true ↔ bL a < bL b := by
  unfold ltB; rw [bytesLess_eq, decide_eq_true_iff, Lib.toList_data, Lib.toList_data]
theorem ltB_no {a b : ByteArray} : ltB a b = false ↔ ¬ bL a < bL b := by
  rw [← Bool.not_eq_true, ltB_iff]
theorem ltB_same {a b : ByteArray} (h : ltB a b = true) : sameB a b = false := by
  rw [sameB_no]; intro e; subst e; exact List.lt_irrefl _ (ltB_iff.1 h)
def putL (s : ByteArray) : Bool → List ByteArray → List ByteArray
  | d, [] => if d = true then [] else [s]
  | d, k :: ks => (if (!d && !ltB k s) = true then [s] else []) ++ ((if sameB k s = true then [] else [k]) ++ putL s (d || !ltB k s) ks)
theorem putL_true (s : ByteArray) (ks : List ByteArray) : putL s true ks = ks.filter (fun k => !sameB k s) := by
  induction ks with
  | nil => rfl
  | cons k ks ih =>
    rw [putL, Bool.true_or, ih, List.filter_cons]
    cases sameB k s <;> rfl
theorem putL_len (s : ByteArray) (d : Bool) (ks : List ByteArray) : (putL s d ks).length ≤ ks.length + 1 := by
  induction ks generalizing d with
  | nil => cases d <;> simp [putL]
  | cons k ks ih =>
    rw [putL]
    have h0 := List.length_filter_le (fun k => !sameB k s) ks
    cases d <;> cases h1 : ltB k s <;> cases h2 : sameB k s <;> simp only [Bool.not_true, Bool.not_false, Bool.false_or, Bool.true_or, Bool.and_true, Bool.and_false, if_true, if_false, List.nil_append, List.length_append, List.length_cons, List.length_nil, Bool.false_eq_true, putL_true] <;> have := ih false <;> have := ih true <;> omega
theorem putL_mem (s t : ByteArray) (ks : List ByteArray) : t ∈ putL s false ks ↔ t ∈ ks ∨ t = s := by
  induction ks with
  | nil => simp [putL]
  | cons k ks ih =>
    rw [putL]
    cases h1 : ltB k s with
    | true =>
      have h2 := ltB_same h1
      simp only [h2, Bool.not_true, Bool.and_false, Bool.false_or, Bool.false_eq_true, if_false, List.nil_append, List.singleton_append, List.mem_cons, ih]
      exact ⟨fun h => by rcases h with h | h | h <;> simp [h], fun h => by rcases h with (h | h) | h <;> simp [h]⟩
    | false =>
      simp only [Bool.not_false, Bool.and_true, Bool.false_or, if_true, List.singleton_append, List.mem_cons, putL_true, List.mem_append, List.mem_filter, Bool.not_eq_true']
      constructor
      · rintro (h | h | h)
        · exact .inr h
        · split at h
          · cases h
          · simp at h; exact .inl (.inl h)
        · exact .inl (.inr h.1)
      · rintro ((h | h) | h)
        · subst h
          cases h2 : sameB t s with
          | true => exact .inl (sameB_iff.1 h2)
          | false => exact .inr (.inl (by simp))
        · cases h2 : sameB t s with
          | true => exact .inl (sameB_iff.1 h2)
          | false => exact .inr (.inr ⟨h, rfl⟩)
        · exact .inl h
theorem putL_up (s : ByteArray) (ks : List ByteArray) (h : ks.Pairwise (fun a b => bL a < bL b)) : (putL s false ks).Pairwise (fun a b => bL a < bL b) := by
  induction ks with
  | nil => simp [putL]
  | cons k ks ih =>
    rw [List.pairwise_cons] at h
    rw [putL]
    cases h1 : ltB k s with
    | true =>
      have h2 := ltB_same h1
      simp only [h2, Bool.not_true, Bool.and_false, Bool.false_or, Bool.false_eq_true, if_false, List.nil_append, List.singleton_append, List.pairwise_cons]
      refine ⟨fun t ht => ?_, ih h.2⟩
      rcases (putL_mem s t ks).1 ht with h3 | h3
      · exact h.1 t h3
      · subst h3; exact ltB_iff.1 h1
    | false =>
      simp only [Bool.not_false, Bool.and_true, Bool.false_or, if_true, List.singleton_append, putL_true]
      have hge := ltB_no.1 h1
      have hf : (ks.filter (fun k => !sameB k s)).Pairwise (fun a b => bL a < bL b) := h.2.sublist List.filter_sublist
      cases h2 : sameB k s with
      | true =>
        obtain rfl := sameB_iff.1 h2
        simp only [if_true, List.nil_append, List.pairwise_cons]
        exact ⟨fun t ht => h.1 t (List.mem_filter.1 ht).1, hf⟩
      | false =>
        simp only [Bool.false_eq_true, if_false, List.singleton_append, List.pairwise_cons, List.mem_cons]
        have hlt : bL s < bL k := by
          rcases Std.le_iff_lt_or_eq.1 (List.not_lt.1 hge) with h4 | h4
          · exact h4
          · exact absurd (bL_inj h4).symm (sameB_no.1 h2)
        refine ⟨fun t ht => ?_, fun t ht => h.1 t (List.mem_filter.1 ht).1, hf⟩
        rcases ht with rfl | ht
        · exact hlt
        · exact List.lt_trans hlt (h.1 t (List.mem_filter.1 ht).1)
theorem SrtIs.put {ks : List ByteArray} {Q Q' : ByteArray → Bool} (h : SrtIs ks Q) (s : ByteArray) (hQ : ∀ t, Q' t = (Q t || sameB s t)) : SrtIs (putL s false ks) Q' :=
  ⟨putL_up s ks h.up, fun t => by rw [putL_mem, h.mem, hQ, Bool.or_eq_true, sameB_iff]; exact ⟨fun h => h.imp id Eq.symm, fun h => h.imp id Eq.symm⟩⟩
end Go.Proofs.Ytfamennpajjajaa
