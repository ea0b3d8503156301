/- The walk of Put of the reference. -/
import Derived.Test.YtfamennpajjajaaRad
namespace Go.Proofs.Ytfamennpajjajaa
open Go.RowKit

theorem putL_steps (s : ByteArray) (d : Bool) {ks : List ByteArray} {k : Nat} (h : k < ks.length) : putL s d (ks.drop k) = (if (!d && !ltB (kat ks k) s) = true then [s] else []) ++ ((if sameB (kat ks k) s = true then [] else [kat ks k]) ++ putL s (d || !ltB (kat ks k) s) (ks.drop (k + 1))) := by
  rw [kat_drop h, putL]

set_option maxRecDepth 100000 in
set_option maxHeartbeats 4000000 in
theorem rput_any (ao : Option Addr) (ks : List ByteArray) (c : Nat) (s : ByteArray) (w : World) (R : Ending → World → Prop) (hl : ks.length ≤ 1000000) (hc : CellsAt w ao (sC ks))
   (hR : ∀ v w', Below w.heap.size w w' → OwnL w' w.heap.size 9 1 v (putL s false ks).length (sC (putL s false ks)) → R (.returned v) w') :
    Calls Try.prog 48 #[.slice ao ks.length c, .string s] w R := by
  have HR := Lib.hid hR
  have HC := Lib.hid hc
  clear hR hc
  obtain ⟨X, hX⟩ : ∃ X, Hid (putL s false ks = X) := ⟨_, Lib.hid rfl⟩
  have hX2 : Hid ([] ++ putL s false (ks.drop 0) = X) := hX
  have hXl : Hid (X.length ≤ ks.length + 1) := by unfold Hid; rw [← hX.out]; exact putL_len _ _ _
  rw [hX.out] at HR
  go_enter Try.func48, Try.ntmps48
  go_wp2_with fail
  go_loopw [7, 5, 6] (fun j v d wr => ∃ (k : Nat) (dn : Bool) (pre : List ByteArray), k ≤ ks.length ∧ j = .int .i64 k ∧ d = .bool dn ∧ Hid (Below w.heap.size w wr) ∧ Hid (OwnL wr w.heap.size 9 1 v pre.length (sC pre)) ∧ Hid (pre ++ putL s dn (ks.drop k) = X)) (fun j _ _ _ => ks.length - (intOf j).toNat)
  case atStart => exact ⟨0, false, [], Nat.zero_le _, rfl, rfl, Below.refl _ _, OwnL.nil _ _ _ _, hX2⟩
  case round =>
    obtain ⟨k, dn, pre, hk, rfl, rfl, HB, HO, hL⟩ := hrel
    have hpl : pre.length ≤ ks.length + 1 := by have := hXl.out; rw [← hL.out, List.length_append] at this; omega
    have sB := HB.out.size
    by_cases hlt : k < ks.length
    · obtain ⟨b, o, rfl, hbb, hcell0⟩ := HC.out.strs (by omega)
      have hcell := hcell0 k hlt
      have hst' := putL_steps s dn hlt
      obtain ⟨u, hu⟩ : ∃ u, kat ks k = u := ⟨_, rfl⟩
      rw [hu] at hcell hst'
      have d0 := cellB HB.out hcell hbb
      clear hcell0 hu
      cases dn with
      | true =>
        cases hs : sameB u s with
        | true =>
          have hs1 : (u.toList == s.toList) = true := hs
          have hst : Hid (putL s true (ks.drop k) = putL s true (ks.drop (k + 1))) := by unfold Hid; rw [hst', hs]; (try rfl)
          clear hs hst'
          go_wp2_with fail
          exact ⟨⟨k + 1, true, pre, by omega, by go_num, rfl, HB, HO, by unfold Hid; rw [← hL.out, hst.out]; (try simp)⟩, by simp [intOf]; omega⟩
        | false =>
          have hs1 : (u.toList == s.toList) = false := hs
          have hst : Hid (putL s true (ks.drop k) = u :: putL s true (ks.drop (k + 1))) := by unfold Hid; rw [hst', hs]; (try rfl)
          clear hs hst'
          go_wp2_with (at_builtin; refine wp_append1 rfl (.tmp 34) (.tmp 39) 33 rfl w.heap.size 9 Try.underlying33 Try.infoStr53 rfl (by decide) (by decide) u5 (pre).length (sC (pre)) rfl (HO.out.alloc _) wr.heap.size [.string u] rfl rfl (new1 _ _ _) (one1 _ rfl) (by first | omega | (simp; omega)) (by have := HB.out.size; simp; omega) ?_; intro v2 w2 hown hb; have HO2 : Hid (OwnL w2 w.heap.size 9 1 v2 ((pre) ++ [u]).length (sC ((pre) ++ [u]))) := (by unfold Hid; rw [sC_append, List.length_append]; exact hown); have HB2 : Hid (Below w.heap.size w w2) := (HB.out.alloc HB.out.size _).trans hb; have d2 := cellB HB2.out hcell hbb; clear hown hb)
          exact ⟨⟨k + 1, true, pre ++ [u], by omega, by go_num, rfl, HB2, HO2, by unfold Hid; rw [← hL.out, hst.out]; (try simp)⟩, by simp [intOf]; omega⟩
      | false =>
        cases hq : ltB u s with
        | true =>
          have hq1 : Op.bytesLess u.toList s.toList = true := hq
          have hs := ltB_same hq
          have hs1 : (u.toList == s.toList) = false := hs
          have hst : Hid (putL s false (ks.drop k) = u :: putL s false (ks.drop (k + 1))) := by unfold Hid; rw [hst', hs, hq]; (try rfl)
          clear hs hst' hq
          go_wp2_with (at_builtin; refine wp_append1 rfl (.tmp 34) (.tmp 39) 33 rfl w.heap.size 9 Try.underlying33 Try.infoStr53 rfl (by decide) (by decide) u5 (pre).length (sC (pre)) rfl (HO.out.alloc _) wr.heap.size [.string u] rfl rfl (new1 _ _ _) (one1 _ rfl) (by first | omega | (simp; omega)) (by have := HB.out.size; simp; omega) ?_; intro v2 w2 hown hb; have HO2 : Hid (OwnL w2 w.heap.size 9 1 v2 ((pre) ++ [u]).length (sC ((pre) ++ [u]))) := (by unfold Hid; rw [sC_append, List.length_append]; exact hown); have HB2 : Hid (Below w.heap.size w w2) := (HB.out.alloc HB.out.size _).trans hb; have d2 := cellB HB2.out hcell hbb; clear hown hb)
          exact ⟨⟨k + 1, false, pre ++ [u], by omega, by go_num, rfl, HB2, HO2, by unfold Hid; rw [← hL.out, hst.out]; (try simp)⟩, by simp [intOf]; omega⟩
        | false =>
          have hq1 : Op.bytesLess u.toList s.toList = false := hq
          cases hs : sameB u s with
          | true =>
            have hs1 : (u.toList == s.toList) = true := hs
            have hst : Hid (putL s false (ks.drop k) = s :: putL s true (ks.drop (k + 1))) := by unfold Hid; rw [hst', hs, hq]; (try rfl)
            clear hs hst' hq
            go_wp2_with (at_builtin; refine wp_append1 rfl (.tmp 24) (.tmp 26) 33 rfl w.heap.size 9 Try.underlying33 Try.infoStr53 rfl (by decide) (by decide) u5 (pre).length (sC (pre)) rfl (HO.out.alloc _) wr.heap.size [.string s] rfl rfl (new1 _ _ _) (one1 _ rfl) (by first | omega | (simp; omega)) (by have := HB.out.size; simp; omega) ?_; intro v1 w1 hown hb; have HO1 : Hid (OwnL w1 w.heap.size 9 1 v1 ((pre) ++ [s]).length (sC ((pre) ++ [s]))) := (by unfold Hid; rw [sC_append, List.length_append]; exact hown); have HB1 : Hid (Below w.heap.size w w1) := (HB.out.alloc HB.out.size _).trans hb; have d1 := cellB HB1.out hcell hbb; clear hown hb)
            exact ⟨⟨k + 1, true, pre ++ [s], by omega, by go_num, rfl, HB1, HO1, by unfold Hid; rw [← hL.out, hst.out]; (try simp)⟩, by simp [intOf]; omega⟩
          | false =>
            have hs1 : (u.toList == s.toList) = false := hs
            have hst : Hid (putL s false (ks.drop k) = s :: u :: putL s true (ks.drop (k + 1))) := by unfold Hid; rw [hst', hs, hq]; (try rfl)
            clear hs hst' hq
            go_wp2_with (first | (at_builtin; refine wp_append1 rfl (.tmp 24) (.tmp 26) 33 rfl w.heap.size 9 Try.underlying33 Try.infoStr53 rfl (by decide) (by decide) u5 (pre).length (sC (pre)) rfl (HO.out.alloc _) wr.heap.size [.string s] rfl rfl (new1 _ _ _) (one1 _ rfl) (by first | omega | (simp; omega)) (by have := HB.out.size; simp; omega) ?_; intro v1 w1 hown hb; have HO1 : Hid (OwnL w1 w.heap.size 9 1 v1 ((pre) ++ [s]).length (sC ((pre) ++ [s]))) := (by unfold Hid; rw [sC_append, List.length_append]; exact hown); have HB1 : Hid (Below w.heap.size w w1) := (HB.out.alloc HB.out.size _).trans hb; have d1 := cellB HB1.out hcell hbb; clear hown hb) | (at_builtin; refine wp_append1 rfl (.tmp 34) (.tmp 39) 33 rfl w.heap.size 9 Try.underlying33 Try.infoStr53 rfl (by decide) (by decide) v1 (pre ++ [s]).length (sC (pre ++ [s])) rfl (HO1.out.alloc _) w1.heap.size [.string u] rfl rfl (new1 _ _ _) (one1 _ rfl) (by first | omega | (simp; omega)) (by have := HB1.out.size; simp; omega) ?_; intro v2 w2 hown hb; have HO2 : Hid (OwnL w2 w.heap.size 9 1 v2 ((pre ++ [s]) ++ [u]).length (sC ((pre ++ [s]) ++ [u]))) := (by unfold Hid; rw [sC_append, List.length_append]; exact hown); have HB2 : Hid (Below w.heap.size w w2) := (HB1.out.alloc HB1.out.size _).trans hb; have d2 := cellB HB2.out hcell hbb; clear hown hb))
            exact ⟨⟨k + 1, true, (pre ++ [s]) ++ [u], by omega, by go_num, rfl, HB2, HO2, by unfold Hid; rw [← hL.out, hst.out]; (try simp)⟩, by simp [intOf]; omega⟩
    · have hd : Hid (ks.drop k = []) := List.drop_of_length_le (by omega)
      cases dn with
      | true =>
        have e : Hid (X = pre) := by unfold Hid; rw [← hL.out, hd.out, putL]; simp
        go_wp2_with fail
        exact HR.out _ _ HB.out (by rw [e.out]; exact HO.out)
      | false =>
        have e : Hid (X = pre ++ [s]) := by unfold Hid; rw [← hL.out, hd.out, putL]; simp
        go_wp2_with (at_builtin; refine wp_append1 rfl (.tmp 43) (.tmp 45) 33 rfl w.heap.size 9 Try.underlying33 Try.infoStr53 rfl (by decide) (by decide) u5 (pre).length (sC (pre)) rfl (HO.out.alloc _) wr.heap.size [.string s] rfl rfl (new1 _ _ _) (one1 _ rfl) (by first | omega | (simp; omega)) (by have := HB.out.size; simp; omega) ?_; intro v3 w3 hown hb; have HO3 : Hid (OwnL w3 w.heap.size 9 1 v3 ((pre) ++ [s]).length (sC ((pre) ++ [s]))) := (by unfold Hid; rw [sC_append, List.length_append]; exact hown); have HB3 : Hid (Below w.heap.size w w3) := (HB.out.alloc HB.out.size _).trans hb; clear hown hb)
        exact HR.out _ _ HB3.out (by rw [e.out]; exact HO3.out)
end Go.Proofs.Ytfamennpajjajaa
