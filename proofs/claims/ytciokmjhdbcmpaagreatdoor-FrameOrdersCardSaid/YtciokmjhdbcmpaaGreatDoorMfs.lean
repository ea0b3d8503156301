/- marked, unmarked of package frame; mark, Cut, Digits, Number of reference 19. Cut, Digits, Number of reference 19. (Printed by gen_cut.py.) Number of reference 19. -/
import Derived.Test.YtciokmjhdbcmpaaGreatDoorShelf2
import Derived.Test.YtciokmjhdbcmpaaGreatDoorMfq
import Derived.Test.YtciokmjhdbcmpaaGreatDoorMlib
import Derived.Test.YtciokmjhdbcmpaaGreatDoorMfe
namespace Go.Proofs.YtciokmjhdbcmpaaGreatDoor
open Go.RowKit

theorem ret_s {R : Ending → World → Prop} {v' : Value} {w : World} {a b : ByteArray} (h : R (.returned (.string a)) w) (ev : v' = .string b) (e : a = b) : R (.returned v') w := by rw [ev, ← e]; exact h
theorem bsB_eq {a b : ByteArray} (h : a.data.toList = b.data.toList) : a = b := by rw [← bsB_data a, ← bsB_data b, h]
theorem add_bs {P : Program} (x y : ByteArray) (h : x.size + y.size ≤ 9223372036854775807) : ∀ w : World, (Op.stringOp .add x y).run P w = .ok (.string (bsB (x.data.toList ++ y.data.toList))) w := fun w => by
  rw [run_string_add_sum w x y h]
  have e : x ++ y = bsB (x.data.toList ++ y.data.toList) := bsB_eq (by rw [data_bsB]; simp)
  rw [e]
set_option maxRecDepth 100000 in
set_option maxHeartbeats 4000000 in
theorem marked_any (s : ByteArray) (m : Int) (w : World) (R : Ending → World → Prop) (hm : m = 0 ∨ m = 1 ∨ m = 2) (hs : s.size ≤ 1000000000000) (hR : R (.returned (.string (bsB (s.data.toList ++ mkL m)))) w) :
    Calls Tryz.prog 57 #[.string s, .int .i64 m] w R := by
  have HR := Lib.hid hR
  clear hR
  rcases hm with rfl | rfl | rfl
  · have hix : ∀ w, (Instr.index 132 (.agg #[.string ⟨#[]⟩, .string ⟨#[40, 77, 41]⟩, .string ⟨#[40, 76, 41]⟩]) (.int .i64 0)).run Tryz.prog w = .ok (.string ⟨#[]⟩) w := fun w => by kernel_rfl
    have had := add_bs (P := Tryz.prog) s ⟨#[]⟩ (by show s.size + 0 ≤ _; omega)
    clear hs
    go_enter Tryz.func57, Tryz.ntmps57
    go_wp2_with fail
    exact ret_s HR.out rfl (by simp [mkL])
  · have hix : ∀ w, (Instr.index 132 (.agg #[.string ⟨#[]⟩, .string ⟨#[40, 77, 41]⟩, .string ⟨#[40, 76, 41]⟩]) (.int .i64 1)).run Tryz.prog w = .ok (.string ⟨#[40, 77, 41]⟩) w := fun w => by kernel_rfl
    have had := add_bs (P := Tryz.prog) s ⟨#[40, 77, 41]⟩ (by show s.size + 3 ≤ _; omega)
    clear hs
    go_enter Tryz.func57, Tryz.ntmps57
    go_wp2_with fail
    exact ret_s HR.out rfl (by simp [mkL])
  · have hix : ∀ w, (Instr.index 132 (.agg #[.string ⟨#[]⟩, .string ⟨#[40, 77, 41]⟩, .string ⟨#[40, 76, 41]⟩]) (.int .i64 2)).run Tryz.prog w = .ok (.string ⟨#[40, 76, 41]⟩) w := fun w => by kernel_rfl
    have had := add_bs (P := Tryz.prog) s ⟨#[40, 76, 41]⟩ (by show s.size + 3 ≤ _; omega)
    clear hs
    go_enter Tryz.func57, Tryz.ntmps57
    go_wp2_with fail
    exact ret_s HR.out rfl (by simp [mkL])
set_option maxRecDepth 100000 in
set_option maxHeartbeats 4000000 in
theorem rmark_any (m : Int) (w : World) (R : Ending → World → Prop) (hm : m = 0 ∨ m = 1 ∨ m = 2) (hR : ∀ w', Below w.heap.size w w' → R (.returned (.string (bsB (mkL m)))) w') :
    Calls Tryz.prog 96 #[.int .i64 m] w R := by
  have HR := Lib.hid hR
  clear hR
  obtain ⟨w1, E1, HB1, s1, X1⟩ := box_ex w #[.string ⟨#[]⟩, .string ⟨#[40, 77, 41]⟩, .string ⟨#[40, 76, 41]⟩] 9
  have c0 := cell_at X1.out (j := 0) (v := .string ⟨#[]⟩) rfl
  have c1 := cell_at X1.out (j := 1) (v := .string ⟨#[40, 77, 41]⟩) rfl
  have c2 := cell_at X1.out (j := 2) (v := .string ⟨#[40, 76, 41]⟩) rfl
  rcases hm with rfl | rfl | rfl
  · go_enter Tryz.func96, Tryz.ntmps96
    go_wp2_with (rw [E1])
    exact ret_s (HR.out _ HB1.out) rfl (bsB_eq (by rw [data_bsB]; simp [mkL]))
  · go_enter Tryz.func96, Tryz.ntmps96
    go_wp2_with (rw [E1])
    exact ret_s (HR.out _ HB1.out) rfl (bsB_eq (by rw [data_bsB]; simp [mkL]))
  · go_enter Tryz.func96, Tryz.ntmps96
    go_wp2_with (rw [E1])
    exact ret_s (HR.out _ HB1.out) rfl (bsB_eq (by rw [data_bsB]; simp [mkL]))
theorem hasSuffix_drop (s p : List UInt8) : Lib.hasSuffix s p = true ↔ s.drop (s.length - p.length) = p := by
  unfold Lib.hasSuffix
  rw [List.isSuffixOf_iff_suffix, List.suffix_iff_eq_drop]
  exact eq_comm
theorem cutW_has (s : List UInt8) : cutW s = if Lib.hasSuffix s [40, 77, 41] = true then (s.take (s.length - 3), 1) else if Lib.hasSuffix s [40, 76, 41] = true then (s.take (s.length - 3), 2) else (s, 0) := by
  have key : ∀ p : List UInt8, p.length = 3 → ((3 ≤ s.length ∧ s.drop (s.length - 3) = p) ↔ Lib.hasSuffix s p = true) := fun p hp => by
    rw [hasSuffix_drop, hp]
    constructor
    · exact fun h => h.2
    · intro h
      refine ⟨?_, h⟩
      have := congrArg List.length h
      rw [List.length_drop, hp] at this
      omega
  unfold cutW
  simp only [propext (key [40, 77, 41] rfl), propext (key [40, 76, 41] rfl)]
theorem cutsuf_any (s p : ByteArray) (b : Bool) (hb : Lib.hasSuffix s.data.toList p.data.toList = b) (w : World) (R : Ending → World → Prop) (hs : s.size ≤ 9223372036854775807)
   (hR : R (.returned (.tuple #[.string (bsB (if b = true then s.data.toList.take (s.data.toList.length - p.data.toList.length) else s.data.toList)), .bool b])) w) : Calls Tryz.prog 100 #[.string s, .string p] w R := by
  refine (Tryz.strings_CutSuffix s p w hs).mono fun e w' h => ?_
  obtain ⟨rfl, rfl⟩ := h
  rw [hb]
  unfold Lib.trimSuffix
  rw [hb]
  exact hR
set_option maxRecDepth 100000 in
set_option maxHeartbeats 4000000 in
theorem unmarked_any (s : ByteArray) (w : World) (R : Ending → World → Prop) (hs : s.size ≤ 9223372036854775807) (hR : R (.returned (.tuple #[.string (bsB (cutW s.data.toList).1), .int .i64 (cutW s.data.toList).2])) w) :
    Calls Tryz.prog 66 #[.string s] w R := by
  have HR := Lib.hid hR
  obtain ⟨A, hA⟩ : ∃ A, Lib.hasSuffix s.data.toList [40, 77, 41] = A := ⟨_, rfl⟩
  obtain ⟨B, hB⟩ : ∃ B, Lib.hasSuffix s.data.toList [40, 76, 41] = B := ⟨_, rfl⟩
  have HC : Hid (cutW s.data.toList = if A = true then (s.data.toList.take (s.data.toList.length - 3), 1) else if B = true then (s.data.toList.take (s.data.toList.length - 3), 2) else (s.data.toList, 0)) := by unfold Hid; rw [cutW_has, hA, hB]
  have HA : Hid (Lib.hasSuffix s.data.toList (bsB ((⟨#[]⟩ : ByteArray).data.toList ++ mkL 1)).data.toList = A) := by unfold Hid; rw [data_bsB]; exact hA
  have HB : Hid (Lib.hasSuffix s.data.toList (bsB ((⟨#[]⟩ : ByteArray).data.toList ++ mkL 2)).data.toList = B) := by unfold Hid; rw [data_bsB]; exact hB
  clear hR hA hB
  go_enter Tryz.func66, Tryz.ntmps66
  go_wp2_with fail
  go_loopw [4] (fun j wr => ∃ i : Int, j = .int .i64 i ∧ wr = w ∧ Hid (i = 1 ∨ i = 2 ∧ A = false ∨ i = 3 ∧ A = false ∧ B = false)) (fun j _ => 3 - (intOf j).toNat)
  case atStart => exact ⟨1, rfl, rfl, .inl rfl⟩
  case round =>
    obtain ⟨i, rfl, rfl, HI⟩ := hrel
    rcases HI.out with rfl | ⟨rfl, hA⟩ | ⟨rfl, hA, hB⟩
    · go_wp2_with fail
      refine marked_any ⟨#[]⟩ 1 _ _ (by omega) (by decide) ?_
      go_wp2_with fail
      refine cutsuf_any s _ A HA.out _ _ hs ?_
      cases A with
      | true =>
        have e : Hid (cutW s.data.toList = (s.data.toList.take (s.data.toList.length - 3), 1)) := HC.out
        rw [e.out] at HR
        go_wp2_with fail
        exact HR.out
      | false =>
        go_wp2_with fail
        refine ⟨⟨2, ?_⟩, ?_⟩ <;> simp [intOf, Hid]
    · subst hA
      go_wp2_with fail
      refine marked_any ⟨#[]⟩ 2 _ _ (by omega) (by decide) ?_
      go_wp2_with fail
      refine cutsuf_any s _ B HB.out _ _ hs ?_
      cases B with
      | true =>
        have e : Hid (cutW s.data.toList = (s.data.toList.take (s.data.toList.length - 3), 2)) := HC.out
        rw [e.out] at HR
        go_wp2_with fail
        exact HR.out
      | false =>
        go_wp2_with fail
        refine ⟨⟨3, ?_⟩, ?_⟩ <;> simp [intOf, Hid]
    · subst hA hB
      have e : Hid (cutW s.data.toList = (s.data.toList, 0)) := HC.out
      rw [e.out, bsB_data] at HR
      go_wp2_with fail
      exact HR.out
end Go.Proofs.YtciokmjhdbcmpaaGreatDoor
namespace Go.Proofs.YtciokmjhdbcmpaaGreatDoor
open Go.RowKit

theorem dgx : ∀ d, d < 10 → (⟨#[48, 49, 50, 51, 52, 53, 54, 55, 56, 57]⟩ : ByteArray).extract d (d + 1) = bsB [UInt8.ofNat (48 + d)] := by decide
set_option maxRecDepth 100000 in
set_option maxHeartbeats 4000000 in
theorem digits_step (u : Nat) (w : World) (R : Ending → World → Prop) (hu : u ≤ 1000000000000)
   (ih : ∀ v, v < u → ∀ (w : World) (R : Ending → World → Prop), (∀ w', Below w.heap.size w w' → R (.returned (.string (bsB (Lib.decDigits v)))) w') → Calls Tryz.prog 95 #[.int .i64 v] w R)
   (hR : ∀ w', Below w.heap.size w w' → R (.returned (.string (bsB (Lib.decDigits u)))) w') :
    Calls Tryz.prog 95 #[.int .i64 u] w R := by
  have HR := Lib.hid hR
  have IH := Lib.hid ih
  clear hR ih
  by_cases h : u < 10
  · have K : ((u : Int) < 10) = True := eq_true (by omega)
    go_enter Tryz.func95, Tryz.ntmps95
    go_wp2_with fail
    exact ret_s (HR.out _ (Below.refl _ _)) rfl (by rw [Lib.decDigits_one h, dgx u h])
  · have K : ((u : Int) < 10) = False := eq_false (by omega)
    obtain ⟨q, hq⟩ : ∃ q, u / 10 = q := ⟨_, rfl⟩
    obtain ⟨d, hd⟩ : ∃ d, u % 10 = d := ⟨_, rfl⟩
    have hd10 : d < 10 := by omega
    have hq2 : ((u : Int) / 10) = (q : Int) := by omega
    have hd2 : ((u : Int) % 10) = (d : Int) := by omega
    have hx := dgx d hd10
    have hqu : q < u := by omega
    have hwq : IntKind.i64.wrap (q : Int) = q := by rw [IntKind.wrap_i64]; omega
    have htm : (u : Int).tmod 10 = (d : Int) := by rw [Int.tmod_eq_emod_of_nonneg (by omega)]; omega
    have hwd1 : IntKind.i64.wrap ((d : Int) + 1) = (d : Int) + 1 := by rw [IntKind.wrap_i64]; omega
    have c1 : (0 : Int) ≤ (d : Int) + 1 := by omega
    have c2 : (d : Int) + 1 ≤ 10 := by omega
    have c3 : (d : Int) ≤ (d : Int) + 1 := by omega
    have c4 : ((d : Int) + 1).toNat = d + 1 := by omega
    have hwd : IntKind.i64.wrap (d : Int) = d := by rw [IntKind.wrap_i64]; omega
    have HD : Hid (Lib.decDigits u = Lib.decDigits q ++ [UInt8.ofNat (48 + d)]) := by unfold Hid; rw [Lib.decDigits, dif_neg h, hq, hd]
    have hlen : (Lib.decDigits q).length ≤ 12 := digits_len 11 q (by omega)
    have had := add_bs (P := Tryz.prog) (bsB (Lib.decDigits q)) (bsB [UInt8.ofNat (48 + d)]) (by rw [Lib.size_eq, Lib.size_eq, data_bsB, data_bsB]; simp; omega)
    have BD : Hid (Below w.heap.size w w.drew) := (Below.refl _ _).drew
    rw [data_bsB, data_bsB] at had
    obtain ⟨c, hc⟩ : ∃ c, UInt8.ofNat (48 + d) = c := ⟨_, rfl⟩
    rw [hc] at hx had HD
    clear hq hd hlen hc
    go_enter Tryz.func95, Tryz.ntmps95
    go_wp2_with fail
    refine regionQ (fun w' => Hid (Below w.heap.size w w')) (by kernel_rfl) (BD) (fun Qn hPQ hQn hS0 => ?_)
    refine takeQ (i := 0) (d := some 9) (v := ?_) rfl rfl (by kernel_rfl) (by kernel_rfl) (by kernel_rfl) hPQ hS0 (by kernel_rfl) ?_ ?_
    rotate_left
    · (intro w hSw; (try dsimp only at hSw); go_simp; (try with_reducible rfl))
    (try simp only [Act.put, List.setIfInBounds_toArray, List.set_cons_zero, List.set_cons_succ])
    refine takeQ (i := 1) (d := some 10) (v := ?_) rfl rfl (by kernel_rfl) (by kernel_rfl) (by kernel_rfl) hPQ hS0 (by kernel_rfl) ?_ ?_
    rotate_left
    · (intro w hSw; (try dsimp only at hSw); go_simp; (try with_reducible rfl))
    (try simp only [Act.put, List.setIfInBounds_toArray, List.set_cons_zero, List.set_cons_succ])
    refine takeQ (i := 3) (d := some 12) (v := ?_) rfl rfl (by kernel_rfl) (by kernel_rfl) (by kernel_rfl) hPQ hS0 (by kernel_rfl) ?_ ?_
    rotate_left
    · (intro w hSw; (try dsimp only at hSw); go_simp; (try with_reducible rfl))
    (try simp only [Act.put, List.setIfInBounds_toArray, List.set_cons_zero, List.set_cons_succ])
    refine takeQ (i := 4) (d := some 13) (v := ?_) rfl rfl (by kernel_rfl) (by kernel_rfl) (by kernel_rfl) hPQ hS0 (by kernel_rfl) ?_ ?_
    rotate_left
    · (intro w hSw; (try dsimp only at hSw); go_simp; (try with_reducible rfl))
    (try simp only [Act.put, List.setIfInBounds_toArray, List.set_cons_zero, List.set_cons_succ])
    refine takeQ (i := 5) (d := some 14) (v := ?_) rfl rfl (by kernel_rfl) (by kernel_rfl) (by kernel_rfl) hPQ hS0 (by kernel_rfl) ?_ ?_
    rotate_left
    · (intro w hSw; (try dsimp only at hSw); go_simp; (try with_reducible rfl))
    (try simp only [Act.put, List.setIfInBounds_toArray, List.set_cons_zero, List.set_cons_succ])
    refine takeQ (i := 6) (d := some 15) (v := ?_) rfl rfl (by kernel_rfl) (by kernel_rfl) (by kernel_rfl) hPQ hS0 (by kernel_rfl) ?_ ?_
    rotate_left
    · (intro w hSw; (try dsimp only at hSw); go_simp; (try with_reducible rfl))
    (try simp only [Act.put, List.setIfInBounds_toArray, List.set_cons_zero, List.set_cons_succ])
    refine takeQ (i := 7) (d := some 16) (v := ?_) rfl rfl (by kernel_rfl) (by kernel_rfl) (by kernel_rfl) hPQ hS0 (by kernel_rfl) ?_ ?_
    rotate_left
    · (intro w hSw; (try dsimp only at hSw); go_simp; (try with_reducible rfl))
    (try simp only [Act.put, List.setIfInBounds_toArray, List.set_cons_zero, List.set_cons_succ])
    refine takeQ (i := 8) (d := some 17) (v := ?_) rfl rfl (by kernel_rfl) (by kernel_rfl) (by kernel_rfl) hPQ hS0 (by kernel_rfl) ?_ ?_
    rotate_left
    · (intro w hSw; (try dsimp only at hSw); go_simp; (try with_reducible rfl))
    (try simp only [Act.put, List.setIfInBounds_toArray, List.set_cons_zero, List.set_cons_succ])
    refine wpAnyH_ready (rs := [2]) (by kernel_rfl) (by simp) ?_
    refine AllReadyH.cons (o := _) rfl (fun K hK => ?_) AllReadyH.nil
    go_simp
    refine IH.out q hqu _ _ fun w3 hb => ?_
    have B3 : Hid (Below w.heap.size w w3) := BD.out.trans (hb.mono BD.out.size)
    clear hb
    refine hK.out _ _ (B3) (fun hS1 => ?_)
    clear hK K hS0
    (try simp only [Act.put, List.setIfInBounds_toArray, List.set_cons_zero, List.set_cons_succ])
    refine takeQ (i := 9) (d := some 18) (v := ?_) rfl rfl (by kernel_rfl) (by kernel_rfl) (by kernel_rfl) hPQ hS1 (by kernel_rfl) ?_ ?_
    rotate_left
    · (intro w hSw; (try dsimp only at hSw); go_simp; (try with_reducible rfl))
    (try simp only [Act.put, List.setIfInBounds_toArray, List.set_cons_zero, List.set_cons_succ])
    refine takeQ (i := 10) (d := some 2) (v := ?_) rfl rfl (by kernel_rfl) (by kernel_rfl) (by kernel_rfl) hPQ hS1 (by kernel_rfl) ?_ ?_
    rotate_left
    · (intro w hSw; (try dsimp only at hSw); go_simp; (try with_reducible rfl))
    (try simp only [Act.put, List.setIfInBounds_toArray, List.set_cons_zero, List.set_cons_succ])
    refine wpAnyH_done (by kernel_rfl) (hQn.out _ _ ?_) _
    clear hS1 hPQ hQn Qn
    go_wp2_with fail
    exact ret_s (HR.out _ B3.out) rfl (by rw [HD.out])
theorem digits_any (u : Nat) : ∀ (w : World) (R : Ending → World → Prop), u ≤ 1000000000000 → (∀ w', Below w.heap.size w w' → R (.returned (.string (bsB (Lib.decDigits u)))) w') →
    Calls Tryz.prog 95 #[.int .i64 u] w R := by
  induction u using Nat.strongRecOn with
  | _ u ih => exact fun w R hu hR => digits_step u w R hu (fun v hv w R h => ih v hv w R (by omega) h) hR
theorem toList_len (s : ByteArray) : s.data.toList.length = s.size := by rw [Lib.size_eq]
theorem drop_ext (s : ByteArray) (k : Nat) : (s.extract k s.size).toList = s.data.toList.drop k := by rw [Lib.toList_data, Lib.extract_to_end]
theorem take_ext (s : ByteArray) (k : Nat) : s.extract 0 k = bsB (s.data.toList.take k) := bsB_eq (by rw [Lib.extract_from_zero, data_bsB])
set_option maxRecDepth 100000 in
set_option maxHeartbeats 4000000 in
theorem rcut_any (s : ByteArray) (w : World) (R : Ending → World → Prop) (hs : s.size ≤ 1000000000000) (hR : ∀ w', Below w.heap.size w w' → R (.returned (.tuple #[.string (bsB (cutW s.data.toList).1), .int .i64 (cutW s.data.toList).2])) w') :
    Calls Tryz.prog 102 #[.string s] w R := by
  have HR := Lib.hid hR
  clear hR
  by_cases h3 : 3 ≤ s.size
  · obtain ⟨k, hk⟩ : ∃ k, s.size - 3 = k := ⟨_, rfl⟩
    have hks : k ≤ s.size := by omega
    have hw : IntKind.i64.wrap ((s.size : Int) - 3) = (k : Int) := by rw [IntKind.wrap_i64]; omega
    obtain ⟨A, hA⟩ : ∃ A, (s.data.toList.drop k == [40, 77, 41]) = A := ⟨_, rfl⟩
    obtain ⟨B, hB⟩ : ∃ B, (s.data.toList.drop k == [40, 76, 41]) = B := ⟨_, rfl⟩
    have hA1 : ((s.extract k s.size).toList == (bsB (mkL 1)).toList) = A := by rw [drop_ext, Lib.toList_data, data_bsB]; exact hA
    have hB1 : ((s.extract k s.size).toList == (bsB (mkL 2)).toList) = B := by rw [drop_ext, Lib.toList_data, data_bsB]; exact hB
    have HC : Hid (cutW s.data.toList = if A = true then (s.data.toList.take k, 1) else if B = true then (s.data.toList.take k, 2) else (s.data.toList, 0)) := by
      unfold Hid cutW
      rw [toList_len, hk, ← hA, ← hB]
      simp only [h3, true_and, beq_iff_eq]
    have hx := take_ext s k
    have g1 : (0 : Int) ≤ (k : Int) := by omega
    have g2 : (k : Int) ≤ (s.size : Int) := by omega
    clear hA hB hk
    go_enter Tryz.func102, Tryz.ntmps102
    go_wp2_with fail
    go_loopw [4] (fun j wr => ∃ i : Int, j = .int .i64 i ∧ Hid (Below w.heap.size w wr) ∧ Hid (i = 1 ∨ i = 2 ∧ A = false ∨ i = 3 ∧ A = false ∧ B = false)) (fun j _ => 3 - (intOf j).toNat)
    case atStart => exact ⟨1, rfl, Below.refl _ _, .inl rfl⟩
    case round =>
      obtain ⟨i, rfl, HB, HI⟩ := hrel
      have BD : Hid (Below w.heap.size w wr.drew) := HB.out.drew
      rcases HI.out with rfl | ⟨rfl, hA⟩ | ⟨rfl, hA, hB⟩
      · go_wp2_with fail
        refine regionQ (fun w' => Hid (Below w.heap.size w w')) (by kernel_rfl) (BD) (fun Qn hPQ hQn hS0 => ?_)
        refine takeQ (i := 0) (d := some 13) (v := ?_) rfl rfl (by kernel_rfl) (by kernel_rfl) (by kernel_rfl) hPQ hS0 (by kernel_rfl) ?_ ?_
        rotate_left
        · (intro w hSw; (try dsimp only at hSw); go_simp; (try with_reducible rfl))
        (try simp only [Act.put, List.setIfInBounds_toArray, List.set_cons_zero, List.set_cons_succ])
        refine takeQ (i := 1) (d := some 14) (v := ?_) rfl rfl (by kernel_rfl) (by kernel_rfl) (by kernel_rfl) hPQ hS0 (by kernel_rfl) ?_ ?_
        rotate_left
        · (intro w hSw; (try dsimp only at hSw); go_simp; (try with_reducible rfl))
        (try simp only [Act.put, List.setIfInBounds_toArray, List.set_cons_zero, List.set_cons_succ])
        refine takeQ (i := 2) (d := some 15) (v := ?_) rfl rfl (by kernel_rfl) (by kernel_rfl) (by kernel_rfl) hPQ hS0 (by kernel_rfl) ?_ ?_
        rotate_left
        · (intro w hSw; (try dsimp only at hSw); go_simp; (try with_reducible rfl))
        (try simp only [Act.put, List.setIfInBounds_toArray, List.set_cons_zero, List.set_cons_succ])
        refine takeQ (i := 3) (d := some 16) (v := ?_) rfl rfl (by kernel_rfl) (by kernel_rfl) (by kernel_rfl) hPQ hS0 (by kernel_rfl) ?_ ?_
        rotate_left
        · (intro w hSw; (try dsimp only at hSw); go_simp; (try with_reducible rfl))
        (try simp only [Act.put, List.setIfInBounds_toArray, List.set_cons_zero, List.set_cons_succ])
        refine takeQ (i := 4) (d := some 17) (v := ?_) rfl rfl (by kernel_rfl) (by kernel_rfl) (by kernel_rfl) hPQ hS0 (by kernel_rfl) ?_ ?_
        rotate_left
        · (intro w hSw; (try dsimp only at hSw); go_simp; (try with_reducible rfl))
        (try simp only [Act.put, List.setIfInBounds_toArray, List.set_cons_zero, List.set_cons_succ])
        refine takeQ (i := 5) (d := some 18) (v := ?_) rfl rfl (by kernel_rfl) (by kernel_rfl) (by kernel_rfl) hPQ hS0 (by kernel_rfl) ?_ ?_
        rotate_left
        · (intro w hSw; (try dsimp only at hSw); go_simp; (try with_reducible rfl))
        (try simp only [Act.put, List.setIfInBounds_toArray, List.set_cons_zero, List.set_cons_succ])
        refine takeQ (i := 6) (d := some 19) (v := ?_) rfl rfl (by kernel_rfl) (by kernel_rfl) (by kernel_rfl) hPQ hS0 (by kernel_rfl) ?_ ?_
        rotate_left
        · (intro w hSw; (try dsimp only at hSw); go_simp; (try with_reducible rfl))
        (try simp only [Act.put, List.setIfInBounds_toArray, List.set_cons_zero, List.set_cons_succ])
        refine wpAnyH_ready (rs := [7]) (by kernel_rfl) (by simp) ?_
        refine AllReadyH.cons (o := _) rfl (fun K hK => ?_) AllReadyH.nil
        go_simp
        refine rmark_any 1 _ _ (by omega) fun w3 hb => ?_
        have B3 : Hid (Below w.heap.size w w3) := BD.out.trans (hb.mono BD.out.size)
        clear hb
        refine hK.out _ _ (B3) (fun hS1 => ?_)
        clear hK K hS0
        (try simp only [Act.put, List.setIfInBounds_toArray, List.set_cons_zero, List.set_cons_succ])
        refine takeQ (i := 8) (d := some 21) (v := ?_) rfl rfl (by kernel_rfl) (by kernel_rfl) (by kernel_rfl) hPQ hS1 (by kernel_rfl) ?_ ?_
        rotate_left
        · (intro w hSw; (try dsimp only at hSw); go_simp; (try with_reducible rfl))
        (try simp only [Act.put, List.setIfInBounds_toArray, List.set_cons_zero, List.set_cons_succ])
        refine takeQ (i := 9) (d := some 22) (v := ?_) rfl rfl (by kernel_rfl) (by kernel_rfl) (by kernel_rfl) hPQ hS1 (by kernel_rfl) ?_ ?_
        rotate_left
        · (intro w hSw; (try dsimp only at hSw); go_simp; (try with_reducible rfl))
        (try simp only [Act.put, List.setIfInBounds_toArray, List.set_cons_zero, List.set_cons_succ])
        refine wpAnyH_done (by kernel_rfl) (hQn.out _ _ ?_) _
        clear hS1 hPQ hQn Qn
        cases A with
        | true =>
          have e : Hid (cutW s.data.toList = (s.data.toList.take k, 1)) := HC.out
          go_wp2_with fail
          have h := HR.out _ B3.out
          rw [e.out] at h
          exact h
        | false =>
          go_wp2_with fail
          refine ⟨⟨2, ?_⟩, ?_⟩ <;> simp [intOf, Hid]
          exact B3.out
      · subst hA
        go_wp2_with fail
        refine regionQ (fun w' => Hid (Below w.heap.size w w')) (by kernel_rfl) (BD) (fun Qn hPQ hQn hS0 => ?_)
        refine takeQ (i := 0) (d := some 13) (v := ?_) rfl rfl (by kernel_rfl) (by kernel_rfl) (by kernel_rfl) hPQ hS0 (by kernel_rfl) ?_ ?_
        rotate_left
        · (intro w hSw; (try dsimp only at hSw); go_simp; (try with_reducible rfl))
        (try simp only [Act.put, List.setIfInBounds_toArray, List.set_cons_zero, List.set_cons_succ])
        refine takeQ (i := 1) (d := some 14) (v := ?_) rfl rfl (by kernel_rfl) (by kernel_rfl) (by kernel_rfl) hPQ hS0 (by kernel_rfl) ?_ ?_
        rotate_left
        · (intro w hSw; (try dsimp only at hSw); go_simp; (try with_reducible rfl))
        (try simp only [Act.put, List.setIfInBounds_toArray, List.set_cons_zero, List.set_cons_succ])
        refine takeQ (i := 2) (d := some 15) (v := ?_) rfl rfl (by kernel_rfl) (by kernel_rfl) (by kernel_rfl) hPQ hS0 (by kernel_rfl) ?_ ?_
        rotate_left
        · (intro w hSw; (try dsimp only at hSw); go_simp; (try with_reducible rfl))
        (try simp only [Act.put, List.setIfInBounds_toArray, List.set_cons_zero, List.set_cons_succ])
        refine takeQ (i := 3) (d := some 16) (v := ?_) rfl rfl (by kernel_rfl) (by kernel_rfl) (by kernel_rfl) hPQ hS0 (by kernel_rfl) ?_ ?_
        rotate_left
        · (intro w hSw; (try dsimp only at hSw); go_simp; (try with_reducible rfl))
        (try simp only [Act.put, List.setIfInBounds_toArray, List.set_cons_zero, List.set_cons_succ])
        refine takeQ (i := 4) (d := some 17) (v := ?_) rfl rfl (by kernel_rfl) (by kernel_rfl) (by kernel_rfl) hPQ hS0 (by kernel_rfl) ?_ ?_
        rotate_left
        · (intro w hSw; (try dsimp only at hSw); go_simp; (try with_reducible rfl))
        (try simp only [Act.put, List.setIfInBounds_toArray, List.set_cons_zero, List.set_cons_succ])
        refine takeQ (i := 5) (d := some 18) (v := ?_) rfl rfl (by kernel_rfl) (by kernel_rfl) (by kernel_rfl) hPQ hS0 (by kernel_rfl) ?_ ?_
        rotate_left
        · (intro w hSw; (try dsimp only at hSw); go_simp; (try with_reducible rfl))
        (try simp only [Act.put, List.setIfInBounds_toArray, List.set_cons_zero, List.set_cons_succ])
        refine takeQ (i := 6) (d := some 19) (v := ?_) rfl rfl (by kernel_rfl) (by kernel_rfl) (by kernel_rfl) hPQ hS0 (by kernel_rfl) ?_ ?_
        rotate_left
        · (intro w hSw; (try dsimp only at hSw); go_simp; (try with_reducible rfl))
        (try simp only [Act.put, List.setIfInBounds_toArray, List.set_cons_zero, List.set_cons_succ])
        refine wpAnyH_ready (rs := [7]) (by kernel_rfl) (by simp) ?_
        refine AllReadyH.cons (o := _) rfl (fun K hK => ?_) AllReadyH.nil
        go_simp
        refine rmark_any 2 _ _ (by omega) fun w3 hb => ?_
        have B3 : Hid (Below w.heap.size w w3) := BD.out.trans (hb.mono BD.out.size)
        clear hb
        refine hK.out _ _ (B3) (fun hS1 => ?_)
        clear hK K hS0
        (try simp only [Act.put, List.setIfInBounds_toArray, List.set_cons_zero, List.set_cons_succ])
        refine takeQ (i := 8) (d := some 21) (v := ?_) rfl rfl (by kernel_rfl) (by kernel_rfl) (by kernel_rfl) hPQ hS1 (by kernel_rfl) ?_ ?_
        rotate_left
        · (intro w hSw; (try dsimp only at hSw); go_simp; (try with_reducible rfl))
        (try simp only [Act.put, List.setIfInBounds_toArray, List.set_cons_zero, List.set_cons_succ])
        refine takeQ (i := 9) (d := some 22) (v := ?_) rfl rfl (by kernel_rfl) (by kernel_rfl) (by kernel_rfl) hPQ hS1 (by kernel_rfl) ?_ ?_
        rotate_left
        · (intro w hSw; (try dsimp only at hSw); go_simp; (try with_reducible rfl))
        (try simp only [Act.put, List.setIfInBounds_toArray, List.set_cons_zero, List.set_cons_succ])
        refine wpAnyH_done (by kernel_rfl) (hQn.out _ _ ?_) _
        clear hS1 hPQ hQn Qn
        cases B with
        | true =>
          have e : Hid (cutW s.data.toList = (s.data.toList.take k, 2)) := HC.out
          go_wp2_with fail
          have h := HR.out _ B3.out
          rw [e.out] at h
          exact h
        | false =>
          go_wp2_with fail
          refine ⟨⟨3, ?_⟩, ?_⟩ <;> simp [intOf, Hid]
          exact B3.out
      · subst hA hB
        have e : Hid (cutW s.data.toList = (s.data.toList, 0)) := HC.out
        go_wp2_with fail
        have h := HR.out _ HB.out
        rw [e.out, bsB_data] at h
        exact h
  · obtain ⟨z, hz⟩ : ∃ z, (s.size : Int) - 3 = z := ⟨_, rfl⟩
    have hw : IntKind.i64.wrap ((s.size : Int) - 3) = z := by rw [IntKind.wrap_i64]; omega
    have hz0 : (0 ≤ z) = False := eq_false (by omega)
    have e : Hid (cutW s.data.toList = (s.data.toList, 0)) := by
      unfold Hid cutW
      rw [toList_len, if_neg (fun h => h3 h.1), if_neg (fun h => h3 h.1)]
    clear h3 hz
    go_enter Tryz.func102, Tryz.ntmps102
    go_wp2_with fail
    go_loopw [4] (fun j wr => ∃ i : Int, j = .int .i64 i ∧ Hid (Below w.heap.size w wr) ∧ Hid (i = 1 ∨ i = 2 ∨ i = 3)) (fun j _ => 3 - (intOf j).toNat)
    case atStart => exact ⟨1, rfl, Below.refl _ _, .inl rfl⟩
    case round =>
      obtain ⟨i, rfl, HB, HI⟩ := hrel
      have BD : Hid (Below w.heap.size w wr.drew) := HB.out.drew
      rcases HI.out with rfl | rfl | rfl
      · go_wp2_with fail
        refine regionQ (fun w' => Hid (Below w.heap.size w w')) (by kernel_rfl) (BD) (fun Qn hPQ hQn hS0 => ?_)
        refine takeQ (i := 0) (d := some 13) (v := ?_) rfl rfl (by kernel_rfl) (by kernel_rfl) (by kernel_rfl) hPQ hS0 (by kernel_rfl) ?_ ?_
        rotate_left
        · (intro w hSw; (try dsimp only at hSw); go_simp; (try with_reducible rfl))
        (try simp only [Act.put, List.setIfInBounds_toArray, List.set_cons_zero, List.set_cons_succ])
        refine takeQ (i := 1) (d := some 14) (v := ?_) rfl rfl (by kernel_rfl) (by kernel_rfl) (by kernel_rfl) hPQ hS0 (by kernel_rfl) ?_ ?_
        rotate_left
        · (intro w hSw; (try dsimp only at hSw); go_simp; (try with_reducible rfl))
        (try simp only [Act.put, List.setIfInBounds_toArray, List.set_cons_zero, List.set_cons_succ])
        refine takeQ (i := 2) (d := some 15) (v := ?_) rfl rfl (by kernel_rfl) (by kernel_rfl) (by kernel_rfl) hPQ hS0 (by kernel_rfl) ?_ ?_
        rotate_left
        · (intro w hSw; (try dsimp only at hSw); go_simp; (try with_reducible rfl))
        (try simp only [Act.put, List.setIfInBounds_toArray, List.set_cons_zero, List.set_cons_succ])
        refine skipQ (i := 3) (d := some 16) rfl rfl (by kernel_rfl) (by kernel_rfl) (by kernel_rfl) hPQ hS0 (by kernel_rfl) ?_
        (try simp only [Act.put, List.setIfInBounds_toArray, List.set_cons_zero, List.set_cons_succ])
        refine skipQ (i := 4) (d := some 17) rfl rfl (by kernel_rfl) (by kernel_rfl) (by kernel_rfl) hPQ hS0 (by kernel_rfl) ?_
        (try simp only [Act.put, List.setIfInBounds_toArray, List.set_cons_zero, List.set_cons_succ])
        refine skipQ (i := 5) (d := some 18) rfl rfl (by kernel_rfl) (by kernel_rfl) (by kernel_rfl) hPQ hS0 (by kernel_rfl) ?_
        (try simp only [Act.put, List.setIfInBounds_toArray, List.set_cons_zero, List.set_cons_succ])
        refine skipQ (i := 6) (d := some 19) rfl rfl (by kernel_rfl) (by kernel_rfl) (by kernel_rfl) hPQ hS0 (by kernel_rfl) ?_
        (try simp only [Act.put, List.setIfInBounds_toArray, List.set_cons_zero, List.set_cons_succ])
        refine skipQ (i := 7) (d := some 20) rfl rfl (by kernel_rfl) (by kernel_rfl) (by kernel_rfl) hPQ hS0 (by kernel_rfl) ?_
        (try simp only [Act.put, List.setIfInBounds_toArray, List.set_cons_zero, List.set_cons_succ])
        refine skipQ (i := 8) (d := some 21) rfl rfl (by kernel_rfl) (by kernel_rfl) (by kernel_rfl) hPQ hS0 (by kernel_rfl) ?_
        (try simp only [Act.put, List.setIfInBounds_toArray, List.set_cons_zero, List.set_cons_succ])
        refine takeQ (i := 9) (d := some 22) (v := ?_) rfl rfl (by kernel_rfl) (by kernel_rfl) (by kernel_rfl) hPQ hS0 (by kernel_rfl) ?_ ?_
        rotate_left
        · (intro w hSw; (try dsimp only at hSw); go_simp; (try with_reducible rfl))
        (try simp only [Act.put, List.setIfInBounds_toArray, List.set_cons_zero, List.set_cons_succ])
        refine wpAnyH_done (by kernel_rfl) (hQn.out _ _ ?_) _
        clear hS0 hPQ hQn Qn
        go_wp2_with fail
        refine ⟨⟨2, ?_⟩, ?_⟩ <;> simp [intOf, Hid]
        exact BD.out
      · go_wp2_with fail
        refine regionQ (fun w' => Hid (Below w.heap.size w w')) (by kernel_rfl) (BD) (fun Qn hPQ hQn hS0 => ?_)
        refine takeQ (i := 0) (d := some 13) (v := ?_) rfl rfl (by kernel_rfl) (by kernel_rfl) (by kernel_rfl) hPQ hS0 (by kernel_rfl) ?_ ?_
        rotate_left
        · (intro w hSw; (try dsimp only at hSw); go_simp; (try with_reducible rfl))
        (try simp only [Act.put, List.setIfInBounds_toArray, List.set_cons_zero, List.set_cons_succ])
        refine takeQ (i := 1) (d := some 14) (v := ?_) rfl rfl (by kernel_rfl) (by kernel_rfl) (by kernel_rfl) hPQ hS0 (by kernel_rfl) ?_ ?_
        rotate_left
        · (intro w hSw; (try dsimp only at hSw); go_simp; (try with_reducible rfl))
        (try simp only [Act.put, List.setIfInBounds_toArray, List.set_cons_zero, List.set_cons_succ])
        refine takeQ (i := 2) (d := some 15) (v := ?_) rfl rfl (by kernel_rfl) (by kernel_rfl) (by kernel_rfl) hPQ hS0 (by kernel_rfl) ?_ ?_
        rotate_left
        · (intro w hSw; (try dsimp only at hSw); go_simp; (try with_reducible rfl))
        (try simp only [Act.put, List.setIfInBounds_toArray, List.set_cons_zero, List.set_cons_succ])
        refine skipQ (i := 3) (d := some 16) rfl rfl (by kernel_rfl) (by kernel_rfl) (by kernel_rfl) hPQ hS0 (by kernel_rfl) ?_
        (try simp only [Act.put, List.setIfInBounds_toArray, List.set_cons_zero, List.set_cons_succ])
        refine skipQ (i := 4) (d := some 17) rfl rfl (by kernel_rfl) (by kernel_rfl) (by kernel_rfl) hPQ hS0 (by kernel_rfl) ?_
        (try simp only [Act.put, List.setIfInBounds_toArray, List.set_cons_zero, List.set_cons_succ])
        refine skipQ (i := 5) (d := some 18) rfl rfl (by kernel_rfl) (by kernel_rfl) (by kernel_rfl) hPQ hS0 (by kernel_rfl) ?_
        (try simp only [Act.put, List.setIfInBounds_toArray, List.set_cons_zero, List.set_cons_succ])
        refine skipQ (i := 6) (d := some 19) rfl rfl (by kernel_rfl) (by kernel_rfl) (by kernel_rfl) hPQ hS0 (by kernel_rfl) ?_
        (try simp only [Act.put, List.setIfInBounds_toArray, List.set_cons_zero, List.set_cons_succ])
        refine skipQ (i := 7) (d := some 20) rfl rfl (by kernel_rfl) (by kernel_rfl) (by kernel_rfl) hPQ hS0 (by kernel_rfl) ?_
        (try simp only [Act.put, List.setIfInBounds_toArray, List.set_cons_zero, List.set_cons_succ])
        refine skipQ (i := 8) (d := some 21) rfl rfl (by kernel_rfl) (by kernel_rfl) (by kernel_rfl) hPQ hS0 (by kernel_rfl) ?_
        (try simp only [Act.put, List.setIfInBounds_toArray, List.set_cons_zero, List.set_cons_succ])
        refine takeQ (i := 9) (d := some 22) (v := ?_) rfl rfl (by kernel_rfl) (by kernel_rfl) (by kernel_rfl) hPQ hS0 (by kernel_rfl) ?_ ?_
        rotate_left
        · (intro w hSw; (try dsimp only at hSw); go_simp; (try with_reducible rfl))
        (try simp only [Act.put, List.setIfInBounds_toArray, List.set_cons_zero, List.set_cons_succ])
        refine wpAnyH_done (by kernel_rfl) (hQn.out _ _ ?_) _
        clear hS0 hPQ hQn Qn
        go_wp2_with fail
        refine ⟨⟨3, ?_⟩, ?_⟩ <;> simp [intOf, Hid]
        exact BD.out
      · go_wp2_with fail
        have h := HR.out _ HB.out
        rw [e.out, bsB_data] at h
        exact h
end Go.Proofs.YtciokmjhdbcmpaaGreatDoor
namespace Go.Proofs.YtciokmjhdbcmpaaGreatDoor
open Go.RowKit

theorem w64 {x : Int} (h1 : -9223372036854775808 ≤ x) (h2 : x ≤ 9223372036854775807) : wrap64 x = x := by unfold wrap64; omega
theorem decFrom_none {l : List UInt8} {j : Nat} {b : UInt8} (hj : l[j]? = some b) (hb : Lib.digitVal b = none) : Lib.decFrom 0 l = none := by
  cases h : Lib.decFrom 0 l with
  | none => rfl
  | some n =>
    obtain ⟨d, hd⟩ := Lib.digit_of_decFrom l 0 n h j b hj
    rw [hb] at hd
    exact absurd hd (by simp)
set_option maxRecDepth 100000 in
set_option maxHeartbeats 4000000 in
theorem rnumber_any (s : ByteArray) (w : World) (R : Ending → World → Prop) (hR : R (.returned (.int .i64 (numL s.data.toList))) w) :
    Calls Tryz.prog 103 #[.string s] w R := by
  have HR := Lib.hid hR
  clear hR
  by_cases h0 : s.size = 0
  · have K : ((s.size : Int) == 0) = true := by rw [h0]; rfl
    have e : Hid (numL s.data.toList = -1) := by unfold Hid numL; rw [toList_len, if_pos (.inl h0)]
    clear h0
    go_enter Tryz.func103, Tryz.ntmps103
    go_wp2_with fail
    exact ret_i HR.out rfl e.out
  · have K : ((s.size : Int) == 0) = false := by simpa using (by omega : ¬ (s.size : Int) = 0)
    by_cases h6 : 6 < s.size
    · have K2 : ((6 : Int) < (s.size : Int)) = True := eq_true (by omega)
      have e : Hid (numL s.data.toList = -1) := by unfold Hid numL; rw [toList_len, if_pos (.inr h6)]
      clear h0 h6
      go_enter Tryz.func103, Tryz.ntmps103
      go_wp2_with fail
      exact ret_i HR.out rfl e.out
    · have K2 : ((6 : Int) < (s.size : Int)) = False := eq_false (by omega)
      have e : Hid (numL s.data.toList = match Lib.decFrom 0 s.data.toList with
        | some n => (n : Int)
        | none => -1) := if_neg (by rw [toList_len]; omega)
      go_enter Tryz.func103, Tryz.ntmps103
      go_wp2_with fail
      go_loopw [3, 4] (fun n j wr => ∃ i m : Nat, i ≤ s.size ∧ n = .int .i64 m ∧ j = .int .i64 i ∧ wr = w ∧ Hid (Lib.decFrom 0 (s.data.toList.take i) = some m)) (fun _ j _ => s.size - (intOf j).toNat)
      case atStart => exact ⟨0, 0, Nat.zero_le _, rfl, rfl, rfl, rfl⟩
      case round =>
        obtain ⟨i, m, hi, rfl, rfl, rfl, HD⟩ := hrel
        by_cases hlt : i < s.size
        · have hm := Lib.decFrom_lt _ _ _ HD.out
          have hp : (0 + 1) * 10 ^ (s.data.toList.take i).length ≤ 1000000 := by
            rw [List.length_take, toList_len, Nat.zero_add, Nat.one_mul]
            exact Nat.le_trans (Nat.pow_le_pow_right (by decide) (show min i s.size ≤ 6 by omega)) (by decide)
          have hm6 : m < 1000000 := by omega
          have hg : s.data.toList[i]? = some s[i] := by
            rw [List.getElem?_eq_getElem (by rw [toList_len]; exact hlt)]
            rfl
          obtain ⟨b, hb⟩ : ∃ b, s[i] = b := ⟨_, rfl⟩
          have HB := Lib.hid hb
          rw [hb] at hg
          have hbx : ((s[i].toNat : Int)) = (b.toNat : Int) := by rw [hb]
          clear hb hm hp
          by_cases c1 : b.toNat < 48
          · have K3 : ((b.toNat : Int) < 48) = True := eq_true (by omega)
            have e2 : Hid (numL s.data.toList = -1) := by
              unfold Hid
              rw [e.out, decFrom_none hg (by unfold Lib.digitVal; rw [if_neg (by omega)])]
            clear c1
            go_wp2_with fail
            exact ret_i HR.out rfl e2.out
          · have K3 : ((b.toNat : Int) < 48) = False := eq_false (by omega)
            by_cases c2 : 57 < b.toNat
            · have K4 : ((57 : Int) < (b.toNat : Int)) = True := eq_true (by omega)
              have e2 : Hid (numL s.data.toList = -1) := by
                unfold Hid
                rw [e.out, decFrom_none hg (by unfold Lib.digitVal; rw [if_neg (by omega)])]
              clear c1 c2
              go_wp2_with fail
              exact ret_i HR.out rfl e2.out
            · have K4 : ((57 : Int) < (b.toNat : Int)) = False := eq_false (by omega)
              obtain ⟨d, hd⟩ : ∃ d, b.toNat - 48 = d := ⟨_, rfl⟩
              have hu8 : IntKind.u8.wrap ((b.toNat : Int) - 48) = (d : Int) := by
                have h1 : ((b.toNat : Int) - 48) = (d : Int) := by omega
                rw [h1]
                unfold IntKind.wrap
                simp [IntKind.signed, IntKind.bits]
                omega
              have hm10 : IntKind.i64.wrap (10 * (m : Int)) = 10 * (m : Int) := by rw [IntKind.wrap_i64]; omega
              have hs1 : IntKind.i64.wrap (10 * (m : Int) + (d : Int)) = ((m * 10 + d : Nat) : Int) := by rw [IntKind.wrap_i64]; omega
              have hz : Value.int .i64 (wrap64 (10 * (m : Int) + wrap64 (d : Int))) = .int .i64 ((m * 10 + d : Nat) : Int) := by rw [w64 (x := (d : Int)) (by omega) (by omega), w64 (by omega) (by omega)]; congr 1; omega
              have hnext : Hid (Lib.decFrom 0 (s.data.toList.take (i + 1)) = some (m * 10 + d)) := Lib.decFrom_take _ _ _ _ _ _ HD.out hg (by unfold Lib.digitVal; rw [if_pos (by omega), hd])
              clear c1 c2 hd
              go_wp2_with fail
              exact ⟨⟨i + 1, m * 10 + d, by omega, hz, by go_num, trivial, hnext⟩, by simp [intOf]; omega⟩
        · obtain rfl : i = s.size := by omega
          have e2 : Hid (numL s.data.toList = m) := by
            unfold Hid
            rw [e.out]
            have h := HD.out
            rw [List.take_of_length_le (by rw [toList_len]; exact Nat.le_refl _)] at h
            rw [h]
          go_wp2_with fail
          exact ret_i HR.out rfl e2.out
end Go.Proofs.YtciokmjhdbcmpaaGreatDoor
