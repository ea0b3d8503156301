/- The walks of All, Lots, Unsure, States, Parts of the reference. (Printed by gen_rlists.py.) -/
import Derived.Test.YtfamennpajjajaaRae
import Derived.Test.YtfamennpajjajaaRp
namespace Go.Proofs.Ytfamennpajjajaa
open Go.RowKit

/-- The names of those that are asked for, ascending, each once, as the reference makes the list. -/
def putsTo (q : Nat → Bool) (key : Nat → ByteArray) : Nat → List ByteArray
  | 0 => []
  | n + 1 => if q n = true then putL (key n) false (putsTo q key n) else putsTo q key n
theorem putsTo_len (q : Nat → Bool) (key : Nat → ByteArray) : ∀ n, (putsTo q key n).length ≤ n
  | 0 => Nat.le_refl _
  | n + 1 => by
    have h := putsTo_len q key n
    rw [putsTo]
    split
    · have := putL_len (key n) false (putsTo q key n); omega
    · omega
theorem putsTo_srt (q : Nat → Bool) (key : Nat → ByteArray) (Q : ByteArray → Nat → Bool) (hQ : ∀ s i, Q s i = (q i && sameB (key i) s)) (A : ByteArray → Nat → Bool) (h0 : ∀ s, A s 0 = false) (hs : ∀ s n, A s (n + 1) = (A s n || Q s n)) : ∀ n, SrtIs (putsTo q key n) (fun s => A s n)
  | 0 => ⟨List.Pairwise.nil, fun s => by rw [h0]; simp [putsTo]⟩
  | n + 1 => by
    have h := putsTo_srt q key Q hQ A h0 hs n
    rw [putsTo]
    split
    · rename_i hq; exact h.put (key n) (fun t => by rw [hs, hQ, hq]; rfl)
    · rename_i hq; exact ⟨h.up, fun s => by rw [h.mem, hs, hQ, eq_false_of_ne_true hq]; simp⟩
def allQ (vs : List Ev) (i : Nat) : Bool := (eAt vs i).k == 0 && rcl vs (eAt vs i).p
def opQ (vs : List Ev) (i : Nat) : Bool := stt vs i == 1
/-- 'All', the lists of Lots and of Unsure. -/
def allL (vs : List Ev) : List ByteArray := putsTo (allQ vs) (fun i => (eAt vs i).p) vs.length
def lotL (vs : List Ev) : List ByteArray := putsTo (allQ vs) (fun i => (eAt vs i).t) vs.length
def unsL (vs : List Ev) : List ByteArray := putsTo (opQ vs) (fun i => (eAt vs i).g) vs.length
def stsL (vs : List Ev) (n : Nat) : List Int := (List.range n).map (stt vs)
theorem stsL_succ (vs : List Ev) (n : Nat) : stsL vs (n + 1) = stsL vs n ++ [stt vs n] := by unfold stsL; rw [List.range_succ, List.map_append]; rfl
theorem stsL_len (vs : List Ev) (n : Nat) : (stsL vs n).length = n := by simp [stsL]

set_option maxRecDepth 100000 in
set_option maxHeartbeats 4000000 in
theorem rall_any (ao : Option Addr) (vs : List Ev) (c : Nat) (w : World) (R : Ending → World → Prop) (hln : vs.length ≤ 1000000) (hc : CellsAt w ao (eC vs))
   (hR : ∀ ao' c' w', Below w.heap.size w w' → CellsAt w' ao' (sC (allL vs)) → R (.returned (.slice ao' (allL vs).length c')) w') :
    Calls Try.prog 42 #[.slice ao vs.length c] w R := by
  have HR := Lib.hid hR
  have HC := Lib.hid hc
  clear hR hc
  have HB0 : Hid (Below w.heap.size w w) := Below.refl _ _
  go_enter Try.func42, Try.ntmps42
  go_wp2_with fail
  obtain ⟨X, hX⟩ : ∃ X, Hid (allL vs = X) := ⟨_, Lib.hid rfl⟩
  rw [hX.out] at HR
  go_loopw [4, 3] (fun j v wr => ∃ (k : Nat) (L : List ByteArray) (av : Option Addr) (cv : Nat), k ≤ vs.length ∧ j = .int .i64 k ∧ v = .slice av L.length cv ∧ Hid (putsTo (allQ vs) (fun i => (eAt vs i).p) k = L) ∧ Hid (Below w.heap.size w wr) ∧ Hid (CellsAt wr av (sC L))) (fun j _ _ => vs.length - (intOf j).toNat)
  case atStart => exact ⟨0, [], none, 0, Nat.zero_le _, rfl, rfl, rfl, HB0, CellsAt.nil _ _⟩
  case round =>
    obtain ⟨k, L, av, cv, hk, rfl, rfl, hL, HB, HV⟩ := hrel
    have hLl : L.length ≤ 1000000 := by have := putsTo_len (allQ vs) (fun i => (eAt vs i).p) k; rw [hL.out] at this; omega
    have sB := HB.out.size
    by_cases hlt : k < vs.length
    · obtain ⟨b, o, rfl, hbb, hcell⟩ := HC.out.evts (by omega)
      obtain ⟨c0, c1, c2, c3⟩ := hcell k hlt
      have hput : Hid (allQ vs k = true → putsTo (allQ vs) (fun i => (eAt vs i).p) (k + 1) = putL (eAt vs k).p false L) := fun h => by rw [putsTo, if_pos h, hL.out]
      have hskip : Hid (allQ vs k = false → putsTo (allQ vs) (fun i => (eAt vs i).p) (k + 1) = L) := fun h => by rw [putsTo, if_neg (by rw [h]; simp), hL.out]
      have hqq : Hid (allQ vs k = ((eAt vs k).k == 0 && rcl vs (eAt vs k).p)) := rfl
      obtain ⟨u, hu⟩ : ∃ u, eAt vs k = u := ⟨_, rfl⟩
      rw [hu] at c0 c1 c2 c3 hput hqq
      have d0 := cellB HB.out c0 hbb
      have d1 := cellB HB.out c1 hbb
      have d2 := cellB HB.out c2 hbb
      have d3 := cellB HB.out c3 hbb
      clear hcell hu c0 c1 c2 c3
      by_cases h0 : u.k = 0
      · have K0 : (u.k == 0) = true := by rw [h0]; rfl
        clear h0
        obtain ⟨Z, hZ⟩ : ∃ Z, Hid (rcl vs u.p = Z) := ⟨_, Lib.hid rfl⟩
        cases Z with
        | true =>
          have e := Lib.hid (hput.out (by rw [hqq.out, K0, hZ.out]; rfl))
          go_wp2_with fail
          refine rrecalled_any _ vs c u.p _ _ hln (HC.out.below HB.out) ?_
          rw [hZ.out]
          rintro w1 ⟨q1, rfl⟩
          go_wp2_with fail
          refine rput_any _ L cv u.p _ _ hLl (HV.out.drewN _) ?_
          intro v2 w2 hb2 ho2
          obtain ⟨a2, c2, rfl, h2, _⟩ := ho2.read
          have H2 := Lib.hid h2
          have HB2 : Hid (Below w.heap.size w w2) := (HB.out.trans ((Drew.refl _).drewN.below _)).trans (hb2.mono sB)
          clear h2 ho2 hb2
          go_wp2_with fail
          exact ⟨⟨k + 1, _, _, _, by omega, by go_num, rfl, e, HB2, H2⟩, by simp [intOf]; omega⟩
        | false =>
          have e := Lib.hid (hskip.out (by rw [hqq.out, K0, hZ.out]; rfl))
          go_wp2_with fail
          refine rrecalled_any _ vs c u.p _ _ hln (HC.out.below HB.out) ?_
          rw [hZ.out]
          rintro w1 ⟨q1, rfl⟩
          go_wp2_with fail
          exact ⟨⟨k + 1, L, av, cv, by omega, by go_num, rfl, e, HB.out.trans ((Drew.refl _).drewN.below _), HV.out.drewN _⟩, by simp [intOf]; omega⟩
      · have K0 : (u.k == 0) = false := by simpa using h0
        have e := Lib.hid (hskip.out (by rw [hqq.out, K0]; rfl))
        clear h0
        go_wp2_with fail
        exact ⟨⟨k + 1, L, av, cv, by omega, by go_num, rfl, e, HB, HV⟩, by simp [intOf]; omega⟩
    · obtain rfl : k = vs.length := by omega
      have e : Hid (X = L) := by unfold Hid; rw [← hX.out, ← hL.out]; rfl
      go_wp2_with fail
      rw [e.out] at HR; exact HR.out _ _ _ HB.out HV.out

set_option maxRecDepth 100000 in
set_option maxHeartbeats 4000000 in
theorem rlots_any (ao : Option Addr) (vs : List Ev) (c : Nat) (w : World) (R : Ending → World → Prop) (hl : vs.length ≤ 9223372036854775807) (hcap : vs.length ≤ c) (hc : CellsAt w ao (eC vs)) (hv : LogOk vs)
   (hR1 : chk3 vs ≠ 0 → ∀ w', Below w.heap.size w w' → R (.returned (.tuple #[.slice none 0 0, .int .i64 (chk3 vs)])) w')
   (hR : chk3 vs = 0 → ∀ ao' c' w', Below w.heap.size w w' → CellsAt w' ao' (sC (lotL vs)) → R (.returned (.tuple #[.slice ao' (lotL vs).length c', .int .i64 0])) w') :
    Calls Try.prog 21 #[.slice ao vs.length c] w R := by
  have HR := Lib.hid hR
  have HR1 := Lib.hid hR1
  have HC0 := Lib.hid hc
  have HV0 := Lib.hid hv
  clear hR hR1 hc hv
  obtain ⟨E, hE⟩ : ∃ E, Hid (chk3 vs = E) := ⟨_, rfl⟩
  by_cases h0 : E = 0
  · subst h0
    have hln : vs.length ≤ 1000000 := by have := chk3_le hE.out; omega
    go_enter Try.func21, Try.ntmps21
    go_wp2_with fail
    refine rcheck53_any _ vs c _ _ hl hcap HC0.out HV0.out ?_
    intro w1 hb1
    have HB0 := Lib.hid hb1
    clear hb1
    rw [hE.out]
    have HC := HC0
    go_wp2_with fail
    obtain ⟨X, hX⟩ : ∃ X, Hid (lotL vs = X) := ⟨_, Lib.hid rfl⟩
    rw [hX.out] at HR
    go_loopw [6, 5] (fun j v wr => ∃ (k : Nat) (L : List ByteArray) (av : Option Addr) (cv : Nat), k ≤ vs.length ∧ j = .int .i64 k ∧ v = .slice av L.length cv ∧ Hid (putsTo (allQ vs) (fun i => (eAt vs i).t) k = L) ∧ Hid (Below w.heap.size w wr) ∧ Hid (CellsAt wr av (sC L))) (fun j _ _ => vs.length - (intOf j).toNat)
    case atStart => exact ⟨0, [], none, 0, Nat.zero_le _, rfl, rfl, rfl, HB0, CellsAt.nil _ _⟩
    case round =>
      obtain ⟨k, L, av, cv, hk, rfl, rfl, hL, HB, HV⟩ := hrel
      have hLl : L.length ≤ 1000000 := by have := putsTo_len (allQ vs) (fun i => (eAt vs i).t) k; rw [hL.out] at this; omega
      have sB := HB.out.size
      by_cases hlt : k < vs.length
      · obtain ⟨b, o, rfl, hbb, hcell⟩ := HC.out.evts (by omega)
        obtain ⟨c0, c1, c2, c3⟩ := hcell k hlt
        have hput : Hid (allQ vs k = true → putsTo (allQ vs) (fun i => (eAt vs i).t) (k + 1) = putL (eAt vs k).t false L) := fun h => by rw [putsTo, if_pos h, hL.out]
        have hskip : Hid (allQ vs k = false → putsTo (allQ vs) (fun i => (eAt vs i).t) (k + 1) = L) := fun h => by rw [putsTo, if_neg (by rw [h]; simp), hL.out]
        have hqq : Hid (allQ vs k = ((eAt vs k).k == 0 && rcl vs (eAt vs k).p)) := rfl
        obtain ⟨u, hu⟩ : ∃ u, eAt vs k = u := ⟨_, rfl⟩
        rw [hu] at c0 c1 c2 c3 hput hqq
        have d0 := cellB HB.out c0 hbb
        have d1 := cellB HB.out c1 hbb
        have d2 := cellB HB.out c2 hbb
        have d3 := cellB HB.out c3 hbb
        clear hcell hu c0 c1 c2 c3
        by_cases h0 : u.k = 0
        · have K0 : (u.k == 0) = true := by rw [h0]; rfl
          clear h0
          obtain ⟨Z, hZ⟩ : ∃ Z, Hid (rcl vs u.p = Z) := ⟨_, Lib.hid rfl⟩
          cases Z with
          | true =>
            have e := Lib.hid (hput.out (by rw [hqq.out, K0, hZ.out]; rfl))
            go_wp2_with fail
            refine rrecalled_any _ vs c u.p _ _ hln (HC.out.below HB.out) ?_
            rw [hZ.out]
            rintro w1 ⟨q1, rfl⟩
            go_wp2_with fail
            refine rput_any _ L cv u.t _ _ hLl (HV.out.drewN _) ?_
            intro v2 w2 hb2 ho2
            obtain ⟨a2, c2, rfl, h2, _⟩ := ho2.read
            have H2 := Lib.hid h2
            have HB2 : Hid (Below w.heap.size w w2) := (HB.out.trans ((Drew.refl _).drewN.below _)).trans (hb2.mono sB)
            clear h2 ho2 hb2
            go_wp2_with fail
            exact ⟨⟨k + 1, _, _, _, by omega, by go_num, rfl, e, HB2, H2⟩, by simp [intOf]; omega⟩
          | false =>
            have e := Lib.hid (hskip.out (by rw [hqq.out, K0, hZ.out]; rfl))
            go_wp2_with fail
            refine rrecalled_any _ vs c u.p _ _ hln (HC.out.below HB.out) ?_
            rw [hZ.out]
            rintro w1 ⟨q1, rfl⟩
            go_wp2_with fail
            exact ⟨⟨k + 1, L, av, cv, by omega, by go_num, rfl, e, HB.out.trans ((Drew.refl _).drewN.below _), HV.out.drewN _⟩, by simp [intOf]; omega⟩
        · have K0 : (u.k == 0) = false := by simpa using h0
          have e := Lib.hid (hskip.out (by rw [hqq.out, K0]; rfl))
          clear h0
          go_wp2_with fail
          exact ⟨⟨k + 1, L, av, cv, by omega, by go_num, rfl, e, HB, HV⟩, by simp [intOf]; omega⟩
      · obtain rfl : k = vs.length := by omega
        have e : Hid (X = L) := by unfold Hid; rw [← hX.out, ← hL.out]; rfl
        go_wp2_with fail
        rw [e.out] at HR; exact HR.out hE.out _ _ _ HB.out HV.out
  · have HX := Lib.hid h0
    have K0 : (E != 0) = true := by simpa using h0
    clear h0
    go_enter Try.func21, Try.ntmps21
    go_wp2_with fail
    refine rcheck53_any _ vs c _ _ hl hcap HC0.out HV0.out ?_
    intro w1 hb1
    have HB1 := Lib.hid hb1
    clear hb1
    rw [hE.out]
    go_wp2_with fail
    have h := HR1.out (by rw [hE.out]; exact HX.out) w1 HB1.out
    rw [hE.out] at h
    exact h

set_option maxRecDepth 100000 in
set_option maxHeartbeats 4000000 in
theorem runsure_any (ao : Option Addr) (vs : List Ev) (c : Nat) (w : World) (R : Ending → World → Prop) (hl : vs.length ≤ 9223372036854775807) (hcap : vs.length ≤ c) (hc : CellsAt w ao (eC vs)) (hv : LogOk vs)
   (hR1 : chk3 vs ≠ 0 → ∀ w', Below w.heap.size w w' → R (.returned (.tuple #[.slice none 0 0, .int .i64 (chk3 vs)])) w')
   (hR : chk3 vs = 0 → ∀ ao' c' w', Below w.heap.size w w' → CellsAt w' ao' (sC (unsL vs)) → R (.returned (.tuple #[.slice ao' (unsL vs).length c', .int .i64 0])) w') :
    Calls Try.prog 23 #[.slice ao vs.length c] w R := by
  have HR := Lib.hid hR
  have HR1 := Lib.hid hR1
  have HC0 := Lib.hid hc
  have HV0 := Lib.hid hv
  clear hR hR1 hc hv
  obtain ⟨E, hE⟩ : ∃ E, Hid (chk3 vs = E) := ⟨_, rfl⟩
  by_cases h0 : E = 0
  · subst h0
    have hln : vs.length ≤ 1000000 := by have := chk3_le hE.out; omega
    go_enter Try.func23, Try.ntmps23
    go_wp2_with fail
    refine rcheck53_any _ vs c _ _ hl hcap HC0.out HV0.out ?_
    intro w1 hb1
    have HB0 := Lib.hid hb1
    clear hb1
    rw [hE.out]
    have HC := HC0
    go_wp2_with fail
    obtain ⟨X, hX⟩ : ∃ X, Hid (unsL vs = X) := ⟨_, Lib.hid rfl⟩
    rw [hX.out] at HR
    go_loopw [6, 5] (fun j v wr => ∃ (k : Nat) (L : List ByteArray) (av : Option Addr) (cv : Nat), k ≤ vs.length ∧ j = .int .i64 k ∧ v = .slice av L.length cv ∧ Hid (putsTo (opQ vs) (fun i => (eAt vs i).g) k = L) ∧ Hid (Below w.heap.size w wr) ∧ Hid (CellsAt wr av (sC L))) (fun j _ _ => vs.length - (intOf j).toNat)
    case atStart => exact ⟨0, [], none, 0, Nat.zero_le _, rfl, rfl, rfl, HB0, CellsAt.nil _ _⟩
    case round =>
      obtain ⟨k, L, av, cv, hk, rfl, rfl, hL, HB, HV⟩ := hrel
      have hLl : L.length ≤ 1000000 := by have := putsTo_len (opQ vs) (fun i => (eAt vs i).g) k; rw [hL.out] at this; omega
      have sB := HB.out.size
      by_cases hlt : k < vs.length
      · obtain ⟨b, o, rfl, hbb, hcell⟩ := HC.out.evts (by omega)
        obtain ⟨c0, c1, c2, c3⟩ := hcell k hlt
        have hput : Hid (opQ vs k = true → putsTo (opQ vs) (fun i => (eAt vs i).g) (k + 1) = putL (eAt vs k).g false L) := fun h => by rw [putsTo, if_pos h, hL.out]
        have hskip : Hid (opQ vs k = false → putsTo (opQ vs) (fun i => (eAt vs i).g) (k + 1) = L) := fun h => by rw [putsTo, if_neg (by rw [h]; simp), hL.out]
        have hqq : Hid (opQ vs k = (stt vs k == 1)) := rfl
        obtain ⟨u, hu⟩ : ∃ u, eAt vs k = u := ⟨_, rfl⟩
        rw [hu] at c0 c1 c2 c3 hput
        have d0 := cellB HB.out c0 hbb
        have d1 := cellB HB.out c1 hbb
        have d2 := cellB HB.out c2 hbb
        have d3 := cellB HB.out c3 hbb
        clear hcell hu c0 c1 c2 c3
        obtain ⟨S, hS⟩ : ∃ S, Hid (stt vs k = S) := ⟨_, Lib.hid rfl⟩
        by_cases h1 : S = 1
        · have q1 : (S == 1) = true := by rw [h1]; rfl
          have e := Lib.hid (hput.out (by rw [hqq.out, hS.out, q1]))
          clear h1
          go_wp2_with fail
          refine rstate_any _ vs c k _ _ hln hlt (HC.out.below HB.out) ?_
          rw [hS.out]
          rintro w1 ⟨q1, rfl⟩
          go_wp2_with fail
          refine rput_any _ L cv u.g _ _ hLl (HV.out.drewN _) ?_
          intro v2 w2 hb2 ho2
          obtain ⟨a2, c2, rfl, h2, _⟩ := ho2.read
          have H2 := Lib.hid h2
          have HB2 : Hid (Below w.heap.size w w2) := (HB.out.trans ((Drew.refl _).drewN.below _)).trans (hb2.mono sB)
          clear h2 ho2 hb2
          go_wp2_with fail
          exact ⟨⟨k + 1, _, _, _, by omega, by go_num, rfl, e, HB2, H2⟩, by simp [intOf]; omega⟩
        · have q1 : (S == 1) = false := by simpa using h1
          have e := Lib.hid (hskip.out (by rw [hqq.out, hS.out, q1]))
          clear h1
          go_wp2_with fail
          refine rstate_any _ vs c k _ _ hln hlt (HC.out.below HB.out) ?_
          rw [hS.out]
          rintro w1 ⟨q1, rfl⟩
          go_wp2_with fail
          exact ⟨⟨k + 1, L, av, cv, by omega, by go_num, rfl, e, HB.out.trans ((Drew.refl _).drewN.below _), HV.out.drewN _⟩, by simp [intOf]; omega⟩
      · obtain rfl : k = vs.length := by omega
        have e : Hid (X = L) := by unfold Hid; rw [← hX.out, ← hL.out]; rfl
        go_wp2_with fail
        rw [e.out] at HR; exact HR.out hE.out _ _ _ HB.out HV.out
  · have HX := Lib.hid h0
    have K0 : (E != 0) = true := by simpa using h0
    clear h0
    go_enter Try.func23, Try.ntmps23
    go_wp2_with fail
    refine rcheck53_any _ vs c _ _ hl hcap HC0.out HV0.out ?_
    intro w1 hb1
    have HB1 := Lib.hid hb1
    clear hb1
    rw [hE.out]
    go_wp2_with fail
    have h := HR1.out (by rw [hE.out]; exact HX.out) w1 HB1.out
    rw [hE.out] at h
    exact h

set_option maxRecDepth 100000 in
set_option maxHeartbeats 4000000 in
theorem rparts_any (ao : Option Addr) (vs : List Ev) (c : Nat) (w : World) (R : Ending → World → Prop) (hl : vs.length ≤ 9223372036854775807) (hcap : vs.length ≤ c) (hc : CellsAt w ao (eC vs)) (hv : LogOk vs)
   (hR1 : chk3 vs ≠ 0 → ∀ w', Below w.heap.size w w' → R (.returned (.tuple #[.slice none 0 0, .int .i64 (chk3 vs)])) w')
   (hR : chk3 vs = 0 → ∀ ao' c' w', Below w.heap.size w w' → CellsAt w' ao' (sC (allL vs)) → R (.returned (.tuple #[.slice ao' (allL vs).length c', .int .i64 0])) w') :
    Calls Try.prog 15 #[.slice ao vs.length c] w R := by
  have HR := Lib.hid hR
  have HR1 := Lib.hid hR1
  have HC0 := Lib.hid hc
  have HV0 := Lib.hid hv
  clear hR hR1 hc hv
  obtain ⟨E, hE⟩ : ∃ E, Hid (chk3 vs = E) := ⟨_, rfl⟩
  by_cases h0 : E = 0
  · subst h0
    have hln : vs.length ≤ 1000000 := by have := chk3_le hE.out; omega
    go_enter Try.func15, Try.ntmps15
    go_wp2_with fail
    refine rcheck53_any _ vs c _ _ hl hcap HC0.out HV0.out ?_
    intro w1 hb1
    have HB0 := Lib.hid hb1
    clear hb1
    rw [hE.out]
    have HC := HC0
    go_wp2_with fail
    refine rall_any _ vs c _ _ hln (HC.out.below HB0.out) ?_
    intro a2 c2 w2 hb2 h2
    have HB2 := Lib.hid (HB0.out.trans (hb2.mono HB0.out.size))
    have H2 := Lib.hid h2
    clear hb2 h2
    go_wp2_with fail
    exact HR.out hE.out _ _ _ HB2.out H2.out
  · have HX := Lib.hid h0
    have K0 : (E != 0) = true := by simpa using h0
    clear h0
    go_enter Try.func15, Try.ntmps15
    go_wp2_with fail
    refine rcheck53_any _ vs c _ _ hl hcap HC0.out HV0.out ?_
    intro w1 hb1
    have HB1 := Lib.hid hb1
    clear hb1
    rw [hE.out]
    go_wp2_with fail
    have h := HR1.out (by rw [hE.out]; exact HX.out) w1 HB1.out
    rw [hE.out] at h
    exact h

set_option maxRecDepth 100000 in
set_option maxHeartbeats 4000000 in
theorem rstates_any (ao : Option Addr) (vs : List Ev) (c : Nat) (w : World) (R : Ending → World → Prop) (hl : vs.length ≤ 9223372036854775807) (hcap : vs.length ≤ c) (hc : CellsAt w ao (eC vs)) (hv : LogOk vs)
   (hR1 : chk3 vs ≠ 0 → ∀ w', Below w.heap.size w w' → R (.returned (.tuple #[.slice none 0 0, .int .i64 (chk3 vs)])) w')
   (hR : chk3 vs = 0 → ∀ ao' c' w', Below w.heap.size w w' → CellsAt w' ao' (I64s (stsL vs vs.length)) → R (.returned (.tuple #[.slice ao' (stsL vs vs.length).length c', .int .i64 0])) w') :
    Calls Try.prog 12 #[.slice ao vs.length c] w R := by
  have HR := Lib.hid hR
  have HR1 := Lib.hid hR1
  have HC0 := Lib.hid hc
  have HV0 := Lib.hid hv
  clear hR hR1 hc hv
  obtain ⟨E, hE⟩ : ∃ E, Hid (chk3 vs = E) := ⟨_, rfl⟩
  by_cases h0 : E = 0
  · subst h0
    have hln : vs.length ≤ 1000000 := by have := chk3_le hE.out; omega
    go_enter Try.func12, Try.ntmps12
    go_wp2_with fail
    refine rcheck53_any _ vs c _ _ hl hcap HC0.out HV0.out ?_
    intro w1 hb1
    have HB0 := Lib.hid hb1
    clear hb1
    rw [hE.out]
    have HC := HC0
    go_wp2_with fail
    have hbs := HB0.out.size
    go_loopw [6, 5] (fun j v wr => ∃ (k : Nat), k ≤ vs.length ∧ j = .int .i64 k ∧ Hid (Below w.heap.size w wr) ∧ Hid (OwnL wr w.heap.size 3 1 v k (I64s (stsL vs k)))) (fun j _ _ => vs.length - (intOf j).toNat)
    case atStart => exact ⟨0, Nat.zero_le _, rfl, HB0, OwnL.nil _ _ _ _⟩
    case round =>
      obtain ⟨k, hk, rfl, HB, HO⟩ := hrel
      have sB := HB.out.size
      by_cases hlt : k < vs.length
      · obtain ⟨S, hS⟩ : ∃ S, Hid (stt vs k = S) := ⟨_, Lib.hid rfl⟩
        go_wp2_with fail
        refine rstate_any _ vs c k _ _ hln hlt (HC.out.below HB.out) ?_
        rw [hS.out]
        rintro w2 ⟨q2, rfl⟩
        go_wp2_with (at_builtin; refine wp_append1 rfl (.tmp 18) (.tmp 22) 25 rfl w.heap.size 3 Try.underlying25 infoI53 rfl (by decide) (by decide) u5 k (I64s (stsL vs k)) rfl ((HO.out.drewN _).alloc _) wr.heap.size [.int .i64 S] rfl rfl (new1 _ _ _) (one1 _ rfl) (by omega) (by simp; omega) ?_; intro v3 w3 hown hb; have HO3 := Lib.hid hown; have HB3 : Hid (Below w.heap.size w w3) := (((HB.out.trans ((Drew.refl _).drewN.below _)).alloc (by exact sB) _)).trans hb; clear hown hb)
        exact ⟨⟨k + 1, by omega, by go_num, HB3, by unfold Hid; rw [stsL_succ, hS.out]; simpa [I64s] using HO3.out⟩, by simp [intOf]; omega⟩
      · obtain rfl : k = vs.length := by omega
        obtain ⟨a', c', rfl, h2, _⟩ := HO.out.read
        have H2 := Lib.hid h2
        clear h2
        go_wp2_with fail
        have h := HR.out hE.out a' c' wr HB.out H2.out
        rw [stsL_len] at h
        exact h
  · have HX := Lib.hid h0
    have K0 : (E != 0) = true := by simpa using h0
    clear h0
    go_enter Try.func12, Try.ntmps12
    go_wp2_with fail
    refine rcheck53_any _ vs c _ _ hl hcap HC0.out HV0.out ?_
    intro w1 hb1
    have HB1 := Lib.hid hb1
    clear hb1
    rw [hE.out]
    go_wp2_with fail
    have h := HR1.out (by rw [hE.out]; exact HX.out) w1 HB1.out
    rw [hE.out] at h
    exact h
end Go.Proofs.Ytfamennpajjajaa
