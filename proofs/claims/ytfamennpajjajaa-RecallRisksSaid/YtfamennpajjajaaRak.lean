/- What the laws of layer 53 compare: the program's functions and the reference's, with one result for both. -/
import Derived.Test.YtfamennpajjajaaRaj
namespace Go.Proofs.Ytfamennpajjajaa
open Go.RowKit Go.Maps

set_option maxHeartbeats 2000000 in
theorem own53_nil (ao : Option Addr) (vs : List Ev) (c : Nat) (w : World) (R : Ending → World → Prop) (hl : vs.length * 56 ≤ 140737488355328) (hc : CellsAt w ao (eC vs))
   (hR : ∀ a' c' w', Below w.heap.size w w' → CellsAt w' a' (eC vs) → vs.length ≤ c' → (a' = none → vs.length = 0 ∧ c' = 0) → R (.returned (.slice a' vs.length c')) w') :
    Calls Try.prog 13 #[.slice ao vs.length c] w R := by
  have HR := Lib.hid hR
  have HC := Lib.hid hc
  clear hR hc
  go_enter Try.func13, Try.ntmps13
  go_wp2_with fail
  go_loopw [8, 3] (fun i v wr => ∃ (k : Nat), k ≤ vs.length ∧ i = .int .i64 k ∧ Hid (Below w.heap.size w wr) ∧ Hid (wr.ownsRow w.heap.size 67 4 v k (eC (vs.take k)))) (fun i _ _ => vs.length - (intOf i).toNat)
  case atStart => exact ⟨0, Nat.zero_le _, rfl, Below.refl _ _, World.ownsRow_nil _ _ _ _⟩
  case round =>
    obtain ⟨k, hk, rfl, HB, HO⟩ := hrel
    have sB := HB.out.size
    by_cases hlt : k < vs.length
    · obtain ⟨b, o, rfl, _, hcell⟩ := (HC.out.below HB.out).evts (by omega)
      obtain ⟨c1, c2, c3, c4⟩ := hcell k hlt
      clear hcell
      obtain ⟨w4, E4', HB4, s4, X4⟩ := box_ex wr #[.int .i64 (eAt vs k).k, .string (eAt vs k).g, .string (eAt vs k).p, .string (eAt vs k).t] 51
      have E4 := Lib.hid E4'
      have HO4 : Hid ((wr.alloc (.cells #[.int .i64 (eAt vs k).k, .string (eAt vs k).g, .string (eAt vs k).p, .string (eAt vs k).t] 51)).ownsRow w.heap.size 67 4 u3 k (eC (vs.take k))) := by unfold Hid; rw [E4.out]; exact ownsRow_below HO.out HB4.out
      clear E4'
      go_wp2_with (at_builtin; refine wp_appendT rfl (.tmp 12) (.tmp 14) 31 rfl w.heap.size 67 Try.underlying31 Try.infoREv rfl (by decide) u3 k (eC (vs.take k)) rfl (ownsRow_below HO4.out ((Below.refl _ _).alloc (Nat.le_refl _) _)) ⟨wr.heap.size + 1, 0, none⟩ 1 1 [.int .i64 (eAt vs k).k, .string (eAt vs k).g, .string (eAt vs k).p, .string (eAt vs k).t] rfl rfl (by have h := cells4 (wr.alloc (.cells #[.int .i64 (eAt vs k).k, .string (eAt vs k).g, .string (eAt vs k).p, .string (eAt vs k).t] 51)) (.int .i64 (eAt vs k).k) (.string (eAt vs k).g) (.string (eAt vs k).p) (.string (eAt vs k).t) 67; simpa using h) (by intro u hu; simp at hu; rcases hu with rfl | rfl | rfl | rfl <;> rfl) (by omega) (by omega) (by simp; omega) ?_; intro v1 w5 hown1 hgrow1 hn1; have Hg1 : Hid (Below w.heap.size wr w5) := (Below.grown (((Below.refl _ wr).alloc sB _).alloc (by simp; omega) _) hgrow1 (by simp; omega) (fun j e => (HO.out.lt j e).1)); have H1 := Lib.hid hown1; clear hown1 hgrow1 hn1)
      exact ⟨⟨k + 1, by omega, by go_num, HB.out.trans Hg1.out, by unfold Hid; rw [take_succE hlt, eC_append]; exact H1.out⟩, by simp [intOf]; omega⟩
    · obtain rfl : k = vs.length := by omega
      rw [List.take_length] at HO
      obtain ⟨a', c', rfl, q1, q2⟩ := ownsRow_read HO.out
      have HN := Lib.hid q2
      have HQ := Lib.hid q1
      have hcc : Hid (vs.length ≤ c') := by
        rcases HO.out.2 with ⟨h1, h2⟩ | ⟨g, cap, cur, h1, _, _, h4, _⟩
        · rw [h2]; exact Nat.zero_le _
        · cases h1; exact h4
      clear q1 q2
      go_wp2_with fail
      exact HR.out a' c' _ HB.out HQ.out hcc.out HN.out

def stX (vs : List Ev) : List Int := if chk3 vs = 0 then stL vs else []
def ptX (vs : List Ev) : List ByteArray := if chk3 vs = 0 then allL vs else []
def ltX (vs : List Ev) : List ByteArray := if chk3 vs = 0 then lotL vs else []
def unX (vs : List Ev) : List ByteArray := if chk3 vs = 0 then unsL vs else []
/-- The error of Reason's and AtRisk's log and name. -/
def nmX (vs : List Ev) (g : ByteArray) : Int := if chk3 vs = 0 then nmE g else chk3 vs
def rkX (vs : List Ev) (g : ByteArray) : List ByteArray := if nmX vs g = 0 then riskL vs g else []
theorem nmX_zero {vs : List Ev} {g : ByteArray} : nmX vs g = 0 ↔ chk3 vs = 0 ∧ nmE g = 0 := by
  unfold nmX
  by_cases h : chk3 vs = 0
  · rw [if_pos h]; exact ⟨fun h2 => ⟨h, h2⟩, fun h2 => h2.2⟩
  · rw [if_neg h]; exact ⟨fun h2 => absurd h2 h, fun h2 => absurd h2.1 h⟩
/-- The error, and the results, of Reason. -/
def reE (vs : List Ev) (p : ByteArray) : Int := if nmX vs p = 0 then (if anyTo (msQ p) vs vs.length = true then (if rcl vs p = true then 0 else 14) else 6) else nmX vs p
def reA (vs : List Ev) (p : ByteArray) : Int := if reE vs p = 0 then frs vs p 3 else 0
def reB (vs : List Ev) (p : ByteArray) : Int := if reE vs p = 0 then nx vs (frs vs p 3).toNat else 0
theorem stX_len (vs : List Ev) : (stX vs).length ≤ 1000000 := by
  unfold stX; split
  · rename_i h; have := chk3_le h; rw [stL_length]; omega
  · simp
theorem ptX_len (vs : List Ev) : (ptX vs).length ≤ 1000000 := by
  unfold ptX; split
  · rename_i h; have := chk3_le h; have := allL_len vs; omega
  · simp
theorem ltX_len (vs : List Ev) : (ltX vs).length ≤ 1000000 := by
  unfold ltX; split
  · rename_i h; have := chk3_le h; have : (lotL vs).length ≤ vs.length := putsTo_len _ _ _; omega
  · simp
theorem unX_len (vs : List Ev) : (unX vs).length ≤ 1000000 := by
  unfold unX; split
  · rename_i h; have := chk3_le h; have : (unsL vs).length ≤ vs.length := putsTo_len _ _ _; omega
  · simp
theorem rkX_len (vs : List Ev) (g : ByteArray) : (rkX vs g).length ≤ 1000000 := by
  unfold rkX; split
  · rename_i h
    have := chk3_le (nmX_zero.1 h).1
    have h2 : (riskL vs g).length ≤ (allL (vs ++ [badEv g])).length := List.length_filter_le _ _
    have := allL_len (vs ++ [badEv g])
    rw [len1] at this
    omega
  · simp
section
variable (ao : Option Addr) (vs : List Ev) (c : Nat) (w : World) (R : Ending → World → Prop) (hl : vs.length ≤ 9223372036854775807) (hc : CellsAt w ao (eC vs)) (hv : LogOk vs)
include hl hc hv
theorem states_x (hR : ∀ ao' c' w', Below w.heap.size w w' → CellsAt w' ao' (I64s (stX vs)) → R (.returned (.tuple #[.slice ao' (stX vs).length c', .int .i64 (chk3 vs)])) w') :
    Calls Try.prog 11 #[.slice ao vs.length c] w R := by
  refine states53_any ao vs c w R hl hc hv (fun h w' hb => ?_) (fun h g w' hb _ hk => ?_)
  · have h2 := hR none 0 w' hb; unfold stX at h2; rw [if_neg h] at h2; exact h2 (CellsAt.nil _ _)
  · have h2 := hR (some ⟨g, 0, none⟩) vs.length w' hb; unfold stX at h2; rw [if_pos h, stL_length, h] at h2; exact h2 hk
theorem parts_x (hR : ∀ ao' c' w', Below w.heap.size w w' → CellsAt w' ao' (sC (ptX vs)) → R (.returned (.tuple #[.slice ao' (ptX vs).length c', .int .i64 (chk3 vs)])) w') :
    Calls Try.prog 14 #[.slice ao vs.length c] w R := by
  refine parts53_any ao vs c w R hl hc hv (fun h w' hb => ?_) (fun h ks a' c' w' hb hs hk => ?_)
  · have h2 := hR none 0 w' hb; unfold ptX at h2; rw [if_neg h] at h2; exact h2 (CellsAt.nil _ _)
  · obtain rfl := parts_eq hs
    have h2 := hR a' c' w' hb; unfold ptX at h2; rw [if_pos h, h] at h2; exact h2 hk
theorem lots_x (hR : ∀ ao' c' w', Below w.heap.size w w' → CellsAt w' ao' (sC (ltX vs)) → R (.returned (.tuple #[.slice ao' (ltX vs).length c', .int .i64 (chk3 vs)])) w') :
    Calls Try.prog 20 #[.slice ao vs.length c] w R := by
  refine lots53_any ao vs c w R hl hc hv (fun h w' hb => ?_) (fun h ks a' c' w' hb hs hk => ?_)
  · have h2 := hR none 0 w' hb; unfold ltX at h2; rw [if_neg h] at h2; exact h2 (CellsAt.nil _ _)
  · obtain rfl := lots_eq hs
    have h2 := hR a' c' w' hb; unfold ltX at h2; rw [if_pos h, h] at h2; exact h2 hk
theorem unsure_x (hR : ∀ ao' c' w', Below w.heap.size w w' → CellsAt w' ao' (sC (unX vs)) → R (.returned (.tuple #[.slice ao' (unX vs).length c', .int .i64 (chk3 vs)])) w') :
    Calls Try.prog 22 #[.slice ao vs.length c] w R := by
  refine unsure53_any ao vs c w R hl hc hv (fun h w' hb => ?_) (fun h ks a' c' w' hb hs hk => ?_)
  · have h2 := hR none 0 w' hb; unfold unX at h2; rw [if_neg h] at h2; exact h2 (CellsAt.nil _ _)
  · obtain rfl := unsure_eq hs
    have h2 := hR a' c' w' hb; unfold unX at h2; rw [if_pos h, h] at h2; exact h2 hk
theorem atRisk_x (g : ByteArray) (hg : g.size ≤ 9223372036854775807) (hR : ∀ ao' c' w', Below w.heap.size w w' → CellsAt w' ao' (sC (rkX vs g)) → R (.returned (.tuple #[.slice ao' (rkX vs g).length c', .int .i64 (nmX vs g)])) w') :
    Calls Try.prog 26 #[.slice ao vs.length c, .string g] w R := by
  refine atRisk53_any ao vs c g w R hl hg hc hv (fun h w' hb => ?_) (fun h h3 w' hb => ?_) (fun h h3 ks a' c' w' hb hs hk => ?_)
  · have e : nmX vs g = chk3 vs := by unfold nmX; rw [if_neg h]
    have h2 := hR none 0 w' hb; unfold rkX at h2; rw [e, if_neg h] at h2; exact h2 (CellsAt.nil _ _)
  · have e : nmX vs g = nmE g := by unfold nmX; rw [if_pos h]
    have h2 := hR none 0 w' hb; unfold rkX at h2; rw [e, if_neg h3] at h2; exact h2 (CellsAt.nil _ _)
  · obtain rfl := risk_eq hs
    have e : nmX vs g = 0 := nmX_zero.2 ⟨h, h3⟩
    have h2 := hR a' c' w' hb; unfold rkX at h2; rw [e, if_pos rfl] at h2; exact h2 hk
theorem reason_x (p : ByteArray) (hg : p.size ≤ 9223372036854775807) (hR : ∀ w', Below w.heap.size w w' → R (.returned (.tuple #[.int .i64 (reA vs p), .int .i64 (reB vs p), .int .i64 (reE vs p)])) w') :
    Calls Try.prog 24 #[.slice ao vs.length c, .string p] w R := by
  have key : ∀ (a b E : Int), reE vs p = E → (E = 0 → frs vs p 3 = a ∧ nx vs (frs vs p 3).toNat = b) → (E ≠ 0 → a = 0 ∧ b = 0) → ∀ w', Below w.heap.size w w' → R (.returned (.tuple #[.int .i64 a, .int .i64 b, .int .i64 E])) w' := by
    intro a b E h1 h2 h3 w' hb
    have h := hR w' hb
    unfold reA reB at h
    rw [h1] at h
    by_cases h0 : E = 0
    · rw [if_pos h0, if_pos h0, (h2 h0).2, (h2 h0).1] at h; exact h
    · rw [if_neg h0, if_neg h0] at h; rw [(h3 h0).1, (h3 h0).2]; exact h
  refine reason53_any ao vs c p w R hl hg hc hv (fun h => ?_) (fun h h2 => ?_) (fun h h2 h3 => ?_) (fun h h2 h3 h4 => ?_) (fun h h2 h3 h4 => ?_)
  · have e : nmX vs p = chk3 vs := by unfold nmX; rw [if_neg h]
    refine key 0 0 _ ?_ (fun e2 => absurd e2 h) (fun _ => ⟨rfl, rfl⟩)
    unfold reE; rw [e, if_neg h]
  · have e : nmX vs p = nmE p := by unfold nmX; rw [if_pos h]
    refine key 0 0 _ ?_ (fun e2 => absurd e2 h2) (fun _ => ⟨rfl, rfl⟩)
    unfold reE; rw [e, if_neg h2]
  · rw [ms_eq] at h3
    refine key 0 0 _ ?_ (fun e2 => by cases e2) (fun _ => ⟨rfl, rfl⟩)
    unfold reE; rw [if_pos (nmX_zero.2 ⟨h, h2⟩), if_neg (by rw [h3]; simp)]
  · rw [ms_eq] at h3
    rw [kpR] at h4
    refine key 0 0 _ ?_ (fun e2 => by cases e2) (fun _ => ⟨rfl, rfl⟩)
    unfold reE; rw [if_pos (nmX_zero.2 ⟨h, h2⟩), if_pos h3, if_neg (by rw [h4]; simp)]
  · rw [ms_eq] at h3
    rw [kpR] at h4
    refine key _ _ _ ?_ (fun _ => ⟨(rea_m h4).1.symm, (rea_m h4).2.symm⟩) (fun e2 => absurd rfl e2)
    unfold reE; rw [if_pos (nmX_zero.2 ⟨h, h2⟩), if_pos h3, if_pos h4]
variable (hcap : vs.length ≤ c)
include hcap
theorem rstates_x (hR : ∀ ao' c' w', Below w.heap.size w w' → CellsAt w' ao' (I64s (stX vs)) → R (.returned (.tuple #[.slice ao' (stX vs).length c', .int .i64 (chk3 vs)])) w') :
    Calls Try.prog 12 #[.slice ao vs.length c] w R := by
  refine rstates_any ao vs c w R hl hcap hc hv (fun h w' hb => ?_) (fun h a' c' w' hb hk => ?_)
  · have h2 := hR none 0 w' hb; unfold stX at h2; rw [if_neg h] at h2; exact h2 (CellsAt.nil _ _)
  · have h2 := hR a' c' w' hb; unfold stX at h2; rw [if_pos h, h] at h2; exact h2 hk
theorem rparts_x (hR : ∀ ao' c' w', Below w.heap.size w w' → CellsAt w' ao' (sC (ptX vs)) → R (.returned (.tuple #[.slice ao' (ptX vs).length c', .int .i64 (chk3 vs)])) w') :
    Calls Try.prog 15 #[.slice ao vs.length c] w R := by
  refine rparts_any ao vs c w R hl hcap hc hv (fun h w' hb => ?_) (fun h a' c' w' hb hk => ?_)
  · have h2 := hR none 0 w' hb; unfold ptX at h2; rw [if_neg h] at h2; exact h2 (CellsAt.nil _ _)
  · have h2 := hR a' c' w' hb; unfold ptX at h2; rw [if_pos h, h] at h2; exact h2 hk
theorem rlots_x (hR : ∀ ao' c' w', Below w.heap.size w w' → CellsAt w' ao' (sC (ltX vs)) → R (.returned (.tuple #[.slice ao' (ltX vs).length c', .int .i64 (chk3 vs)])) w') :
    Calls Try.prog 21 #[.slice ao vs.length c] w R := by
  refine rlots_any ao vs c w R hl hcap hc hv (fun h w' hb => ?_) (fun h a' c' w' hb hk => ?_)
  · have h2 := hR none 0 w' hb; unfold ltX at h2; rw [if_neg h] at h2; exact h2 (CellsAt.nil _ _)
  · have h2 := hR a' c' w' hb; unfold ltX at h2; rw [if_pos h, h] at h2; exact h2 hk
theorem runsure_x (hR : ∀ ao' c' w', Below w.heap.size w w' → CellsAt w' ao' (sC (unX vs)) → R (.returned (.tuple #[.slice ao' (unX vs).length c', .int .i64 (chk3 vs)])) w') :
    Calls Try.prog 23 #[.slice ao vs.length c] w R := by
  refine runsure_any ao vs c w R hl hcap hc hv (fun h w' hb => ?_) (fun h a' c' w' hb hk => ?_)
  · have h2 := hR none 0 w' hb; unfold unX at h2; rw [if_neg h] at h2; exact h2 (CellsAt.nil _ _)
  · have h2 := hR a' c' w' hb; unfold unX at h2; rw [if_pos h, h] at h2; exact h2 hk
theorem ratRisk_x (g : ByteArray) (hg : g.size ≤ 9223372036854775807) (hnil : ao = none → vs.length = 0 ∧ c = 0) (hR : ∀ ao' c' w', Below w.heap.size w w' → CellsAt w' ao' (sC (rkX vs g)) → R (.returned (.tuple #[.slice ao' (rkX vs g).length c', .int .i64 (nmX vs g)])) w') :
    Calls Try.prog 27 #[.slice ao vs.length c, .string g] w R := by
  refine ratRisk_any ao vs c g w R hl hcap hnil hg hc hv (fun h w' hb => ?_) (fun h h3 w' hb => ?_) (fun h h3 a' c' w' hb hk => ?_)
  · have e : nmX vs g = chk3 vs := by unfold nmX; rw [if_neg h]
    have h2 := hR none 0 w' hb; unfold rkX at h2; rw [e, if_neg h] at h2; exact h2 (CellsAt.nil _ _)
  · have e : nmX vs g = nmE g := by unfold nmX; rw [if_pos h]
    have h2 := hR none 0 w' hb; unfold rkX at h2; rw [e, if_neg h3] at h2; exact h2 (CellsAt.nil _ _)
  · have e : nmX vs g = 0 := nmX_zero.2 ⟨h, h3⟩
    have h2 := hR a' c' w' hb; unfold rkX at h2; rw [e, if_pos rfl] at h2; exact h2 hk
theorem rreason_x (p : ByteArray) (hg : p.size ≤ 9223372036854775807) (hR : ∀ w', Below w.heap.size w w' → R (.returned (.tuple #[.int .i64 (reA vs p), .int .i64 (reB vs p), .int .i64 (reE vs p)])) w') :
    Calls Try.prog 25 #[.slice ao vs.length c, .string p] w R := by
  have key : ∀ (a b E : Int), reE vs p = E → (E = 0 → frs vs p 3 = a ∧ nx vs (frs vs p 3).toNat = b) → (E ≠ 0 → a = 0 ∧ b = 0) → ∀ w', Below w.heap.size w w' → R (.returned (.tuple #[.int .i64 a, .int .i64 b, .int .i64 E])) w' := by
    intro a b E h1 h2 h3 w' hb
    have h := hR w' hb
    unfold reA reB at h
    rw [h1] at h
    by_cases h0 : E = 0
    · rw [if_pos h0, if_pos h0, (h2 h0).2, (h2 h0).1] at h; exact h
    · rw [if_neg h0, if_neg h0] at h; rw [(h3 h0).1, (h3 h0).2]; exact h
  refine rreason_any ao vs c p w R hl hcap hg hc hv (fun h => ?_) (fun h h2 => ?_) (fun h h2 h3 => ?_) (fun h h2 h3 h4 => ?_) (fun h h2 h3 h4 => ?_)
  · have e : nmX vs p = chk3 vs := by unfold nmX; rw [if_neg h]
    refine key 0 0 _ ?_ (fun e2 => absurd e2 h) (fun _ => ⟨rfl, rfl⟩)
    unfold reE; rw [e, if_neg h]
  · have e : nmX vs p = nmE p := by unfold nmX; rw [if_pos h]
    refine key 0 0 _ ?_ (fun e2 => absurd e2 h2) (fun _ => ⟨rfl, rfl⟩)
    unfold reE; rw [e, if_neg h2]
  · refine key 0 0 _ ?_ (fun e2 => by cases e2) (fun _ => ⟨rfl, rfl⟩)
    unfold reE; rw [if_pos (nmX_zero.2 ⟨h, h2⟩), if_neg (by rw [h3]; simp)]
  · refine key 0 0 _ ?_ (fun e2 => by cases e2) (fun _ => ⟨rfl, rfl⟩)
    unfold reE; rw [if_pos (nmX_zero.2 ⟨h, h2⟩), if_pos h3, if_neg (by rw [h4]; simp)]
  · refine key _ _ _ ?_ (fun _ => ⟨rfl, rfl⟩) (fun e2 => absurd rfl e2)
    unfold reE; rw [if_pos (nmX_zero.2 ⟨h, h2⟩), if_pos h3, if_pos h4]
end
end Go.Proofs.Ytfamennpajjajaa
