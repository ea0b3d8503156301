/- The plain law of a block less. -/
import Derived.Test.YtdmolmdenfepkaaGa
import Derived.Test.YtdmolmdenfepkaaY
namespace Go.Proofs.Ytdmolmdenfepkaa
open Go.RowKit

theorem vals_sub {zs : List Int} : ∀ (m i : Nat), zs.length - i ≤ m → ∀ {s : List Int}, St zs.length i s → (s.map fun j => at0 zs j.toNat).Sublist (zs.drop i) := by
  intro m
  induction m with
  | zero =>
    intro i hm s hs
    have := St_end (by omega) hs
    subst this
    exact List.nil_sublist _
  | succ m ih =>
    intro i hm s hs
    by_cases hi : i < zs.length
    · rw [drop_cons hi]
      rcases St_cases hs with h | ⟨t, rfl, _, h⟩
      · exact (ih (i + 1) (by omega) h).cons _
      · rw [List.map_cons, Int.toNat_natCast]
        exact (ih (i + 1) (by omega) h).cons_cons _
    · have := St_end (by omega) hs
      subst this
      exact List.nil_sublist _
/-- Without one of its blocks. -/
theorem vals_erase {zs : List Int} {a : Nat} (ha : a < zs.length) : ∀ (m i : Nat), zs.length - i ≤ m → ∀ {s : List Int}, St zs.length i s → (a : Int) ∈ s → i ≤ a ∧
    ∃ vs : List Int, vs.Sublist ((zs.drop i).eraseIdx (a - i)) ∧ vs.sum = wsum zs s - at0 zs a ∧ vs.length + 1 = s.length := by
  intro m
  induction m with
  | zero =>
    intro i hm s hs hmem
    have := St_end (by omega) hs
    subst this
    cases hmem
  | succ m ih =>
    intro i hm s hs hmem
    by_cases hi : i < zs.length
    · rw [drop_cons hi]
      rcases St_cases hs with h | ⟨t, rfl, _, h⟩
      · obtain ⟨h0, vs, h1, h2, h3⟩ := ih (i + 1) (by omega) h hmem
        refine ⟨by omega, vs, ?_, h2, h3⟩
        rw [show a - i = (a - (i + 1)) + 1 from by omega, List.eraseIdx_cons_succ]
        exact h1.cons _
      · by_cases e : a = i
        · subst e
          refine ⟨Nat.le_refl _, t.map fun j => at0 zs j.toNat, ?_, by rw [wsum_cons, wsum]; omega, by simp⟩
          rw [Nat.sub_self, List.eraseIdx_cons_zero]
          exact vals_sub zs.length (a + 1) (by omega) h
        · have hmem' : (a : Int) ∈ t := by
            rcases List.mem_cons.1 hmem with h | h
            · omega
            · exact h
          obtain ⟨h0, vs, h1, h2, h3⟩ := ih (i + 1) (by omega) h hmem'
          refine ⟨by omega, at0 zs i :: vs, ?_, by rw [List.sum_cons, h2, wsum_cons]; omega, by simp [h3]⟩
          rw [show a - i = (a - (i + 1)) + 1 from by omega, List.eraseIdx_cons_succ]
          exact h1.cons_cons _
    · have := St_end (by omega) hs
      subst this
      cases hmem
theorem tabF_one (x : Int) (hx : 1 ≤ x) : ∀ (a b : List Int), (∀ y ∈ a, 1 ≤ y) → ∀ n : Nat, x ≤ n → tab joinF 258 0 (a ++ x :: b) n ≤ tab joinF 258 0 (a ++ b) (n - x.toNat) + 1
  | [], b, _, n, h => by
    rw [List.nil_append, List.nil_append, tabF_cons, if_pos h]; omega
  | y :: a, b, hy, n, h => by
    have hy1 := hy y (by simp)
    have ih := tabF_one x hx a b fun y h => hy y (by simp [h])
    have h1 := ih n h
    have h3 := tabF_bd (a ++ b) (n - x.toNat)
    rw [List.cons_append, List.cons_append, tabF_cons, tabF_cons]
    by_cases g : y ≤ (n - x.toNat : Nat)
    · have h2 := ih (n - y.toNat) (by omega)
      rw [show n - y.toNat - x.toNat = n - x.toNat - y.toNat from by omega] at h2
      rw [if_pos (by omega), if_pos g]
      omega
    · rw [if_neg g]; omega
theorem eraseIdx_right {zs : List Int} (hz : RightSet zs) (a : Nat) : RightSet (zs.eraseIdx a) := by
  obtain ⟨h1, h2, h3⟩ := (RightSet_iff zs).1 hz
  have hs := List.eraseIdx_sublist zs a
  exact (RightSet_iff _).2 ⟨Nat.le_trans hs.length_le h1, h2.sublist hs, fun x hx => h3 x (hs.subset hx)⟩
/-- What the law of a block less says. -/
theorem leave_law {zs : List Int} {l : Int} {k : Nat} (hz : RightSet zs) (hl : 1 ≤ l ∧ l ≤ 100000) (h : fewE zs l = 0) (hk : k < (fewL zs l).length) :
    ∃ a : Nat, at0 (fewL zs l) k = a ∧ a < zs.length ∧ at0 zs a ≤ l ∧ (l = at0 zs a → (fewL zs l).length = 1) ∧
    (l ≠ at0 zs a → fewE (zs.eraseIdx a) (l - at0 zs a) = 0 ∧ (fewL (zs.eraseIdx a) (l - at0 zs a)).length + 1 = (fewL zs l).length) := by
  have hp : ∀ j, j < zs.length → 1 ≤ at0 zs j := fun j hj => (hz.2 j hj).1.1
  obtain ⟨e1, hr, e2⟩ := fewL_len hz h
  obtain ⟨q1, q2, q3, q4⟩ := best_ok hz hr
  rw [← e2] at q1 q2 q3 q4
  have hb := (St_iff.1 q1 k hk).1
  obtain ⟨a, ha⟩ : ∃ a : Nat, at0 (fewL zs l) k = a := ⟨(at0 (fewL zs l) k).toNat, by omega⟩
  have hal : a < zs.length := by omega
  have hmem : (a : Int) ∈ fewL zs l := mem_at0.2 ⟨k, hk, ha⟩
  obtain ⟨_, vs, v1, v2, v3⟩ := vals_erase hal zs.length 0 (by omega) q1 hmem
  rw [List.drop_zero, Nat.sub_zero] at v1
  have hz' := eraseIdx_right hz a
  have hp' : ∀ j, j < (zs.eraseIdx a).length → 1 ≤ at0 (zs.eraseIdx a) j := fun j hj => (hz'.2 j hj).1.1
  have h1 := hp a hal
  obtain ⟨s, s1, s2, s3⟩ := St_sub (zs := zs.eraseIdx a) _ 0 (Nat.le_refl _) (vs := vs) (by rw [List.drop_zero]; exact v1)
  have s4 := wsum_nonneg hp' s1
  have hle : at0 zs a ≤ l := by omega
  refine ⟨a, ha, hal, hle, fun e => ?_, fun e => ?_⟩
  · have := (q4 [(a : Int)] (St_mono (Nat.zero_le a) (St_cons hal trivial)) (by rw [wsum_cons, wsum_nil]; omega)).1
    simp only [List.length_cons, List.length_nil] at this
    omega
  · have hg : gvn (zs.eraseIdx a) (l - at0 zs a) = 0 := by rw [gvn, if_pos ((chk_zero _).2 hz'), if_pos ((insB_iff _).2 (by omega))]
    have hr' : reachB (zs.eraseIdx a) (l - at0 zs a).toNat = true := (reachB_iff hz' _).2 ⟨s, s1, by rw [s2, v2]; omega⟩
    have hE : fewE (zs.eraseIdx a) (l - at0 zs a) = 0 := by rw [fewE, if_pos hg, if_pos hr']
    refine ⟨hE, ?_⟩
    obtain ⟨f1, _, f2⟩ := fewL_len hz' hE
    obtain ⟨t1, t2, t3, t4⟩ := best_ok hz' hr'
    rw [← f2] at t4
    have u1 := (t4 s s1 (by rw [s2, v2]; omega)).1
    -- the other way: the block joins the stack of the others
    have hsplit : zs.take a ++ at0 zs a :: zs.drop (a + 1) = zs := by rw [← drop_cons hal, List.take_append_drop]
    have u2 := tabF_one (at0 zs a) h1 (zs.take a) (zs.drop (a + 1)) (fun y hy => by
      have := ((RightSet_iff zs).1 hz).2.2 y (List.mem_of_mem_take hy); omega) l.toNat (by omega)
    rw [hsplit, ← List.eraseIdx_eq_take_drop_succ, show l.toNat - (at0 zs a).toNat = (l - at0 zs a).toNat from by omega] at u2
    omega
end Go.Proofs.Ytdmolmdenfepkaa
