/- Plain laws: Count and Reach of the program and of the reference agree for sets of at most nine blocks. -/
import Derived.Test.YtdmolmdenfepkaaR
namespace Go.Proofs.Ytdmolmdenfepkaa
open Go.RowKit

/-- How many stacks have a length. -/
def cntS : List Int → Nat → Nat
  | [], n => if n = 0 then 1 else 0
  | x :: xs, n => cntS xs n + if x ≤ n then cntS xs (n - x.toNat) else 0
theorem tabC_eq (xs : List Int) : ∀ n, tab joinC 0 1 xs n = min (cntS xs n : Int) 1048577 := by
  induction xs with
  | nil => intro n; rw [tab, cntS]; split <;> rfl
  | cons x xs ih =>
    intro n
    have h1 := ih n
    have h2 := ih (n - x.toNat)
    rw [tab, cntS, h1]
    split
    · rw [h2, joinC, wrap32_small (by omega) (by omega)]; omega
    · rw [joinC, wrap32_small (by omega) (by omega)]; omega

/-- All stacks from i on, in another order. -/
def subsL : List Int → Nat → List (List Int)
  | [], _ => [[]]
  | _ :: xs, i => subsL xs (i + 1) ++ (subsL xs (i + 1)).map fun s => (i : Int) :: s
theorem subsL_length : ∀ (xs : List Int) (i : Nat), (subsL xs i).length = 2 ^ xs.length
  | [], _ => rfl
  | _ :: xs, i => by
    have := subsL_length xs (i + 1)
    simp only [subsL, List.length_append, List.length_map, List.length_cons, Nat.pow_succ]
    omega
theorem drop_cons {zs : List Int} {i : Nat} (hi : i < zs.length) : zs.drop i = at0 zs i :: zs.drop (i + 1) := by
  rw [List.drop_eq_getElem_cons hi]; simp [at0, List.getD, hi]
theorem subsL_mem (zs : List Int) : ∀ (m i : Nat), zs.length - i ≤ m → ∀ s, s ∈ subsL (zs.drop i) i ↔ St zs.length i s := by
  intro m
  induction m with
  | zero =>
    intro i hm s
    rw [List.drop_eq_nil_of_le (by omega), subsL, List.mem_singleton]
    exact ⟨fun h => by subst h; trivial, fun h => St_end (by omega) h⟩
  | succ m ih =>
    intro i hm s
    by_cases hi : i < zs.length
    · rw [drop_cons hi, subsL, List.mem_append, List.mem_map, ih (i + 1) (by omega)]
      constructor
      · rintro (h | ⟨t, ht, rfl⟩)
        · exact St_mono (by omega) h
        · exact St_cons hi ((ih (i + 1) (by omega) t).1 ht)
      · intro h
        rcases St_cases h with h | ⟨t, rfl, _, h⟩
        · exact .inl h
        · exact .inr ⟨t, (ih (i + 1) (by omega) t).2 h, rfl⟩
    · rw [List.drop_eq_nil_of_le (by omega), subsL, List.mem_singleton]
      exact ⟨fun h => by subst h; trivial, fun h => St_end (by omega) h⟩
theorem subsL_nodup (zs : List Int) : ∀ (m i : Nat), zs.length - i ≤ m → (subsL (zs.drop i) i).Nodup := by
  intro m
  induction m with
  | zero => intro i hm; rw [List.drop_eq_nil_of_le (by omega), subsL]; simp
  | succ m ih =>
    intro i hm
    by_cases hi : i < zs.length
    · rw [drop_cons hi, subsL]
      unfold List.Nodup
      rw [List.pairwise_append, List.pairwise_map]
      refine ⟨ih (i + 1) (by omega), (ih (i + 1) (by omega)).imp fun h e => h (by simpa using e), ?_⟩
      intro a ha b hb e
      rw [List.mem_map] at hb
      obtain ⟨t, _, rfl⟩ := hb
      subst e
      have := (subsL_mem zs m (i + 1) (by omega) _).1 ha
      have := this.1
      omega
    · rw [List.drop_eq_nil_of_le (by omega), subsL]; simp
theorem stks_nodup (n k : Nat) : (stks n k).Nodup := by
  unfold List.Nodup
  exact (stks_pw n k).imp fun h e => by subst e; exact befo_irrefl _ h
theorem stks_perm (zs : List Int) : (stks zs.length zs.length).Perm (subsL zs 0) := by
  rw [List.perm_ext_iff_of_nodup (stks_nodup _ _) (by have := subsL_nodup zs zs.length 0 (by omega); simpa using this)]
  intro s
  rw [stks_all]
  have := subsL_mem zs zs.length 0 (by omega) s
  simpa using this.symm
theorem stks_len {zs : List Int} (h9 : zs.length ≤ 9) : (stks zs.length zs.length).length ≤ 512 := by
  rw [(stks_perm zs).length_eq, subsL_length]
  exact Nat.le_trans (Nat.pow_le_pow_right (by omega) h9) (by decide)

theorem subs_count {zs : List Int} (hz : ∀ j, j < zs.length → 1 ≤ at0 zs j) : ∀ (m i : Nat), zs.length - i ≤ m → ∀ n : Nat, ((subsL (zs.drop i) i).filter fun s => wsum zs s == n).length = cntS (zs.drop i) n := by
  intro m
  induction m with
  | zero =>
    intro i hm n
    rw [List.drop_eq_nil_of_le (by omega), subsL, cntS]
    by_cases h : n = 0
    · subst h; rfl
    · rw [if_neg h, List.filter_cons_of_neg (by rw [wsum_nil]; simp; omega)]; rfl
  | succ m ih =>
    intro i hm n
    by_cases hi : i < zs.length
    · have h1 := hz i hi
      rw [drop_cons hi, subsL, cntS, List.filter_append, List.length_append, ih (i + 1) (by omega) n, List.filter_map, List.length_map]
      congr 1
      split
      · rename_i hx
        rw [← ih (i + 1) (by omega) (n - (at0 zs i).toNat)]
        congr 1
        apply List.filter_congr
        intro s _
        simp only [Function.comp, wsum_cons]
        rw [Bool.eq_iff_iff, beq_iff_eq, beq_iff_eq]
        omega
      · rename_i hx
        rw [List.length_eq_zero_iff, List.filter_eq_nil_iff]
        intro s hs
        have hs := (subsL_mem zs m (i + 1) (by omega) _).1 hs
        have h0 := wsum_nonneg hz hs
        simp only [Function.comp, wsum_cons, beq_iff_eq]
        omega
    · rw [List.drop_eq_nil_of_le (by omega), subsL, cntS]
      by_cases h : n = 0
      · subst h; rfl
      · rw [if_neg h, List.filter_cons_of_neg (by rw [wsum_nil]; simp; omega)]; rfl

/-- The reference's count. -/
theorem rcnt_eq {zs : List Int} (hz : RightSet zs) (l : Nat) : rcnt zs l = cntS zs l := by
  have hp : ∀ j, j < zs.length → 1 ≤ at0 zs j := fun j hj => (hz.2 j hj).1.1
  have h1 := subs_count hp zs.length 0 (by omega) l
  rw [List.drop_zero] at h1
  rw [← h1, rcnt, ← ((stks_perm zs).filter _).length_eq]
  congr 1
  apply List.filter_congr
  intro s hs
  rw [isLen, sum_St hz ((stks_all _ _).1 hs)]
theorem rcnt_le {zs : List Int} (h9 : zs.length ≤ 9) (l : Int) : rcnt zs l ≤ 512 := Nat.le_trans (List.length_filter_le _ _) (stks_len h9)
theorem cntS_zero {zs : List Int} (hz : RightSet zs) {l : Nat} (h : zs.sum < l) : cntS zs l = 0 := by
  have hp : ∀ j, j < zs.length → 1 ≤ at0 zs j := fun j hj => (hz.2 j hj).1.1
  rw [← rcnt_eq hz l, rcnt, List.length_eq_zero_iff, List.filter_eq_nil_iff]
  intro s hs
  have hs := (stks_all _ _).1 hs
  have h2 := wsum_le_sum hp zs.length 0 (by omega) hs
  rw [List.drop_zero] at h2
  rw [isLen, sum_St hz hs, beq_iff_eq]
  omega
theorem cntV_eq {zs : List Int} (hz : RightSet zs) (l : Nat) : cntV zs l = min (cntS zs l : Int) 1048577 := by
  unfold cntV
  split
  · exact tabC_eq zs l
  · rw [cntS_zero hz (by omega)]; rfl
/-- Count: the program and the reference. -/
theorem cnt_eq (zs : List Int) (l : Int) (h9 : chk zs = 0 → zs.length ≤ 9) : cntN zs l = rcntN zs l ∧ cntE zs l = rcntE zs l := by
  unfold cntN cntE rcntN rcntE
  by_cases hg : gvn zs l = 0
  · obtain ⟨hz, h1, h2⟩ := gvn_zero hg
    have e1 := rcnt_eq hz l.toNat
    have e2 := rcnt_le (h9 ((chk_zero zs).2 hz)) l
    have e3 := cntV_eq hz l.toNat
    rw [show ((l.toNat : Nat) : Int) = l from by omega] at e1
    have e4 : cntV zs l.toNat = rcnt zs l := by rw [e3, e1]; omega
    simp only [if_pos hg]
    rw [e4, if_pos (by omega), if_pos (by omega), if_pos (by omega), if_pos (by omega)]
    exact ⟨rfl, rfl⟩
  · simp only [if_neg hg]
    exact ⟨trivial, trivial⟩

/-! ### Reach -/
theorem addGo_true (n : Int) : ∀ (l acc : List Int), addGo n l (acc, true) = (acc ++ l.filter (fun x => x != n), true)
  | [], acc => by simp [addGo]
  | x :: l, acc => by
    rw [addGo]
    by_cases h : x = n
    · have e : addS x n (acc, true) = (acc, true) := by simp [addS, h]
      rw [e, addGo_true n l acc, List.filter_cons_of_neg (by simp [h])]
    · have e : addS x n (acc, true) = (acc ++ [x], true) := by simp [addS, h]
      rw [e, addGo_true n l, List.filter_cons_of_pos (by simp [h])]
      simp
theorem filter_all {p : Int → Bool} {l : List Int} (h : ∀ x ∈ l, p x = true) : l.filter p = l := List.filter_eq_self.2 h
theorem addGo_false (n : Int) : ∀ (l acc : List Int), l.Pairwise (· < ·) →
    (if (addGo n l (acc, false)).2 = false then (addGo n l (acc, false)).1 ++ [n] else (addGo n l (acc, false)).1) = acc ++ (l.filter (fun x => decide (x < n)) ++ n :: l.filter (fun x => decide (n < x)))
  | [], acc, _ => by simp [addGo]
  | x :: l, acc, hl => by
    rw [List.pairwise_cons] at hl
    rw [addGo]
    by_cases h : n ≤ x
    · have hlt : (x :: l).filter (fun y => decide (y < n)) = [] := by
        rw [List.filter_eq_nil_iff]
        intro y hy
        rcases List.mem_cons.1 hy with rfl | hy
        · simp; omega
        · have := hl.1 y hy; simp; omega
      by_cases h2 : x = n
      · have e : addS x n (acc, false) = (acc ++ [n], true) := by simp [addS, h2]
        rw [e, addGo_true, hlt, List.filter_cons_of_neg (by simp; omega), filter_all (fun y hy => by have := hl.1 y hy; simp; omega), filter_all (fun y hy => by have := hl.1 y hy; simp; omega)]
        simp
      · have e : addS x n (acc, false) = (acc ++ [n] ++ [x], true) := by simp [addS, h2, h]
        rw [e, addGo_true, hlt, List.filter_cons_of_pos (by simp; omega), filter_all (fun y hy => by have := hl.1 y hy; simp; omega), filter_all (fun y hy => by have := hl.1 y hy; simp; omega)]
        simp
    · have e : addS x n (acc, false) = (acc ++ [x], false) := by
        have h2 : ¬ x = n := by omega
        simp [addS, h2, h]
      rw [e, addGo_false n l _ hl.2, List.filter_cons_of_pos (by simp; omega), List.filter_cons_of_neg (by simp; omega)]
      simp
theorem added_eq {l : List Int} (n : Int) (hl : l.Pairwise (· < ·)) : added l n = l.filter (fun x => decide (x < n)) ++ n :: l.filter (fun x => decide (n < x)) := by
  have := addGo_false n l [] hl
  rw [List.nil_append] at this
  exact this
theorem added_mem {l : List Int} (n : Int) (hl : l.Pairwise (· < ·)) (k : Int) : k ∈ added l n ↔ k = n ∨ k ∈ l := by
  rw [added_eq n hl]
  simp only [List.mem_append, List.mem_cons, List.mem_filter, decide_eq_true_eq]
  constructor
  · rintro (h | h | h)
    · exact .inr h.1
    · exact .inl h
    · exact .inr h.1
  · rintro (h | h)
    · exact .inr (.inl h)
    · by_cases h1 : k < n
      · exact .inl ⟨h, h1⟩
      · by_cases h2 : k = n
        · exact .inr (.inl h2)
        · exact .inr (.inr ⟨h, by omega⟩)
theorem added_asc {l : List Int} (n : Int) (hl : l.Pairwise (· < ·)) : (added l n).Pairwise (· < ·) := by
  rw [added_eq n hl, List.pairwise_append, List.pairwise_cons]
  refine ⟨hl.sublist List.filter_sublist, ⟨fun b hb => ?_, hl.sublist List.filter_sublist⟩, fun a ha b hb => ?_⟩
  · simpa using (List.mem_filter.1 hb).2
  · have h1 : a < n := by simpa using (List.mem_filter.1 ha).2
    rcases List.mem_cons.1 hb with rfl | hb
    · exact h1
    · have h2 : n < b := by simpa using (List.mem_filter.1 hb).2
      omega
theorem reaFold (zs : List Int) (most : Int) : ∀ (ss : List (List Int)) (out : List Int), out.Pairwise (· < ·) →
    (ss.foldl (reaS zs most) out).Pairwise (· < ·) ∧ ∀ k, k ∈ ss.foldl (reaS zs most) out ↔ k ∈ out ∨ ∃ s ∈ ss, (s.length : Int) ≤ most ∧ insB (sum zs s) = true ∧ sum zs s = k
  | [], out, h => ⟨h, fun k => by simp⟩
  | s :: ss, out, h => by
    rw [List.foldl_cons]
    by_cases hs : (s.length : Int) ≤ most ∧ insB (sum zs s) = true
    · have e : reaS zs most out s = added out (sum zs s) := by rw [reaS, if_pos hs]
      obtain ⟨h1, h2⟩ := reaFold zs most ss (reaS zs most out s) (by rw [e]; exact added_asc _ h)
      refine ⟨h1, fun k => ?_⟩
      rw [h2, e, added_mem _ h]
      constructor
      · rintro ((rfl | h) | ⟨t, ht, h⟩)
        · exact .inr ⟨s, by simp, hs.1, hs.2, rfl⟩
        · exact .inl h
        · exact .inr ⟨t, by simp [ht], h⟩
      · rintro (h | ⟨t, ht, h⟩)
        · exact .inl (.inr h)
        · rcases List.mem_cons.1 ht with rfl | ht
          · exact .inl (.inl h.2.2.symm)
          · exact .inr ⟨t, ht, h⟩
    · have e : reaS zs most out s = out := by rw [reaS, if_neg hs]
      obtain ⟨h1, h2⟩ := reaFold zs most ss (reaS zs most out s) (by rw [e]; exact h)
      refine ⟨h1, fun k => ?_⟩
      rw [h2, e]
      constructor
      · rintro (h | ⟨t, ht, h⟩)
        · exact .inl h
        · exact .inr ⟨t, by simp [ht], h⟩
      · rintro (h | ⟨t, ht, h⟩)
        · exact .inl h
        · rcases List.mem_cons.1 ht with rfl | ht
          · exact absurd ⟨h.1, h.2.1⟩ hs
          · exact .inr ⟨t, ht, h⟩
theorem reaS_fold_len (zs : List Int) (most : Int) : ∀ (ss : List (List Int)) (out : List Int), (ss.foldl (reaS zs most) out).length ≤ out.length + ss.length
  | [], out => by simp
  | s :: ss, out => by
    have h1 := reaS_fold_len zs most ss (reaS zs most out s)
    have h2 := reaS_len zs most out s
    rw [List.foldl_cons, List.length_cons]
    omega

/-- The lengths that are reached. -/
def keepB (zs : List Int) (most : Int) (n : Nat) : Bool := decide (1 ≤ n) && decide (tab joinF 258 0 zs n ≤ most)
def fullL (zs : List Int) (most : Int) (i m : Nat) : List Int := ((List.range' i m).filter (keepB zs most)).map fun (n : Nat) => (n : Int)
theorem fullL_succ (zs : List Int) (most : Int) (i m : Nat) : fullL zs most i (m + 1) = (if keepB zs most i = true then [(i : Int)] else []) ++ fullL zs most (i + 1) m := by
  unfold fullL
  rw [List.range'_succ]
  by_cases h : keepB zs most i = true
  · rw [List.filter_cons_of_pos h, if_pos h]; rfl
  · rw [List.filter_cons_of_neg h, if_neg h]; rfl
theorem reaLoop (zs : List Int) (most : Int) : ∀ (m i : Nat) (out : List Int), out.length + (fullL zs most i m).length ≤ 16384 → loopE (reaF zs most) m i out = .inl (out ++ fullL zs most i m)
  | 0, i, out, _ => by simp [loopE, fullL]
  | m + 1, i, out, h => by
    rw [fullL_succ] at h ⊢
    unfold loopE
    by_cases hk : keepB zs most i = true
    · rw [if_pos hk] at h ⊢
      simp only [List.length_append, List.length_cons, List.length_nil] at h
      have hk' : ¬ (i < 1 ∨ most < tab joinF 258 0 zs i) := by
        unfold keepB at hk
        rw [Bool.and_eq_true, decide_eq_true_eq, decide_eq_true_eq] at hk
        omega
      have e : reaF zs most i out = .inl (out ++ [(i : Int)]) := by rw [reaF, if_neg hk', if_neg (by omega)]
      rw [e]
      simp only
      rw [reaLoop zs most m (i + 1) _ (by simp only [List.length_append, List.length_cons, List.length_nil]; omega)]
      simp
    · rw [if_neg hk] at h ⊢
      have hk' : i < 1 ∨ most < tab joinF 258 0 zs i := by
        unfold keepB at hk
        rw [Bool.and_eq_true, decide_eq_true_eq, decide_eq_true_eq] at hk
        omega
      have e : reaF zs most i out = .inl out := by rw [reaF, if_pos hk']
      rw [e]
      simp only
      rw [reaLoop zs most m (i + 1) _ (by simpa using h)]
      simp
theorem fullL_asc (zs : List Int) (most : Int) (i m : Nat) : (fullL zs most i m).Pairwise (· < ·) := by
  unfold fullL
  rw [List.pairwise_map]
  exact ((List.pairwise_lt_range' 1).sublist List.filter_sublist).imp fun h => by omega
theorem fullL_mem {zs : List Int} (hz : RightSet zs) {most : Int} (hm : most ≤ 8) (k : Int) : k ∈ fullL zs most 0 (reaW zs) ↔ ∃ s, St zs.length 0 s ∧ (s.length : Int) ≤ most ∧ 1 ≤ k ∧ k ≤ 100000 ∧ wsum zs s = k := by
  have hp : ∀ j, j < zs.length → 1 ≤ at0 zs j := fun j hj => (hz.2 j hj).1.1
  unfold fullL
  simp only [List.mem_map, List.mem_filter, List.mem_range'_1, keepB, Bool.and_eq_true, decide_eq_true_eq]
  constructor
  · rintro ⟨n, ⟨hn, h1, h2⟩, rfl⟩
    have := bestL_ok hp zs.length 0 (by omega) (r := n) (by rw [List.drop_zero]; omega)
    rw [List.drop_zero] at this
    obtain ⟨k1, k2, k3, _⟩ := this
    unfold reaW at hn
    exact ⟨_, k1, by omega, by omega, by omega, k2⟩
  · rintro ⟨s, h1, h2, h3, h4, h5⟩
    have a := tabF_le hp zs.length 0 (by omega) (n := k.toNat) h1 (by omega)
    have b := wsum_le_sum hp zs.length 0 (by omega) h1
    rw [List.drop_zero] at a b
    refine ⟨k.toNat, ⟨⟨by omega, ?_⟩, by omega, by omega⟩, by omega⟩
    unfold reaW; omega
theorem asc_eq {a b : List Int} (ha : a.Pairwise (· < ·)) (hb : b.Pairwise (· < ·)) (h : ∀ k, k ∈ a ↔ k ∈ b) : a = b := by
  have na : a.Nodup := ha.imp fun h e => by omega
  have nb : b.Nodup := hb.imp fun h e => by omega
  exact List.Perm.eq_of_pairwise (le := fun x y : Int => x < y) (fun x y _ _ h1 h2 => by omega) ha hb ((List.perm_ext_iff_of_nodup na nb).2 h)
theorem rreaX_mem {zs : List Int} (hz : RightSet zs) (most k : Int) : k ∈ rreaX zs most ↔ ∃ s, St zs.length 0 s ∧ (s.length : Int) ≤ most ∧ 1 ≤ k ∧ k ≤ 100000 ∧ wsum zs s = k := by
  unfold rreaX
  rw [(reaFold zs most _ [] List.Pairwise.nil).2]
  constructor
  · rintro (h | ⟨s, hs, h1, h2, h3⟩)
    · cases h
    · have hs := (stks_all _ _).1 hs
      rw [sum_St hz hs] at h2 h3
      rw [insB_iff, h3] at h2
      exact ⟨s, hs, h1, h2.1, h2.2, h3⟩
  · rintro ⟨s, hs, h1, h2, h3, h4⟩
    refine .inr ⟨s, (stks_all _ _).2 hs, h1, ?_, ?_⟩
    · rw [sum_St hz hs, insB_iff]; omega
    · rw [sum_St hz hs]; exact h4
theorem rea_full {zs : List Int} (hz : RightSet zs) (h9 : zs.length ≤ 9) {most : Int} (hm : most ≤ 8) : fullL zs most 0 (reaW zs) = rreaX zs most ∧ (rreaX zs most).length ≤ 512 := by
  have e : fullL zs most 0 (reaW zs) = rreaX zs most :=
    asc_eq (fullL_asc _ _ _ _) (reaFold zs most _ [] List.Pairwise.nil).1 fun k => by rw [fullL_mem hz hm, rreaX_mem hz]
  refine ⟨e, ?_⟩
  have h1 := reaS_fold_len zs most (stks zs.length zs.length) []
  have h2 := stks_len h9
  unfold rreaX
  simp only [List.length_nil] at h1
  omega
theorem reaX_eq {zs : List Int} (hz : RightSet zs) (h9 : zs.length ≤ 9) {most : Int} (hm : most ≤ 8) : reaX zs most = .inl (rreaX zs most) := by
  obtain ⟨h1, h2⟩ := rea_full hz h9 hm
  have := reaLoop zs most (reaW zs) 0 [] (by rw [h1]; simp only [List.length_nil]; omega)
  rw [h1, List.nil_append] at this
  exact this
/-- Reach: the program and the reference. -/
theorem rea_eq (zs : List Int) (most : Int) (h9 : chk zs = 0 → zs.length ≤ 9) : reaL zs most = rreaL zs most ∧ reaE zs most = rreaE zs most := by
  unfold reaL reaE rreaL rreaE
  by_cases hg : chk zs = 0
  · have hz := (chk_zero zs).1 hg
    simp only [if_pos hg]
    by_cases hm : 1 ≤ most ∧ most ≤ 8
    · simp only [if_pos hm]
      obtain ⟨_, h2⟩ := rea_full hz (h9 hg) hm.2
      rw [reaX_eq hz (h9 hg) hm.2, if_pos (by omega), if_pos (by omega)]
      exact ⟨rfl, rfl⟩
    · simp only [if_neg hm]
      exact ⟨trivial, trivial⟩
  · simp only [if_neg hg]
    exact ⟨trivial, trivial⟩
theorem rreaL_length (zs : List Int) (most : Int) : (rreaL zs most).length ≤ 9223372036854775807 := by
  unfold rreaL
  split
  · split
    · split
      · omega
      · simp
    · simp
  · simp
end Go.Proofs.Ytdmolmdenfepkaa
