/- Plain laws: the reference's stacks come in the order of their numbers of blocks, then of the blocks; so its first stack of a length is the one that 'best' reads off. -/
import Derived.Test.YteoniejpfmeibaaDoorQ
namespace Go.Proofs.YteoniejpfmeibaaDoor
open Go.RowKit

/-- Strictly before, of two lists of one length. -/
def lexlt : List Int → List Int → Prop
  | a :: s, b :: t => a < b ∨ (a = b ∧ lexlt s t)
  | _, _ => False
theorem lexlt_irrefl : ∀ s, ¬ lexlt s s
  | [] => fun h => h
  | a :: s => fun h => by
    rcases h with h | ⟨_, h⟩
    · omega
    · exact lexlt_irrefl s h
theorem lexle_not : ∀ {s t : List Int}, lexle s t → ¬ lexlt t s
  | [], [], _ => fun h => h
  | [], _ :: _, h => h.elim
  | _ :: _, [], h => h.elim
  | a :: s, b :: t, h => fun k => by
    rcases h with h | ⟨e, h⟩ <;> rcases k with k | ⟨e', k⟩
    · omega
    · omega
    · omega
    · exact lexle_not h k
theorem lexlt_append : ∀ {s t : List Int} (x y : List Int), lexlt s t → lexlt (s ++ x) (t ++ y)
  | [], _, _, _, h => h.elim
  | _ :: _, [], _, _, h => h.elim
  | _ :: _, _ :: _, x, y, h => by
    rcases h with h | ⟨e, h⟩
    · exact .inl h
    · exact .inr ⟨e, lexlt_append x y h⟩
theorem lexlt_last {a b : Int} (h : a < b) : ∀ s : List Int, lexlt (s ++ [a]) (s ++ [b])
  | [] => .inl h
  | _ :: s => .inr ⟨rfl, lexlt_last h s⟩

/-- The order of the reference. -/
def befo (s t : List Int) : Prop := s.length < t.length ∨ (s.length = t.length ∧ lexlt s t)
theorem befo_irrefl (s : List Int) : ¬ befo s s := fun h => by
  rcases h with h | ⟨_, h⟩
  · omega
  · exact lexlt_irrefl s h

theorem lasts_pw (n : Nat) : ∀ k, (lasts n k).Pairwise lexlt
  | 0 => by simp [lasts]
  | k + 1 => by
    rw [lasts, List.pairwise_flatMap]
    constructor
    · intro l hl
      rw [ext, List.pairwise_map]
      exact (List.pairwise_lt_range' 1).imp fun h => lexlt_last (by omega) l
    · refine (lasts_pw n k).imp_of_mem ?_
      intro a b _ _ hab x hx y hy
      simp only [ext, List.mem_map] at hx hy
      obtain ⟨_, _, rfl⟩ := hx
      obtain ⟨_, _, rfl⟩ := hy
      exact lexlt_append _ _ hab
theorem stks_pw (n : Nat) : ∀ k, (stks n k).Pairwise befo
  | 0 => by simp [stks]
  | k + 1 => by
    rw [stks, List.pairwise_append]
    refine ⟨stks_pw n k, (lasts_pw n (k + 1)).imp_of_mem ?_, ?_⟩
    · intro a b ha hb hab
      have h1 := (lasts_ok n (k + 1) a ha).1
      have h2 := (lasts_ok n (k + 1) b hb).1
      exact .inr ⟨by omega, hab⟩
    · intro a ha b hb
      have h1 := (stks_ok n k a ha).1
      have h2 := (lasts_ok n (k + 1) b hb).1
      exact .inl (by omega)

/-- A stack, by its elements. -/
def StI (n i : Nat) (l : List Int) : Prop := ∀ j, j < l.length → ((i : Int) ≤ at0 l j ∧ at0 l j < n) ∧ (0 < j → at0 l (j - 1) < at0 l j)
theorem at0_cons_zero (a : Int) (l : List Int) : at0 (a :: l) 0 = a := rfl
theorem at0_cons_succ (a : Int) (l : List Int) (j : Nat) : at0 (a :: l) (j + 1) = at0 l j := rfl
theorem St_iff {n : Nat} : ∀ {l : List Int} {i : Nat}, St n i l ↔ StI n i l
  | [], i => ⟨fun _ j hj => absurd hj (by simp), fun _ => trivial⟩
  | a :: l, i => by
    constructor
    · rintro ⟨h1, h2, h3⟩
      have h4 := (St_iff (l := l)).1 h3
      intro j hj
      cases j with
      | zero => exact ⟨⟨h1, h2⟩, fun h => absurd h (by omega)⟩
      | succ j =>
        simp only [List.length_cons] at hj
        have h5 := h4 j (by omega)
        rw [at0_cons_succ]
        refine ⟨⟨by omega, h5.1.2⟩, fun _ => ?_⟩
        cases j with
        | zero => simp only [Nat.zero_add, Nat.sub_self, at0_cons_zero]; omega
        | succ j => have := h5.2 (by omega); simpa [at0_cons_succ] using this
    · intro h
      have h0 := h 0 (by simp)
      rw [at0_cons_zero] at h0
      refine ⟨h0.1.1, h0.1.2, (St_iff (l := l)).2 ?_⟩
      -- all later ones are greater
      have hg : ∀ j, j < l.length → a < at0 l j := by
        intro j
        induction j with
        | zero => intro hj; have := (h 1 (by simp; omega)).2 (by omega); simpa [at0_cons_succ, at0_cons_zero] using this
        | succ j ih =>
          intro hj
          have h1 := ih (by omega)
          have h2 := (h (j + 2) (by simp; omega)).2 (by omega)
          rw [show j + 2 - 1 = j + 1 from by omega, at0_cons_succ, at0_cons_succ] at h2
          omega
      intro j hj
      have h1 := h (j + 1) (by simp; omega)
      rw [at0_cons_succ] at h1
      refine ⟨⟨by have := hg j hj; omega, h1.1.2⟩, fun hj0 => ?_⟩
      have h2 := h1.2 (by omega)
      obtain ⟨m, rfl⟩ : ∃ m, j = m + 1 := ⟨j - 1, by omega⟩
      rw [show m + 1 + 1 - 1 = m + 1 from by omega, at0_cons_succ] at h2
      simpa using h2

theorem lasts_mem (n : Nat) : ∀ k l, l ∈ lasts n k ↔ l.length = k ∧ StI n 0 l
  | 0, l => by
    simp only [lasts, List.mem_singleton]
    constructor
    · rintro rfl; exact ⟨rfl, fun j hj => absurd hj (by simp)⟩
    · rintro ⟨h, _⟩; exact List.length_eq_zero_iff.1 h
  | k + 1, l => by
    simp only [lasts, List.mem_flatMap, ext, List.mem_map, List.mem_range'_1]
    constructor
    · rintro ⟨l0, h0, b, hb, rfl⟩
      obtain ⟨h1, h2⟩ := (lasts_mem n k l0).1 h0
      have hf := frm_le h0
      refine ⟨by simp [h1], fun j hj => ?_⟩
      simp only [List.length_append, List.length_cons, List.length_nil] at hj
      by_cases e : j = k
      · subst e
        rw [at0_append_last' _ _ _ h1.symm]
        refine ⟨by omega, fun hj0 => ?_⟩
        rw [at0_append_left _ _ _ (by omega)]
        have := (h2 (j - 1) (by omega)).1
        unfold frm at hb
        rw [if_pos hj0] at hb
        omega
      · rw [at0_append_left _ _ _ (by omega)]
        have := h2 j (by omega)
        refine ⟨this.1, fun hj0 => ?_⟩
        rw [at0_append_left _ _ _ (by omega)]
        exact this.2 hj0
    · rintro ⟨h1, h2⟩
      have hne : l ≠ [] := by intro e; rw [e] at h1; simp at h1
      obtain ⟨l0, b, rfl⟩ : ∃ l0 b, l = l0 ++ [b] := ⟨l.dropLast, l.getLast hne, (List.dropLast_concat_getLast hne).symm⟩
      have hl0 : l0.length = k := by simpa using h1
      have hs0 : StI n 0 l0 := by
        intro j hj
        have := h2 j (by simp; omega)
        rw [at0_append_left _ _ _ hj] at this
        refine ⟨this.1, fun hj0 => ?_⟩
        have := this.2 hj0
        rwa [at0_append_left _ _ _ (by omega)] at this
      have hb := h2 k (by simp; omega)
      rw [at0_append_last' _ _ _ hl0.symm] at hb
      refine ⟨l0, (lasts_mem n k l0).2 ⟨hl0, hs0⟩, b.toNat, ?_, by rw [show ((b.toNat : Nat) : Int) = b from by omega]⟩
      have hfr : frm k l0 ≤ b.toNat := by
        unfold frm; split
        · rename_i hk
          have := hb.2 hk
          rw [at0_append_left _ _ _ (by omega)] at this
          omega
        · omega
      omega
theorem stks_mem (n : Nat) : ∀ k l, l ∈ stks n k ↔ l.length ≤ k ∧ StI n 0 l
  | 0, l => by
    simp only [stks, List.mem_singleton]
    constructor
    · rintro rfl; exact ⟨Nat.le_refl _, fun j hj => absurd hj (by simp)⟩
    · rintro ⟨h, _⟩; exact List.length_eq_zero_iff.1 (by omega)
  | k + 1, l => by
    rw [stks, List.mem_append, stks_mem n k l, lasts_mem]
    constructor
    · rintro (⟨h1, h2⟩ | ⟨h1, h2⟩)
      · exact ⟨by omega, h2⟩
      · exact ⟨by omega, h2⟩
    · rintro ⟨h1, h2⟩
      by_cases e : l.length ≤ k
      · exact .inl ⟨e, h2⟩
      · exact .inr ⟨by omega, h2⟩
/-- The reference lists each stack. -/
theorem stks_all (n : Nat) (l : List Int) : l ∈ stks n n ↔ St n 0 l := by
  rw [stks_mem, ← St_iff]
  constructor
  · exact fun h => h.2
  · exact fun h => ⟨by have := St_length h (by omega); omega, h⟩

/-- The reference's sum does not wrap. -/
theorem sum_loop {zs st : List Int} (hz : ∀ j, j < zs.length → 1 ≤ at0 zs j ∧ at0 zs j ≤ 100000) (hs : ∀ j, j < st.length → 0 ≤ at0 st j ∧ at0 st j < zs.length) :
    ∀ m i (s : Int), i + m ≤ st.length → 0 ≤ s → s + m * 100000 ≤ 4611686018427387904 → sumR (loopE (sumF zs st) m i s) = s + (((st.drop i).take m).map fun j => at0 zs j.toNat).sum
  | 0, i, s, _, _, _ => by simp [loopE, sumR]
  | m + 1, i, s, hi, h0, h1 => by
    have h2 := hs i (by omega)
    have h3 := hz (at0 st i).toNat (by omega)
    have hw : wrap64 (s + at0 zs (at0 st i).toNat) = s + at0 zs (at0 st i).toNat := by unfold wrap64; omega
    have e : st.drop i = at0 st i :: st.drop (i+1) := by rw [List.drop_eq_getElem_cons (by omega)]; simp [at0, List.getD, (show i < st.length from by omega)]
    unfold loopE
    simp only [sumF]
    have ih := sum_loop hz hs m (i + 1) (wrap64 (s + at0 zs (at0 st i).toNat)) (by omega) (by rw [hw]; omega) (by rw [hw]; omega)
    rw [ih, hw, e]
    simp only [List.take_succ_cons, List.map_cons, List.sum_cons]
    omega
theorem sum_eq {zs st : List Int} (hz : RightSet zs) (hs : ∀ j, j < st.length → 0 ≤ at0 st j ∧ at0 st j < zs.length) (hl : st.length ≤ 1000000) : sum zs st = wsum zs st := by
  have := sum_loop (st := st) hz.bd hs st.length 0 0 (by omega) (by omega) (by omega)
  unfold sum wsum
  rw [this]; simp
theorem sum_St {zs st : List Int} (hz : RightSet zs) (hs : St zs.length 0 st) : sum zs st = wsum zs st := by
  refine sum_eq hz (fun j hj => ?_) (by have := St_length hs (by omega); have := hz.1; omega)
  have := (St_iff.1 hs j hj).1
  omega

/-- THE REFERENCE's STACK IS THE ONE READ OFF. -/
theorem rbest_eq {zs : List Int} (hz : RightSet zs) (l : Nat) : rbest zs l = if reachB zs l = true then bestL zs 0 l else [] := by
  unfold rbest
  split
  · rename_i h
    obtain ⟨k1, k2, _, k4⟩ := best_ok hz h
    have hm : bestL zs 0 l ∈ stks zs.length zs.length := (stks_all _ _).2 k1
    have hp : isLen zs l (bestL zs 0 l) = true := by unfold isLen; rw [sum_St hz k1, k2]; simp
    cases hf : (stks zs.length zs.length).find? (isLen zs l) with
    | none => exact absurd (List.find?_eq_none.1 hf _ hm) (by simp [hp])
    | some a =>
      obtain ⟨ha, as, bs, he, hbe⟩ := List.find?_eq_some_iff_append.1 hf
      have hpw := stks_pw zs.length zs.length
      have ham : a ∈ stks zs.length zs.length := by rw [he]; simp
      have hst := (stks_all _ _).1 ham
      rw [he] at hm hpw
      rcases List.mem_append.1 hm with h1 | h1
      · have := hbe _ h1; rw [hp] at this; cases this
      rcases List.mem_cons.1 h1 with h1 | h1
      · simp [h1]
      · exfalso
        have hab : befo a (bestL zs 0 l) := (List.pairwise_cons.1 (List.pairwise_append.1 hpw).2.1).1 _ h1
        have hw : wsum zs a = l := by unfold isLen at ha; rw [sum_St hz hst] at ha; simpa using ha
        obtain ⟨q1, q2⟩ := k4 a hst hw
        rcases hab with h | ⟨h, h'⟩
        · omega
        · exact lexle_not (q2 h) h'
  · rename_i h
    cases hf : (stks zs.length zs.length).find? (isLen zs l) with
    | none => rfl
    | some a =>
      exfalso
      obtain ⟨ha, as, bs, he, _⟩ := List.find?_eq_some_iff_append.1 hf
      have ham : a ∈ stks zs.length zs.length := by rw [he]; simp
      have hst := (stks_all _ _).1 ham
      refine h ((reachB_iff hz l).2 ⟨a, hst, ?_⟩)
      unfold isLen at ha; rw [sum_St hz hst] at ha; simpa using ha
theorem best_ne {zs : List Int} (hz : RightSet zs) {l : Nat} (h : reachB zs l = true) (hl : 1 ≤ l) : (bestL zs 0 l).length ≠ 0 := by
  obtain ⟨_, k2, _⟩ := best_ok hz h
  intro e
  rw [List.length_eq_zero_iff.1 e, wsum_nil] at k2
  omega

/-- Fewest: the program and the reference. -/
theorem few_eq (zs : List Int) (l : Int) : fewL zs l = rfewL zs l ∧ fewE zs l = rfewE zs l := by
  unfold fewL rfewL fewE rfewE
  by_cases hg : gvn zs l = 0
  · obtain ⟨hz, h1, h2⟩ := gvn_zero hg
    have e := rbest_eq hz l.toNat
    rw [show ((l.toNat : Nat) : Int) = l from by omega] at e
    rw [if_pos hg, if_pos hg, if_pos hg, e]
    by_cases hr : reachB zs l.toNat = true
    · rw [if_pos ⟨hg, hr⟩, if_pos hr, if_pos hr, if_neg (best_ne hz hr (by omega))]
      exact ⟨rfl, rfl⟩
    · rw [if_neg (fun h => hr h.2), if_neg hr, if_neg hr]
      exact ⟨rfl, rfl⟩
  · rw [if_neg (fun h => hg h.1), if_neg hg, if_neg hg, if_neg hg]
    exact ⟨rfl, rfl⟩

theorem eqR_true {xs ys : List Int} (h : xs.length = ys.length) : eqR (loopE (eqF xs ys) xs.length 0 ()) = true ↔ xs = ys := by
  constructor
  · intro he
    cases hl : loopE (eqF xs ys) xs.length 0 () with
    | inl u =>
      cases u
      have := (loopE_unit _ _).1 hl
      apply List.ext_getElem h
      intro j h1 h2
      have := this j (by omega) (by omega)
      unfold eqF at this
      split at this
      · rename_i e; simpa [at0, List.getD, h1, h2] using e
      · cases this
    | inr b =>
      rw [hl] at he
      obtain ⟨j, _, _, hj⟩ := loopE_unit_inr _ _ hl
      unfold eqF at hj
      split at hj
      · cases hj
      · cases hj; simp [eqR] at he
  · rintro rfl
    have : loopE (eqF xs xs) xs.length 0 () = .inl () := (loopE_unit _ _).2 fun j _ _ => by unfold eqF; rw [if_pos rfl]
    rw [this]; rfl
theorem eqL_iff (xs ys : List Int) : eqL xs ys = true ↔ xs = ys := by
  unfold eqL
  split
  · rename_i h; exact eqR_true h
  · rename_i h
    constructor
    · intro h; cases h
    · rintro rfl; exact absurd rfl h

theorem totF_stk {zs st : List Int} : ∀ m i (s : Int), (loopE (stkF zs st) m i () = .inl () ∧ loopE (totF zs st) m i s = .inl (sumR (loopE (sumF zs st) m i s))) ∨ (∃ r, r ≠ 0 ∧ loopE (stkF zs st) m i () = .inr r ∧ loopE (totF zs st) m i s = .inr r)
  | 0, i, s => .inl ⟨rfl, rfl⟩
  | m + 1, i, s => by
    unfold loopE
    by_cases h1 : at0 st i < 0 ∨ (zs.length : Int) ≤ at0 st i
    · refine .inr ⟨2, by omega, ?_, ?_⟩
      · simp only [stkF, if_pos h1]
      · simp only [totF, if_pos h1]
    · by_cases h2 : 0 < i ∧ at0 st i ≤ at0 st (i-1)
      · refine .inr ⟨9, by omega, ?_, ?_⟩
        · simp only [stkF, if_neg h1, if_pos h2]
        · simp only [totF, if_neg h1, if_pos h2]
      · have e1 : stkF zs st i () = .inl () := by simp only [stkF, if_neg h1, if_neg h2]
        have e2 : totF zs st i s = .inl (wrap64 (s + at0 zs (at0 st i).toNat)) := by simp only [totF, if_neg h1, if_neg h2]
        have e3 : sumF zs st i s = .inl (wrap64 (s + at0 zs (at0 st i).toNat)) := rfl
        rw [e1, e2, e3]
        exact totF_stk m (i + 1) _
theorem tot_eq (zs st : List Int) : tot zs st = if stk zs st = 0 then (sum zs st, 0) else (0, stk zs st) := by
  unfold tot stk sum
  rcases totF_stk (zs := zs) (st := st) st.length 0 0 with ⟨h1, h2⟩ | ⟨r, hr, h1, h2⟩
  · rw [h1, h2]; rfl
  · rw [h1, h2, if_neg (show ¬ chkR (.inr r) = 0 from hr)]; rfl
/-- Length: the program and the reference. -/
theorem len_eq (zs st : List Int) : len zs st = rlen zs st := by
  unfold len rlen
  rw [tot_eq]

/-- Verify: the program and the reference. -/
theorem ver_eq (zs : List Int) (l : Int) (st : List Int) : verE zs l st = rverE zs l st := by
  unfold verE rverE
  by_cases hg : gvn zs l = 0
  · obtain ⟨hz, h1, h2⟩ := gvn_zero hg
    have e := rbest_eq hz l.toNat
    rw [show ((l.toNat : Nat) : Int) = l from by omega] at e
    rw [if_pos hg, if_pos hg, e, tot_eq]
    by_cases hs : stk zs st = 0
    · rw [if_pos hs, if_pos hs, if_pos rfl]
      by_cases hr : reachB zs l.toNat = true
      · rw [if_pos hr]
        have hn := best_ne hz hr (by omega)
        by_cases hq : eqL (bestL zs 0 l.toNat) st = true
        · rw [if_pos ⟨hr, hq⟩, if_pos ⟨hq, by rw [← (eqL_iff _ _).1 hq]; exact hn⟩]
        · rw [if_neg (fun h => hq h.2), if_neg (fun h => hq h.1)]
      · rw [if_neg (fun h => hr h.1), if_neg hr, if_neg]
        rintro ⟨h3, h4⟩
        rw [← (eqL_iff _ _).1 h3] at h4
        exact h4 rfl
    · rw [if_neg hs, if_neg hs, if_neg hs]
  · rw [if_neg hg, if_neg hg]
end Go.Proofs.YteoniejpfmeibaaDoor
