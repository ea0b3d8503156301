/- Plain laws of stocks: what Return changes, what the wears of the blocks that somebody holds add up to. -/
import Derived.Test.YteoniejpfmeibaaDoorSac
namespace Go.Proofs.YteoniejpfmeibaaDoor
open Go.RowKit

theorem drop_at0 {L : List Int} {k : Nat} (h : k < L.length) : L.drop k = at0 L k :: L.drop (k + 1) := by
  rw [at0_get h]; exact List.drop_eq_getElem_cons h
theorem psum_list (g : Nat → Int) (n : Nat) : ∀ (k : Nat) (O : List Int), O.length = k → O.Pairwise (· < ·) → (∀ x, x ∈ O → ∃ i : Nat, x = i ∧ i < n) → psum g O n = (O.map fun j => g j.toNat).sum
  | 0, O, h, _, _ => by
    rw [List.length_eq_zero_iff.1 h]; exact psum_nil g n
  | k + 1, O, h, ha, hm => by
    rcases List.eq_nil_or_concat O with rfl | ⟨O', b, rfl⟩
    · simp at h
    · rw [List.concat_eq_append] at h ha hm ⊢
      rw [List.pairwise_append] at ha
      obtain ⟨i, hi, hin⟩ := hm b (by simp)
      subst hi
      have hn : (i : Int) ∉ O' := fun hx => by have := ha.2.2 _ hx i (by simp); omega
      rw [psum_add g O' i hn, psum_list g n k O' (by simpa using h) ha.1 (fun x hx => hm x (by simp [hx])), if_pos hin, List.map_append, List.sum_append]
      simp

/-! ### Return -/
structure Back (B R : List B5) (O : List Int) (x : Int) : Prop where
  len : R.length = B.length
  at1 : ∀ i : Nat, bAt R i = if (i : Int) ∈ O then ⟨(bAt B i).l, wrap64 ((bAt B i).w + x), wrap64 ((bAt B i).u + 1), ⟨#[]⟩⟩ else bAt B i
  bd : ∀ i : Nat, (i : Int) ∈ O → wrap64 ((bAt B i).w + x) ≤ 100000 ∧ wrap64 ((bAt B i).u + 1) ≤ 1048576
theorem rt_loop {O : List Int} (x : Int) (n : Nat) (ha : O.Pairwise (· < ·)) (hm : ∀ y, y ∈ O → ∃ i : Nat, y = i ∧ i < n) :
    ∀ (d k : Nat) (s : List B5), k + d = O.length → s.length = n → (∃ R, loopE (rtF O x) d k s = .inl R ∧ Back s R (O.drop k) x) ∨ loopE (rtF O x) d k s = .inr 11
  | 0, k, s, hk, hs => by
    refine .inl ⟨s, rfl, rfl, fun i => ?_, fun i hi => ?_⟩
    · rw [List.drop_eq_nil_of_le (by omega), if_neg (by simp)]
    · rw [List.drop_eq_nil_of_le (by omega)] at hi; cases hi
  | d + 1, k, s, hk, hs => by
    have hlt : k < O.length := by omega
    obtain ⟨i, hi, hin⟩ := hm (at0 O k) (by rw [at0_get hlt]; exact List.getElem_mem _)
    have hit : (at0 O k).toNat = i := by omega
    rw [loopE]
    by_cases hg : 100000 < wrap64 ((bAt s i).w + x) ∨ 1048576 < wrap64 ((bAt s i).u + 1)
    · refine .inr ?_
      have e : rtF O x k s = .inr 11 := by unfold rtF; rw [hit, if_pos hg]
      rw [e]
    · have e : rtF O x k s = .inl (s.set i ⟨(bAt s i).l, wrap64 ((bAt s i).w + x), wrap64 ((bAt s i).u + 1), ⟨#[]⟩⟩) := by unfold rtF; rw [hit, if_neg hg]
      rw [e]
      rcases rt_loop x n ha hm d (k + 1) (s.set i ⟨(bAt s i).l, wrap64 ((bAt s i).w + x), wrap64 ((bAt s i).u + 1), ⟨#[]⟩⟩) (by omega) (by rw [List.length_set]; exact hs) with ⟨R, h1, h2⟩ | h1
      · refine .inl ⟨R, h1, by rw [h2.len, List.length_set], fun j => ?_, fun j hj => ?_⟩
        · have h3 := h2.at1 j
          rw [bAt_set (by omega)] at h3
          rw [h3, drop_at0 hlt, hi]
          have hnd : (i : Int) ∉ O.drop (k + 1) := fun hx => by
            have hp : (O.drop k).Pairwise (· < ·) := ha.sublist (List.drop_sublist _ _)
            rw [drop_at0 hlt, List.pairwise_cons, hi] at hp
            have := hp.1 _ hx; omega
          by_cases ej : i = j
          · subst ej
            rw [if_neg hnd, if_pos rfl, if_pos (by simp)]
          · rw [if_neg ej]
            have : ((j : Int) ∈ ((i : Int) :: O.drop (k + 1))) ↔ (j : Int) ∈ O.drop (k + 1) := by
              rw [List.mem_cons]; constructor
              · rintro (h | h)
                · omega
                · exact h
              · exact .inr
            simp only [this]
        · rw [drop_at0 hlt, hi, List.mem_cons] at hj
          have h3 := h2.bd j
          rw [bAt_set (by omega)] at h3
          by_cases ej : i = j
          · subst ej; omega
          · rw [if_neg ej] at h3
            rcases hj with h | h
            · omega
            · exact h3 h
      · exact .inr h1
theorem rt_ok {O : List Int} {B : List B5} (x : Int) (ha : O.Pairwise (· < ·)) (hm : ∀ y, y ∈ O → ∃ i : Nat, y = i ∧ i < B.length) :
    (∃ R, rtX B O x = .inl R ∧ Back B R O x) ∨ rtX B O x = .inr 11 := by
  have := rt_loop x B.length ha hm O.length 0 B (by omega) rfl
  rwa [List.drop_zero] at this

theorem Took.hold {m : Int} {bs B : List B5} {who : ByteArray} {l : Int} {O : List Int} (h : Took m bs who l B O) : pickL (heldP who) B = O := by
  refine asc_ext (pick_asc _) h.asc fun x => ?_
  rw [pickL, pickTo_mem]
  constructor
  · rintro ⟨i, h1, rfl, h2⟩
    rw [heldP_iff, h.at1 i] at h2
    by_cases e : (i : Int) ∈ O
    · exact e
    · rw [if_neg e] at h2
      exact absurd h2 (h.held i (by have := h.len; omega))
  · intro hx
    obtain ⟨i, rfl, h1, _⟩ := h.mem x hx
    refine ⟨i, by have := h.len; omega, rfl, ?_⟩
    rw [heldP_iff, h.at1 i, if_pos hx]
theorem Took.ne {m : Int} {bs B : List B5} {who : ByteArray} {l : Int} {O : List Int} (h : Took m bs who l B O) : O.length ≠ 0 := by
  have hf := h.few
  rw [← h.fewl]
  unfold fewE at hf
  split at hf
  · rename_i hg
    split at hf
    · rename_i hr
      obtain ⟨hz, h1, _⟩ := gvn_zero hg
      unfold fewL
      rw [if_pos ⟨hg, hr⟩]
      exact best_ne hz hr (by omega)
    · cases hf
  · rename_i hg; exact absurd hf hg
theorem Took.nm {m : Int} {bs B : List B5} {who : ByteArray} {l : Int} {O : List Int} (h : Took m bs who l B O) : nmS m B who = 0 := by
  unfold nmS; rw [if_pos ((chkS_zero _ _).2 h.right)]; exact h.name
theorem Took.ret {m : Int} {bs B : List B5} {who : ByteArray} {l : Int} {O : List Int} (h : Took m bs who l B O) {x : Int} (hx : 0 ≤ x ∧ x ≤ 100000) :
    (∃ R, Back B R O x ∧ rtE m B who x = 0 ∧ rtB m B who x = R) ∨ rtE m B who x = 11 := by
  have e : rtE m B who x = rtR2 (rtX B O x) := by
    unfold rtE; rw [if_pos h.nm, if_pos (inB_iff.2 hx), h.hold, if_neg h.ne]
  rcases rt_ok (B := B) x h.asc (fun y hy => by obtain ⟨i, h1, h2, _⟩ := h.mem y hy; exact ⟨i, h1, by have := h.len; omega⟩) with ⟨R, h1, h2⟩ | h1
  · rw [h1] at e
    have e : rtE m B who x = 0 := e
    exact .inl ⟨R, h2, e, by unfold rtB; rw [if_pos e, h.hold, h1]; rfl⟩
  · rw [h1] at e; exact .inr e

/-! ### Deviation -/
theorem dev_loop {L : List Int} {bs : List B5} (hw : ∀ y, y ∈ L → 0 ≤ (bAt bs y.toNat).w ∧ (bAt bs y.toNat).w ≤ 100000) :
    ∀ (d k : Nat) (s : Int), k + d = L.length → 0 ≤ s → s + d * 100000 ≤ 4611686018427387904 → loopE (devF bs L) d k s = .inl (s + ((L.drop k).map fun j => (bAt bs j.toNat).w).sum)
  | 0, k, s, hk, _, _ => by rw [List.drop_eq_nil_of_le (by omega)]; simp [loopE]
  | d + 1, k, s, hk, h0, h1 => by
    have hlt : k < L.length := by omega
    have hb := hw (at0 L k) (by rw [at0_get hlt]; exact List.getElem_mem _)
    have e : devF bs L k s = .inl (s + (bAt bs (at0 L k).toNat).w) := by
      unfold devF; rw [show wrap64 (s + (bAt bs (at0 L k).toNat).w) = s + (bAt bs (at0 L k).toNat).w from by unfold wrap64; omega]
    rw [loopE, e, drop_at0 hlt, List.map_cons, List.sum_cons]
    show loopE (devF bs L) d (k + 1) _ = _
    rw [dev_loop hw d (k + 1) _ (by omega) (by omega) (by omega), Int.add_assoc]
theorem Took.dev {m : Int} {bs B : List B5} {who : ByteArray} {l : Int} {O : List Int} (h : Took m bs who l B O) : devE m B who = 0 ∧ devN m B who = psum (fun i => (bAt bs i).w) O bs.length := by
  unfold devE devN
  rw [if_pos h.nm, if_pos h.nm, h.hold, if_neg h.ne, if_neg h.ne]
  refine ⟨rfl, ?_⟩
  have hO : O.length ≤ 256 := by
    have h1 := h.fewl; have h2 := fewL_length' (tkSet m bs) l
    have h3 : (tkSet m bs).length ≤ bs.length := Nat.le_trans (Nat.le_of_eq (lensTo_length _ _ _)) (pickTo_length _ _ _)
    have := h.rbs.2.1; omega
  have hB : ∀ y, y ∈ O → (bAt B y.toNat).w = (bAt bs y.toNat).w := fun y hy => by
    obtain ⟨i, rfl, _, _⟩ := h.mem y hy
    rw [Int.toNat_natCast, h.at1 i, if_pos hy]
  unfold devS
  rw [dev_loop (fun y hy => by
    rw [hB y hy]
    obtain ⟨i, rfl, h1, _⟩ := h.mem y hy
    exact (h.rbs.2.2 i h1).1.2.1) _ _ _ (by omega) (by omega) (by omega)]
  rw [psum_list _ _ _ O rfl h.asc (fun y hy => by obtain ⟨i, h1, h2, _⟩ := h.mem y hy; exact ⟨i, h1, h2⟩), List.drop_zero]
  show 0 + _ = _
  rw [Int.zero_add]
  congr 1
  exact List.map_congr_left hB
end Go.Proofs.YteoniejpfmeibaaDoor
