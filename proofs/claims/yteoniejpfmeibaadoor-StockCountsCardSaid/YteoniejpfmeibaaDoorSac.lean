/- Plain laws of stocks: right stocks, what Take changes, what the blocks that were taken add up to. -/
import Derived.Test.YteoniejpfmeibaaDoorSm
namespace Go.Proofs.YteoniejpfmeibaaDoor
open Go.RowKit

/-! ### right stocks -/
def OkB (m : Int) (b : B5) : Prop := (1 ≤ b.l ∧ b.l ≤ 100000) ∧ (0 ≤ b.w ∧ b.w ≤ 100000) ∧ (0 ≤ b.u ∧ b.u ≤ 1048576) ∧ ltrE b.h = 0 ∧ (m < b.w → b.h.size = 0)
def RightS (m : Int) (bs : List B5) : Prop := (0 ≤ m ∧ m ≤ 100000) ∧ bs.length ≤ 256 ∧ ∀ i, i < bs.length → OkB m (bAt bs i) ∧ (0 < i → (bAt bs (i - 1)).l < (bAt bs i).l)
theorem inB_false {n a b : Int} : inB n a b = false ↔ ¬ (a ≤ n ∧ n ≤ b) := by rw [← inB_iff]; simp
theorem ltrE_cases (s : ByteArray) : ltrE s = 0 ∨ ltrE s = 17 ∨ ltrE s = 3 := by
  unfold ltrE; split
  · split
    · exact .inl rfl
    · exact .inr (.inl rfl)
  · exact .inr (.inr rfl)
theorem ckS_inl (m : Int) (bs : List B5) (i : Nat) : ckS m bs i () = .inl () ↔ OkB m (bAt bs i) ∧ (0 < i → (bAt bs (i - 1)).l < (bAt bs i).l) := by
  unfold ckS OkB
  constructor
  · intro h
    split at h
    · cases h
    · rename_i h1
      split at h
      · cases h
      · rename_i h2
        split at h
        · cases h
        · rename_i h3
          split at h
          · cases h
          · rename_i h4
            rw [inB_false, inB_false, inB_false] at h1
            refine ⟨⟨by omega, by omega, by omega, by omega, fun h5 => ?_⟩, fun h5 => by omega⟩
            by_cases e : (bAt bs i).h.size = 0
            · exact e
            · exact absurd ⟨h5, e⟩ h4
  · rintro ⟨⟨h1, h2, h3, h4, h5⟩, h6⟩
    rw [if_neg (by rw [inB_false, inB_false, inB_false]; omega), if_neg (fun h => by have := h6 h.1; omega), if_neg (by omega), if_neg (fun h => h.2 (h5 h.1))]
theorem ckS_inr {m : Int} {bs : List B5} {i : Nat} {r : Int} (h : ckS m bs i () = .inr r) : r ≠ 0 := by
  unfold ckS at h
  have hl := ltrE_cases (bAt bs i).h
  split at h
  · cases h; omega
  · split at h
    · cases h; omega
    · split at h
      · cases h; omega
      · split at h
        · cases h; omega
        · cases h
theorem chkS_zero (m : Int) (bs : List B5) : chkS m bs = 0 ↔ RightS m bs := by
  unfold chkS RightS
  by_cases h1 : inB m 0 100000 = true
  · rw [if_pos h1]
    have h1' := inB_iff.1 h1
    by_cases h2 : 256 < bs.length
    · rw [if_pos h2]; constructor
      · intro h; cases h
      · rintro ⟨_, h, _⟩; omega
    · rw [if_neg h2]
      cases h : loopE (ckS m bs) bs.length 0 () with
      | inl u =>
        have h3 := (loopE_unit _ _).1 h
        constructor
        · intro _; exact ⟨h1', by omega, fun i hi => (ckS_inl m bs i).1 (h3 i (Nat.zero_le _) (by omega))⟩
        · intro _; rfl
      | inr r =>
        obtain ⟨j, _, hj, hf⟩ := loopE_unit_inr _ _ h
        constructor
        · intro h4; exact absurd h4 (ckS_inr hf)
        · rintro ⟨_, _, h4⟩
          have := (ckS_inl m bs j).2 (h4 j (by omega))
          rw [this] at hf; cases hf
  · rw [if_neg h1]
    constructor
    · intro h; cases h
    · rintro ⟨h, _⟩; exact absurd (inB_iff.2 h) h1
theorem RightS.point {m : Int} {bs B : List B5} (h : RightS m bs) (hl : B.length = bs.length) (hp : ∀ i, i < bs.length → (bAt B i).l = (bAt bs i).l ∧ OkB m (bAt B i)) : RightS m B := by
  refine ⟨h.1, by have := h.2.1; omega, fun i hi => ⟨(hp i (by omega)).2, fun h0 => ?_⟩⟩
  rw [(hp (i - 1) (by omega)).1, (hp i (by omega)).1]
  exact (h.2.2 i (by omega)).2 h0
theorem namE_zero {s : ByteArray} (h : namE s = 0) : s.size ≠ 0 ∧ ltrE s = 0 := by
  unfold namE at h; split at h
  · cases h
  · rename_i h1; exact ⟨h1, h⟩
theorem bytes_ext {s t : ByteArray} (h : s.toList = t.toList) : s = t := by
  rw [Lib.toList_data, Lib.toList_data] at h
  exact ByteArray.ext (Array.toList_inj.1 h)
theorem bytes_nil {s : ByteArray} (h : s.size = 0) : s = ⟨#[]⟩ := by
  refine ByteArray.ext (Array.toList_inj.1 ?_)
  exact List.length_eq_zero_iff.1 (by simpa using h)
theorem heldP_iff {who : ByteArray} {b : B5} : heldP who b = true ↔ b.h = who := by
  unfold heldP
  rw [beq_iff_eq]
  exact ⟨bytes_ext, fun h => by rw [h]⟩
theorem freeP_iff {m : Int} {b : B5} : freeP m b = true ↔ b.h.size = 0 ∧ b.w ≤ m := by simp [freeP]

/-! ### ascending lists -/
theorem pick_asc {p : B5 → Bool} {bs : List B5} : ∀ n, (pickTo p bs n).Pairwise (· < ·)
  | 0 => List.Pairwise.nil
  | n + 1 => by
    rw [pickTo, List.pairwise_append]
    refine ⟨pick_asc n, by split <;> simp, fun a ha b hb => ?_⟩
    obtain ⟨i, h1, h2, _⟩ := (pickTo_mem n).1 ha
    split at hb
    · simp at hb; omega
    · simp at hb
theorem at0_get {l : List Int} {j : Nat} (h : j < l.length) : at0 l j = l[j] := by unfold at0; rw [List.getD_eq_getElem?_getD, List.getElem?_eq_getElem h]; rfl
theorem at0_asc {l : List Int} (h : l.Pairwise (· < ·)) {j k : Nat} (hjk : j < k) (hk : k < l.length) : at0 l j < at0 l k := by
  rw [at0_get (by omega), at0_get hk]
  exact List.pairwise_iff_getElem.1 h j k (by omega) hk hjk
theorem asc_pw : ∀ {l : List Int}, (∀ j k, j < k → k < l.length → at0 l j < at0 l k) → l.Pairwise (· < ·) := by
  intro l h
  rw [List.pairwise_iff_getElem]
  intro i j hi hj hij
  have := h i j hij hj
  rwa [at0_get hi, at0_get hj] at this
theorem StI_asc {n i : Nat} {l : List Int} (h : StI n i l) : ∀ d j, j + d + 1 < l.length → at0 l j < at0 l (j + d + 1)
  | 0, j, hk => by have := (h (j + 1) (by omega)).2 (by omega); simpa using this
  | d + 1, j, hk => by
    have h1 := StI_asc h d j (by omega)
    have h2 := (h (j + d + 2) (by omega)).2 (by omega)
    rw [show j + d + 2 - 1 = j + d + 1 from by omega] at h2
    have : j + (d + 1) + 1 = j + d + 2 := by omega
    rw [this]; omega
/-- Two ascending lists with the same numbers are one list. -/
theorem asc_ext : ∀ {a b : List Int}, a.Pairwise (· < ·) → b.Pairwise (· < ·) → (∀ x, x ∈ a ↔ x ∈ b) → a = b
  | [], [], _, _, _ => rfl
  | [], y :: b, _, _, h => absurd ((h y).2 (by simp)) (by simp)
  | x :: a, [], _, _, h => absurd ((h x).1 (by simp)) (by simp)
  | x :: a, y :: b, ha, hb, h => by
    rw [List.pairwise_cons] at ha hb
    have hxy : x = y := by
      have h1 := (h x).1 (by simp)
      have h2 := (h y).2 (by simp)
      rcases List.mem_cons.1 h1 with e | e
      · exact e
      · rcases List.mem_cons.1 h2 with e2 | e2
        · exact e2.symm
        · have := hb.1 x e; have := ha.1 y e2; omega
    subst hxy
    rw [asc_ext ha.2 hb.2 fun z => ?_]
    constructor
    · intro hz
      have := ha.1 z hz
      rcases List.mem_cons.1 ((h z).1 (by simp [hz])) with e | e
      · omega
      · exact e
    · intro hz
      have := hb.1 z hz
      rcases List.mem_cons.1 ((h z).2 (by simp [hz])) with e | e
      · omega
      · exact e

/-! ### what Take changes -/
/-- The facts of a stack of free blocks: all of it is there. -/
def StkOk (bs : List B5) (F S : List Int) : Prop := F.Pairwise (· < ·) ∧ (∀ j, j < F.length → ∃ i : Nat, at0 F j = i ∧ i < bs.length) ∧ StI F.length 0 S
theorem StkOk.at {bs : List B5} {F S : List Int} (h : StkOk bs F S) {k : Nat} (hk : k < S.length) : (tkI F S k : Int) = at0 F (at0 S k).toNat ∧ tkI F S k < bs.length ∧ (at0 S k).toNat < F.length := by
  obtain ⟨h1, h2⟩ := (h.2.2 k hk).1
  obtain ⟨i, h3, h4⟩ := h.2.1 (at0 S k).toNat (by omega)
  unfold tkI
  rw [h3, Int.toNat_natCast]
  exact ⟨rfl, h4, by omega⟩
theorem StkOk.lt {bs : List B5} {F S : List Int} (h : StkOk bs F S) {j k : Nat} (hjk : j < k) (hk : k < S.length) : tkI F S j < tkI F S k := by
  have a := h.at (k := j) (by omega)
  have b := h.at hk
  have c := StI_asc h.2.2 (k - j - 1) j (by omega)
  rw [show j + (k - j - 1) + 1 = k from by omega] at c
  have d := (h.2.2 j (by omega)).1
  have e := (h.2.2 k hk).1
  have f := at0_asc h.1 (j := (at0 S j).toNat) (k := (at0 S k).toNat) (by omega) (by omega)
  omega
theorem tkOut_mem {F S : List Int} {x : Int} : ∀ k, x ∈ tkOut F S k ↔ ∃ j, j < k ∧ x = tkI F S j
  | 0 => by simp [tkOut]
  | k + 1 => by
    rw [tkOut, List.mem_append, tkOut_mem k, List.mem_singleton]
    constructor
    · rintro (⟨j, h1, h2⟩ | h)
      · exact ⟨j, by omega, h2⟩
      · exact ⟨k, by omega, h⟩
    · rintro ⟨j, h1, h2⟩
      by_cases e : j = k
      · subst e; exact .inr h2
      · exact .inl ⟨j, by omega, h2⟩
theorem tkOut_asc {bs : List B5} {F S : List Int} (h : StkOk bs F S) : ∀ k, k ≤ S.length → (tkOut F S k).Pairwise (· < ·)
  | 0, _ => List.Pairwise.nil
  | k + 1, hk => by
    rw [tkOut, List.pairwise_append]
    refine ⟨tkOut_asc h k (by omega), by simp, fun a ha b hb => ?_⟩
    obtain ⟨j, h1, h2⟩ := (tkOut_mem k).1 ha
    rw [List.mem_singleton] at hb
    have := h.lt h1 (by omega)
    omega
theorem tkTo_at {bs : List B5} {F S : List Int} {who : ByteArray} (h : StkOk bs F S) (i : Nat) : ∀ k, k ≤ S.length → bAt (tkTo bs F S who k) i = if (i : Int) ∈ tkOut F S k then { bAt bs i with h := who } else bAt bs i
  | 0, _ => by rw [tkTo, tkOut, if_neg (by simp)]
  | k + 1, hk => by
    have ih := tkTo_at (who := who) h i k (by omega)
    have hi := (h.at (k := k) (by omega)).2.1
    rw [tkTo, bAt_set (by rw [tkTo_length]; exact hi), tkOut]
    by_cases e : tkI F S k = i
    · rw [if_pos e, if_pos (by rw [List.mem_append, List.mem_singleton]; exact .inr (by omega)), e, ih]
      split <;> rfl
    · rw [if_neg e, ih]
      have : ((i : Int) ∈ tkOut F S k ++ [(tkI F S k : Int)]) ↔ (i : Int) ∈ tkOut F S k := by
        rw [List.mem_append, List.mem_singleton]; constructor
        · rintro (h | h)
          · exact h
          · omega
        · exact .inl
      simp only [this]

/-! ### sums -/
def rsum (g : Nat → Int) : Nat → Int
  | 0 => 0
  | n + 1 => rsum g n + g n
/-- The sum over the places of a list, up to one. -/
def psum (g : Nat → Int) (O : List Int) : Nat → Int
  | 0 => 0
  | n + 1 => psum g O n + if (n : Int) ∈ O then g n else 0
theorem psum_add (g : Nat → Int) (O : List Int) (x : Nat) (hx : (x : Int) ∉ O) : ∀ n, psum g (O ++ [(x : Int)]) n = psum g O n + if x < n then g x else 0
  | 0 => by simp [psum]
  | n + 1 => by
    rw [psum, psum, psum_add g O x hx n]
    by_cases e : n = x
    · subst e
      simp [hx]
    · have : ((n : Int) ∈ O ++ [(x : Int)]) ↔ (n : Int) ∈ O := by
        rw [List.mem_append, List.mem_singleton]; constructor
        · rintro (h | h)
          · exact h
          · omega
        · exact .inl
      simp only [this]
      by_cases h2 : x < n
      · rw [if_pos h2, if_pos (show x < n + 1 by omega)]; omega
      · rw [if_neg h2, if_neg (show ¬ x < n + 1 by omega)]; omega
theorem psum_nil (g : Nat → Int) : ∀ n, psum g [] n = 0
  | 0 => rfl
  | n + 1 => by rw [psum, psum_nil g n, if_neg (by simp)]; rfl
theorem psum_tkOut {bs : List B5} {F S : List Int} (h : StkOk bs F S) (g : Nat → Int) : ∀ k, k ≤ S.length → psum g (tkOut F S k) bs.length = rsum (fun j => g (tkI F S j)) k
  | 0, _ => psum_nil g _
  | k + 1, hk => by
    have hi := (h.at (k := k) (by omega)).2.1
    rw [tkOut, psum_add g _ _ (fun hm => ?_), psum_tkOut h g k (by omega), if_pos hi]; rfl
    obtain ⟨j, h1, h2⟩ := (tkOut_mem k).1 hm
    have := h.lt h1 (by omega)
    omega
theorem rsum_congr {g g' : Nat → Int} : ∀ n, (∀ j, j < n → g j = g' j) → rsum g n = rsum g' n
  | 0, _ => rfl
  | n + 1, h => by rw [rsum, rsum, rsum_congr n (fun j hj => h j (by omega)), h n (by omega)]
theorem rsum_succ' (g : Nat → Int) : ∀ n, rsum g (n + 1) = g 0 + rsum (fun j => g (j + 1)) n
  | 0 => by simp [rsum]
  | n + 1 => by rw [rsum, rsum_succ' g n, rsum]; omega
theorem sum_rsum : ∀ (l : List Int) (f : Int → Int), (l.map f).sum = rsum (fun j => f (at0 l j)) l.length
  | [], _ => rfl
  | a :: l, f => by
    rw [List.map_cons, List.sum_cons, sum_rsum l f, List.length_cons, rsum_succ']; rfl
theorem lensTo_at (bs : List B5) (F : List Int) : ∀ n j, j < n → at0 (lensTo bs F n) j = (bAt bs (at0 F j).toNat).l
  | 0, _, h => absurd h (by omega)
  | n + 1, j, h => by
    rw [lensTo]
    by_cases e : j = n
    · subst e
      have := at0_append_last' (lensTo bs F j) (bAt bs (at0 F j).toNat).l j (lensTo_length _ _ _).symm
      exact this
    · rw [at0_append_left _ _ _ (by rw [lensTo_length]; omega), lensTo_at bs F n j (by omega)]

/-! ### Take of a right stock -/
theorem tk_stk {m : Int} {bs : List B5} {l : Int} (hf : fewE (tkSet m bs) l = 0) : StkOk bs (pickL (freeP m) bs) (fewL (tkSet m bs) l) ∧ wsum (tkSet m bs) (fewL (tkSet m bs) l) = l := by
  unfold fewE at hf
  split at hf
  · rename_i hg
    split at hf
    · rename_i hr
      obtain ⟨hz, hl1, hl2⟩ := gvn_zero hg
      obtain ⟨h1, h2, _⟩ := best_ok hz hr
      have hlen : (tkSet m bs).length = (pickL (freeP m) bs).length := lensTo_length _ _ _
      have e : fewL (tkSet m bs) l = bestL (tkSet m bs) 0 l.toNat := by unfold fewL; rw [if_pos ⟨hg, hr⟩]
      rw [e]
      refine ⟨⟨pick_asc _, fun j hj => ?_, ?_⟩, by rw [h2]; omega⟩
      · obtain ⟨i, k1, k2, _⟩ := pick_bd hj; exact ⟨i, k1, k2⟩
      · rw [← hlen]; exact St_iff.1 h1
    · cases hf
  · rename_i hg; exact absurd hf hg
theorem tk_zero {m : Int} {bs : List B5} {who : ByteArray} {l : Int} (h : tkE m bs who l = 0) : RightS m bs ∧ namE who = 0 ∧ pickL (heldP who) bs = [] ∧ fewE (tkSet m bs) l = 0 := by
  unfold tkE at h
  split at h
  · rename_i h1
    split at h
    · rename_i h2
      have h3 := nmS_chk h1
      unfold nmS at h1
      rw [if_pos h3] at h1
      exact ⟨(chkS_zero _ _).1 h3, h1, List.length_eq_zero_iff.1 h2, h⟩
    · cases h
  · rename_i h1; exact absurd h h1
structure Took (m : Int) (bs : List B5) (who : ByteArray) (l : Int) (B : List B5) (O : List Int) : Prop where
  len : B.length = bs.length
  asc : O.Pairwise (· < ·)
  mem : ∀ x, x ∈ O → ∃ i : Nat, x = i ∧ i < bs.length ∧ (i : Int) ∈ pickL (freeP m) bs
  at1 : ∀ i : Nat, bAt B i = if (i : Int) ∈ O then { bAt bs i with h := who } else bAt bs i
  sum : psum (fun i => (bAt bs i).l) O bs.length = l
  right : RightS m B
  few : fewE (tkSet m bs) l = 0
  fewl : (fewL (tkSet m bs) l).length = O.length
  held : ∀ i, i < bs.length → (bAt bs i).h ≠ who
  name : namE who = 0
  rbs : RightS m bs
theorem took {m : Int} {bs : List B5} {who : ByteArray} {l : Int} (h : tkE m bs who l = 0) : Took m bs who l (tkB m bs who l) (tkO m bs who l) := by
  obtain ⟨hr, hn, hh, hf⟩ := tk_zero h
  obtain ⟨hs, hw⟩ := tk_stk hf
  have eB : tkB m bs who l = tkTo bs (pickL (freeP m) bs) (fewL (tkSet m bs) l) who (fewL (tkSet m bs) l).length := by unfold tkB; rw [if_pos h]
  have eO : tkO m bs who l = tkOut (pickL (freeP m) bs) (fewL (tkSet m bs) l) (fewL (tkSet m bs) l).length := by unfold tkO; rw [if_pos h]
  have hmem : ∀ x, x ∈ tkO m bs who l → ∃ i : Nat, x = i ∧ i < bs.length ∧ (i : Int) ∈ pickL (freeP m) bs := by
    intro x hx
    rw [eO] at hx
    obtain ⟨j, h1, rfl⟩ := (tkOut_mem _).1 hx
    obtain ⟨k1, k2, k3⟩ := hs.at h1
    refine ⟨_, rfl, k2, ?_⟩
    rw [k1, at0_get k3]; exact List.getElem_mem _
  have hat : ∀ i : Nat, bAt (tkB m bs who l) i = if (i : Int) ∈ tkO m bs who l then { bAt bs i with h := who } else bAt bs i := fun i => by
    rw [eB, eO]; exact tkTo_at hs i _ (Nat.le_refl _)
  have hlen : (tkB m bs who l).length = bs.length := by rw [eB, tkTo_length]
  refine ⟨hlen, by rw [eO]; exact tkOut_asc hs _ (Nat.le_refl _), hmem, hat, ?_, hr.point hlen fun i hi => ?_, hf, by rw [eO, tkOut_length], fun i hi e => ?_, hn, hr⟩
  · rw [eO, psum_tkOut hs _ _ (Nat.le_refl _)]
    refine Eq.trans ?_ hw
    unfold wsum
    rw [sum_rsum]
    refine rsum_congr _ fun j hj => ?_
    obtain ⟨k1, k2, k3⟩ := hs.at hj
    have e : at0 (tkSet m bs) (at0 (fewL (tkSet m bs) l) j).toNat = (bAt bs (at0 (pickL (freeP m) bs) (at0 (fewL (tkSet m bs) l) j).toNat).toNat).l := lensTo_at _ _ _ _ k3
    rw [e, ← k1, Int.toNat_natCast]
  · have hb := (hr.2.2 i hi).1
    rw [hat i]
    split
    · rename_i hi2
      obtain ⟨j, e1, _, h3⟩ := hmem _ hi2
      obtain rfl : i = j := by omega
      obtain ⟨j, _, e2, h4⟩ := (pickTo_mem _).1 h3
      obtain rfl : i = j := by omega
      have h5 := (freeP_iff.1 h4).2
      exact ⟨rfl, hb.1, hb.2.1, hb.2.2.1, (namE_zero hn).2, fun h6 => absurd h6 (by simpa using h5)⟩
    · exact ⟨rfl, hb⟩
  · have : (i : Int) ∈ pickL (heldP who) bs := (pickTo_mem _).2 ⟨i, hi, rfl, heldP_iff.2 e⟩
    rw [hh] at this; cases this
end Go.Proofs.YteoniejpfmeibaaDoor
