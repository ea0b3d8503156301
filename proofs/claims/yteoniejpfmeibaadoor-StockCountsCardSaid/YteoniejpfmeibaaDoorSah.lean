/- Plain laws of stocks: what is returned with wear is not free; what is replaced is, and can be taken again. -/
import Derived.Test.YteoniejpfmeibaaDoorSaf
namespace Go.Proofs.YteoniejpfmeibaaDoor
open Go.RowKit

theorem RightS.asc {m : Int} {bs : List B5} (h : RightS m bs) : ∀ d j, j + d + 1 < bs.length → (bAt bs j).l < (bAt bs (j + d + 1)).l
  | 0, j, hk => by have := (h.2.2 (j + 1) (by omega)).2 (by omega); simpa using this
  | d + 1, j, hk => by
    have h1 := RightS.asc h d j (by omega)
    have h2 := (h.2.2 (j + d + 2) (by omega)).2 (by omega)
    rw [show j + d + 2 - 1 = j + d + 1 from by omega] at h2
    have : j + (d + 1) + 1 = j + d + 2 := by omega
    rw [this]; omega
theorem RightS.uniq {m : Int} {bs : List B5} (h : RightS m bs) {i j : Nat} (hi : i < bs.length) (hj : j < bs.length) (e : (bAt bs i).l = (bAt bs j).l) : i = j := by
  rcases Nat.lt_trichotomy i j with hl | hl | hl
  · have := h.asc (j - i - 1) i (by omega)
    rw [show i + (j - i - 1) + 1 = j from by omega] at this; omega
  · exact hl
  · have := h.asc (i - j - 1) j (by omega)
    rw [show j + (i - j - 1) + 1 = i from by omega] at this; omega
theorem pickTo_congr {p : B5 → Bool} {a b : List B5} : ∀ n, (∀ i, i < n → p (bAt a i) = p (bAt b i)) → pickTo p a n = pickTo p b n
  | 0, _ => rfl
  | n + 1, h => by rw [pickTo, pickTo, pickTo_congr n (fun i hi => h i (by omega)), h n (by omega)]
theorem lensTo_congr {a b : List B5} {F : List Int} (h : ∀ i, (bAt a i).l = (bAt b i).l) : ∀ n, lensTo a F n = lensTo b F n
  | 0 => rfl
  | n + 1 => by rw [lensTo, lensTo, lensTo_congr h n, h]
theorem ltrE_size {s : ByteArray} (h : ltrE s = 0) : s.size ≤ 24 := by
  unfold ltrE at h; split at h
  · split at h
    · assumption
    · cases h
  · cases h
theorem RightS.strOk {m : Int} {bs : List B5} (h : RightS m bs) : StrOk bs := fun i hi => by
  have := ltrE_size (h.2.2 i hi).1.2.2.2.1; omega
theorem empty_ok : ltrE ⟨#[]⟩ = 0 := ltrE_empty rfl

theorem Took.back_at {m : Int} {bs B G : List B5} {who : ByteArray} {l x : Int} {O : List Int} (h : Took m bs who l B O) (b : Back B G O x) (hx : 0 ≤ x ∧ x ≤ 100000) {i : Nat} (hi : i < bs.length) :
    bAt G i = if (i : Int) ∈ O then ⟨(bAt bs i).l, (bAt bs i).w + x, (bAt bs i).u + 1, ⟨#[]⟩⟩ else bAt bs i := by
  have h1 := (h.rbs.2.2 i hi).1
  rw [b.at1 i]
  split
  · rename_i hm
    rw [h.at1 i, if_pos hm]
    show (⟨(bAt bs i).l, wrap64 ((bAt bs i).w + x), wrap64 ((bAt bs i).u + 1), ⟨#[]⟩⟩ : B5) = _
    have e1 : wrap64 ((bAt bs i).w + x) = (bAt bs i).w + x := by have := h1.2.1; unfold wrap64; omega
    have e2 : wrap64 ((bAt bs i).u + 1) = (bAt bs i).u + 1 := by have := h1.2.2.1; unfold wrap64; omega
    rw [e1, e2]
  · rename_i hm
    rw [h.at1 i, if_neg hm]
theorem Took.back_bd {m : Int} {bs B G : List B5} {who : ByteArray} {l x : Int} {O : List Int} (h : Took m bs who l B O) (b : Back B G O x) (hx : 0 ≤ x ∧ x ≤ 100000) {i : Nat} (hi : i < bs.length) (hm : (i : Int) ∈ O) :
    (bAt bs i).w + x ≤ 100000 ∧ (bAt bs i).u + 1 ≤ 1048576 := by
  have h1 := (h.rbs.2.2 i hi).1
  have h2 := b.bd i hm
  rw [h.at1 i, if_pos hm] at h2
  simp only at h2
  have e1 : wrap64 ((bAt bs i).w + x) = (bAt bs i).w + x := by have := h1.2.1; unfold wrap64; omega
  have e2 : wrap64 ((bAt bs i).u + 1) = (bAt bs i).u + 1 := by have := h1.2.2.1; unfold wrap64; omega
  rw [e1, e2] at h2; exact h2
theorem Took.back_right {m : Int} {bs B G : List B5} {who : ByteArray} {l x : Int} {O : List Int} (h : Took m bs who l B O) (b : Back B G O x) (hx : 0 ≤ x ∧ x ≤ 100000) : RightS m G := by
  refine h.rbs.point (b.len.trans h.len) fun i hi => ?_
  have h1 := (h.rbs.2.2 i hi).1
  rw [h.back_at b hx hi]
  split
  · rename_i hm
    have h2 := h.back_bd b hx hi hm
    exact ⟨rfl, h1.1, ⟨by have := h1.2.1.1; show 0 ≤ (bAt bs i).w + x; omega, h2.1⟩, ⟨by have := h1.2.2.1.1; show 0 ≤ (bAt bs i).u + 1; omega, h2.2⟩, empty_ok, fun _ => rfl⟩
  · exact ⟨rfl, h1⟩

/-! ### replacing what was returned -/
def rpTo (bs G : List B5) (O : List Int) : Nat → List B5
  | 0 => G
  | k + 1 => (rpTo bs G O k).set (at0 O k).toNat ⟨(bAt bs (at0 O k).toNat).l, 0, 0, ⟨#[]⟩⟩
theorem rpTo_length (bs G : List B5) (O : List Int) : ∀ k, (rpTo bs G O k).length = G.length
  | 0 => rfl
  | k + 1 => by rw [rpTo, List.length_set, rpTo_length bs G O k]
theorem take_at0 {L : List Int} {k : Nat} (h : k < L.length) : L.take (k + 1) = L.take k ++ [at0 L k] := by
  rw [at0_get h]; exact List.take_succ_eq_append_getElem h
theorem rpTo_at {bs G : List B5} {O : List Int} (hm : ∀ x, x ∈ O → ∃ i : Nat, x = i ∧ i < G.length) (i : Nat) : ∀ k, k ≤ O.length → bAt (rpTo bs G O k) i = if (i : Int) ∈ O.take k then ⟨(bAt bs i).l, 0, 0, ⟨#[]⟩⟩ else bAt G i
  | 0, _ => by rw [rpTo, List.take_zero, if_neg (by simp)]
  | k + 1, hk => by
    have hlt : k < O.length := by omega
    obtain ⟨j, hj, hjn⟩ := hm (at0 O k) (by rw [at0_get hlt]; exact List.getElem_mem _)
    have hjt : (at0 O k).toNat = j := by omega
    rw [rpTo, hjt, bAt_set (by rw [rpTo_length]; exact hjn), rpTo_at hm i k (by omega), take_at0 hlt, hj]
    by_cases e : j = i
    · subst e; rw [if_pos rfl, if_pos (by simp)]
    · rw [if_neg e]
      have : ((i : Int) ∈ O.take k ++ [(j : Int)]) ↔ (i : Int) ∈ O.take k := by
        rw [List.mem_append, List.mem_singleton]; constructor
        · rintro (h | h)
          · exact h
          · omega
        · exact .inl
      simp only [this]
structure Rep (m : Int) (bs G : List B5) (O : List Int) : Prop where
  mem : ∀ x, x ∈ O → ∃ i : Nat, x = i ∧ i < G.length
  asc : O.Pairwise (· < ·)
  right : RightS m G
  lens : ∀ i, i < G.length → (bAt G i).l = (bAt bs i).l
  empty : ∀ i : Nat, (i : Int) ∈ O → (bAt G i).h.size = 0
theorem Rep.rights {m : Int} {bs G : List B5} {O : List Int} (h : Rep m bs G O) {k : Nat} (hk : k ≤ O.length) : RightS m (rpTo bs G O k) := by
  refine h.right.point (rpTo_length _ _ _ _) fun i hi => ?_
  have h1 := (h.right.2.2 i hi).1
  have h2 := h.right.1
  rw [rpTo_at h.mem i k hk]
  split
  · refine ⟨(h.lens i hi).symm, ?_, ⟨Int.le_refl 0, by show (0 : Int) ≤ 100000; omega⟩, ⟨Int.le_refl 0, by show (0 : Int) ≤ 1048576; omega⟩, empty_ok, fun _ => rfl⟩
    show 1 ≤ (bAt bs i).l ∧ _
    rw [← h.lens i hi]; exact h1.1
  · exact ⟨rfl, h1⟩
theorem Rep.step {m : Int} {bs G : List B5} {O : List Int} (h : Rep m bs G O) {k i : Nat} (hk : k < O.length) (hi : at0 O k = i) :
    rsE m (rpTo bs G O k) (bAt bs i).l = 0 ∧ rpB m (rpTo bs G O k) (bAt bs i).l = rpTo bs G O (k + 1) := by
  have hr := h.rights (k := k) (by omega)
  have him : (i : Int) ∈ O := by rw [← hi, at0_get hk]; exact List.getElem_mem _
  obtain ⟨j, e, hin⟩ := h.mem _ him
  obtain rfl : i = j := by omega
  have hln := rpTo_length bs G O k
  have hat := rpTo_at (bs := bs) h.mem
  have hpl : plL (bAt bs i).l (rpTo bs G O k) = [(i : Int)] := by
    refine asc_ext (pick_asc _) (List.pairwise_singleton _ _) fun x => ?_
    rw [plL, pickL, pickTo_mem, List.mem_singleton]
    have hil : (bAt (rpTo bs G O k) i).l = (bAt bs i).l := by
      rw [hat i k (by omega)]; split
      · rfl
      · exact h.lens i hin
    constructor
    · rintro ⟨j, h1, rfl, h2⟩
      have h3 : (bAt (rpTo bs G O k) j).l = (bAt bs i).l := by simpa [lenP] using h2
      have := hr.uniq h1 (by omega) (h3.trans hil.symm)
      omega
    · rintro rfl
      exact ⟨i, by omega, rfl, by simp [lenP, hil]⟩
  have hhs : (bAt (rpTo bs G O k) i).h.size = 0 := by
    rw [hat i k (by omega)]; split
    · rfl
    · exact h.empty i him
  have hE : rsE m (rpTo bs G O k) (bAt bs i).l = 0 := by
    unfold rsE
    rw [if_pos ((chkS_zero _ _).2 hr), hpl, if_neg (by simp)]
    rw [show (at0 [(i : Int)] 0).toNat = i from by simp [at0], if_pos hhs]
  refine ⟨hE, ?_⟩
  unfold rpB rsI
  rw [if_pos hE, hpl, rpTo, hi]
  simp [at0]
theorem Took.rep {m : Int} {bs B G : List B5} {who : ByteArray} {l x : Int} {O : List Int} (h : Took m bs who l B O) (b : Back B G O x) (hx : 0 ≤ x ∧ x ≤ 100000) : Rep m bs G O := by
  have hl : G.length = bs.length := b.len.trans h.len
  refine ⟨fun y hy => ?_, h.asc, h.back_right b hx, fun i hi => ?_, fun i hi => ?_⟩
  · obtain ⟨i, h1, h2, _⟩ := h.mem y hy; exact ⟨i, h1, by omega⟩
  · rw [h.back_at b hx (by omega)]; split <;> rfl
  · obtain ⟨j, h1, h2, _⟩ := h.mem _ hi
    rw [h.back_at b hx (show i < bs.length by omega), if_pos hi]; rfl
/-- What was returned with too much wear is not free. -/
theorem Took.worn {m : Int} {bs B G : List B5} {who : ByteArray} {l : Int} {O : List Int} (h : Took m bs who l B O) (b : Back B G O (m + 1)) (hx : 0 ≤ m + 1 ∧ m + 1 ≤ 100000) {y : Int} (hy : y ∈ O) : y ∉ pickL (freeP m) G := by
  intro hf
  obtain ⟨i, rfl, h1, _⟩ := h.mem y hy
  obtain ⟨j, h2, e, h3⟩ := (pickTo_mem _).1 hf
  obtain rfl : i = j := by omega
  rw [h.back_at b hx h1, if_pos hy, freeP_iff] at h3
  have := (h.rbs.2.2 i h1).1.2.1
  have h4 := h3.2
  simp only at h4
  omega
theorem Took.again {m : Int} {bs B G : List B5} {who : ByteArray} {l x : Int} {O : List Int} (h : Took m bs who l B O) (hO : tkO m bs who l = O) (b : Back B G O x) (hx : 0 ≤ x ∧ x ≤ 100000) :
    tkE m (rpTo bs G O O.length) who l = 0 ∧ tkO m (rpTo bs G O O.length) who l = O := by
  have hp := h.rep b hx
  have hl : G.length = bs.length := b.len.trans h.len
  have hr := hp.rights (Nat.le_refl _)
  have hln := rpTo_length bs G O O.length
  have hat : ∀ i, i < bs.length → bAt (rpTo bs G O O.length) i = if (i : Int) ∈ O then ⟨(bAt bs i).l, 0, 0, ⟨#[]⟩⟩ else bAt bs i := fun i hi => by
    rw [rpTo_at hp.mem i _ (Nat.le_refl _), List.take_length]
    split
    · rfl
    · rename_i hm; rw [h.back_at b hx hi, if_neg hm]
  have hlen : ∀ i, (bAt (rpTo bs G O O.length) i).l = (bAt bs i).l := fun i => by
    by_cases hi : i < bs.length
    · rw [hat i hi]; split <;> rfl
    · have e1 : bAt (rpTo bs G O O.length) i = ⟨0, 0, 0, ⟨#[]⟩⟩ := by unfold bAt; rw [List.getD_eq_getElem?_getD, List.getElem?_eq_none (by omega)]; rfl
      have e2 : bAt bs i = ⟨0, 0, 0, ⟨#[]⟩⟩ := by unfold bAt; rw [List.getD_eq_getElem?_getD, List.getElem?_eq_none (by omega)]; rfl
      rw [e1, e2]
  have hfree : pickL (freeP m) (rpTo bs G O O.length) = pickL (freeP m) bs := by
    unfold pickL
    rw [hln, hl]
    refine pickTo_congr _ fun i hi => ?_
    rw [hat i hi]
    split
    · rename_i hm
      obtain ⟨j, e, _, h3⟩ := h.mem _ hm
      obtain rfl : i = j := by omega
      obtain ⟨j, _, e, h4⟩ := (pickTo_mem _).1 h3
      obtain rfl : i = j := by omega
      rw [h4, freeP_iff]
      exact ⟨rfl, h.rbs.1.1⟩
    · rfl
  have hset : tkSet m (rpTo bs G O O.length) = tkSet m bs := by
    unfold tkSet lensL
    rw [hfree]
    exact lensTo_congr hlen _
  have hheld : pickL (heldP who) (rpTo bs G O O.length) = [] := by
    refine List.eq_nil_iff_forall_not_mem.2 fun y hy => ?_
    obtain ⟨i, h1, rfl, h2⟩ := (pickTo_mem _).1 hy
    rw [hat i (by omega), heldP_iff] at h2
    split at h2
    · have := (namE_zero h.name).1
      rw [← h2] at this
      exact this rfl
    · exact h.held i (by omega) h2
  have hE : tkE m (rpTo bs G O O.length) who l = 0 := by
    unfold tkE nmS
    rw [if_pos ((chkS_zero _ _).2 hr), if_pos h.name, hheld, if_pos (show ([] : List Int).length = 0 from rfl), hset]
    exact h.few
  refine ⟨hE, ?_⟩
  have hE0 : tkE m bs who l = 0 := by
    by_cases e : tkE m bs who l = 0
    · exact e
    · unfold tkO at hO
      rw [if_neg e] at hO
      exact absurd (by rw [← hO]; rfl) h.ne
  have e1 : tkO m bs who l = tkOut (pickL (freeP m) bs) (fewL (tkSet m bs) l) (fewL (tkSet m bs) l).length := by unfold tkO; rw [if_pos hE0]
  have e2 : tkO m (rpTo bs G O O.length) who l = tkOut (pickL (freeP m) bs) (fewL (tkSet m bs) l) (fewL (tkSet m bs) l).length := by unfold tkO; rw [if_pos hE, hset, hfree]
  rw [e2, ← e1, hO]
end Go.Proofs.YteoniejpfmeibaaDoor
