/- The plain law of BlocksReach: what is reached, and that no other stack verifies. -/
import Derived.Lib.SlicesCompact
import Derived.Test.YtdmolmdenfepkaaGc
import Derived.Test.YtdmolmdenfepkaaO
import Derived.Test.YtdmolmdenfepkaaGd
namespace Go.Proofs.Ytdmolmdenfepkaa
open Go.RowKit

theorem compact_asc (zs : List Int) (h : zs.Pairwise (· ≤ ·)) : (Lib.compact zs).Pairwise (· < ·) := by
  unfold Lib.compact Lib.compactUpTo
  rw [List.pairwise_map]
  have h1 : ((List.range zs.length).filter (Lib.keeps zs.toArray)).Pairwise (· < ·) := (List.pairwise_lt_range).sublist List.filter_sublist
  refine h1.imp_of_mem fun {i j} hi hj hij => ?_
  rw [List.mem_filter, List.mem_range] at hi hj
  have hk := hj.2
  have hj1 := hj.1
  have hle : ∀ a b, a ≤ b → b < zs.length → zs[a]! ≤ zs[b]! := by
    intro a b hab hb
    rw [getElem!_pos zs a (by omega), getElem!_pos zs b hb]
    by_cases e : a = b
    · subst e; exact Int.le_refl _
    · exact List.pairwise_iff_getElem.1 h a b (by omega) hb (by omega)
  have hne : zs[j]! ≠ zs[j - 1]! := by
    intro e
    have := Lib.keeps_neg (d := zs.toArray) (m := j) (by omega) (by simpa using e)
    rw [this] at hk; cases hk
  have h2 := hle i (j - 1) (by omega) (by omega)
  have h3 := hle (j - 1) j (by omega) hj1
  show zs.toArray[i]! < zs.toArray[j]!
  simp only [List.getElem!_toArray]
  omega
theorem compact_mem {zs : List Int} {x : Int} (h : x ∈ Lib.compact zs) : x ∈ zs := by
  unfold Lib.compact Lib.compactUpTo at h
  rw [List.mem_map] at h
  obtain ⟨j, hj, rfl⟩ := h
  rw [List.mem_filter, List.mem_range] at hj
  show zs.toArray[j]! ∈ zs
  rw [List.getElem!_toArray, getElem!_pos zs j hj.1]
  exact List.getElem_mem _
theorem compact_ne {zs : List Int} (h : 0 < zs.length) : 0 < (Lib.compact zs).length := by
  unfold Lib.compact Lib.compactUpTo
  rw [List.length_map]
  have : 0 ∈ (List.range zs.length).filter (Lib.keeps zs.toArray) := by
    rw [List.mem_filter, List.mem_range]; exact ⟨h, Lib.keeps_lt_one _ 0 (by omega)⟩
  exact List.length_pos_of_mem this
theorem sortL_pw (l : List Int) : (sortL l).Pairwise (· ≤ ·) := by
  have := List.pairwise_mergeSort (le := fun x y : Int => decide (x ≤ y)) (fun a b c => by simp only [decide_eq_true_eq]; omega) (fun a b => by simp only [Bool.or_eq_true, decide_eq_true_eq]; omega) l
  exact this.imp fun h => by simpa using h
theorem sortL_mem {l : List Int} {x : Int} : x ∈ sortL l ↔ x ∈ l := (List.mergeSort_perm l _).mem_iff

/-- The other stack. -/
def otherL (i k : Int) (s : List Int) : List Int := Lib.compact (sortL ([i, k] ++ s))
theorem other_St {zs s : List Int} {i k : Nat} (hs : St zs.length 0 s) (hi : i < zs.length) (hk : k < zs.length) : St zs.length 0 (otherL i k s) := by
  have ha := compact_asc _ (sortL_pw ([(i : Int), (k : Int)] ++ s))
  refine St_of _ _ 0 fun j hj => ⟨?_, fun h0 => ?_⟩
  · have hm : at0 (otherL i k s) j ∈ otherL i k s := mem_at0.2 ⟨j, hj, rfl⟩
    have h2 := sortL_mem.1 (compact_mem hm)
    rw [List.mem_append] at h2
    rcases h2 with h2 | h2
    · simp only [List.mem_cons, List.not_mem_nil, or_false] at h2; omega
    · obtain ⟨m, hm, he⟩ := mem_at0.1 h2
      have := (St_iff.1 hs m hm).1
      omega
  · have := List.pairwise_iff_getElem.1 ha (j - 1) j (by unfold otherL at hj; omega) hj (by omega)
    unfold otherL at hj
    unfold at0 otherL
    rw [List.getD_eq_getElem?_getD, List.getD_eq_getElem?_getD, List.getElem?_eq_getElem (by omega), List.getElem?_eq_getElem hj]
    exact this
theorem other_length (i k : Int) (s : List Int) : (otherL i k s).length ≤ s.length + 2 := by
  have := Lib.compact_length_le (sortL ([i, k] ++ s))
  rw [sortL_length] at this
  simp only [List.length_append, List.length_cons, List.length_nil] at this
  unfold otherL; omega

theorem reach_E {zs : List Int} {l most : Int} (hr : rgtB zs l = true) (h1 : 1 ≤ most) (h8 : most ≤ 8) :
    reaE zs most = 0 ∧ reaL zs most = rreaX zs most ∧ (reaL zs most).length ≤ 512 := by
  obtain ⟨g1, g2, g3, g4⟩ := rgtB_iff.1 hr
  have hz := (chk_zero zs).1 g2
  have h2 := reaX_eq hz g1 h8
  have h3 := (rea_full hz g1 h8).2
  have e : reaL zs most = rreaX zs most := by rw [reaL, if_pos g2, if_pos ⟨h1, h8⟩, h2]; rfl
  exact ⟨by rw [reaE, if_pos g2, if_pos ⟨h1, h8⟩, h2]; rfl, e, by rw [e]; exact h3⟩
theorem reach_asc {zs : List Int} {l most : Int} (hr : rgtB zs l = true) (h1 : 1 ≤ most) (h8 : most ≤ 8) : ∀ j, j < (reaL zs most).length → 0 < j → at0 (reaL zs most) (j - 1) < at0 (reaL zs most) j := by
  obtain ⟨g1, g2, g3, g4⟩ := rgtB_iff.1 hr
  have hz := (chk_zero zs).1 g2
  have ha := fullL_asc zs most 0 (reaW zs)
  rw [(rea_full hz g1 h8).1, ← (reach_E hr h1 h8).2.1] at ha
  intro j hj h0
  have := List.pairwise_iff_getElem.1 ha (j - 1) j (by omega) hj (by omega)
  unfold at0
  rw [List.getD_eq_getElem?_getD, List.getD_eq_getElem?_getD, List.getElem?_eq_getElem (by omega), List.getElem?_eq_getElem hj]
  exact this
theorem reach_mem {zs : List Int} {l most : Int} (hr : rgtB zs l = true) (h1 : 1 ≤ most) (h8 : most ≤ 8) : l ∈ reaL zs most ↔ fewE zs l = 0 ∧ ((fewL zs l).length : Int) ≤ most := by
  obtain ⟨g1, g2, g3, g4⟩ := rgtB_iff.1 hr
  have hz := (chk_zero zs).1 g2
  have hg : gvn zs l = 0 := by rw [gvn, if_pos g2, if_pos ((insB_iff l).2 ⟨g3, g4⟩)]
  rw [(reach_E hr h1 h8).2.1, rreaX_mem hz]
  constructor
  · rintro ⟨s, s1, s2, _, _, s3⟩
    have hb : reachB zs l.toNat = true := (reachB_iff hz _).2 ⟨s, s1, by omega⟩
    have hE : fewE zs l = 0 := by rw [fewE, if_pos hg, if_pos hb]
    obtain ⟨e1, hr1, e2⟩ := fewL_len hz hE
    obtain ⟨q1, q2, q3, q4⟩ := best_ok hz hr1
    rw [← e2] at q4
    have := (q4 s s1 (by omega)).1
    exact ⟨hE, by omega⟩
  · rintro ⟨hE, hle⟩
    obtain ⟨e1, hr1, e2⟩ := fewL_len hz hE
    obtain ⟨q1, q2, q3, q4⟩ := best_ok hz hr1
    rw [← e2] at q1 q2
    exact ⟨_, q1, hle, g3, g4, by omega⟩
theorem reach_few {zs : List Int} {l : Int} (hr : rgtB zs l = true) : fewE zs l = 0 ∨ fewE zs l = 6 := by
  obtain ⟨g1, g2, g3, g4⟩ := rgtB_iff.1 hr
  have hg : gvn zs l = 0 := by rw [gvn, if_pos g2, if_pos ((insB_iff l).2 ⟨g3, g4⟩)]
  rw [fewE, if_pos hg]; split <;> simp
theorem reach_St {zs : List Int} {l : Int} (hr : rgtB zs l = true) (hE : fewE zs l = 0) : St zs.length 0 (fewL zs l) := by
  obtain ⟨g1, g2, g3, g4⟩ := rgtB_iff.1 hr
  have hz := (chk_zero zs).1 g2
  obtain ⟨e1, hr1, e2⟩ := fewL_len hz hE
  obtain ⟨q1, q2, q3, q4⟩ := best_ok hz hr1
  rw [← e2] at q1
  exact q1
theorem reach_ver {zs t : List Int} {l : Int} (hr : rgtB zs l = true) (hE : fewE zs l = 0) (ht : St zs.length 0 t) : verE zs l t = if t = fewL zs l then 0 else 15 := by
  obtain ⟨g1, g2, g3, g4⟩ := rgtB_iff.1 hr
  have hz := (chk_zero zs).1 g2
  have hg : gvn zs l = 0 := by rw [gvn, if_pos g2, if_pos ((insB_iff l).2 ⟨g3, g4⟩)]
  obtain ⟨e1, hr1, e2⟩ := fewL_len hz hE
  have hb : fewL zs l = bestL zs 0 l.toNat := by rw [fewL, if_pos ⟨hg, hr1⟩]
  rw [verE, if_pos hg, tot_eq, if_pos (stk_St ht), if_pos rfl, ← hb]
  by_cases e : t = fewL zs l
  · rw [if_pos e, if_pos ⟨hr1, (eqL_iff _ _).2 e.symm⟩]
  · rw [if_neg e, if_neg]
    rintro ⟨_, h⟩
    exact e ((eqL_iff _ _).1 h).symm
end Go.Proofs.Ytdmolmdenfepkaa
