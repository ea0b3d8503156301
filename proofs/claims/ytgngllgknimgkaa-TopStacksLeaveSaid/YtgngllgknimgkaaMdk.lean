/- The groups as lists of names: what Groups computes. The walk of Groups of package complete. (Printed by gen_groups.py.) slices.Equal and SameGroups of equal lists. The walk of Reached of the reference. (Printed by gen_reached.py.) The groups of the reference: plain law; the walks of Sorted and Groups. The walk of Redundant of the reference. What Far of the reference computes: over names, and over places. No program in sight. Ways, possible, placed, distances of the reference are those of the program. No program in sight. The walks of Far, Way, Possible and Span of the reference. Drawn regions, operation by operation, with the post kept out of sight. The walks of Span, Possible and Distance of the reference. (Printed by gen_rdist.py.) The walks of Without, Implied and Placed of the reference. (Printed by gen_rimp.py.) The walk of Implied of the reference. (Printed by gen_rimp.py.) The walk of Few of reference 22. What Few says of the names along an axis. No program in sight. Distances by walks between names; what an implied dimension means. No program in sight. -/
import Derived.Test.YtgngllgknimgkaaMda
import Derived.Deep.RegionHeld3
import Derived.Deep.RegionLaw
import Derived.Deep.AppendLies
import Derived.Test.YtgngllgknimgkaaMct
import Derived.Test.YtgngllgknimgkaaMci
import Derived.Deep.Upon
import Derived.Test.YtgngllgknimgkaaMlib
namespace Go.Proofs.Ytgngllgknimgkaa
open Go.RowKit Go.Maps

/-- First places below k. -/
def fsL (vs : List Dm) (ax : Int) (k : Nat) : List Nat := (List.range k).filter fun v => nAt (grG vs ax) v == v
/-- The names of group f below k. -/
def gmL (vs : List Dm) (ax : Int) (k f : Nat) : List ByteArray := ((List.range k).filter fun v => nAt (grG vs ax) v == f).map (kAt (nmG vs ax))
def gsF (vs : List Dm) (ax : Int) (k : Nat) : List (List ByteArray) := (fsL vs ax k).map (gmL vs ax k)
def gsM (vs : List Dm) (ax : Int) (k : Nat) : List (List ByteArray) := (fsL vs ax (k + 1)).map (gmL vs ax k)
def gsX (vs : List Dm) (ax : Int) : List (List ByteArray) := gsF vs ax (nmG vs ax).length
/-- The index of group f. -/
def jxF (vs : List Dm) (ax : Int) (f : Nat) : Nat := (fsL vs ax f).length
def atF (vs : List Dm) (ax : Int) : Nat → IMap
  | 0 => fun _ => none
  | k + 1 => if nAt (grG vs ax) k = k then (atF vs ax k).put k (.int .i64 (jxF vs ax k)) else atF vs ax k
section
variable {vs : List Dm} {ax : Int} {k f : Nat}
theorem fsL_succ : fsL vs ax (k + 1) = if nAt (grG vs ax) k = k then fsL vs ax k ++ [k] else fsL vs ax k := by
  unfold fsL
  rw [List.range_succ, List.filter_append]
  by_cases h : nAt (grG vs ax) k = k
  · rw [if_pos h, List.filter_cons_of_pos (by simpa using h)]; rfl
  · rw [if_neg h, List.filter_cons_of_neg (by simpa using h)]; simp
theorem fsL_mem : f ∈ fsL vs ax k ↔ f < k ∧ nAt (grG vs ax) f = f := by
  unfold fsL; rw [List.mem_filter, List.mem_range]; simp
theorem fsL_le : (fsL vs ax k).length ≤ k := by
  unfold fsL
  refine Nat.le_trans (List.length_filter_le _ _) ?_
  rw [List.length_range]; exact Nat.le_refl _
theorem fsL_pre (k : Nat) : ∀ {m : Nat}, k ≤ m → ∃ r, fsL vs ax m = fsL vs ax k ++ r
  | 0, h => ⟨[], by obtain rfl : k = 0 := by omega
                    simp⟩
  | m + 1, h => by
    by_cases e : k = m + 1
    · subst e; exact ⟨[], by simp⟩
    · obtain ⟨r, hr⟩ := fsL_pre k (m := m) (by omega)
      rw [fsL_succ, hr]
      split
      · exact ⟨r ++ [m], by simp⟩
      · exact ⟨r, rfl⟩
/-- The place of a first place in the list. -/
theorem fsL_at (hf : nAt (grG vs ax) f = f) (hk : f < k) : (fsL vs ax k)[jxF vs ax f]? = some f := by
  obtain ⟨r, hr⟩ := fsL_pre (vs := vs) (ax := ax) (f + 1) (m := k) (by omega)
  rw [hr, fsL_succ, if_pos hf]
  unfold jxF
  rw [List.append_assoc, List.getElem?_append_right (Nat.le_refl _), Nat.sub_self]; rfl
theorem jxF_lt (hf : nAt (grG vs ax) f = f) (hk : f < k) : jxF vs ax f < (fsL vs ax k).length := (List.getElem?_eq_some_iff.1 (fsL_at hf hk)).1
theorem fsL_inj {i j a : Nat} (hi : (fsL vs ax k)[i]? = some a) (hj : (fsL vs ax k)[j]? = some a) : i = j := by
  have hn : (fsL vs ax k).Pairwise (· ≠ ·) := List.Pairwise.filter _ List.nodup_range
  rw [List.pairwise_iff_getElem] at hn
  obtain ⟨h1, h2⟩ := List.getElem?_eq_some_iff.1 hi
  obtain ⟨h3, h4⟩ := List.getElem?_eq_some_iff.1 hj
  rcases Nat.lt_trichotomy i j with h | h | h
  · exact absurd (h2.trans h4.symm) (hn i j h1 h3 h)
  · exact h
  · exact absurd (h4.trans h2.symm) (hn j i h3 h1 h)
theorem gmL_succ : gmL vs ax (k + 1) f = if nAt (grG vs ax) k = f then gmL vs ax k f ++ [kAt (nmG vs ax) k] else gmL vs ax k f := by
  unfold gmL
  rw [List.range_succ, List.filter_append]
  by_cases h : nAt (grG vs ax) k = f
  · rw [if_pos h, List.filter_cons_of_pos (by simpa using h)]; simp
  · rw [if_neg h, List.filter_cons_of_neg (by simpa using h)]; simp
theorem gmL_le : (gmL vs ax k f).length ≤ k := by
  unfold gmL
  rw [List.length_map]
  refine Nat.le_trans (List.length_filter_le _ _) ?_
  rw [List.length_range]; exact Nat.le_refl _
theorem gmL_none (_hk : k < (nmG vs ax).length) (h : k ≤ f) (hf : f < (nmG vs ax).length) : gmL vs ax k f = [] := by
  unfold gmL
  rw [List.map_eq_nil_iff, List.filter_eq_nil_iff]
  intro v hv
  have hv' := List.mem_range.1 hv
  have := (grG_inv vs ax).le v (by omega)
  simp; omega
theorem atF_get : ∀ {k : Nat}, nAt (grG vs ax) f = f → f < k → atF vs ax k f = some (.int .i64 (jxF vs ax f))
  | k + 1, hf, hk => by
    rw [atF]
    by_cases e : f = k
    · subst e; rw [if_pos hf]; unfold IMap.put; rw [if_pos rfl]
    · split
      · unfold IMap.put; rw [if_neg (by omega)]; exact atF_get hf (by omega)
      · exact atF_get hf (by omega)
/-- Ahead of the name: an empty row more, or none. -/
theorem gsM_new (hk : k < (nmG vs ax).length) (h : nAt (grG vs ax) k = k) : gsM vs ax k = gsF vs ax k ++ [[]] := by
  unfold gsM gsF
  rw [fsL_succ, if_pos h, List.map_append]
  simp [gmL_none hk (Nat.le_refl _) hk]
theorem gsM_old (h : nAt (grG vs ax) k ≠ k) : gsM vs ax k = gsF vs ax k := by
  unfold gsM gsF
  rw [fsL_succ, if_neg h]
theorem gsF_len : (gsF vs ax k).length = (fsL vs ax k).length := by simp [gsF]
theorem gsM_len : (gsM vs ax k).length = (fsL vs ax (k + 1)).length := by simp [gsM]
theorem gsM_at (hf : nAt (grG vs ax) f = f) (hk : f < k + 1) : rAt (gsM vs ax k) (jxF vs ax f) = gmL vs ax k f := by
  unfold rAt gsM
  rw [List.getD_eq_getElem?_getD, List.getElem?_map, fsL_at hf hk]; rfl
/-- The name in its row. -/
theorem gsM_put (hk : k < (nmG vs ax).length) (hf : nAt (grG vs ax) k = f) : (gsM vs ax k).set (jxF vs ax f) (gmL vs ax k f ++ [kAt (nmG vs ax) k]) = gsF vs ax (k + 1) := by
  have hff : nAt (grG vs ax) f = f := by rw [← hf]; exact grG_idem hk
  have hfk : f < k + 1 := by have := (grG_inv vs ax).le k hk; omega
  apply List.ext_getElem?
  intro i
  rw [List.getElem?_set]
  by_cases e : jxF vs ax f = i
  · subst e
    rw [if_pos rfl, if_pos (by rw [gsM_len]; exact jxF_lt hff hfk)]
    unfold gsF
    rw [List.getElem?_map, fsL_at hff hfk, Option.map_some, gmL_succ, if_pos hf]
  · rw [if_neg e]
    unfold gsM gsF
    rw [List.getElem?_map, List.getElem?_map]
    cases hi : (fsL vs ax (k + 1))[i]? with
    | none => rfl
    | some a =>
      rw [Option.map_some, Option.map_some, gmL_succ, if_neg]
      rintro e2
      refine e ?_
      rw [hf] at e2
      subst e2
      exact fsL_inj (fsL_at hff hfk) hi
end
end Go.Proofs.Ytgngllgknimgkaa
namespace Go.Proofs.Ytgngllgknimgkaa
open Go.RowKit Go.Maps

theorem cell_own2 {w : World} {base n go c : Nat} {e : TypeId} {v : Value} {xs : List Value} (h : w.ownsRow base e 1 v n xs) (ho : v = .slice (some ⟨go, 0, none⟩) n c) {j : Nat} (hj : j < n) : w.cell? ⟨go, j, none⟩ = some (vAt xs j) := by
  rcases h.2 with ⟨e, _⟩ | ⟨g2, cap, cur, e, _, h2, h3, _, h4, h5⟩
  · rw [ho] at e; cases e
  · rw [ho] at e; cases e
    refine cell_of h2 ?_
    have h6 : xs[j]? = some (vAt xs j) := by
      have hl : xs.length = n := by have := h.1; omega
      unfold vAt
      rw [List.getD_eq_getElem?_getD, List.getElem?_eq_getElem (by omega)]; rfl
    rw [← h5, List.getElem?_take, if_pos (by omega)] at h6
    rw [h5] at h6
    simpa using h6
theorem cell_own {w : World} {base n go c : Nat} {e : TypeId} {v : Value} {xs : List Value} (h : w.ownsRow base e 1 v n xs) (ho : v = .slice (some ⟨go, 0, none⟩) n c) {j : Nat} (hj : j < n) : ∃ u, w.cell? ⟨go, j, none⟩ = some u := ⟨_, cell_own2 h ho hj⟩
theorem frozen_own {w : World} {base n go c : Nat} {e : TypeId} {v : Value} {xs : List Value} (h : w.ownsRow base e 1 v n xs) (ho : v = .slice (some ⟨go, 0, none⟩) n c) (j : Nat) : w.frozen? ⟨go, j, none⟩ = false := by
  rcases h.2 with ⟨e, _⟩ | ⟨g2, cap, cur, e, _, h2, _⟩
  · rw [ho] at e; cases e
  · rw [ho] at e; cases e
    exact frozen_of h2 j
theorem run_lenR {P : Program} {w : World} {t ty e e2 : TypeId} (ht : P.underlying t = some (.slice e)) {base size n : Nat} {xs : List Value} {v : Value} (hown : w.ownsRow base e2 size v n xs) (w' : World) : (Builtin.len_ #[t] ty #[v]).run P w' = .ok (.int .i64 n) w' := by
  obtain ⟨ao, c, rfl, _, _⟩ := ownsRow_read hown
  simp [Builtin.len_, run_underlying ht, goInt]
theorem wf_i64 {x : Int} (h1 : -9223372036854775808 ≤ x) (h2 : x ≤ 9223372036854775807) : (Lit.int .i64 x).wf = true := by
  unfold Lit.wf
  rw [Bool.and_eq_true, decide_eq_true_eq, decide_eq_true_eq]
  exact ⟨h1, h2⟩
theorem Blk.grownM {W W' : World} {C b : Nat} {E : TypeId} {L : List Value} (h : Blk W C E L) (hg : W.grownBy W' (some b)) (hne : C ≠ b) : Blk W' C E L :=
  (hg.block C h.lt (fun e => hne (Option.some.inj e))).trans h
theorem Blk.grownR {W W' : World} {C base size n : Nat} {E e : TypeId} {L xs : List Value} {v : Value} (h : Blk W C E L) (hg : W.grownBy W' v.ownBlock) (ho : W.ownsRow base e size v n xs) (hC : C < base) : Blk W' C E L :=
  (hg.block C h.lt (low_ne ho hC)).trans h
theorem NsAt.grownM {W W' : World} {base b : Nat} {ov : Value} {vals : List Value} {rows : List (List ByteArray)} (h : NsAt W base ov vals rows) (hg : W.grownBy W' (some b)) (hb : b < base) : NsAt W' base ov vals rows :=
  ⟨h.len, h.out.kept hg (own_low h.out hb), fun j hj => (h.row j hj).kept hg (own_low (h.row j hj) hb), h.apart⟩
theorem NsAt.mono {W : World} {base b : Nat} {ov : Value} {vals : List Value} {rows : List (List ByteArray)} (h : NsAt W base ov vals rows) (hb : b ≤ base) : NsAt W b ov vals rows :=
  ⟨h.len, ownsRow_mono h.out hb, fun j hj => ownsRow_mono (h.row j hj) hb, h.apart⟩
theorem Try.infoSS : (Try.prog.info? 61).map (fun i => (i.zero, i.size, i.bytes)) = some (some (.slice none 0 0), 1, 24) := by kernel_rfl
end Go.Proofs.Ytgngllgknimgkaa
namespace Go.Proofs.Ytgngllgknimgkaa
open Go.RowKit Go.Maps

theorem CellsAt.poss {w : World} {ao : Option Addr} {vs : List Ps} (h : CellsAt w ao (poC vs)) (h0 : 0 < vs.length) :
    ∃ b o, ao = some ⟨b, o, none⟩ ∧ b < w.heap.size ∧ ∀ i, i < vs.length → w.cell? ⟨b, o + i * 2, none⟩ = some (.string (psAt vs i).n) ∧ w.cell? ⟨b, o + i * 2 + 1, none⟩ = some (.int .i64 (psAt vs i).a) := by
  obtain ⟨b, o, e, hl, _⟩ := h (by rw [poC_length]; omega)
  refine ⟨b, o, e, hl, fun i hi => ?_⟩
  obtain ⟨h1, h2⟩ := poC_get vs i hi
  exact ⟨h.get e h1, h.get e h2⟩
/-! ### lists of lists -/
structure NsC (W : World) (ao : Option Addr) (rows : List (List ByteArray)) : Prop where
  ex : ∃ vals, vals.length = rows.length ∧ CellsAt W ao vals ∧ ∀ j, j < rows.length → ∃ a c, vAt vals j = .slice a (rAt rows j).length c ∧ CellsAt W a (sC (rAt rows j))
theorem NsC.below {W W' : World} {ao : Option Addr} {rows : List (List ByteArray)} (h : NsC W ao rows) (hb : Below W.heap.size W W') : NsC W' ao rows := by
  obtain ⟨vals, h1, h2, h3⟩ := h.ex
  refine ⟨vals, h1, h2.below hb, fun j hj => ?_⟩
  obtain ⟨a, c, h4, h5⟩ := h3 j hj
  exact ⟨a, c, h4, h5.below hb⟩
theorem NsC.at {W : World} {ao : Option Addr} {rows : List (List ByteArray)} (h : NsC W ao rows) {j : Nat} (hj : j < rows.length) : ∃ b o a c, ao = some ⟨b, o, none⟩ ∧ W.cell? ⟨b, o + j, none⟩ = some (.slice a (rAt rows j).length c) ∧ CellsAt W a (sC (rAt rows j)) := by
  obtain ⟨vals, h1, h2, h3⟩ := h.ex
  obtain ⟨a, c, h4, h5⟩ := h3 j hj
  obtain ⟨b, o, e, _, _⟩ := h2 (by omega)
  refine ⟨b, o, a, c, e, ?_, h5⟩
  have h6 : vals[j]? = some (vAt vals j) := by
    unfold vAt
    rw [List.getD_eq_getElem?_getD, List.getElem?_eq_getElem (by omega)]; rfl
  rw [← h4]
  exact h2.get e h6
theorem NsAt.reads {W : World} {base : Nat} {ov : Value} {vals : List Value} {rows : List (List ByteArray)} (h : NsAt W base ov vals rows) : ∃ ao c, ov = .slice ao rows.length c ∧ NsC W ao rows := by
  obtain ⟨ao, c, h1, h2, _⟩ := ownsRow_read h.out
  refine ⟨ao, c, by rw [h1, h.len], vals, h.len, h2, fun j hj => ?_⟩
  obtain ⟨a, c', h3, h4, _⟩ := ownsRow_read (h.row j hj)
  exact ⟨a, c', h3, h4⟩
end Go.Proofs.Ytgngllgknimgkaa
namespace Go.Proofs.Ytgngllgknimgkaa
open Go.RowKit Go.Maps

theorem own_cells {w : World} {base n m c : Nat} {e : TypeId} {a : Option Addr} {xs : List Value} (h : w.ownsRow base e 1 (.slice a m c) n xs) : CellsAt w a xs := by
  obtain ⟨ao, c', e, h2, _⟩ := ownsRow_read h
  cases e; exact h2
theorem rc_small {vs : List Dm} {ax : Int} {s : ByteArray} (hl : vs.length ≤ 256) {r k : Nat} (hr : r < vs.length) (hk : k ≤ vs.length) : (rcI vs ax (rcR vs ax s r) k).length ≤ 500000 := by
  have h1 := rcR_len vs ax s r
  have h2 := rcI_len (vs := vs) (ax := ax) (out := rcR vs ax s r) k
  have h3 : 2 * vs.length * r ≤ 2 * 256 * 256 := Nat.mul_le_mul (by omega) (by omega)
  omega
end Go.Proofs.Ytgngllgknimgkaa
namespace Go.Proofs.Ytgngllgknimgkaa
open Go.RowKit Go.Maps

theorem nmG_up (vs : List Dm) (ax : Int) : (nmG vs ax).Pairwise fun a b => bL a < bL b := by
  classical
  exact (sortU_srt (rawN vs ax vs.length) (fun s => decide (s ∈ rawN vs ax vs.length)) (fun s => by simp)).up
theorem up_unique {ks js : List ByteArray} (h : ks.Pairwise fun a b => bL a < bL b) (h' : js.Pairwise fun a b => bL a < bL b) (hm : ∀ s, s ∈ ks ↔ s ∈ js) : ks = js := by
  classical
  exact SrtIs.unique (Q := fun s => decide (s ∈ js)) ⟨h, fun s => by rw [hm s]; simp⟩ ⟨h', fun s => by simp⟩
theorem map_kAt (ks : List ByteArray) : (List.range ks.length).map (kAt ks) = ks := by
  apply List.ext_getElem
  · simp
  · intro i h1 h2
    rw [List.getElem_map, List.getElem_range]
    unfold kAt
    rw [List.getD_eq_getElem?_getD, List.getElem?_eq_getElem h2]; rfl
theorem gmL_up (vs : List Dm) (ax : Int) (f : Nat) : (gmL vs ax (nmG vs ax).length f).Pairwise fun a b => bL a < bL b := by
  have h : (gmL vs ax (nmG vs ax).length f).Sublist ((List.range (nmG vs ax).length).map (kAt (nmG vs ax))) := List.Sublist.map _ List.filter_sublist
  rw [map_kAt] at h
  exact (nmG_up vs ax).sublist h
theorem gmL_mem {vs : List Dm} {ax : Int} {f : Nat} {t : ByteArray} : t ∈ gmL vs ax (nmG vs ax).length f ↔ ∃ v, v < (nmG vs ax).length ∧ nAt (grG vs ax) v = f ∧ kAt (nmG vs ax) v = t := by
  unfold gmL
  rw [List.mem_map]
  constructor
  · rintro ⟨v, h1, h2⟩
    rw [List.mem_filter, List.mem_range, beq_iff_eq] at h1
    exact ⟨v, h1.1, h1.2, h2⟩
  · rintro ⟨v, h1, h2, h3⟩
    exact ⟨v, by rw [List.mem_filter, List.mem_range, beq_iff_eq]; exact ⟨h1, h2⟩, h3⟩
theorem CnN.inN {vs : List Dm} {ax : Int} {s t : ByteArray} (h : CnN vs ax s t) (hs : s ∈ nmG vs ax) : t ∈ nmG vs ax := by
  cases h with
  | refl => exact hs
  | fwd _ hi => exact (onA_names (onD_iff.1 hi)).2.2
  | bwd _ hi => exact (onA_names (onD_iff.1 hi)).2.1
theorem rcA_group {vs : List Dm} {ax : Int} {k : Nat} (hk : k < (nmG vs ax).length) : rcA vs ax (kAt (nmG vs ax) k) = gmL vs ax (nmG vs ax).length (nAt (grG vs ax) k) := by
  refine up_unique (rcA_up _ _ _) (gmL_up _ _ _) fun t => ?_
  have hn := nmG_nodup vs ax
  rw [rcA_mem, gmL_mem]
  constructor
  · intro h
    have ht := CnN.inN h (kAt_mem hk)
    have h2 := CnN.places h
    rw [pos_kAt hn hk] at h2
    exact ⟨pos (nmG vs ax) t, pos_lt ht, ((grG_eq hk (pos_lt ht)).2 h2).symm, kAt_pos ht⟩
  · rintro ⟨v, h1, h2, rfl⟩
    exact CnP.names ((grG_eq hk h1).1 h2.symm)
theorem gmL_first {vs : List Dm} {ax : Int} {f : Nat} (hf : f < (nmG vs ax).length) (h : nAt (grG vs ax) f = f) : kAt (gmL vs ax (nmG vs ax).length f) 0 = kAt (nmG vs ax) f := by
  have hm : f ∈ (List.range (nmG vs ax).length).filter (fun v => nAt (grG vs ax) v == f) := by
    rw [List.mem_filter, List.mem_range, beq_iff_eq]; exact ⟨hf, h⟩
  have hp : ((List.range (nmG vs ax).length).filter (fun v => nAt (grG vs ax) v == f)).Pairwise (· < ·) := List.Pairwise.filter _ List.pairwise_lt_range
  have ha : ∀ v ∈ (List.range (nmG vs ax).length).filter (fun v => nAt (grG vs ax) v == f), f ≤ v := by
    intro v hv
    rw [List.mem_filter, List.mem_range, beq_iff_eq] at hv
    have := (grG_inv vs ax).le v hv.1
    omega
  unfold gmL
  obtain ⟨l, hl⟩ : ∃ l, (List.range (nmG vs ax).length).filter (fun v => nAt (grG vs ax) v == f) = l := ⟨_, rfl⟩
  rw [hl] at hm hp ha ⊢
  cases l with
  | nil => cases hm
  | cons v0 l =>
    have h1 := ha v0 (by simp)
    have h2 : v0 = f := by
      rcases List.mem_cons.1 hm with e | e
      · exact e.symm
      · have := (List.pairwise_cons.1 hp).1 f e; omega
    rw [h2]; rfl
theorem sameD_iff {a b : ByteArray} : sameD a b = true ↔ a = b := sameB_iff
/-- The groups of some names. -/
def srF (vs : List Dm) (ax : Int) (ks : List ByteArray) : Nat → List (List ByteArray)
  | 0 => []
  | k + 1 => if sameD (kAt (rcA vs ax (kAt ks k)) 0) (kAt ks k) = true then srF vs ax ks k ++ [rcA vs ax (kAt ks k)] else srF vs ax ks k
theorem srF_len (vs : List Dm) (ax : Int) (ks : List ByteArray) : ∀ k, (srF vs ax ks k).length ≤ k
  | 0 => Nat.le_refl _
  | k + 1 => by
    have := srF_len vs ax ks k
    rw [srF]
    split
    · rw [List.length_append]; simp; omega
    · omega
theorem srF_groups {vs : List Dm} {ax : Int} : ∀ k, k ≤ (nmG vs ax).length → srF vs ax (nmG vs ax) k = (fsL vs ax k).map (gmL vs ax (nmG vs ax).length)
  | 0, _ => rfl
  | k + 1, hk => by
    have hk' : k < (nmG vs ax).length := by omega
    have hf := grG_lt hk'
    rw [srF, srF_groups k (by omega), rcA_group hk', gmL_first hf (grG_idem hk'), fsL_succ]
    by_cases e : nAt (grG vs ax) k = k
    · rw [if_pos e, if_pos (by rw [e]; exact sameD_iff.2 rfl), List.map_append, e]; rfl
    · rw [if_neg e, if_neg]
      intro h
      have h2 := sameD_iff.1 h
      have h3 := congrArg (pos (nmG vs ax)) h2
      rw [pos_kAt (nmG_nodup vs ax) hf, pos_kAt (nmG_nodup vs ax) hk'] at h3
      exact e h3
theorem srF_all (vs : List Dm) (ax : Int) : srF vs ax (nmG vs ax) (nmG vs ax).length = gsX vs ax := srF_groups _ (Nat.le_refl _)
theorem rcA_pos (vs : List Dm) (ax : Int) (s : ByteArray) : 0 < (rcA vs ax s).length := List.length_pos_of_mem (rcA_mem.2 (.refl : CnN vs ax s s))

/-! ### the walks -/
theorem NsAt.pushRow {W W' : World} {base B : Nat} {ov v u : Value} {vals : List Value} {rows : List (List ByteArray)} {r : List ByteArray} (h : NsAt W base ov vals rows) (hB : base ≤ B) (hlo : ∀ i, i < rows.length → ∀ g, (vAt vals i).ownBlock = some g → g < B)
    (_ho : ∀ g, ov.ownBlock = some g → g < B) (hu : W.ownsRow B 9 1 u r.length (sC r)) (hg : W.grownBy W' ov.ownBlock) (hown : W'.ownsRow base 61 1 v (vals.length + 1) (vals ++ [u])) : NsAt W' base v (vals ++ [u]) (rows ++ [r]) := by
  refine ⟨by simp [h.len], by rw [List.length_append]; exact hown, fun j hj => ?_, fun i j hij hi hj => ?_⟩
  · rw [List.length_append] at hj
    by_cases e : j < rows.length
    · rw [vAt_app (by rw [h.len]; exact e), rAt_app e]
      exact (h.row j e).kept hg (own_ne (h.row j e) h.out (by decide))
    · obtain rfl : j = rows.length := by simp at hj; omega
      rw [rAt_new, ← h.len, vAt_new]
      exact ownsRow_mono (hu.kept hg (own_ne hu h.out (by decide))) hB
  · rw [List.length_append] at hi hj
    by_cases e1 : i < rows.length
    · by_cases e2 : j < rows.length
      · rw [vAt_app (by rw [h.len]; exact e1), vAt_app (by rw [h.len]; exact e2)]; exact h.apart i j hij e1 e2
      · obtain rfl : j = rows.length := by simp at hj; omega
        rw [← h.len, vAt_new, vAt_app (by rw [h.len]; exact e1)]
        cases hv : (vAt vals i).ownBlock with
        | none => exact .inl rfl
        | some g =>
          refine .inr fun e => ?_
          have h1 := hlo i e1 g hv
          have h2 := (hu.lt g e.symm).1
          omega
    · obtain rfl : i = rows.length := by simp at hi; omega
      have e2 : j < rows.length := by simp at hj; omega
      rw [← h.len, vAt_new, vAt_app (by rw [h.len]; exact e2)]
      cases hv : u.ownBlock with
      | none => exact .inl rfl
      | some g =>
        refine .inr fun e => ?_
        have h1 := hlo j e2 g e.symm
        have h2 := (hu.lt g hv).1
        omega
end Go.Proofs.Ytgngllgknimgkaa
namespace Go.Proofs.Ytgngllgknimgkaa
open Go.RowKit Go.Maps

theorem va_ne {v : Dm} (h1 : vaE v = 0) : v.f ≠ v.t := fun e2 => by
  unfold vaE at h1
  by_cases a : nmE v.f = 0
  · rw [if_pos a] at h1
    by_cases b : nmE v.t = 0
    · rw [if_pos b, if_pos (by rw [e2]; simp [sameD])] at h1; omega
    · rw [if_neg b] at h1; exact b h1
  · rw [if_neg a] at h1; exact a h1
theorem has_jn {vs : List Dm} {ax : Int} {s t : ByteArray} (h : s ≠ t) : hasL (rcA vs ax s) t = jnX vs ax s t := by
  rw [Bool.eq_iff_iff, hasL_iff, rcA_mem, jnX_iff]
  exact ⟨fun hc => ⟨(CnN.mem hc h).1, (CnN.mem hc h).2, hc⟩, fun hc => hc.2.2⟩
theorem rcA_small (vs : List Dm) (ax : Int) (s : ByteArray) (hl : vs.length ≤ 256) : (rcA vs ax s).length ≤ 1000000 := by
  have h1 := rcR_len vs ax s vs.length
  have h3 : 2 * vs.length * vs.length ≤ 2 * 256 * 256 := Nat.mul_le_mul (by omega) hl
  show (rcR vs ax s vs.length).length ≤ _
  omega
end Go.Proofs.Ytgngllgknimgkaa
namespace Go.Proofs.Ytgngllgknimgkaa
open Go.RowKit Go.Maps

/-- The step of number k. -/
def stp (k : Nat) : Sp := ⟨((k / 2 : Nat) : Int), k % 2 == 1⟩
theorem stp_i (k : Nat) : (stp k).i.toNat = k / 2 := Int.toNat_natCast _
def faS (vs : List Dm) (ax : Int) (s : ByteArray) (P : List ByteArray) (f : ByteArray → Int × Bool) (k : Nat) (r : Int × Bool) : Int × Bool :=
  if ((dAt vs (k / 2)).x == ax) = true then
    if sameD (enF vs (stp k)) s = true then
      if hasL P (enT vs (stp k)) = true then r
      else if ((f (enT vs (stp k))).2 && (!r.2 || decide (enA vs (stp k) + (f (enT vs (stp k))).1 < r.1))) = true then (enA vs (stp k) + (f (enT vs (stp k))).1, true) else r
    else r
  else r
def faF (vs : List Dm) (ax : Int) (s : ByteArray) (P : List ByteArray) (f : ByteArray → Int × Bool) : Nat → Int × Bool
  | 0 => (0, false)
  | k + 1 => faS vs ax s P f k (faF vs ax s P f k)
/-- Far of the reference; m: how deep. -/
def faN (vs : List Dm) (ax : Int) (t : ByteArray) : Nat → ByteArray → List ByteArray → Int × Bool
  | 0, s, _ => (0, sameD s t)
  | m + 1, s, P => if sameD s t = true then (0, true) else faF vs ax s P (fun b => faN vs ax t m b (P ++ [b])) (2 * vs.length)
theorem stp_kn {vs : List Dm} {k : Nat} (h : k < 2 * vs.length) : knS vs.length (stp k) = true :=
  knS_iff.2 ⟨Int.natCast_nonneg _, by show ((k / 2 : Nat) : Int) < _; omega⟩
theorem faF_bd {vs : List Dm} {ax : Int} {s : ByteArray} {P : List ByteArray} {f : ByteArray → Int × Bool} {B : Int} (hva : ∀ j, j < vs.length → vaE (dAt vs j) = 0) (h0 : 0 ≤ B) (hf : ∀ b, -B ≤ (f b).1 ∧ (f b).1 ≤ B) :
    ∀ k, k ≤ 2 * vs.length → -(B + 100000) ≤ (faF vs ax s P f k).1 ∧ (faF vs ax s P f k).1 ≤ B + 100000
  | 0, _ => ⟨by show -(B + 100000) ≤ 0; omega, by show (0 : Int) ≤ _; omega⟩
  | k + 1, hk => by
    have ih := faF_bd (ax := ax) (s := s) (P := P) hva h0 hf k (by omega)
    have hb := enA_bounds hva (stp_kn (show k < 2 * vs.length by omega))
    have hq := hf (enT vs (stp k))
    rw [faF, faS]
    split
    · split
      · split
        · exact ih
        · split
          · exact ⟨by show -(B + 100000) ≤ enA vs (stp k) + _; omega, by show enA vs (stp k) + _ ≤ _; omega⟩
          · exact ih
      · exact ih
    · exact ih
theorem faN_bd {vs : List Dm} {ax : Int} {t : ByteArray} (hva : ∀ j, j < vs.length → vaE (dAt vs j) = 0) : ∀ (m : Nat) (s : ByteArray) (P : List ByteArray), -(100000 * (m : Int)) ≤ (faN vs ax t m s P).1 ∧ (faN vs ax t m s P).1 ≤ 100000 * (m : Int)
  | 0, s, P => ⟨by show _ ≤ (0 : Int); omega, by show (0 : Int) ≤ _; omega⟩
  | m + 1, s, P => by
    rw [faN]
    split
    · exact ⟨by show _ ≤ (0 : Int); omega, by show (0 : Int) ≤ _; omega⟩
    · have h := faF_bd (ax := ax) (s := s) (P := P) (f := fun b => faN vs ax t m b (P ++ [b])) (B := 100000 * (m : Int)) hva (by omega) (fun b => faN_bd hva m b _) (2 * vs.length) (Nat.le_refl _)
      omega
theorem faF_none {vs : List Dm} {ax : Int} {s : ByteArray} {P : List ByteArray} {f : ByteArray → Int × Bool} (h : ∀ k, k < 2 * vs.length → (dAt vs (k / 2)).x = ax → hasL P (enT vs (stp k)) = true) : ∀ k, k ≤ 2 * vs.length → faF vs ax s P f k = (0, false)
  | 0, _ => rfl
  | k + 1, hk => by
    rw [faF, faF_none h k (by omega), faS]
    split
    · rename_i hx
      rw [if_pos (h k (by omega) (by simpa using hx))]
      split <;> rfl
    · rfl
theorem enT_in {vs : List Dm} {ax : Int} {k : Nat} (hk : k < 2 * vs.length) (hx : (dAt vs (k / 2)).x = ax) : enT vs (stp k) ∈ nmG vs ax ∧ enF vs (stp k) ∈ nmG vs ax := by
  obtain ⟨_, h2, h3⟩ := onA_names (onD_iff.1 (show onD vs ax (k / 2) from ⟨by omega, hx⟩))
  unfold enT enF
  rw [stp_i]
  split
  · exact ⟨h2, h3⟩
  · exact ⟨h3, h2⟩
/-- How many names are not passed yet. -/
def rmG (vs : List Dm) (ax : Int) (P : List ByteArray) : Nat := ((nmG vs ax).filter fun x => !(hasL P x)).length
theorem rmG_le (vs : List Dm) (ax : Int) (P : List ByteArray) : rmG vs ax P ≤ (nmG vs ax).length := List.length_filter_le _ _
theorem filter_less {α : Type} (p q : α → Bool) (hpq : ∀ x, q x = true → p x = true) {b : α} (hp : p b = true) (hq : q b = false) : ∀ (L : List α), (L.filter q).length ≤ (L.filter p).length ∧ (b ∈ L → (L.filter q).length < (L.filter p).length)
  | [] => ⟨Nat.le_refl _, fun h => absurd h (by simp)⟩
  | y :: L => by
    obtain ⟨h1, h2⟩ := filter_less p q hpq hp hq L
    have hy : (q y = true → p y = true) := hpq y
    refine ⟨?_, fun hm => ?_⟩
    · rw [List.filter_cons, List.filter_cons]
      cases e1 : q y <;> cases e2 : p y <;> simp_all <;> omega
    · rcases List.mem_cons.1 hm with rfl | hm
      · rw [List.filter_cons, List.filter_cons, hp, hq]; simp; omega
      · have := h2 hm
        rw [List.filter_cons, List.filter_cons]
        cases e1 : q y <;> cases e2 : p y <;> simp_all <;> omega
theorem rmG_step {vs : List Dm} {ax : Int} {P : List ByteArray} {b : ByteArray} (hb : b ∈ nmG vs ax) (hP : hasL P b = false) : rmG vs ax (P ++ [b]) < rmG vs ax P :=
  (filter_less (fun x => !(hasL P x)) (fun x => !(hasL (P ++ [b]) x)) (fun x h => by
    have h' : hasL (P ++ [b]) x = false := by simpa using h
    have : hasL P x = false := by
      rw [← Bool.not_eq_true, hasL_iff] at h' ⊢
      exact fun hx => h' (List.mem_append.2 (.inl hx))
    simp [this]) (b := b) (by simp [hP]) (by
      have : hasL (P ++ [b]) b = true := hasL_iff.2 (by simp)
      simp [this]) (nmG vs ax)).2 hb
theorem rmG_zero {vs : List Dm} {ax : Int} {P : List ByteArray} (h : rmG vs ax P = 0) {b : ByteArray} (hb : b ∈ nmG vs ax) : hasL P b = true := by
  have h2 := List.filter_eq_nil_iff.1 (List.length_eq_zero_iff.1 h) b hb
  simpa using h2

/-! ### over places -/
def opR (o : Option Int) : Int × Bool := (o.getD 0, o.isSome)
theorem range_flat (u v : Nat → Ar) : ∀ (L : List Nat), (List.range (2 * L.length)).map (fun j => if j % 2 = 0 then u (nAt L (j / 2)) else v (nAt L (j / 2))) = L.flatMap fun i => [u i, v i]
  | [] => rfl
  | i :: L => by
    rw [List.flatMap_cons, ← range_flat u v L, List.length_cons, show 2 * (L.length + 1) = 2 + 2 * L.length by omega, List.range_add, List.map_append, List.map_map]
    congr 1
    refine List.map_congr_left fun j _ => ?_
    have h1 : (2 + j) % 2 = j % 2 := by omega
    have h2 : (2 + j) / 2 = j / 2 + 1 := by omega
    simp only [Function.comp_apply, h1, h2]
    rfl
def uAr (vs : List Dm) (ax : Int) (i : Nat) : Ar := ⟨i, false, pF vs ax i, pT vs ax i, (dAt vs i).h⟩
def vAr (vs : List Dm) (ax : Int) (i : Nat) : Ar := ⟨i, true, pT vs ax i, pF vs ax i, -(dAt vs i).l⟩
def arP (vs : List Dm) (ax : Int) (k : Nat) : List Ar := (onA vs ax k).flatMap fun i => [uAr vs ax i, vAr vs ax i]
theorem arX_flat (vs : List Dm) (ax : Int) : arX vs ax = arP vs ax vs.length := range_flat (uAr vs ax) (vAr vs ax) (onA vs ax vs.length)
theorem faS_is {vs : List Dm} {ax : Int} {s : ByteArray} {P : List ByteArray} {f : ByteArray → Int × Bool} {g : Ar → Option Int} (hs : s ∈ nmG vs ax) (hP : ∀ p ∈ P, p ∈ nmG vs ax)
    {x : Ar} {k : Nat} (hk : k < 2 * vs.length) (hx : (dAt vs (k / 2)).x = ax) (ha : x.a = pos (nmG vs ax) (enF vs (stp k))) (hb : x.b = pos (nmG vs ax) (enT vs (stp k))) (hw : x.w = enA vs (stp k))
    (hf : f (enT vs (stp k)) = opR (g x)) (o : Option Int) :
    faS vs ax s P f k (opR o) = opR (frS (fun x => if x.a = pos (nmG vs ax) s ∧ x.b ∉ P.map (pos (nmG vs ax)) then g x else none) o x) := by
  obtain ⟨hT, hF⟩ := enT_in hk hx
  have e1 : sameD (enF vs (stp k)) s = true ↔ x.a = pos (nmG vs ax) s := by
    rw [ha]
    refine ⟨fun h => by rw [sameB_iff.1 h], fun h => sameB_iff.2 (pos_inj hF hs h)⟩
  have e2 : hasL P (enT vs (stp k)) = true ↔ x.b ∈ P.map (pos (nmG vs ax)) := by
    rw [hb, hasL_iff, List.mem_map]
    exact ⟨fun h => ⟨_, h, rfl⟩, fun ⟨p, h1, h2⟩ => by rw [← pos_inj (hP p h1) hT h2]; exact h1⟩
  unfold faS frS
  dsimp only
  rw [if_pos (by rw [hx]; simp)]
  by_cases h1 : x.a = pos (nmG vs ax) s
  · rw [if_pos (e1.2 h1)]
    by_cases h2 : x.b ∈ P.map (pos (nmG vs ax))
    · have hc : (if x.a = pos (nmG vs ax) s ∧ x.b ∉ P.map (pos (nmG vs ax)) then g x else none) = none := if_neg fun h => h.2 h2
      rw [if_pos (e2.2 h2), hc]
    · have hc : (if x.a = pos (nmG vs ax) s ∧ x.b ∉ P.map (pos (nmG vs ax)) then g x else none) = g x := if_pos ⟨h1, h2⟩
      rw [if_neg (fun h => h2 (e2.1 h)), hc, hf, ← hw]
      cases hg : g x with
      | none => simp [opR]
      | some r =>
        cases o with
        | none => simp [opR, mnO]
        | some d =>
          by_cases h3 : x.w + r < d
          · simp [opR, mnO, h3]
          · simp [opR, mnO, h3]
  · have hc : (if x.a = pos (nmG vs ax) s ∧ x.b ∉ P.map (pos (nmG vs ax)) then g x else none) = none := if_neg fun h => h1 h.1
    rw [if_neg (fun h => h1 (e1.1 h)), hc]
theorem faF_fold {vs : List Dm} {ax : Int} {s : ByteArray} {P : List ByteArray} {f : ByteArray → Int × Bool} {g : Ar → Option Int} (hs : s ∈ nmG vs ax) (hP : ∀ p ∈ P, p ∈ nmG vs ax)
    (hf : ∀ x ∈ arX vs ax, f (kAt (nmG vs ax) x.b) = opR (g x)) :
    ∀ k, k ≤ vs.length → faF vs ax s P f (2 * k) = opR ((arP vs ax k).foldl (frS fun x => if x.a = pos (nmG vs ax) s ∧ x.b ∉ P.map (pos (nmG vs ax)) then g x else none) none)
  | 0, _ => rfl
  | k + 1, hk => by
    have ih := faF_fold (g := g) hs hP hf k (by omega)
    rw [show 2 * (k + 1) = 2 * k + 1 + 1 by omega, faF, faF, ih]
    unfold arP
    rw [onA]
    have k0 : 2 * k / 2 = k := by omega
    have k1 : (2 * k + 1) / 2 = k := by omega
    by_cases hx : (dAt vs k).x = ax
    · rw [if_pos (by simpa using hx), List.flatMap_append, List.foldl_append]
      have hon : onD vs ax k := ⟨by omega, hx⟩
      obtain ⟨_, h2, h3⟩ := onA_names (onD_iff.1 hon)
      have s0 : stp (2 * k) = ⟨(k : Int), false⟩ := by
        unfold stp; rw [k0, show 2 * k % 2 = 0 by omega]; rfl
      have s1 : stp (2 * k + 1) = ⟨(k : Int), true⟩ := by
        unfold stp; rw [k1, show (2 * k + 1) % 2 = 1 by omega]; rfl
      rw [faS_is (x := uAr vs ax k) (g := g) hs hP (by omega) (by rw [k0]; exact hx) (by rw [s0]; rfl) (by rw [s0]; rfl) (by rw [s0]; rfl)
        (by
          have h := hf (uAr vs ax k) (arX_mem.2 ⟨k, hon, .inl rfl⟩)
          rw [← h, s0]
          exact congrArg f (kAt_pos h3).symm)]
      rw [faS_is (x := vAr vs ax k) (g := g) hs hP (by omega) (by rw [k1]; exact hx) (by rw [s1]; rfl) (by rw [s1]; rfl) (by rw [s1]; rfl)
        (by
          have h := hf (vAr vs ax k) (arX_mem.2 ⟨k, hon, .inr rfl⟩)
          rw [← h, s1]
          exact congrArg f (kAt_pos h2).symm)]
      rfl
    · have hx' : ((dAt vs k).x == ax) = false := by rw [beq_eq_false_iff_ne]; exact hx
      rw [hx', if_neg (by simp)]
      unfold faS
      rw [k0, k1, hx', if_neg (by simp), if_neg (by simp)]
theorem faN_is {vs : List Dm} {ax : Int} {t : ByteArray} (ht : t ∈ nmG vs ax) : ∀ (m : Nat) (s : ByteArray) (P : List ByteArray), s ∈ nmG vs ax → (∀ p ∈ P, p ∈ nmG vs ax) →
    faN vs ax t m s P = opR (frF (arX vs ax) m (pos (nmG vs ax) s) (pos (nmG vs ax) t) (P.map (pos (nmG vs ax))))
  | 0, s, P, hs, hP => by
    rw [faN, frF]
    by_cases e : s = t
    · subst e
      have : sameD s s = true := sameB_iff.2 rfl
      rw [if_pos rfl, this]; rfl
    · rw [if_neg (fun h => e (pos_inj hs ht h))]
      have : sameD s t = false := sameB_no.2 e
      rw [this]; rfl
  | m + 1, s, P, hs, hP => by
    rw [faN, frF]
    by_cases e : s = t
    · subst e
      have : sameD s s = true := sameB_iff.2 rfl
      rw [if_pos this, if_pos rfl]; rfl
    · have hne : ¬ (sameD s t = true) := fun h => e (sameB_iff.1 h)
      rw [if_neg hne, if_neg (fun h => e (pos_inj hs ht h))]
      rw [faF_fold (g := fun x => frF (arX vs ax) m x.b (pos (nmG vs ax) t) (P.map (pos (nmG vs ax)) ++ [x.b])) hs hP (fun x hx => by
        have hb := (arX_within vs ax x hx).2
        have hm := kAt_mem hb
        have h := faN_is ht m (kAt (nmG vs ax) x.b) (P ++ [kAt (nmG vs ax) x.b]) hm (fun p hp => by
          rcases List.mem_append.1 hp with hp | hp
          · exact hP p hp
          · obtain rfl : p = _ := by simpa using hp
            exact hm)
        rw [List.map_append, List.map_cons, List.map_nil, pos_kAt (nmG_nodup vs ax) hb] at h
        exact h) vs.length (Nat.le_refl _), arX_flat]
/-- Way of the reference. -/
def waV (vs : List Dm) (ax : Int) (s t : ByteArray) : Int := (faN vs ax t (nmG vs ax).length s [s]).1
theorem waV_is {vs : List Dm} {ax : Int} {s t : ByteArray} (hs : s ∈ nmG vs ax) (ht : t ∈ nmG vs ax) : waV vs ax s t = wayN (arX vs ax) (nmG vs ax).length (pos (nmG vs ax) s) (pos (nmG vs ax) t) := by
  unfold waV
  rw [faN_is ht _ s [s] hs (fun p hp => by
    obtain rfl : p = s := by simpa using hp
    exact hs)]
  rfl
theorem waV_bd {vs : List Dm} {ax : Int} {s t : ByteArray} (hl : vs.length ≤ 256) (hva : ∀ j, j < vs.length → vaE (dAt vs j) = 0) : -51200000 ≤ waV vs ax s t ∧ waV vs ax s t ≤ 51200000 := by
  have h := faN_bd (ax := ax) (t := t) hva (nmG vs ax).length s [s]
  have h2 := nmG_len (ax := ax) hl
  unfold waV
  omega
end Go.Proofs.Ytgngllgknimgkaa
namespace Go.Proofs.Ytgngllgknimgkaa
open Go.RowKit Go.Maps

theorem CnP.walk {vs : List Dm} {ax : Int} {u v : Nat} (h : CnP vs ax u v) : ∃ k c, Wk (arX vs ax) u v k c := by
  induction h with
  | refl => exact ⟨0, 0, Wk.nil _⟩
  | @fwd i _ hi ih =>
    obtain ⟨k, c, h1⟩ := ih
    exact ⟨_, _, h1.append (Wk.one (x := uAr vs ax i) (arX_mem.2 ⟨i, hi, .inl rfl⟩))⟩
  | @bwd i _ hi ih =>
    obtain ⟨k, c, h1⟩ := ih
    exact ⟨_, _, h1.append (Wk.one (x := vAr vs ax i) (arX_mem.2 ⟨i, hi, .inr rfl⟩))⟩
theorem frR_way {vs : List Dm} {ax : Int} {s t : ByteArray} (hE : cfE vs ax = true) (hs : s ∈ nmG vs ax) (ht : t ∈ nmG vs ax) (h : CnN vs ax s t) : (frR vs ax (pos (nmG vs ax) s)).1.f (pos (nmG vs ax) t) = waV vs ax s t := by
  obtain ⟨k, c, h1⟩ := h.places.walk
  rw [waV_is hs ht]
  exact rx_far ((cfE_iff vs ax).1 hE) (arX_within vs ax) (pos_lt hs) h1
/-- The distance by the ways of the reference. -/
theorem spH_way {vs : List Dm} {ax : Int} {s t : ByteArray} (hE : cfE vs ax = true) (h : jnX vs ax s t = true) : spH vs ax s t = waV vs ax s t := by
  obtain ⟨hs, ht, hc⟩ := jnX_iff.1 h
  exact frR_way hE hs ht hc
theorem spL_way {vs : List Dm} {ax : Int} {s t : ByteArray} (hE : cfE vs ax = true) (h : jnX vs ax s t = true) : spL vs ax s t = -waV vs ax t s := by
  obtain ⟨hs, ht, hc⟩ := jnX_iff.1 h
  unfold spL
  rw [frR_way hE ht hs hc.symm]
/-- A dimension does not contradict the ways. -/
def poQ (vs : List Dm) (ax : Int) (k : Nat) : Bool := !((dAt vs k).x == ax) || (decide (0 ≤ (dAt vs k).h + waV vs ax (dAt vs k).t (dAt vs k).f) && decide (0 ≤ -(dAt vs k).l + waV vs ax (dAt vs k).f (dAt vs k).t))
theorem poQ_iff {vs : List Dm} {ax : Int} (hva : ∀ j, j < vs.length → vaE (dAt vs j) = 0) : (∀ k, k < vs.length → poQ vs ax k = true) ↔ cfE vs ax = true := by
  rw [cfE_iff, ← possible_iff (arX_within vs ax) (arX_both vs ax) (arX_loose hva ax)]
  constructor
  · intro h x hx
    obtain ⟨i, hi, e⟩ := arX_mem.1 hx
    obtain ⟨_, h2, h3⟩ := onA_names (onD_iff.1 hi)
    have hq := h i hi.1
    unfold poQ at hq
    rw [show ((dAt vs i).x == ax) = true by simpa using hi.2, Bool.not_true, Bool.false_or, Bool.and_eq_true, decide_eq_true_iff, decide_eq_true_iff] at hq
    rw [waV_is h3 h2, waV_is h2 h3] at hq
    rcases e with rfl | rfl
    · exact hq.1
    · exact hq.2
  · intro h k hk
    unfold poQ
    by_cases hx : (dAt vs k).x = ax
    · have hon : onD vs ax k := ⟨hk, hx⟩
      obtain ⟨_, h2, h3⟩ := onA_names (onD_iff.1 hon)
      rw [show ((dAt vs k).x == ax) = true by simpa using hx, Bool.not_true, Bool.false_or, Bool.and_eq_true, decide_eq_true_iff, decide_eq_true_iff]
      rw [waV_is h3 h2, waV_is h2 h3]
      exact ⟨h _ (arX_mem.2 ⟨k, hon, .inl rfl⟩), h _ (arX_mem.2 ⟨k, hon, .inr rfl⟩)⟩
    · rw [show ((dAt vs k).x == ax) = false by rw [beq_eq_false_iff_ne]; exact hx]; rfl
theorem cfE_all {vs : List Dm} {ax : Int} (hva : ∀ j, j < vs.length → vaE (dAt vs j) = 0) (h : ∀ k, k < vs.length → poQ vs ax k = true) : cfE vs ax = true := (poQ_iff hva).1 h
theorem cfE_not {vs : List Dm} {ax : Int} (hva : ∀ j, j < vs.length → vaE (dAt vs j) = 0) {k : Nat} (hk : k < vs.length) (h : poQ vs ax k = false) : cfE vs ax = false := by
  rw [← Bool.not_eq_true, ← poQ_iff hva]
  intro h2; rw [h2 k hk] at h; cases h
/-- The positions of the reference. -/
def plP (vs : List Dm) (ax : Int) (v : Nat) : Ps := ⟨kAt (nmG vs ax) v, waV vs ax (kAt (rcA vs ax (kAt (nmG vs ax) v)) 0) (kAt (nmG vs ax) v)⟩
def plX (vs : List Dm) (ax : Int) : Nat → List Ps
  | 0 => []
  | k + 1 => plX vs ax k ++ [plP vs ax k]
theorem plX_len (vs : List Dm) (ax : Int) : ∀ k, (plX vs ax k).length = k
  | 0 => rfl
  | k + 1 => by rw [plX, List.length_append, plX_len vs ax k]; rfl
theorem rcA_first {vs : List Dm} {ax : Int} {v : Nat} (hv : v < (nmG vs ax).length) : kAt (rcA vs ax (kAt (nmG vs ax) v)) 0 = kAt (nmG vs ax) (nAt (grG vs ax) v) := by
  rw [rcA_group hv, gmL_first (grG_lt hv) (grG_idem hv)]
theorem plP_is {vs : List Dm} {ax : Int} {v : Nat} (hE : cfE vs ax = true) (hv : v < (nmG vs ax).length) : plP vs ax v = poP vs ax v := by
  unfold plP poP
  rw [rcA_first hv]
  have h1 := grG_lt hv
  have h := frR_way hE (kAt_mem h1) (kAt_mem hv) ((CnP.names ((grG_eq h1 hv).1 (grG_idem hv))))
  rw [pos_kAt (nmG_nodup vs ax) h1, pos_kAt (nmG_nodup vs ax) hv] at h
  rw [h]
theorem plX_is {vs : List Dm} {ax : Int} (hE : cfE vs ax = true) : ∀ k, k ≤ (nmG vs ax).length → plX vs ax k = (List.range k).map (poP vs ax)
  | 0, _ => rfl
  | k + 1, h => by rw [plX, plX_is hE k (by omega), plP_is hE (by omega), List.range_succ, List.map_append]; rfl
theorem plX_all {vs : List Dm} {ax : Int} (hE : cfE vs ax = true) : plX vs ax (nmG vs ax).length = soX vs ax := plX_is hE _ (Nat.le_refl _)
end Go.Proofs.Ytgngllgknimgkaa
namespace Go.Proofs.Ytgngllgknimgkaa
open Go.RowKit Go.Maps

theorem sC_oneC (ks : List ByteArray) : ∀ u ∈ sC ks, u.oneCell' = true := by
  intro u hu
  unfold sC at hu
  obtain ⟨s, _, rfl⟩ := List.mem_map.1 hu
  rfl
/-- append, as wp_appendT; what lay below stays. -/
theorem wp_appendF {P : Program} {w : World} {ops : Array Oper} {rest : List Oper} {o : Oper} {a : Act} {Q : Exit → Act → World → Prop} (hgd : o.guard = none) (s x : Operand) (t : TypeId)
    (ho : o.op = .call { callee := .builtin .append, args := #[s, x], argTypes := #[t, t] })
    (base : Nat) (e : TypeId) {z : Value} {size bytes : Nat} (ht : P.underlying t = some (.slice e)) (hi : (P.info? e).map (fun i => (i.zero, i.size, i.bytes)) = some (some z, size, bytes))
    (hzs : z.cells.size = size) (hsz : 0 < size)
    (v : Value) (n : Nat) (xs : List Value) (hs : a.eval s = v) (hown : w.ownsRow base e size v n xs)
    (ad : Addr) (m c : Nat) (news : List Value) (hm : news.length = m * size) (hx : a.eval x = .slice (some ad) m c) (hc : CellsAt w (some ad) news) (h1 : ∀ u ∈ news, u.oneCell' = true)
    (hn : n + m ≤ 9223372036854775807) (hbytes : (n + m) * bytes ≤ 140737488355328) (hbase : base ≤ w.heap.size)
    (h : ∀ v' w', w'.ownsRow base e size v' (n + m) (xs ++ news) → Below base w w' → wpList P ops Q rest (a.put o.dst v') w') : wpList P ops Q (o :: rest) a w :=
  wp_appendT hgd s x t ho base e ht hi hzs hsz v n xs hs hown ad m c news hm hx hc h1 hn hbytes hbase fun v' w' h2 h3 _ =>
    h v' w' h2 ((Below.refl base w).grown h3 hbase (fun j e => (hown.lt j e).1))
end Go.Proofs.Ytgngllgknimgkaa
namespace Go.Proofs.Ytgngllgknimgkaa
open Go.RowKit
section
variable {P : Program} {ops : Array Oper} {Q : Exit → Act → World → Prop} {md : Region.Mode} {S : World → Prop}
/-- What a post says of a panic does not hang on the frame. -/
def Calm (Q : Exit → Act → World → Prop) : Prop := ∀ c a a' w, Q (.panic c) a w → Q (.panic c) a' w
theorem regionQ {id : Nat} {a : Act} {w : World} (S : World → Prop) (hm : P.follows .mixedOrders = true) (hS : S w.drew)
    (h : ∀ Q' : Exit → Act → World → Prop, Calm Q' → Shut (∀ a w, Q .normal a w → Q' .normal a w) → S w.drew → wpAnyH P .any ops Q' S ops.size (Array.replicate ops.size false) a w.drew) : (Code.region id ops true).wp P Q a w :=
  wp_region_noPanic (wp_region_held_drew hm hS (h (NoPanic Q) (fun _ _ _ _ h => h) (fun _ _ h => NoPanic.normal h)))
theorem takeQ {i : Nat} {oi : Oper} {d : Option Tmp} {v : Value} {fuel : Nat} {listed : Array Bool} {a : Act} {w : World} (hi : ops[i]? = some oi) (hd : oi.dst = d)
    (hs : Region.noSelect ops = true) (hf : Region.free md ops listed i = true) (hr : (Region.ready md ops listed).contains i = true)
    (hQ : Calm Q) (hS : S w) (hw : Region.wanted oi (yielded ops a.tmps) = true) (hy : ∀ w, S w → (execOp a.eval oi).run P w = .ok (.value v) w)
    (h : wpAnyH P md ops Q S fuel (listed.setIfInBounds i true) (a.put d v) w) : wpAnyH P md ops Q S (fuel + 1) listed a w := by
  subst hd
  exact wpAnyH_take hi hs hf hr (fun c a w h => hQ c _ _ w h) (Or.inl ⟨hw, hy⟩) hS h
theorem skipQ {i : Nat} {oi : Oper} {d : Option Tmp} {fuel : Nat} {listed : Array Bool} {a : Act} {w : World} (hi : ops[i]? = some oi) (hd : oi.dst = d)
    (hs : Region.noSelect ops = true) (hf : Region.free md ops listed i = true) (hr : (Region.ready md ops listed).contains i = true)
    (hQ : Calm Q) (hS : S w) (hw : Region.wanted oi (yielded ops a.tmps) = false)
    (h : wpAnyH P md ops Q S fuel (listed.setIfInBounds i true) (a.put d undef) w) : wpAnyH P md ops Q S (fuel + 1) listed a w := by
  subst hd
  exact wpAnyH_take hi hs hf hr (fun c a w h => hQ c _ _ w h) (Or.inr ⟨hw, rfl⟩) hS h
/-- append of nothing, at a step of a drawn region. -/
theorem step_none {w : World} {o : Oper} {a : Act} {K : Act → World → Prop} {E : Prop} (hgd : o.guard = none) (s x : Operand) (t : TypeId)
    (ho : o.op = .call { callee := .builtin .append, args := #[s, x], argTypes := #[t, t] }) (e : TypeId) (i : TypeInfo) (ht : P.underlying t = some (.slice e)) (hi : P.info? e = some i)
    (b : Option Addr) (n c : Nat) (hle : n ≤ c) (hs : a.eval s = .slice b n c) (a2 : Option Addr) (c2 : Nat) (hx : a.eval x = .slice a2 0 c2) (h : K (a.put o.dst (.slice b n c)) w) :
    if Region.wanted o (yielded ops a.tmps) = true then Oper.wp P o a w K Q else E := by
  have hw : Region.wanted o (yielded ops a.tmps) = true := by simp [Region.wanted, hgd]
  rw [if_pos hw]
  have hr : (Builtin.append_ #[t, t] o.type #[.slice b n c, .slice a2 0 c2]).run P w = .ok (.slice b n c) w := by
    refine run_append_nothing w t t o.type e i ht hi b n c hle _ ?_
    cases a2 with
    | some ad => exact Src.ofSlice w ht ad 0 c2 [] (by simp) (by simp) (by simp)
    | none =>
      exact Src.ofNil w ht c2
  unfold Oper.wp execOp
  simp only [ho, resolve, invoke, builtin, Sem.run_bind, Sem.run_pure, Result.andThen_ok, List.map_toArray, List.map_cons, List.map_nil, hs, hx, hr]
  exact h
/-- append of as many as there are, at a step of a drawn region. -/
theorem step_appendN {w : World} {o : Oper} {a : Act} {K : Act → World → Prop} {E : Prop} (hgd : o.guard = none) (s x : Operand) (t : TypeId)
    (ho : o.op = .call { callee := .builtin .append, args := #[s, x], argTypes := #[t, t] })
    (base : Nat) (e : TypeId) {z : Value} {size bytes : Nat} (ht : P.underlying t = some (.slice e)) (hi : (P.info? e).map (fun i => (i.zero, i.size, i.bytes)) = some (some z, size, bytes))
    (hzs : z.cells.size = size) (hsz : 0 < size)
    (v : Value) (n : Nat) (xs : List Value) (hs : a.eval s = v) (hown : w.ownsRow base e size v n xs)
    (ad : Option Addr) (m c : Nat) (news : List Value) (hx : a.eval x = .slice ad m c) (hl : news.length = m * size) (hc : CellsAt w ad news) (h1 : ∀ u ∈ news, u.oneCell' = true)
    (h63 : n + m ≤ 9223372036854775807) (hbytes : (n + m) * bytes ≤ 140737488355328) (hbase : base ≤ w.heap.size)
    (h : ∀ v' w', w'.ownsRow base e size v' (n + m) (xs ++ news) → Below base w w' → K (a.put o.dst v') w') :
    if Region.wanted o (yielded ops a.tmps) = true then Oper.wp P o a w K Q else E := by
  obtain ⟨i, q1, q2, q3, q4⟩ := info_parts hi
  by_cases h0 : m = 0
  · subst h0
    obtain rfl : news = [] := List.length_eq_zero_iff.1 (by simpa using hl)
    have hK := h v w (by simpa using hown) (Below.refl _ _)
    rcases hown.2 with ⟨rfl, _⟩ | ⟨g, cap, cur, rfl, _, _, hnc, _⟩
    · exact step_none hgd s x t ho e i ht q1 none 0 0 (Nat.le_refl _) hs ad c hx hK
    · exact step_none hgd s x t ho e i ht q1 (some ⟨g, 0, none⟩) n cap hnc hs ad c hx hK
  · obtain ⟨b, o', e', _, _⟩ := hc (by rw [hl]; exact Nat.mul_pos (by omega) hsz)
    subst e'
    refine step_append_lies w hgd s x t ho base e i z size bytes ht q1 q2 q3 q4 hzs hsz v n xs hs hown ⟨b, o', none⟩ m c news hx hl ?_ h1 (by omega) (by unfold maxLen; omega) hbytes hbase w.heap.size rfl ?_
    · intro j u hj
      have hadd : (⟨b, o', none⟩ : Addr).add j = ⟨b, o' + j, none⟩ := by unfold Addr.add; split <;> simp_all
      rw [hadd]; exact hc.get rfl hj
    · intro g cap w' h2 h3 _ _
      exact h _ w' h2 ((Below.refl base w).grown h3 hbase (fun j e => (hown.lt j e).1))
end
end Go.Proofs.Ytgngllgknimgkaa
namespace Go.Proofs.Ytgngllgknimgkaa
open Go.RowKit Go.Maps

end Go.Proofs.Ytgngllgknimgkaa
namespace Go.Proofs.Ytgngllgknimgkaa
open Go.RowKit Go.Maps

theorem cells_dropD {w : World} {b o : Nat} {vs : List Dm} (h : CellsAt w (some ⟨b, o, none⟩) (dC vs)) (k : Nat) : CellsAt w (some ⟨b, o + k * 5, none⟩) (dC (vs.drop k)) := by
  intro h0
  have hlen : 0 < (vs.drop k).length := by rw [dC_length] at h0; omega
  rw [List.length_drop] at hlen
  have hk : (vs.take k).length = k := by rw [List.length_take]; omega
  have hs : dC vs = dC (vs.take k) ++ dC (vs.drop k) := by rw [← dC_append, List.take_append_drop]
  obtain ⟨b', o', e, h1, _⟩ := h (by rw [dC_length]; omega)
  cases e
  refine ⟨b, o + k * 5, rfl, h1, fun j hj => ?_⟩
  have hj' : (dC vs)[k * 5 + j]? = some ((dC (vs.drop k)).getD j undef) := by
    rw [hs, List.getElem?_append_right (by rw [dC_length, hk]; omega), dC_length, hk, show k * 5 + j - k * 5 = j by omega, List.getD_eq_getElem?_getD, List.getElem?_eq_getElem hj]; rfl
  have h2 := h.get rfl hj'
  rw [show o + k * 5 + j = o + (k * 5 + j) by omega]; exact h2
end Go.Proofs.Ytgngllgknimgkaa
namespace Go.Proofs.Ytgngllgknimgkaa
open Go.RowKit Go.Maps

end Go.Proofs.Ytgngllgknimgkaa
namespace Go.Proofs.Ytgngllgknimgkaa
open Go.RowKit Go.Maps

def anN (vs : List Dm) : Nat → List ByteArray
  | 0 => []
  | k + 1 => putL (dAt vs k).t false (putL (dAt vs k).f false (anN vs k))
theorem anN_len (vs : List Dm) : ∀ k, (anN vs k).length ≤ 2 * k
  | 0 => Nat.le_refl _
  | k + 1 => by
    have h := anN_len vs k
    have h1 := putL_len (dAt vs k).f false (anN vs k)
    have h2 := putL_len (dAt vs k).t false (putL (dAt vs k).f false (anN vs k))
    rw [anN]
    omega
def fw22 (vs : List Dm) : Bool := if fw17 vs = true then if giE vs 0 = 0 then decide (vs.length ≤ 8) && decide ((anN vs vs.length).length ≤ 6) else true else false
end Go.Proofs.Ytgngllgknimgkaa
namespace Go.Proofs.Ytgngllgknimgkaa
open Go.RowKit Go.Maps

def raA (vs : List Dm) : Nat → List ByteArray
  | 0 => []
  | k + 1 => raA vs k ++ [(dAt vs k).f, (dAt vs k).t]
open Classical in
theorem anN_srt (vs : List Dm) : ∀ k, SrtIs (anN vs k) (fun s => decide (s ∈ raA vs k))
  | 0 => ⟨List.Pairwise.nil, fun s => by simp [anN, raA]⟩
  | k + 1 => by
    have ih := anN_srt vs k
    rw [anN]
    have e : raA vs (k + 1) = raA vs k ++ [(dAt vs k).f, (dAt vs k).t] := rfl
    refine (ih.put (dAt vs k).f (Q' := fun s => decide (s ∈ raA vs k ++ [(dAt vs k).f])) fun t => ?_).put (dAt vs k).t fun t => ?_
    · rw [Bool.eq_iff_iff, Bool.or_eq_true, sameB_iff]; simp; exact or_congr Iff.rfl eq_comm
    · rw [Bool.eq_iff_iff, Bool.or_eq_true, sameB_iff, e]; simp; rw [or_assoc]; exact or_congr Iff.rfl (or_congr Iff.rfl eq_comm)
theorem raA_mem (vs : List Dm) {i : Nat} : ∀ k, i < k → (dAt vs i).f ∈ raA vs k ∧ (dAt vs i).t ∈ raA vs k
  | 0, h => absurd h (Nat.not_lt_zero _)
  | k + 1, h => by
    rw [raA]
    by_cases e : i = k
    · subst e; simp
    · have := raA_mem vs k (i := i) (by omega)
      exact ⟨List.mem_append.2 (.inl this.1), List.mem_append.2 (.inl this.2)⟩
theorem nodup_le {α : Type} [DecidableEq α] : ∀ (ks M : List α), ks.Nodup → (∀ x ∈ ks, x ∈ M) → ks.length ≤ M.length
  | [], _, _, _ => Nat.zero_le _
  | k :: ks, M, hn, hs => by
    have h1 := List.nodup_cons.1 hn
    have hk : k ∈ M := hs k (by simp)
    have h2 := nodup_le ks (M.erase k) h1.2 (fun x hx => (List.mem_erase_of_ne (by rintro rfl; exact h1.1 hx)).2 (hs x (by simp [hx])))
    rw [List.length_erase_of_mem hk] at h2
    have := List.length_pos_of_mem hk
    rw [List.length_cons]; omega
theorem giE_zero {vs : List Dm} {ax : Int} (h : giE vs ax = 0) : giE vs 0 = 0 := by
  unfold giE at h ⊢
  by_cases e : 256 < vs.length
  · rw [if_pos e] at h; omega
  · rw [if_neg e] at h ⊢
    cases hq : loopE (giF vs) vs.length 0 () with
    | inl u => rfl
    | inr r => rw [hq] at h; exact h
theorem fw_names {vs : List Dm} {ax : Int} (hf : fw22 vs = true) (h : giE vs ax = 0) : vs.length ≤ 8 ∧ (nmG vs ax).length ≤ 6 := by
  classical
  unfold fw22 at hf
  have h0 := giE_zero h
  by_cases e : fw17 vs = true
  · rw [if_pos e, if_pos h0, Bool.and_eq_true, decide_eq_true_iff, decide_eq_true_iff] at hf
    refine ⟨hf.1, Nat.le_trans (nodup_le _ _ (nmG_nodup vs ax) fun s hs => ?_) hf.2⟩
    obtain ⟨i, h1, _, h3⟩ := (rawN_mem vs ax _ _).1 ((sortU_mem _ _).1 hs)
    have hm := raA_mem vs vs.length h1
    have h4 := (anN_srt vs vs.length).mem s
    have h5 : s ∈ raA vs vs.length := by
      rcases h3 with rfl | rfl
      · exact hm.1
      · exact hm.2
    simp [h5] at h4
    exact h4
  · rw [if_neg e] at hf; cases hf
end Go.Proofs.Ytgngllgknimgkaa
namespace Go.Proofs.Ytgngllgknimgkaa
open Go.RowKit Go.Maps

/-- A walk from name to name. -/
def NW (vs : List Dm) (ax : Int) (s t : ByteArray) (c : Int) : Prop := ∃ k, Wk (arX vs ax) (pos (nmG vs ax) s) (pos (nmG vs ax) t) k c
theorem waV_min {vs : List Dm} {ax : Int} {s t : ByteArray} {c : Int} (hE : cfE vs ax = true) (hs : s ∈ nmG vs ax) (ht : t ∈ nmG vs ax) (h : NW vs ax s t c) : waV vs ax s t ≤ c := by
  obtain ⟨k, h⟩ := h
  obtain ⟨d, h1, h2⟩ := wayF_min ((cfE_iff vs ax).1 hE) (arX_within vs ax) (pos_lt hs) h
  rw [waV_is hs ht]
  unfold wayN
  rw [h1]; exact h2
theorem waV_walk {vs : List Dm} {ax : Int} {s t : ByteArray} {c : Int} (hE : cfE vs ax = true) (hs : s ∈ nmG vs ax) (ht : t ∈ nmG vs ax) (h : NW vs ax s t c) : NW vs ax s t (waV vs ax s t) := by
  obtain ⟨k, h⟩ := h
  obtain ⟨d, h1, h2⟩ := wayF_min ((cfE_iff vs ax).1 hE) (arX_within vs ax) (pos_lt hs) h
  obtain ⟨k', h3⟩ := wayF_walk h1
  rw [waV_is hs ht]
  unfold wayN
  rw [h1]; exact ⟨k', h3⟩
theorem waV_eq {vs us : List Dm} {ax : Int} {s t p q : ByteArray} (hE : cfE vs ax = true) (hE' : cfE us ax = true) (hs : s ∈ nmG vs ax) (ht : t ∈ nmG vs ax) (hp : p ∈ nmG us ax) (hq : q ∈ nmG us ax)
    (h0 : ∃ c, NW vs ax s t c) (h1 : ∀ c, NW vs ax s t c → ∃ d, d ≤ c ∧ NW us ax p q d) (h2 : ∀ c, NW us ax p q c → ∃ d, d ≤ c ∧ NW vs ax s t d) : waV vs ax s t = waV us ax p q := by
  obtain ⟨c, h0⟩ := h0
  have w1 := waV_walk hE hs ht h0
  obtain ⟨d, hd, h3⟩ := h1 _ w1
  have w2 := waV_walk hE' hp hq h3
  have l1 := waV_min hE' hp hq h3
  obtain ⟨e, he, h4⟩ := h2 _ w2
  have l2 := waV_min hE hs ht h4
  omega
theorem CnN.nw {vs : List Dm} {ax : Int} {s t : ByteArray} (h : CnN vs ax s t) : ∃ c, NW vs ax s t c := by
  obtain ⟨k, c, h1⟩ := h.places.walk
  exact ⟨c, k, h1⟩
theorem NW.one {vs : List Dm} {ax : Int} {i : Nat} (h : onD vs ax i) : NW vs ax (dAt vs i).f (dAt vs i).t (dAt vs i).h ∧ NW vs ax (dAt vs i).t (dAt vs i).f (-(dAt vs i).l) :=
  ⟨⟨1, Wk.one (x := uAr vs ax i) (arX_mem.2 ⟨i, h, .inl rfl⟩)⟩, ⟨1, Wk.one (x := vAr vs ax i) (arX_mem.2 ⟨i, h, .inr rfl⟩)⟩⟩
theorem NW.add {vs : List Dm} {ax : Int} {s t p : ByteArray} {c d : Int} (h : NW vs ax s t c) (h2 : NW vs ax t p d) : NW vs ax s p (c + d) := by
  obtain ⟨k, h⟩ := h
  obtain ⟨m, h2⟩ := h2
  exact ⟨_, h.append h2⟩
/-- Walks of one list, arc by arc, by walks of another. -/
theorem Wk.sub {A A' : List Ar} {f : Nat → Nat} (h : ∀ x ∈ A', ∃ c k, c ≤ x.w ∧ Wk A (f x.a) (f x.b) k c) {a b k : Nat} {c : Int} (hw : Wk A' a b k c) : ∃ c' k', c' ≤ c ∧ Wk A (f a) (f b) k' c' := by
  induction hw with
  | nil a => exact ⟨0, 0, Int.le_refl _, Wk.nil _⟩
  | cons hx _ ih =>
    obtain ⟨c1, k1, h1, h2⟩ := h _ hx
    obtain ⟨c2, k2, h3, h4⟩ := ih
    exact ⟨c1 + c2, k1 + k2, by omega, h2.append h4⟩
theorem NW.sub {vs us : List Dm} {ax : Int} (h : ∀ i, onD vs ax i → (∃ d, d ≤ (dAt vs i).h ∧ NW us ax (dAt vs i).f (dAt vs i).t d) ∧ (∃ d, d ≤ -(dAt vs i).l ∧ NW us ax (dAt vs i).t (dAt vs i).f d))
    {s t : ByteArray} {c : Int} (hs : s ∈ nmG vs ax) (ht : t ∈ nmG vs ax) (hw : NW vs ax s t c) : ∃ d, d ≤ c ∧ NW us ax s t d := by
  obtain ⟨k, hw⟩ := hw
  have h2 := hw.sub (A := arX us ax) (f := fun p => pos (nmG us ax) (kAt (nmG vs ax) p)) (fun x hx => by
    obtain ⟨i, hi, e⟩ := arX_mem.1 hx
    obtain ⟨⟨d, hd, k1, w1⟩, ⟨d', hd', k2, w2⟩⟩ := h i hi
    rcases e with rfl | rfl
    · refine ⟨d, k1, hd, ?_⟩
      dsimp only
      rw [pF_name hi, pT_name hi]; exact w1
    · refine ⟨d', k2, hd', ?_⟩
      dsimp only
      rw [pF_name hi, pT_name hi]; exact w2)
  obtain ⟨c', k', h3, h4⟩ := h2
  rw [kAt_pos hs, kAt_pos ht] at h4
  exact ⟨c', h3, k', h4⟩
theorem dsX_ok {vs : List Dm} {ax : Int} {s t : ByteArray} (hg : giE vs ax = 0) (hE : cfE vs ax = true) (hne : s ≠ t) (hj : jnX vs ax s t = true) : dsX vs ax s t = (-waV vs ax t s, waV vs ax s t, 0) := by
  obtain ⟨hs, ht, _⟩ := jnX_iff.1 hj
  unfold dsX
  rw [if_pos hg, if_pos (by rw [inK_iff.2 hs, inK_iff.2 ht]; rfl), if_neg (fun h => hne (sameD_iff.1 h)), if_pos hj, if_pos hE, spL_way hE hj, spH_way hE hj]
theorem dsX_apart {vs : List Dm} {ax : Int} {s t : ByteArray} (hg : giE vs ax = 0) (hne : s ≠ t) (hj : jnX vs ax s t = false) : dsX vs ax s t = (0, 0, if (inK (nmG vs ax) s && inK (nmG vs ax) t) = true then 13 else 6) := by
  unfold dsX
  rw [if_pos hg]
  by_cases h : (inK (nmG vs ax) s && inK (nmG vs ax) t) = true
  · rw [if_pos h, if_pos h, if_neg (fun h => hne (sameD_iff.1 h)), if_neg (by rw [hj]; simp)]
  · rw [if_neg h, if_neg h]
/-- The dimensions along the axis that are left. -/
theorem giF_run (vs : List Dm) (h : ∀ j, j < vs.length → vaE (dAt vs j) = 0) : ∀ m i, i + m ≤ vs.length → loopE (giF vs) m i () = .inl ()
  | 0, i, _ => by rw [loopE]
  | m + 1, i, hm => by
    have e : giF vs i () = .inl () := by unfold giF; rw [if_pos (h i (by omega))]
    rw [loopE, e]; exact giF_run vs h m (i + 1) (by omega)
theorem giE_of {vs : List Dm} {ax : Int} (hl : vs.length ≤ 256) (h : ∀ j, j < vs.length → vaE (dAt vs j) = 0) (hx : axE ax = 0) : giE vs ax = 0 := by
  unfold giE
  rw [if_neg (by omega), giF_run vs h vs.length 0 (by omega)]; exact hx
theorem giE_ax {vs : List Dm} {ax : Int} (h : giE vs ax = 0) : axE ax = 0 := by
  obtain ⟨hl, ha⟩ := giE_all h
  unfold giE at h
  rw [if_neg (by omega), giF_run vs ha vs.length 0 (by omega)] at h; exact h
theorem vaE_ax {v : Dm} (h : vaE v = 0) : axE v.x = 0 := by
  unfold vaE at h
  unfold axE
  by_cases a : nmE v.f = 0
  · rw [if_pos a] at h
    by_cases b : nmE v.t = 0
    · rw [if_pos b] at h
      split at h
      · omega
      · split at h
        · omega
        · rename_i hh; rw [if_neg hh]
    · rw [if_neg b] at h; exact absurd h b
  · rw [if_neg a] at h; exact absurd h a
theorem giE_wo {vs : List Dm} {ax : Int} {k : Nat} (hk : k < vs.length) (h : giE vs ax = 0) : giE (wo vs k) ax = 0 := by
  obtain ⟨hl, ha⟩ := giE_all h
  exact giE_of (by have := wo_len hk; omega) (wo_all (Q := fun d => vaE d = 0) hk ha) (giE_ax h)
theorem wo_back {vs : List Dm} {k i : Nat} {ax : Int} (hk : k < vs.length) (hi : onD vs ax i) (hne : i ≠ k) : ∃ j, onD (wo vs k) ax j ∧ dAt (wo vs k) j = dAt vs i := by
  have hl := wo_len hk
  have h1 := hi.1
  by_cases e : i < k
  · have h2 := wo_at hk (show i < (wo vs k).length by omega)
    rw [if_pos e] at h2
    exact ⟨i, ⟨by omega, by rw [h2]; exact hi.2⟩, h2⟩
  · have h2 := wo_at hk (show i - 1 < (wo vs k).length by omega)
    rw [if_neg (by omega), show i - 1 + 1 = i by omega] at h2
    exact ⟨i - 1, ⟨by omega, by rw [h2]; exact hi.2⟩, h2⟩
theorem nm_of_on {vs : List Dm} {ax : Int} {i : Nat} (h : onD vs ax i) : (dAt vs i).f ∈ nmG vs ax ∧ (dAt vs i).t ∈ nmG vs ax :=
  ⟨(onA_names (onD_iff.1 h)).2.1, (onA_names (onD_iff.1 h)).2.2⟩
theorem nmG_mem {vs : List Dm} {ax : Int} {s : ByteArray} : s ∈ nmG vs ax ↔ ∃ i, onD vs ax i ∧ (s = (dAt vs i).f ∨ s = (dAt vs i).t) := by
  unfold nmG
  rw [sortU_mem, rawN_mem]
  exact ⟨fun ⟨i, a, b, c⟩ => ⟨i, ⟨a, b⟩, c⟩, fun ⟨i, a, c⟩ => ⟨i, a.1, a.2, c⟩⟩
theorem wo_names {vs : List Dm} {ax : Int} {k : Nat} (hk : k < vs.length) {s : ByteArray} (h : s ∈ nmG (wo vs k) ax) : s ∈ nmG vs ax := by
  obtain ⟨j, hj, e⟩ := nmG_mem.1 h
  obtain ⟨i, hi, hd⟩ := wo_on hk ax j hj
  rw [hd] at e
  exact nmG_mem.2 ⟨i, hi, e⟩
theorem wo_nw {vs : List Dm} {ax : Int} {k : Nat} (hk : k < vs.length) {s t : ByteArray} {c : Int} (hs : s ∈ nmG (wo vs k) ax) (ht : t ∈ nmG (wo vs k) ax) (h : NW (wo vs k) ax s t c) : ∃ d, d ≤ c ∧ NW vs ax s t d :=
  NW.sub (fun j hj => by
    obtain ⟨i, hi, hd⟩ := wo_on hk ax j hj
    rw [hd]
    obtain ⟨h1, h2⟩ := NW.one hi
    exact ⟨⟨_, Int.le_refl _, h1⟩, ⟨_, Int.le_refl _, h2⟩⟩) hs ht h
section
variable {vs : List Dm} {ax : Int} {k : Nat}
theorem dim_joined (hg : giE vs ax = 0) (hk : onD vs ax k) : (dAt vs k).f ≠ (dAt vs k).t ∧ jnX vs ax (dAt vs k).f (dAt vs k).t = true := by
  obtain ⟨h1, h2⟩ := nm_of_on hk
  refine ⟨va_ne ((giE_all hg).2 k hk.1), jnX_iff.2 ⟨h1, h2, Cn.fwd (p := fun i => (dAt vs i).f) (q := fun i => (dAt vs i).t) .refl hk⟩⟩
/-- A dimension that is not implied. -/
theorem implies_no (hg : giE vs ax = 0) (hk : onD vs ax k) (hcf : cfE vs ax = true) (hq : imQ vs ax k = false) :
    (dsX (wo vs k) ax (dAt vs k).f (dAt vs k).t).2.2 = 6 ∨ (dsX (wo vs k) ax (dAt vs k).f (dAt vs k).t).2.2 = 13 ∨
    ((dsX (wo vs k) ax (dAt vs k).f (dAt vs k).t).2.2 = 0 ∧ ((dsX (wo vs k) ax (dAt vs k).f (dAt vs k).t).1 < (dsX vs ax (dAt vs k).f (dAt vs k).t).1 ∨ (dsX vs ax (dAt vs k).f (dAt vs k).t).2.1 < (dsX (wo vs k) ax (dAt vs k).f (dAt vs k).t).2.1)) := by
  obtain ⟨hne, hj⟩ := dim_joined hg hk
  obtain ⟨hf, ht⟩ := nm_of_on hk
  have hg' := giE_wo hk.1 hg
  have hcf' := cfE_wo hk.1 hcf
  have hv := dsX_ok hg hcf hne hj
  obtain ⟨n1, n2⟩ := NW.one hk
  have b1 := waV_min hcf hf ht n1
  have b2 := waV_min hcf ht hf n2
  cases hJ : jnX (wo vs k) ax (dAt vs k).f (dAt vs k).t with
  | false =>
    rw [dsX_apart hg' hne hJ]
    dsimp only
    split
    · exact .inr (.inl rfl)
    · exact .inl rfl
  | true =>
    have hw := dsX_ok hg' hcf' hne hJ
    unfold imQ at hq
    rw [show ((dAt vs k).x == ax) = true by simpa using hk.2, hJ, Bool.true_and, Bool.true_and, spL_way hcf' hJ, spH_way hcf' hJ, Bool.and_eq_false_iff, decide_eq_false_iff_not, decide_eq_false_iff_not] at hq
    rw [hv, hw]
    refine .inr (.inr ⟨rfl, ?_⟩)
    dsimp only
    omega
/-- An implied one. -/
theorem implies_yes (hg : giE vs ax = 0) (hk : onD vs ax k) (hcf : cfE vs ax = true) (hq : imQ vs ax k = true) :
    ∀ a b, a ∈ nmG (wo vs k) ax → b ∈ nmG (wo vs k) ax → a ≠ b → dsX vs ax a b = dsX (wo vs k) ax a b := by
  obtain ⟨hne, hj⟩ := dim_joined hg hk
  have hg' := giE_wo hk.1 hg
  have hcf' := cfE_wo hk.1 hcf
  unfold imQ at hq
  rw [Bool.and_eq_true, Bool.and_eq_true, Bool.and_eq_true, decide_eq_true_iff, decide_eq_true_iff] at hq
  obtain ⟨_, hJ, hl, hh⟩ := hq
  rw [spL_way hcf' hJ] at hl
  rw [spH_way hcf' hJ] at hh
  obtain ⟨jf, jt, jc⟩ := jnX_iff.1 hJ
  obtain ⟨c1, w1⟩ := jc.nw
  obtain ⟨c2, w2⟩ := CnN.nw (Cn.symm jc)
  have w1 := waV_walk hcf' jf jt w1
  have w2 := waV_walk hcf' jt jf w2
  have hsub : ∀ i, onD vs ax i → (∃ d, d ≤ (dAt vs i).h ∧ NW (wo vs k) ax (dAt vs i).f (dAt vs i).t d) ∧ (∃ d, d ≤ -(dAt vs i).l ∧ NW (wo vs k) ax (dAt vs i).t (dAt vs i).f d) := fun i hi => by
    by_cases e : i = k
    · subst e; exact ⟨⟨_, hh, w1⟩, ⟨_, by omega, w2⟩⟩
    · obtain ⟨j, hj, hd⟩ := wo_back hk.1 hi e
      rw [← hd]
      obtain ⟨h1, h2⟩ := NW.one hj
      exact ⟨⟨_, Int.le_refl _, h1⟩, ⟨_, Int.le_refl _, h2⟩⟩
  intro a b ha hb hab
  have ha' := wo_names hk.1 ha
  have hb' := wo_names hk.1 hb
  have hjj : jnX vs ax a b = jnX (wo vs k) ax a b := by
    rw [Bool.eq_iff_iff, jnX_iff, jnX_iff]
    constructor
    · rintro ⟨_, _, hc⟩
      refine ⟨ha, hb, ?_⟩
      exact hc.shut (S := fun x => CnN (wo vs k) ax a x) .refl (fun i hi => by
        by_cases e : i = k
        · subst e; exact ⟨fun h => h.trans jc, fun h => h.trans jc.symm⟩
        · obtain ⟨j, hj, hd⟩ := wo_back hk.1 hi e
          rw [← hd]
          exact ⟨fun h => Cn.fwd (p := fun i => (dAt (wo vs k) i).f) (q := fun i => (dAt (wo vs k) i).t) h hj, fun h => Cn.bwd (p := fun i => (dAt (wo vs k) i).f) (q := fun i => (dAt (wo vs k) i).t) h hj⟩)
    · rintro ⟨_, _, hc⟩
      refine ⟨ha', hb', ?_⟩
      exact hc.shut (S := fun x => CnN vs ax a x) .refl (fun j hj => by
        obtain ⟨i, hi, hd⟩ := wo_on hk.1 ax j hj
        rw [hd]
        exact ⟨fun h => Cn.fwd (p := fun i => (dAt vs i).f) (q := fun i => (dAt vs i).t) h hi, fun h => Cn.bwd (p := fun i => (dAt vs i).f) (q := fun i => (dAt vs i).t) h hi⟩)
  cases hJ2 : jnX (wo vs k) ax a b with
  | false =>
    rw [dsX_apart hg hab (hjj.trans hJ2), dsX_apart hg' hab hJ2, inK_iff.2 ha, inK_iff.2 hb, inK_iff.2 ha', inK_iff.2 hb']
  | true =>
    have hJ3 := hjj.trans hJ2
    rw [dsX_ok hg hcf hab hJ3, dsX_ok hg' hcf' hab hJ2]
    have hc := (jnX_iff.1 hJ3).2.2
    rw [waV_eq hcf hcf' ha' hb' ha hb hc.nw (fun c h => NW.sub hsub ha' hb' h) (fun c h => wo_nw hk.1 ha hb h), waV_eq hcf hcf' hb' ha' hb ha (CnN.nw (Cn.symm hc)) (fun c h => NW.sub hsub hb' ha' h) (fun c h => wo_nw hk.1 hb ha h)]
end
theorem imF_mem {vs : List Dm} {ax : Int} {k : Nat} : ∀ n, k ∈ imF vs ax n ↔ k < n ∧ imQ vs ax k = true
  | 0 => by simp [imF]
  | n + 1 => by
    have ih := imF_mem (vs := vs) (ax := ax) (k := k) n
    rw [imF]
    by_cases e : imQ vs ax n = true
    · rw [if_pos e, List.mem_append, ih, List.mem_singleton]
      constructor
      · rintro (⟨h1, h2⟩ | rfl)
        · exact ⟨by omega, h2⟩
        · exact ⟨by omega, e⟩
      · rintro ⟨h1, h2⟩
        by_cases e2 : k = n
        · exact .inr e2
        · exact .inl ⟨by omega, h2⟩
    · rw [if_neg e, ih]
      constructor
      · rintro ⟨h1, h2⟩; exact ⟨by omega, h2⟩
      · rintro ⟨h1, h2⟩
        refine ⟨?_, h2⟩
        by_cases e2 : k = n
        · subst e2; exact absurd h2 e
        · omega
end Go.Proofs.Ytgngllgknimgkaa
