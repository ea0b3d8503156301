/- The plain law of RecallGauges: a log without the checks of a gauge. -/
import Derived.Test.YtfamennpajjajaaRap
import Derived.Test.YtfamennpajjajaaRy
namespace Go.Proofs.Ytfamennpajjajaa
open Go.RowKit

/-- What stays without the checks of a gauge. -/
def keepF (g : ByteArray) (v : Ev) : Bool := !ckQ g v
theorem chk_split {vs : List Ev} : chk3 vs = 0 ↔ vs.length ≤ 4096 ∧ ∀ a v b, vs = a ++ v :: b → okEv a v := by
  rw [chk_iff]
  refine and_congr Iff.rfl ⟨fun h a v b e => ?_, fun h i hi => ?_⟩
  · have h1 := h a.length (by rw [e]; simp)
    have e1 : vs.take a.length = a := by rw [e, List.take_left']; rfl
    have e2 : eAt vs a.length = v := by unfold eAt; rw [e, List.getD_eq_getElem?_getD, List.getElem?_append_right (Nat.le_refl _)]; simp
    rw [e1, e2] at h1
    exact h1
  · refine h (vs.take i) (eAt vs i) (vs.drop (i + 1)) ?_
    rw [eAt_lt hi, ← List.drop_eq_getElem_cons hi, List.take_append_drop]
theorem any_keep {f q : Ev → Bool} (h : ∀ x, q x = true → f x = true) (a : List Ev) : (a.filter f).any q = a.any q := by
  induction a with
  | nil => rfl
  | cons x a ih =>
    rw [List.filter_cons]
    cases hf : f x with
    | true => rw [if_pos rfl, List.any_cons, List.any_cons, ih]
    | false =>
      rw [if_neg (by simp), ih, List.any_cons]
      cases hq : q x with
      | true => rw [h x hq] at hf; cases hf
      | false => rfl
theorem keep_k {g : ByteArray} {v : Ev} (h : v.k ≠ 1) (h2 : v.k ≠ 2) : keepF g v = true := by
  unfold keepF ckQ
  rw [beq_eq_false_iff_ne.2 h, beq_eq_false_iff_ne.2 h2]; rfl
theorem okEv_keep {g : ByteArray} {a : List Ev} {v : Ev} (h : okEv a v) : okEv (a.filter (keepF g)) v := by
  have hw : ∀ p, (a.filter (keepF g)).any (wdQ p) = a.any (wdQ p) := fun p => any_keep (fun x hx => by
    unfold wdQ at hx; rw [Bool.and_eq_true, beq_iff_eq] at hx; exact keep_k (by omega) (by omega)) a
  have hm : ∀ p, (a.filter (keepF g)).any (msQ p) = a.any (msQ p) := fun p => any_keep (fun x hx => by
    unfold msQ at hx; rw [Bool.and_eq_true, beq_iff_eq] at hx; exact keep_k (by omega) (by omega)) a
  have hl : ∀ p t, (a.filter (keepF g)).any (ltQ p t) = a.any (ltQ p t) := fun p t => any_keep (fun x hx => by
    unfold ltQ at hx; rw [Bool.and_eq_true, Bool.and_eq_true, beq_iff_eq] at hx; exact keep_k (by omega) (by omega)) a
  unfold okEv
  rw [hw, hm, hl]
  exact h
theorem chk_keep {vs : List Ev} (g : ByteArray) (h : chk3 vs = 0) : chk3 (vs.filter (keepF g)) = 0 := by
  rw [chk_split] at h ⊢
  refine ⟨Nat.le_trans (List.length_filter_le _ _) h.1, fun a' v b' e => ?_⟩
  obtain ⟨l1, l2, e1, e2, e3⟩ := List.filter_eq_append_iff.1 e
  obtain ⟨m1, m2, e4, e5, _, _⟩ := List.filter_eq_cons_iff.1 e3
  have h1 := h.2 (l1 ++ m1) v m2 (by rw [e1, e4, List.append_assoc])
  have h2 := okEv_keep (g := g) h1
  rw [List.filter_append, e2, List.filter_eq_nil_iff.2 (fun x hx => e5 x hx), List.append_nil] at h2
  exact h2

/-! ### states, from the front -/
def stOf (v : Ev) (t : List Ev) : Int := if v.k = 0 then (match t.find? (ckQ v.g) with | none => 1 | some u => 1 + u.k) else 0
theorem drop_eAt {vs : List Ev} {k : Nat} (h : k < vs.length) : vs.drop k = eAt vs k :: vs.drop (k + 1) := by rw [List.drop_eq_getElem_cons h, eAt_lt h]
theorem nxS_find (g : ByteArray) (vs : List Ev) : ∀ d k, k + d = vs.length → (((vs.drop k).find? (ckQ g) = none ∧ nxS g vs d k = -1) ∨ ∃ j : Nat, (vs.drop k).find? (ckQ g) = some (eAt vs j) ∧ nxS g vs d k = j)
  | 0, k, h => .inl ⟨by rw [List.drop_of_length_le (by omega)]; rfl, rfl⟩
  | d + 1, k, h => by
    rw [drop_eAt (by omega), nxS, List.find?_cons]
    by_cases hq : ckQ g (eAt vs k) = true
    · rw [hq, if_pos rfl]; exact .inr ⟨k, rfl, rfl⟩
    · rw [eq_false_of_ne_true hq, if_neg (by simp)]; exact nxS_find g vs d (k + 1) (by omega)
theorem stt_of {vs : List Ev} {i : Nat} (h : i < vs.length) : stt vs i = stOf (eAt vs i) (vs.drop (i + 1)) := by
  unfold stt stOf
  by_cases h0 : (eAt vs i).k = 0
  · rw [if_pos h0, if_pos h0]
    unfold nx
    rcases nxS_find (eAt vs i).g vs (vs.length - (i + 1)) (i + 1) (by omega) with ⟨h1, h2⟩ | ⟨j, h1, h2⟩
    · rw [h1, h2]; rfl
    · rw [h1, h2, if_neg (by omega), Int.toNat_natCast]
  · rw [if_neg h0, if_neg h0]
def stRec : List Ev → List Int
  | [] => []
  | v :: t => stOf v t :: stRec t
theorem stRec_is (l : List Ev) : ∀ t off, l.drop off = t → stRec t = (List.range' off t.length).map (stt l)
  | [], _, _ => rfl
  | v :: t, off, h => by
    have hlt : off < l.length := by
      by_cases e : off < l.length
      · exact e
      · rw [List.drop_of_length_le (by omega)] at h; cases h
    rw [drop_eAt hlt] at h
    obtain ⟨h1, h2⟩ := List.cons.inj h
    have ih := stRec_is l t (off + 1) h2
    rw [stRec, List.length_cons, List.range'_succ, List.map_cons, ih, stt_of hlt, h1, h2]
def wantS (vs : List Ev) (g : ByteArray) (i : Nat) : Int := if (eAt vs i).k = 0 ∧ (eAt vs i).g = g then 1 else stt vs i
theorem stOf_keep {vs : List Ev} {g : ByteArray} {i : Nat} (h : i < vs.length) : stOf (eAt vs i) ((vs.drop (i + 1)).filter (keepF g)) = wantS vs g i := by
  unfold wantS
  rw [stt_of h]
  unfold stOf
  by_cases h0 : (eAt vs i).k = 0
  · have ed : (fun a => decide (keepF g a = true ∧ ckQ (eAt vs i).g a = true)) = fun a => keepF g a && ckQ (eAt vs i).g a := by
      funext a; cases keepF g a <;> cases ckQ (eAt vs i).g a <;> rfl
    rw [if_pos h0, List.find?_filter, ed]
    by_cases hg : (eAt vs i).g = g
    · rw [if_pos ⟨h0, hg⟩]
      have : (vs.drop (i + 1)).find? (fun a => keepF g a && ckQ (eAt vs i).g a) = none := by
        rw [List.find?_eq_none]
        intro x _
        rw [hg]; unfold keepF
        cases ckQ g x <;> simp
      rw [this]
    · rw [if_neg fun hh => hg hh.2, if_pos h0]
      have : (fun a => keepF g a && ckQ (eAt vs i).g a) = ckQ (eAt vs i).g := by
        funext a
        cases hq : ckQ (eAt vs i).g a with
        | false => rw [Bool.and_false]
        | true =>
          have h3 : a.g = (eAt vs i).g := by unfold ckQ at hq; rw [Bool.and_eq_true, sameB_iff] at hq; exact hq.2
          have : keepF g a = true := by
            unfold keepF ckQ
            rw [sameB_no.2 (by rw [h3]; exact hg), Bool.and_false]; rfl
          rw [this]; rfl
      rw [this]
  · rw [if_neg h0, if_neg (fun hh => h0 hh.1), if_neg h0]
/-- The places of what stays. -/
def atL (vs : List Ev) (g : ByteArray) (n : Nat) : List Nat := (List.range n).filter (fun i => keepF g (eAt vs i))
theorem atL_succ (vs : List Ev) (g : ByteArray) (n : Nat) : atL vs g (n + 1) = atL vs g n ++ (if keepF g (eAt vs n) = true then [n] else []) := by
  unfold atL; rw [List.range_succ, List.filter_append]
  cases h : keepF g (eAt vs n) <;> simp [h]
theorem keep_succ {vs : List Ev} (g : ByteArray) {n : Nat} (h : n < vs.length) : (vs.take (n + 1)).filter (keepF g) = (vs.take n).filter (keepF g) ++ (if keepF g (eAt vs n) = true then [eAt vs n] else []) := by
  rw [take_succE h, List.filter_append]
  cases h2 : keepF g (eAt vs n) <;> simp [h2]
theorem atL_len (vs : List Ev) (g : ByteArray) : ∀ n, n ≤ vs.length → (atL vs g n).length = ((vs.take n).filter (keepF g)).length
  | 0, _ => by simp [atL]
  | n + 1, h => by
    rw [atL_succ, keep_succ g (by omega), List.length_append, List.length_append, atL_len vs g n (by omega)]
    cases keepF g (eAt vs n) <;> rfl
theorem keep_st (vs : List Ev) (g : ByteArray) : ∀ t off, vs.drop off = t → stRec (t.filter (keepF g)) = ((List.range' off t.length).filter (fun i => keepF g (eAt vs i))).map (wantS vs g)
  | [], _, _ => rfl
  | v :: t, off, h => by
    have hlt : off < vs.length := by
      by_cases e : off < vs.length
      · exact e
      · rw [List.drop_of_length_le (by omega)] at h; cases h
    rw [drop_eAt hlt] at h
    obtain ⟨h1, h2⟩ := List.cons.inj h
    have ih := keep_st vs g t (off + 1) h2
    rw [List.length_cons, List.range'_succ, List.filter_cons, List.filter_cons, h1]
    cases hf : keepF g v with
    | true => rw [if_pos rfl, if_pos rfl, stRec, List.map_cons, ih, ← stOf_keep hlt, h1, h2]
    | false => rw [if_neg (by simp), if_neg (by simp), ih]
theorem keep_states (vs : List Ev) (g : ByteArray) : stL (vs.filter (keepF g)) = (atL vs g vs.length).map (wantS vs g) := by
  have h1 := stRec_is (vs.filter (keepF g)) (vs.filter (keepF g)) 0 rfl
  have h2 := keep_st vs g vs 0 rfl
  unfold stL atL
  rw [List.range_eq_range', List.range_eq_range', ← h1, h2]
theorem atL_mem {vs : List Ev} {g : ByteArray} {n k : Nat} (h : k < (atL vs g n).length) : (atL vs g n)[k] < n := by
  have h2 := List.getElem_mem (l := atL vs g n) h
  unfold atL at h2
  rw [List.mem_filter, List.mem_range] at h2
  exact h2.1
theorem keep_at {vs : List Ev} {g : ByteArray} {k : Nat} (h : k < (atL vs g vs.length).length) : at0 (stL (vs.filter (keepF g))) k = wantS vs g ((atL vs g vs.length)[k]) := by
  rw [keep_states]
  unfold at0
  rw [List.getD_eq_getElem?_getD, List.getElem?_map, List.getElem?_eq_getElem h]; rfl
/-! ### bad gauges -/
def badQ (vs : List Ev) (s : ByteArray) (i : Nat) : Bool := (eAt vs i).k == 2 && sameB (eAt vs i).g s
theorem rcl_measured {vs : List Ev} {p : ByteArray} (h : rcl vs p = true) : exF (fun i => msQ p (eAt vs i) && anyN (badQ vs (eAt vs i).g) vs.length) vs.length 0 = true := by
  obtain ⟨i, j, _, _, hij, hj, hp, hk, hkj, hg⟩ := reason_is h
  rw [exF_iff]
  refine ⟨i, by omega, by omega, ?_⟩
  have h1 : anyN (badQ vs (eAt vs i).g) vs.length = true := (anyN_iff _ _).2 ⟨j, hj, by unfold badQ; rw [hkj, hg, sameB_iff.2 rfl]; rfl⟩
  show (msQ p (eAt vs i) && anyN (badQ vs (eAt vs i).g) vs.length) = true
  rw [h1, Bool.and_true]
  unfold msQ
  rw [hk, sameB_iff.2 hp]; rfl
end Go.Proofs.Ytfamennpajjajaa
