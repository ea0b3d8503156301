/- Right logs, event by event; logs with events more behind them. -/
import Derived.Test.YtfamennpajjajaaRai
namespace Go.Proofs.Ytfamennpajjajaa
open Go.RowKit

/-- An event may follow these. -/
def okEv (a : List Ev) (v : Ev) : Prop := evE v = 0 ∧ (v.k = 0 → a.any (wdQ v.p) = false ∧ a.any (ltQ v.p v.t) = false) ∧ (v.k = 3 → a.any (msQ v.p) = true ∧ a.any (wdQ v.p) = false)
theorem anyTo_take (q : Ev → Bool) (vs : List Ev) : ∀ n, n ≤ vs.length → anyTo q vs n = (vs.take n).any q
  | 0, _ => by simp [anyTo]
  | n + 1, h => by rw [anyTo, anyTo_take q vs n (by omega), take_succE (by omega), List.any_append]; simp
theorem c3F_ok {vs : List Ev} {i : Nat} (h : i < vs.length) : c3F vs i () = .inl () ↔ okEv (vs.take i) (eAt vs i) := by
  unfold c3F okEv
  rw [anyTo_take _ _ i (by omega), anyTo_take _ _ i (by omega), anyTo_take _ _ i (by omega)]
  generalize eAt vs i = v
  generalize vs.take i = a
  by_cases h0 : evE v = 0
  · rw [if_pos h0]
    by_cases h1 : v.k = 0
    · rw [if_pos h1]
      cases a.any (wdQ v.p) <;> cases a.any (ltQ v.p v.t) <;> simp [h0, h1]
    · rw [if_neg h1]
      by_cases h3 : v.k = 3
      · rw [if_pos h3]
        cases a.any (wdQ v.p) <;> cases a.any (msQ v.p) <;> simp [h0, h3]
      · rw [if_neg h3]; simp [h0, h1, h3]
  · rw [if_neg h0]; simp [h0]
theorem c3F_err {vs : List Ev} {i : Nat} {r : Int} (h : c3F vs i () = .inr r) : r ≠ 0 := by
  unfold c3F at h
  by_cases h0 : evE (eAt vs i) = 0
  · rw [if_pos h0] at h
    split at h
    · split at h
      · cases h; decide
      · split at h
        · cases h; decide
        · cases h
    · split at h
      · split at h
        · split at h
          · cases h; decide
          · cases h
        · cases h; decide
      · cases h
  · rw [if_neg h0] at h; cases h; exact h0
theorem chk_iff {vs : List Ev} : chk3 vs = 0 ↔ vs.length ≤ 4096 ∧ ∀ i, i < vs.length → okEv (vs.take i) (eAt vs i) := by
  unfold chk3
  by_cases e : 4096 < vs.length
  · rw [if_pos e]
    exact ⟨fun h => by omega, fun h => by omega⟩
  · rw [if_neg e]
    have h1 := loopE_unit (f := c3F vs) vs.length 0
    constructor
    · intro h
      cases hx : loopE (c3F vs) vs.length 0 () with
      | inl u => exact ⟨by omega, fun i hi => (c3F_ok hi).1 (h1.1 hx i (by omega) (by omega))⟩
      | inr r =>
        rw [hx] at h
        obtain ⟨j, _, _, hj⟩ := loopE_unit_inr _ _ hx
        exact absurd h (c3F_err hj)
    · rintro ⟨_, h⟩
      rw [h1.2 fun j _ h3 => (c3F_ok (by omega)).2 (h j (by omega))]
      rfl
theorem chk_nil : chk3 [] = 0 := rfl
theorem chk_app {vs : List Ev} {v : Ev} (h : chk3 vs = 0) (hl : vs.length < 4096) (hv : okEv vs v) : chk3 (vs ++ [v]) = 0 := by
  rw [chk_iff] at h ⊢
  refine ⟨by rw [len1]; omega, fun i hi => ?_⟩
  rw [len1] at hi
  by_cases e : i < vs.length
  · rw [eAt_app e, List.take_append_of_le_length (by omega)]
    exact h.2 i e
  · obtain rfl : i = vs.length := by omega
    rw [eAt_last, List.take_left']
    · exact hv
    · rfl

/-! ### checks of gauges -/
def ckEv (k : Int) (g : ByteArray) : Ev := ⟨k, g, ⟨#[]⟩, ⟨#[]⟩⟩
theorem ok_check {a : List Ev} {k : Int} {g : ByteArray} (hk : k = 1 ∨ k = 2) (hg : nmE g = 0) : okEv a (ckEv k g) := by
  refine ⟨?_, fun h => ?_, fun h => ?_⟩
  · unfold evE
    have h0 : ¬ ((ckEv k g).k < 0 ∨ 3 < (ckEv k g).k) := by show ¬ (k < 0 ∨ 3 < k); omega
    have h1 : ¬ (ckEv k g).k = 0 := by show ¬ k = 0; omega
    have h3 : ¬ (ckEv k g).k = 3 := by show ¬ k = 3; omega
    rw [if_neg h0, if_neg h1, if_neg h3, if_pos (show nmE (ckEv k g).g = 0 from hg), if_pos ⟨rfl, rfl⟩]
  · have : k = 0 := h
    omega
  · have : k = 3 := h
    omega
theorem risk_mem {vs : List Ev} {g s : ByteArray} : s ∈ riskL vs g ↔ rcl (vs ++ [ckEv 2 g]) s = true ∧ ¬ rcl vs s = true := by
  unfold riskL
  have : hasL (allL vs) s = rcl vs s := by rw [Bool.eq_iff_iff, hasL_iff, (allL_srt vs).mem]
  rw [List.mem_filter, (allL_srt (vs ++ [badEv g])).mem, this, Bool.not_eq_true', Bool.not_eq_true]
  exact Iff.rfl
theorem stt_check {vs : List Ev} {k : Int} {g : ByteArray} (hk : k = 1 ∨ k = 2) {i : Nat} (hi : i < vs.length) : stt (vs ++ [ckEv k g]) i = if stt vs i = 1 ∧ (eAt vs i).g = g then 1 + k else stt vs i := by
  have hq : ckQ (eAt vs i).g (ckEv k g) = true ↔ (eAt vs i).g = g := by
    unfold ckQ
    rw [Bool.and_eq_true, Bool.or_eq_true, beq_iff_eq, beq_iff_eq, sameB_iff]
    exact ⟨fun h => h.2.symm, fun h => ⟨hk, h.symm⟩⟩
  rw [stt_app hi]
  by_cases h : stt vs i = 1 ∧ (eAt vs i).g = g
  · rw [if_pos h, if_pos ⟨h.1, hq.2 h.2⟩]; rfl
  · rw [if_neg h, if_neg fun h2 => h ⟨h2.1, hq.1 h2.2⟩]
theorem stt_checkEnd (vs : List Ev) {k : Int} {g : ByteArray} (hk : k = 1 ∨ k = 2) : stt (vs ++ [ckEv k g]) vs.length = 0 := stt_last _ _ (by show k ≠ 0; omega)
/-- What was recalled stays recalled behind a bad check. -/
theorem rcl_bad {vs : List Ev} {g p : ByteArray} (h : rcl vs p = true) : rcl (vs ++ [ckEv 2 g]) p = true := by
  rw [show ckEv 2 g = badEv g from rfl, ← kpA, kp_iff]
  obtain ⟨⟨j, h1, h2, h3⟩, h4, h5⟩ := (rcl_iff vs p).1 h
  exact ⟨⟨j, h1, h2, stt_k (by omega), by omega, by unfold qA; rw [h3]; rfl⟩, h4, h5⟩
/-- Behind a good one nothing is recalled that was not. -/
theorem rcl_good {vs : List Ev} {g p : ByteArray} (h : rcl (vs ++ [ckEv 1 g]) p = true) : rcl vs p = true := by
  rw [rcl_iff, len1] at h
  rw [rcl_iff]
  obtain ⟨⟨j, h1, h2, h3⟩, h4, h5⟩ := h
  have hk1 : (1 : Int) = 1 ∨ (1 : Int) = 2 := .inl rfl
  refine ⟨?_, fun ⟨i, q1, q2, q3⟩ => h4 ?_, fun ⟨i, q1, q2, q3⟩ => h5 ?_⟩
  · have hj : j < vs.length := by
      by_cases e : j < vs.length
      · exact e
      · obtain rfl : j = vs.length := by omega
        rw [stt_checkEnd vs hk1] at h3; cases h3
    rw [stt_check hk1 hj] at h3
    rw [eAt_app hj] at h2
    refine ⟨j, hj, h2, ?_⟩
    by_cases e : stt vs j = 1 ∧ (eAt vs j).g = g
    · rw [if_pos e] at h3; cases h3
    · rw [if_neg e] at h3; exact h3
  · exact ⟨i, by omega, by rw [eAt_app q1]; exact q2, by rw [stt_check hk1 q1, if_neg (by rw [q3]; simp)]; exact q3⟩
  · exact ⟨i, by omega, by rw [eAt_app q1]; exact q2, by rw [eAt_app q1]; exact q3⟩
/-- Behind a check of a gauge no measurement of it is open. -/
theorem uns_check {vs : List Ev} {k : Int} {g : ByteArray} (hk : k = 1 ∨ k = 2) : ¬ g ∈ unsL (vs ++ [ckEv k g]) := by
  have hm := (putsTo_any (opQ (vs ++ [ckEv k g])) (fun i => (eAt (vs ++ [ckEv k g]) i).g) (vs ++ [ckEv k g]).length).mem g
  show ¬ g ∈ putsTo _ _ _
  rw [hm, anyN_iff]
  rintro ⟨j, h1, h2⟩
  unfold opQ at h2
  rw [Bool.and_eq_true, beq_iff_eq, sameB_iff] at h2
  obtain ⟨h2, h3⟩ := h2
  rw [len1] at h1
  by_cases e : j < vs.length
  · rw [eAt_app e] at h3
    rw [stt_check hk e] at h2
    by_cases e2 : stt vs j = 1 ∧ (eAt vs j).g = g
    · rw [if_pos e2] at h2; omega
    · rw [if_neg e2] at h2; exact e2 ⟨h2, h3⟩
  · obtain rfl : j = vs.length := by omega
    rw [stt_checkEnd vs hk] at h2; cases h2

/-! ### withdrawals -/
def wdEv (p : ByteArray) : Ev := ⟨3, ⟨#[]⟩, p, ⟨#[]⟩⟩
theorem any_iff {q : Ev → Bool} {vs : List Ev} : vs.any q = true ↔ ∃ i, i < vs.length ∧ q (eAt vs i) = true := by
  rw [← List.take_length (l := vs), ← anyTo_take q vs vs.length (Nat.le_refl _), anyTo_iff, List.take_length]
theorem rcl_ms {vs : List Ev} {p : ByteArray} (h : rcl vs p = true) : vs.any (msQ p) = true ∧ vs.any (wdQ p) = false := by
  obtain ⟨⟨j, h1, h2, h3⟩, _, h5⟩ := (rcl_iff vs p).1 h
  refine ⟨any_iff.2 ⟨j, h1, by unfold msQ; rw [stt_k (i := j) (vs := vs) (by omega), h2, sameB_iff.2 rfl]; rfl⟩, ?_⟩
  cases hx : vs.any (wdQ p) with
  | false => rfl
  | true =>
    obtain ⟨i, q1, q2⟩ := any_iff.1 hx
    unfold wdQ at q2
    rw [Bool.and_eq_true, beq_iff_eq, sameB_iff] at q2
    exact absurd ⟨i, q1, q2.1, q2.2⟩ h5
theorem rcl_nm {vs : List Ev} {p : ByteArray} (hc : chk3 vs = 0) (h : rcl vs p = true) : nmE p = 0 := by
  obtain ⟨⟨j, h1, h2, h3⟩, _⟩ := (rcl_iff vs p).1 h
  have h4 := ((chk_iff.1 hc).2 j h1).1
  have h0 := stt_k (vs := vs) (i := j) (by omega)
  unfold evE at h4
  rw [if_neg (by omega), if_pos h0, h2] at h4
  by_cases hg : nmE (eAt vs j).g = 0
  · rw [if_pos hg] at h4
    by_cases hp : nmE p = 0
    · exact hp
    · rw [if_neg hp] at h4; exact h4
  · rw [if_neg hg] at h4; exact absurd h4 hg
theorem chk_wds {vs : List Ev} (hc : chk3 vs = 0) : ∀ (m : Nat) (ks : List ByteArray), ks.length = m → vs.length + m ≤ 4096 → ks.Nodup → (∀ p ∈ ks, rcl vs p = true) → chk3 (vs ++ ks.map wdEv) = 0 := by
  intro m
  induction m with
  | zero =>
    intro ks h _ _ _
    obtain rfl := List.length_eq_zero_iff.1 h
    simpa using hc
  | succ m ih =>
    intro ks hl hm hn hr
    obtain ⟨js, p, rfl⟩ : ∃ js p, ks = js ++ [p] := ⟨ks.dropLast, ks.getLast (by intro e; rw [e] at hl; simp at hl), (List.dropLast_concat_getLast _).symm⟩
    rw [List.nodup_append] at hn
    have hp : p ∉ js := fun h => hn.2.2 p h p (by simp) rfl
    have h1 := ih js (by simpa using hl) (by omega) hn.1 (fun q hq => hr q (by simp [hq]))
    have hrp := hr p (by simp)
    have hjl : js.length = m := by simpa using hl
    rw [List.map_append, ← List.append_assoc]
    refine chk_app h1 (by rw [List.length_append, List.length_map]; omega) ⟨?_, fun h => ?_, fun _ => ⟨?_, ?_⟩⟩
    · unfold evE
      rw [if_neg (show ¬ ((wdEv p).k < 0 ∨ 3 < (wdEv p).k) from by show ¬ ((3 : Int) < 0 ∨ (3 : Int) < 3); omega), if_neg (show ¬ (wdEv p).k = 0 from by show ¬ (3 : Int) = 0; decide), if_pos (show (wdEv p).k = 3 from rfl),
        if_pos (show nmE (wdEv p).p = 0 from rcl_nm hc hrp), if_pos ⟨rfl, rfl⟩]
    · have : (3 : Int) = 0 := h
      omega
    · rw [List.any_append, show vs.any (msQ (wdEv p).p) = true from (rcl_ms hrp).1]; rfl
    · rw [List.any_append, show vs.any (wdQ (wdEv p).p) = false from (rcl_ms hrp).2, Bool.false_or, List.any_map]
      rw [List.any_eq_false]
      intro q hq
      show ¬ (wdQ p (wdEv q)) = true
      unfold wdQ wdEv
      rw [Bool.and_eq_true, sameB_iff]
      rintro ⟨_, e⟩
      subst e
      exact hp hq
theorem stt_wds {vs : List Ev} : ∀ (m : Nat) (ks : List ByteArray), ks.length = m → (∀ i, i < vs.length → stt (vs ++ ks.map wdEv) i = stt vs i) ∧ ∀ i, vs.length ≤ i → i < vs.length + m → stt (vs ++ ks.map wdEv) i = 0 := by
  intro m ks hm
  refine ⟨?_, fun i h1 h2 => ?_⟩
  · induction m generalizing ks with
    | zero =>
      obtain rfl := List.length_eq_zero_iff.1 hm
      intro i _; simp
    | succ m ih =>
      obtain ⟨js, p, rfl⟩ : ∃ js p, ks = js ++ [p] := ⟨ks.dropLast, ks.getLast (by intro e; rw [e] at hm; simp at hm), (List.dropLast_concat_getLast _).symm⟩
      intro i hi
      rw [List.map_append, ← List.append_assoc]
      show stt ((vs ++ js.map wdEv) ++ [wdEv p]) i = _
      rw [stt_app (by rw [List.length_append]; omega), if_neg, ih js (by simpa using hm) i hi]
      rintro ⟨_, h⟩
      unfold ckQ wdEv at h
      rw [Bool.and_eq_true] at h
      have h1 : ((3 : Int) == 1 || (3 : Int) == 2) = true := h.1
      cases h1
  · unfold stt
    rw [if_neg]
    intro h0
    have : eAt (vs ++ ks.map wdEv) i = wdEv (ks.getD (i - vs.length) ⟨#[]⟩) := by
      unfold eAt
      rw [List.getD_eq_getElem?_getD, List.getElem?_append_right h1, List.getElem?_map, List.getD_eq_getElem?_getD, List.getElem?_eq_getElem (by omega)]; rfl
    rw [this] at h0
    have h3 : (3 : Int) = 0 := h0
    cases h3
/-- Behind the withdrawals of all that is recalled nothing is recalled. -/
theorem rcl_wds (vs : List Ev) (p : ByteArray) : rcl (vs ++ (allL vs).map wdEv) p = false := by
  cases hx : rcl (vs ++ (allL vs).map wdEv) p with
  | false => rfl
  | true =>
    exfalso
    obtain ⟨⟨j, h1, h2, h3⟩, h4, h5⟩ := (rcl_iff _ p).1 hx
    obtain ⟨e1, e2⟩ := stt_wds (vs := vs) (allL vs).length (allL vs) rfl
    rw [List.length_append, List.length_map] at h1
    have ea : ∀ i, i < vs.length → eAt (vs ++ (allL vs).map wdEv) i = eAt vs i := fun i hi => by
      unfold eAt; rw [List.getD_eq_getElem?_getD, List.getElem?_append_left hi, List.getD_eq_getElem?_getD]
    have hj : j < vs.length := by
      by_cases e : j < vs.length
      · exact e
      · rw [e2 j (by omega) h1] at h3; cases h3
    have hr : rcl vs p = true := by
      rw [rcl_iff]
      refine ⟨⟨j, hj, by rw [← ea j hj]; exact h2, by rw [← e1 j hj]; exact h3⟩, fun ⟨i, q1, q2, q3⟩ => h4 ?_, fun ⟨i, q1, q2, q3⟩ => h5 ?_⟩
      · exact ⟨i, by rw [List.length_append]; omega, by rw [ea i q1]; exact q2, by rw [e1 i q1]; exact q3⟩
      · exact ⟨i, by rw [List.length_append]; omega, by rw [ea i q1]; exact q2, by rw [ea i q1]; exact q3⟩
    have hm := ((allL_srt vs).mem p).2 hr
    obtain ⟨m, hm1, hm2⟩ := List.mem_iff_getElem.1 hm
    refine h5 ⟨vs.length + m, by rw [List.length_append, List.length_map]; omega, ?_⟩
    have : eAt (vs ++ (allL vs).map wdEv) (vs.length + m) = wdEv p := by
      unfold eAt
      rw [List.getD_eq_getElem?_getD, List.getElem?_append_right (by omega), Nat.add_sub_cancel_left, List.getElem?_map, List.getElem?_eq_getElem hm1, hm2]; rfl
    rw [this]
    exact ⟨rfl, rfl⟩
theorem all_wds (vs : List Ev) : allL (vs ++ (allL vs).map wdEv) = [] := by
  rw [List.eq_nil_iff_forall_not_mem]
  intro p hp
  rw [(allL_srt _).mem, rcl_wds] at hp
  cases hp
theorem lot_wds (vs : List Ev) : lotL (vs ++ (allL vs).map wdEv) = [] := by
  rw [List.eq_nil_iff_forall_not_mem]
  intro p hp
  have hm := (putsTo_any (allQ (vs ++ (allL vs).map wdEv)) (fun i => (eAt (vs ++ (allL vs).map wdEv) i).t) (vs ++ (allL vs).map wdEv).length).mem p
  obtain ⟨j, _, h2⟩ := (anyN_iff _ _).1 (hm.1 hp)
  unfold allQ at h2
  rw [rcl_wds, Bool.and_false, Bool.false_and] at h2
  cases h2
/-- A recalled part's first suspect measurement. -/
theorem rea_hit' {vs : List Ev} {p : ByteArray} (h : rcl vs p = true) : ∃ j : Nat, frs vs p 3 = j ∧ j < vs.length ∧ (eAt vs j).p = p ∧ stt vs j = 3 := by
  have h1 := ((rcl_iff vs p).1 h).1
  rw [← frs_iff] at h1
  rcases fsS_cases p 3 vs vs.length 0 with h2 | ⟨j, h2, _, h4, h5⟩
  · unfold frs at h1; omega
  · unfold fsQ at h5
    rw [Bool.and_eq_true, sameB_iff, beq_iff_eq] at h5
    exact ⟨j, h2, by omega, h5.1, h5.2⟩
/-- The reason of a recalled part: a measurement of it, and a bad check of the same gauge behind it. -/
theorem reason_is {vs : List Ev} {p : ByteArray} (h : rcl vs p = true) : ∃ i j : Nat, frs vs p 3 = i ∧ nx vs (frs vs p 3).toNat = j ∧ i < j ∧ j < vs.length ∧ (eAt vs i).p = p ∧ (eAt vs i).k = 0 ∧ (eAt vs j).k = 2 ∧ (eAt vs j).g = (eAt vs i).g := by
  obtain ⟨i, h1, h2, h3, h4⟩ := rea_hit' h
  have h0 := stt_k (vs := vs) (i := i) (by omega)
  unfold stt at h4
  rw [if_pos h0] at h4
  rcases nx_cases vs i with hn | ⟨j, hn, hij, hj, hck⟩
  · rw [hn, if_pos (by omega)] at h4; cases h4
  · rw [hn, if_neg (by omega), Int.toNat_natCast] at h4
    unfold ckQ at hck
    rw [Bool.and_eq_true, sameB_iff] at hck
    exact ⟨i, j, h1, by rw [h1, Int.toNat_natCast, hn], hij, hj, h3, h0, by omega, hck.2⟩
end Go.Proofs.Ytfamennpajjajaa
