/- The plain laws of layer 53: what the program computes is what the reference computes. -/
import Derived.Test.YtfamennpajjajaaRag
import Derived.Test.YtfamennpajjajaaRaa
import Derived.Test.YtfamennpajjajaaRx
import Derived.Test.YtfamennpajjajaaRy
import Derived.Test.YtfamennpajjajaaRz
namespace Go.Proofs.Ytfamennpajjajaa
open Go.RowKit

theorem frs_iff (vs : List Ev) (p : ByteArray) (st : Int) : 0 ≤ frs vs p st ↔ ∃ i, i < vs.length ∧ (eAt vs i).p = p ∧ stt vs i = st := by
  have h := idxQ_ex (fsQ p st vs) vs.length 0
  have e : ∀ d k, idxQ (fsQ p st vs) d k = fsS p st vs d k := by
    intro d
    induction d with
    | zero => intro k; rfl
    | succ d ih => intro k; rw [idxQ, fsS, ih]
  rw [e] at h
  have h2 := exF_iff (fsQ p st vs) vs.length 0
  unfold frs
  rw [← decide_eq_true_iff (p := 0 ≤ fsS p st vs vs.length 0), h, h2]
  constructor
  · rintro ⟨j, _, h1, h3⟩
    unfold fsQ at h3
    rw [Bool.and_eq_true, sameB_iff, beq_iff_eq] at h3
    exact ⟨j, by omega, h3.1, h3.2⟩
  · rintro ⟨j, h1, h3, h4⟩
    refine ⟨j, by omega, by omega, ?_⟩
    unfold fsQ
    rw [Bool.and_eq_true, sameB_iff, beq_iff_eq]
    exact ⟨h3, h4⟩
theorem wd_iff (vs : List Ev) (p : ByteArray) : anyTo (wdQ p) vs vs.length = true ↔ ∃ i, i < vs.length ∧ (eAt vs i).k = 3 ∧ (eAt vs i).p = p := by
  rw [anyTo_iff]
  constructor
  · rintro ⟨j, h1, h3⟩
    unfold wdQ at h3
    rw [Bool.and_eq_true, sameB_iff, beq_iff_eq] at h3
    exact ⟨j, h1, h3.1, h3.2⟩
  · rintro ⟨j, h1, h3, h4⟩
    refine ⟨j, h1, ?_⟩
    unfold wdQ
    rw [Bool.and_eq_true, sameB_iff, beq_iff_eq]
    exact ⟨h3, h4⟩
theorem rcl_iff (vs : List Ev) (p : ByteArray) : rcl vs p = true ↔ (∃ i, i < vs.length ∧ (eAt vs i).p = p ∧ stt vs i = 3) ∧ (¬ ∃ i, i < vs.length ∧ (eAt vs i).p = p ∧ stt vs i = 2) ∧ ¬ ∃ i, i < vs.length ∧ (eAt vs i).k = 3 ∧ (eAt vs i).p = p := by
  unfold rcl
  rw [Bool.and_eq_true, Bool.and_eq_true, decide_eq_true_iff, decide_eq_true_iff, ← wd_iff, Bool.not_eq_true', ← Bool.not_eq_true, ← frs_iff, ← frs_iff]
  constructor
  · rintro ⟨h1, h2, h3⟩; exact ⟨h1, by omega, h3⟩
  · rintro ⟨h1, h2, h3⟩; exact ⟨h1, by omega, h3⟩
theorem stt_k {vs : List Ev} {i : Nat} (h : stt vs i ≠ 0) : (eAt vs i).k = 0 := by
  unfold stt at h
  by_cases e : (eAt vs i).k = 0
  · exact e
  · rw [if_neg e] at h; exact absurd rfl h
theorem nev_iff (vs : List Ev) (p : ByteArray) : exF (nevQ vs p) vs.length 0 = true ↔ (∃ i, i < vs.length ∧ (eAt vs i).p = p ∧ stt vs i = 2) ∨ ∃ i, i < vs.length ∧ (eAt vs i).k = 3 ∧ (eAt vs i).p = p := by
  rw [exF_iff]
  constructor
  · rintro ⟨j, _, h1, h3⟩
    unfold nevQ at h3
    rw [Bool.and_eq_true, sameB_iff, Bool.or_eq_true, beq_iff_eq, beq_iff_eq] at h3
    rcases h3.1 with h | h
    · exact .inr ⟨j, by omega, h, h3.2⟩
    · exact .inl ⟨j, by omega, h3.2, h⟩
  · rintro (⟨j, h1, h3, h4⟩ | ⟨j, h1, h3, h4⟩)
    · refine ⟨j, by omega, by omega, ?_⟩
      unfold nevQ
      rw [Bool.and_eq_true, sameB_iff, Bool.or_eq_true, beq_iff_eq, beq_iff_eq]
      exact ⟨.inr h4, h3⟩
    · refine ⟨j, by omega, by omega, ?_⟩
      unfold nevQ
      rw [Bool.and_eq_true, sameB_iff, Bool.or_eq_true, beq_iff_eq, beq_iff_eq]
      exact ⟨.inl h3, h4⟩
theorem kp_iff (q : Ev → Int → Bool) (vs : List Ev) (p : ByteArray) : kpQ q vs p = true ↔ (∃ i, i < vs.length ∧ (eAt vs i).p = p ∧ (eAt vs i).k = 0 ∧ stt vs i ≠ 2 ∧ q (eAt vs i) (stt vs i) = true) ∧ (¬ ∃ i, i < vs.length ∧ (eAt vs i).p = p ∧ stt vs i = 2) ∧ ¬ ∃ i, i < vs.length ∧ (eAt vs i).k = 3 ∧ (eAt vs i).p = p := by
  unfold kpQ
  rw [Bool.and_eq_true, Bool.not_eq_true', ← Bool.not_eq_true, nev_iff, exF_iff, not_or]
  refine and_congr ⟨?_, ?_⟩ Iff.rfl
  · rintro ⟨j, _, h1, h3⟩
    unfold outQ at h3
    simp only [Bool.and_eq_true, Bool.not_eq_true', Bool.or_eq_false_iff, beq_eq_false_iff_ne, beq_iff_eq, sameB_iff] at h3
    exact ⟨j, by omega, h3.2, h3.1.2.1, h3.1.1.2, h3.1.2.2⟩
  · rintro ⟨j, h1, h2, h3, h4, h5⟩
    refine ⟨j, by omega, by omega, ?_⟩
    unfold outQ
    simp only [Bool.and_eq_true, Bool.not_eq_true', Bool.or_eq_false_iff, beq_eq_false_iff_ne, beq_iff_eq, sameB_iff]
    exact ⟨⟨⟨by omega, h4⟩, h3, h5⟩, h2⟩
theorem kpR (vs : List Ev) (p : ByteArray) : kpQ qR vs p = rcl vs p := by
  rw [Bool.eq_iff_iff, kp_iff, rcl_iff]
  refine and_congr ⟨?_, ?_⟩ Iff.rfl
  · rintro ⟨j, h1, h2, h3, h4, h5⟩
    exact ⟨j, h1, h2, by simpa [qR] using h5⟩
  · rintro ⟨j, h1, h2, h3⟩
    exact ⟨j, h1, h2, stt_k (by omega), by omega, by simp [qR, h3]⟩

/-! ### lists -/
theorem putsTo_any (q : Nat → Bool) (key : Nat → ByteArray) (n : Nat) : SrtIs (putsTo q key n) (fun s => anyN (fun i => q i && sameB (key i) s) n) :=
  putsTo_srt q key (fun s i => q i && sameB (key i) s) (fun _ _ => rfl) (fun s n => anyN (fun i => q i && sameB (key i) s) n) (fun _ => rfl) (fun _ _ => rfl) n
theorem SrtIs.congr {ks : List ByteArray} {Q Q' : ByteArray → Bool} (h : SrtIs ks Q) (e : ∀ s, Q s = Q' s) : SrtIs ks Q' := ⟨h.up, fun s => by rw [h.mem, e]⟩
theorem allL_srt (vs : List Ev) : SrtIs (allL vs) (rcl vs) := (putsTo_any _ _ _).congr fun s => by
  rw [Bool.eq_iff_iff, anyN_iff]
  constructor
  · rintro ⟨j, h1, h2⟩
    unfold allQ at h2
    rw [Bool.and_eq_true, Bool.and_eq_true, sameB_iff] at h2
    rw [← h2.2]; exact h2.1.2
  · intro h
    obtain ⟨⟨j, h1, h2, h3⟩, _⟩ := (rcl_iff vs s).1 h
    refine ⟨j, h1, ?_⟩
    unfold allQ
    rw [Bool.and_eq_true, Bool.and_eq_true, sameB_iff, h2, beq_iff_eq]
    exact ⟨⟨stt_k (by omega), h⟩, rfl⟩
theorem parts_eq {vs : List Ev} {ks : List ByteArray} (h : SrtIs ks (kpQ qR vs)) : ks = allL vs := h.unique ((allL_srt vs).congr fun s => (kpR vs s).symm)
theorem lots_eq {vs : List Ev} {ks : List ByteArray} (h : SrtIs ks (fun s => anyN (lotQ vs s) vs.length)) : ks = lotL vs := h.unique ((putsTo_any _ _ _).congr fun s => by
  congr 1; funext i; unfold lotQ allQ; rw [kpR])
theorem anyN_exF (Q : Nat → Bool) (n : Nat) : anyN Q n = exF Q n 0 := by
  rw [Bool.eq_iff_iff, anyN_iff, exF_iff]
  exact ⟨fun ⟨j, h1, h2⟩ => ⟨j, by omega, by omega, h2⟩, fun ⟨j, _, h1, h2⟩ => ⟨j, by omega, h2⟩⟩
theorem unsure_eq {vs : List Ev} {ks : List ByteArray} (h : SrtIs ks (fun g => exF (uQ vs g) vs.length 0)) : ks = unsL vs := h.unique ((putsTo_any _ _ _).congr fun _ => anyN_exF _ _)

/-! ### the states with a check more -/
theorem eAt_app {vs : List Ev} {v : Ev} {i : Nat} (h : i < vs.length) : eAt (vs ++ [v]) i = eAt vs i := by
  unfold eAt; rw [List.getD_eq_getElem?_getD, List.getElem?_append_left h, List.getD_eq_getElem?_getD]
theorem eAt_last (vs : List Ev) (v : Ev) : eAt (vs ++ [v]) vs.length = v := by
  unfold eAt; rw [List.getD_eq_getElem?_getD, List.getElem?_append_right (Nat.le_refl _)]; simp
theorem nxS_app (g : ByteArray) (vs : List Ev) (v : Ev) : ∀ d k, k + d = vs.length → nxS g (vs ++ [v]) (d + 1) k = if nxS g vs d k < 0 then (if ckQ g v = true then (vs.length : Int) else -1) else nxS g vs d k
  | 0, k, h => by
    obtain rfl : k = vs.length := by omega
    rw [nxS, nxS, nxS, eAt_last]; rfl
  | d + 1, k, h => by
    have ih := nxS_app g vs v d (k + 1) (by omega)
    have e1 : nxS g (vs ++ [v]) (d + 1 + 1) k = if ckQ g (eAt (vs ++ [v]) k) = true then (k : Int) else nxS g (vs ++ [v]) (d + 1) (k + 1) := rfl
    have e2 : nxS g vs (d + 1) k = if ckQ g (eAt vs k) = true then (k : Int) else nxS g vs d (k + 1) := rfl
    rw [eAt_app (by omega)] at e1
    by_cases hq : ckQ g (eAt vs k) = true
    · rw [if_pos hq] at e1 e2
      rw [e1, e2, if_neg (by omega)]
    · rw [if_neg hq] at e1 e2
      rw [e1, e2, ih]
theorem nx_app {vs : List Ev} {v : Ev} {i : Nat} (h : i < vs.length) : nx (vs ++ [v]) i = if nx vs i < 0 then (if ckQ (eAt vs i).g v = true then (vs.length : Int) else -1) else nx vs i := by
  unfold nx
  rw [eAt_app h, List.length_append, List.length_singleton, show vs.length + 1 - (i + 1) = (vs.length - (i + 1)) + 1 from by omega]
  exact nxS_app _ vs v _ _ (by omega)
/-- The state of a measurement with an event more behind the log. -/
theorem stt_app {vs : List Ev} {v : Ev} {i : Nat} (h : i < vs.length) : stt (vs ++ [v]) i = if stt vs i = 1 ∧ ckQ (eAt vs i).g v = true then 1 + v.k else stt vs i := by
  by_cases h0 : (eAt vs i).k = 0
  · have hs : stt vs i = if nx vs i < 0 then 1 else 1 + (eAt vs (nx vs i).toNat).k := by unfold stt; rw [if_pos h0]
    have hs' : stt (vs ++ [v]) i = if nx (vs ++ [v]) i < 0 then 1 else 1 + (eAt (vs ++ [v]) (nx (vs ++ [v]) i).toNat).k := by unfold stt; rw [eAt_app h, if_pos h0]
    rcases nx_cases vs i with hn | ⟨j, hn, hij, hj, hck⟩
    · have hs1 : stt vs i = 1 := by rw [hs, hn]; rfl
      have hnx : nx (vs ++ [v]) i = if ckQ (eAt vs i).g v = true then (vs.length : Int) else -1 := by rw [nx_app h, hn]; rfl
      by_cases hq : ckQ (eAt vs i).g v = true
      · rw [if_pos hq] at hnx
        rw [hs', hnx, if_neg (by omega), Int.toNat_natCast, eAt_last, hs1, if_pos ⟨rfl, hq⟩]
      · rw [if_neg hq] at hnx
        rw [if_neg (fun hh => hq hh.2), hs', hnx, hs1]; rfl
    · have hnx : nx (vs ++ [v]) i = j := by rw [nx_app h, hn, if_neg (by omega)]
      have hs1 : stt vs i = 1 + (eAt vs j).k := by rw [hs, hn, if_neg (by omega), Int.toNat_natCast]
      have hub : (eAt vs j).k = 1 ∨ (eAt vs j).k = 2 := by
        unfold ckQ at hck
        rw [Bool.and_eq_true, Bool.or_eq_true, beq_iff_eq, beq_iff_eq] at hck
        exact hck.1
      rw [if_neg (by omega), hs', hnx, if_neg (by omega), Int.toNat_natCast, eAt_app hj, hs1]
  · have hs : stt vs i = 0 := by unfold stt; rw [if_neg h0]
    have hs' : stt (vs ++ [v]) i = 0 := by unfold stt; rw [eAt_app h, if_neg h0]
    rw [hs, hs', if_neg (by omega)]
theorem stt_last (vs : List Ev) (v : Ev) (h : v.k ≠ 0) : stt (vs ++ [v]) vs.length = 0 := by
  unfold stt; rw [eAt_last, if_neg h]
theorem len1 (vs : List Ev) (v : Ev) : (vs ++ [v]).length = vs.length + 1 := by simp
theorem ck_bad (g : ByteArray) (u : ByteArray) : ckQ u (badEv g) = true ↔ u = g := by
  unfold ckQ badEv
  simp only [Bool.and_eq_true, sameB_iff]
  exact ⟨fun h => h.2.symm, fun h => ⟨rfl, h.symm⟩⟩
/-- What is recalled behind a bad check: what the program's AtRisk keeps. -/
theorem kpA (vs : List Ev) (g p : ByteArray) : kpQ (qA g) vs p = rcl (vs ++ [badEv g]) p := by
  rw [Bool.eq_iff_iff, kp_iff, rcl_iff, len1]
  have hb : (badEv g).k = 2 := rfl
  have e3 : ∀ i, i < vs.length → (stt (vs ++ [badEv g]) i = 3 ↔ stt vs i = 3 ∨ (stt vs i = 1 ∧ (eAt vs i).g = g)) := fun i hi => by
    rw [stt_app hi, hb]
    by_cases h : stt vs i = 1 ∧ ckQ (eAt vs i).g (badEv g) = true
    · rw [if_pos h]; exact ⟨fun _ => .inr ⟨h.1, (ck_bad _ _).1 h.2⟩, fun _ => rfl⟩
    · rw [if_neg h]; exact ⟨fun h => .inl h, fun h2 => h2.resolve_right fun h3 => h ⟨h3.1, (ck_bad _ _).2 h3.2⟩⟩
  have e2 : ∀ i, i < vs.length → (stt (vs ++ [badEv g]) i = 2 ↔ stt vs i = 2) := fun i hi => by
    rw [stt_app hi, hb]
    by_cases h : stt vs i = 1 ∧ ckQ (eAt vs i).g (badEv g) = true
    · rw [if_pos h]; constructor <;> intro h2 <;> omega
    · rw [if_neg h]
  have last : ∀ i, i < vs.length + 1 → i < vs.length ∨ i = vs.length := fun i hi => by omega
  have sl := stt_last vs (badEv g) (by rw [hb]; decide)
  refine and_congr ⟨?_, ?_⟩ (and_congr (not_congr ⟨?_, ?_⟩) (not_congr ⟨?_, ?_⟩))
  · rintro ⟨j, h1, h2, h3, h4, h5⟩
    refine ⟨j, by omega, by rw [eAt_app h1]; exact h2, (e3 j h1).2 ?_⟩
    unfold qA at h5
    rw [Bool.or_eq_true, Bool.and_eq_true, beq_iff_eq, beq_iff_eq, sameB_iff] at h5
    exact h5
  · rintro ⟨j, h1, h2, h3⟩
    rcases last j h1 with h | rfl
    · rw [eAt_app h] at h2
      have h6 := (e3 j h).1 h3
      refine ⟨j, h, h2, stt_k (by omega), by omega, ?_⟩
      unfold qA
      rw [Bool.or_eq_true, Bool.and_eq_true, beq_iff_eq, beq_iff_eq, sameB_iff]
      exact h6
    · rw [sl] at h3; omega
  · rintro ⟨j, h1, h2, h3⟩
    exact ⟨j, by omega, by rw [eAt_app h1]; exact h2, (e2 j h1).2 h3⟩
  · rintro ⟨j, h1, h2, h3⟩
    rcases last j h1 with h | rfl
    · rw [eAt_app h] at h2; exact ⟨j, h, h2, (e2 j h).1 h3⟩
    · rw [sl] at h3; omega
  · rintro ⟨j, h1, h2, h3⟩
    exact ⟨j, by omega, by rw [eAt_app h1]; exact h2, by rw [eAt_app h1]; exact h3⟩
  · rintro ⟨j, h1, h2, h3⟩
    rcases last j h1 with h | rfl
    · rw [eAt_app h] at h2 h3; exact ⟨j, h, h2, h3⟩
    · rw [eAt_last, hb] at h2; omega
theorem risk_eq {vs : List Ev} {g : ByteArray} {ks : List ByteArray} (h : SrtIs ks (fun p => kpQ (qA g) vs p && !kpQ qR vs p)) : ks = riskL vs g := by
  refine h.unique ⟨(allL_srt (vs ++ [badEv g])).up.sublist List.filter_sublist, fun s => ?_⟩
  unfold riskL
  rw [List.mem_filter, (allL_srt (vs ++ [badEv g])).mem, kpA, kpR, Bool.and_eq_true]
  have : hasL (allL vs) s = rcl vs s := by rw [Bool.eq_iff_iff, hasL_iff, (allL_srt vs).mem]
  rw [this]
theorem ms_eq (vs : List Ev) (p : ByteArray) : exF (fun i => msQ p (eAt vs i)) vs.length 0 = anyTo (msQ p) vs vs.length := by
  rw [Bool.eq_iff_iff, exF_iff, anyTo_iff]
  exact ⟨fun ⟨j, _, h1, h2⟩ => ⟨j, by omega, h2⟩, fun ⟨j, h1, h2⟩ => ⟨j, by omega, by omega, h2⟩⟩
end Go.Proofs.Ytfamennpajjajaa
