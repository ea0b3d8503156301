/- Events that came in, as the row reads them. -/
import Derived.Test.YteoniejpfmeibaaDoorSt
import Derived.Test.YteoniejpfmeibaaDoorSaj
namespace Go.Proofs.YteoniejpfmeibaaDoor
open Go.RowKit Go.Joins Go.ChangeShapes Go.WideShapes Go.Deep

theorem evs_ex {Q : Nat → V5 → Prop} : ∀ n : Nat, (∀ i, i < n → ∃ b, Q i b) → ∃ vs : List V5, vs.length = n ∧ ∀ i, i < n → Q i (vAt vs i)
  | 0, _ => ⟨[], rfl, fun i h => absurd h (by omega)⟩
  | n + 1, h => by
    obtain ⟨bs, h1, h2⟩ := evs_ex n fun i hi => h i (by omega)
    obtain ⟨b, hb⟩ := h n (by omega)
    refine ⟨bs ++ [b], by simp [h1], fun i hi => ?_⟩
    by_cases e : i = n
    · subst e
      have : vAt (bs ++ [b]) i = b := by unfold vAt; rw [List.getD_eq_getElem?_getD, List.getElem?_append_right (by omega), h1]; simp
      rw [this]; exact hb
    · have : vAt (bs ++ [b]) i = vAt bs i := by unfold vAt; rw [List.getD_eq_getElem?_getD, List.getElem?_append_left (by omega), List.getD_eq_getElem?_getD]
      rw [this]; exact h2 i (by omega)

set_option maxRecDepth 100000 in
theorem open_events {H : Type} {enc : TypeId × Value → H} {w : World} {base : Nat} {spare : Nat → Bool} {held : Bool} {ae : Option Addr} {n c : Nat} {d : DataW H} {p : List MemPlace}
    (h : DataW.Trod enc Tryd.prog w base spare held 69 (.slice ae n c) d p) :
    ∃ vs : List V5, n = vs.length ∧ CellsAt w ae (vC vs) ∧ WhoOk vs ∧ ((DataW.weights Tryd.prog 69 d).all (· ≤ reachBytes) = true → vs.length * 40 ≤ 140737488355328) := by
  obtain ⟨fuel, h1⟩ := h
  rcases open_slice_fields Tryd.underlying69 Tryd.underlying106 (by kernel_rfl) (by kernel_rfl) h1 with ⟨hc1, _⟩ | ⟨a, len, cap, mm, D, Pl, hc1, _, hl, hm, hmm, hx, hi⟩
  · simp [Value.cells] at hc1
    obtain ⟨rfl, rfl, rfl⟩ := hc1
    exact ⟨[], rfl, CellsAt.nil _ _, fun i h => absurd h (by simp), fun _ => by simp⟩
  · simp [Value.cells] at hc1
    obtain ⟨rfl, rfl, rfl⟩ := hc1
    have hlm : n ≤ mm := by rw [hmm]; split <;> omega
    have hex : ∀ i, i < n → ∃ b : V5, w.cell? (a.add (i * 4)) = some (.int .i64 b.k) ∧ w.cell? (a.add (i * 4 + 1)) = some (.string b.who) ∧ w.cell? (a.add (i * 4 + 2)) = some (.int .i64 b.l) ∧ w.cell? (a.add (i * 4 + 3)) = some (.int .i64 b.x) ∧ b.who.size ≤ maxLen := by
      intro i hil
      obtain ⟨ys, k, _, _, _, hf⟩ := hi i (by omega)
      obtain ⟨u0, z0, q0, _, t0⟩ := hf 0 _ rfl
      obtain ⟨u1, z1, q1, _, t1⟩ := hf 1 _ rfl
      obtain ⟨u2, z2, q2, _, t2⟩ := hf 2 _ rfl
      obtain ⟨u3, z3, q3, _, t3⟩ := hf 3 _ rfl
      obtain ⟨n0, e0, _, _⟩ := DataW.trod_int Tryd.underlying3 t0
      obtain ⟨s1, e1, _, hs1⟩ := DataW.trod_string Tryd.underlying9 t1
      obtain ⟨n2, e2, _, _⟩ := DataW.trod_int Tryd.underlying3 t2
      obtain ⟨n3, e3, _, _⟩ := DataW.trod_int Tryd.underlying3 t3
      cases e0; cases e1; cases e2; cases e3
      exact ⟨⟨n0, s1, n2, n3⟩, q0, q1, q2, q3, hs1⟩
    obtain ⟨vs, hbl, hb⟩ := evs_ex n hex
    subst hbl
    refine ⟨vs, rfl, ?_, fun i hil => ?_, fun hz => ?_⟩
    · intro h0
      rw [vC_length] at h0
      have hq := (hb 0 (by omega)).1
      obtain ⟨b, o, e, hlt⟩ := spot_none hq
      have ha : a = ⟨b, o, none⟩ := by
        rw [Nat.zero_mul] at e
        unfold Addr.add at e; simpa using e
      subst ha
      refine ⟨b, o, rfl, hlt, fun j hj => ?_⟩
      rw [vC_length] at hj
      have had : ∀ k, Addr.add ⟨b, o, none⟩ k = ⟨b, o + k, none⟩ := fun k => by unfold Addr.add; split <;> simp_all
      obtain ⟨i, r, hij, hr⟩ : ∃ i r, j = i * 4 + r ∧ r < 4 := ⟨j / 4, j % 4, by omega, by omega⟩
      have hil : i < vs.length := by omega
      obtain ⟨c0, c1, c2, c3, _⟩ := hb i hil
      rw [had] at c0 c1 c2 c3
      obtain ⟨g0, g1, g2, g3⟩ := vC_get vs i hil
      subst hij
      rw [List.getD_eq_getElem?_getD]
      match r, hr with
      | 0, _ => rw [Nat.add_zero, g0]; exact c0
      | 1, _ => rw [g1]; exact c1
      | 2, _ => rw [g2]; exact c2
      | 3, _ => rw [g3]; exact c3
    · have := (hb i hil).2.2.2.2
      have h2 : maxLen ≤ 9223372036854775807 := by decide
      omega
    · rw [Prod.ext_iff] at hx
      obtain ⟨hx1, _⟩ := hx
      simp only at hx1
      subst hx1
      have hmem : ((List.range vs.length).map D).length * 40 ≤ reachBytes := by
        have h3 := List.all_eq_true.1 hz ((((List.range vs.length).map D).length + ((List.range (mm - vs.length)).map fun j => D (vs.length + j)).length) * Tryd.prog.bytesOf 106) (by
          simp [DataW.weights, DataW.weightsEach, Tryd.underlying69])
        rw [decide_eq_true_eq, show Tryd.prog.bytesOf 106 = 40 by kernel_rfl] at h3
        exact Nat.le_trans (Nat.mul_le_mul_right _ (Nat.le_add_right _ _)) h3
      rw [List.length_map, List.length_range] at hmem
      have := reachBytes_lt
      omega
end Go.Proofs.YteoniejpfmeibaaDoor
