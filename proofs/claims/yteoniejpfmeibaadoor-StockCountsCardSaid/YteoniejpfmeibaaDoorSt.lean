/- A stock that came in, as the row reads it. -/
import Derived.Deep.Slices
import Derived.Deep.Fields
import Derived.ChangeSame
import Derived.Lib.SmallJoins
import Derived.SizedLaws
import Derived.Test.YteoniejpfmeibaaDoorSa
import Derived.Test.YteoniejpfmeibaaDoorSj
namespace Go.Proofs.YteoniejpfmeibaaDoor
open Go.RowKit Go.Joins Go.ChangeShapes Go.WideShapes Go.Deep

section
variable {H : Type} {enc : TypeId × Value → H} {P : Program} {w : World} {base : Nat} {spare : Nat → Bool} {held : Bool}
/-- (After the guide's page of structs.) A slice of structs, cell by cell. -/
theorem open_slice_fields {t e : TypeId} {fs : Array Field} {fuel : Nat} {cs : List Value} {x : DataW H × List MemPlace} (ht : P.underlying t = some (.slice e)) (he : P.underlying e = some (.struct fs))
    (hone : oneCellFields P fs = true) (hC : P.cellsOf e = fs.size) (h : DataW.trod enc P w base spare held fuel t cs = some x) :
    (cs = [.slice none 0 0] ∧ x = (.nil, [])) ∨
    ∃ (a : Addr) (len cap m : Nat) (D : Nat → DataW H) (Pl : Nat → List MemPlace), cs = [.slice (some a) len cap] ∧ base ≤ a.block ∧ len ≤ cap ∧ cap ≤ maxLen ∧ m = (if spare a.block then cap else len) ∧
      x = (.slice ((List.range len).map D) ((List.range (m - len)).map fun j => D (len + j)), MemPlace.row a (m * fs.size) ++ (List.range m).flatMap Pl) ∧
      ∀ i, i < m → ∃ (ys : List (DataW H × List MemPlace)) (n : Nat), D i = .agg (ys.map (·.1)) ∧ Pl i = ys.flatMap (·.2) ∧ ys.length = fs.size ∧
        ∀ (j : Nat) (f : Field), fs[j]? = some f → ∃ (v : Value) (y : DataW H × List MemPlace), w.cell? (a.add (i * fs.size + j)) = some v ∧ ys[j]? = some y ∧ DataW.trod enc P w base spare held n f.type [v] = some y := by
  rcases open_slice ht h with h0 | ⟨a, len, cap, m, n, D, Pl, hcs, hb, hl, hm, hmm, hx, hi⟩
  · exact .inl h0
  · refine .inr ⟨a, len, cap, m, D, Pl, hcs, hb, hl, hm, hmm, by rw [hC] at hx; exact hx, fun i him => ?_⟩
    obtain ⟨cs', hc, ht'⟩ := hi i him
    rw [hC] at hc
    obtain ⟨ys, n', hn', hy, hlen, hyl, hf⟩ := DataW.trod_struct he ht'
    obtain ⟨_, hcl, hat⟩ := World.cells?_some hc
    simp only [Prod.mk.injEq] at hy
    refine ⟨ys, n', hy.1, hy.2, hyl, fun j f hj => ?_⟩
    obtain ⟨ho, hk⟩ := hone_of hone j f hj
    have hjl : j < fs.size := (Array.getElem?_eq_some_iff.1 hj).1
    have hcell := hat j hjl
    have hv : cs'[j]? = some (cs'[j]'(by omega)) := List.getElem?_eq_getElem (by omega)
    have h1 := hf j f hj
    rw [ho, hk] at h1
    have hone' : (cs'.drop j).take 1 = [cs'[j]'(by omega)] := by
      rw [List.drop_eq_getElem_cons (by omega)]
      rfl
    rw [hone'] at h1
    have hys : ys[j]? = some (ys[j]'(by omega)) := List.getElem?_eq_getElem (by omega)
    refine ⟨_, _, ?_, hys, h1.trans hys⟩
    rw [← Go.Deep.add_add, hcell, hv]

end

theorem blks_ex {Q : Nat → B5 → Prop} : ∀ n : Nat, (∀ i, i < n → ∃ b, Q i b) → ∃ bs : List B5, bs.length = n ∧ ∀ i, i < n → Q i (bAt bs i)
  | 0, _ => ⟨[], rfl, fun i h => absurd h (by omega)⟩
  | n + 1, h => by
    obtain ⟨bs, h1, h2⟩ := blks_ex n fun i hi => h i (by omega)
    obtain ⟨b, hb⟩ := h n (by omega)
    refine ⟨bs ++ [b], by simp [h1], fun i hi => ?_⟩
    by_cases e : i = n
    · subst e
      have : bAt (bs ++ [b]) i = b := by unfold bAt; rw [List.getD_eq_getElem?_getD, List.getElem?_append_right (by omega), h1]; simp
      rw [this]; exact hb
    · have : bAt (bs ++ [b]) i = bAt bs i := by unfold bAt; rw [List.getD_eq_getElem?_getD, List.getElem?_append_left (by omega), List.getD_eq_getElem?_getD]
      rw [this]; exact h2 i (by omega)

theorem spot_none {w : World} {x : Addr} {v : Value} (h : w.cell? x = some v) : ∃ b o, x = ⟨b, o, none⟩ ∧ b < w.heap.size := by
  obtain ⟨b, o, sp⟩ := x
  have hs : sp = none := by
    unfold World.cell? at h
    split at h
    · split at h
      · cases h
      · rename_i h2; simpa using h2
    · cases h
  subst hs
  exact ⟨b, o, rfl, lt_of_cell h⟩

set_option maxRecDepth 100000 in
theorem open_stock {H : Type} {enc : TypeId × Value → H} {w : World} {base : Nat} {spare : Nat → Bool} {held : Bool} {r : Reach} {b0 : Nat} {v : Value} {d : DataW H} {p : List MemPlace}
    (hv : Value.okWide Tryd.prog w r b0 24 v) (h : DataW.Trod enc Tryd.prog w base spare held 24 v d p) :
    ∃ (m : Int) (ao : Option Addr) (bs : List B5) (c : Nat), v = .agg #[.int .i64 m, .slice ao bs.length c] ∧ BSl w ao c bs ∧ StrOk bs ∧ (Lit.int .i64 m).wf = true ∧
      ((DataW.weights Tryd.prog 24 d).all (· ≤ reachBytes) = true → bs.length * 40 ≤ 140737488355328) := by
  obtain ⟨v0, v1, y0, y1, n, rfl, rfl, rfl, h0, h1⟩ := open_agg2 Tryd.underlying24 (by kernel_rfl) (by kernel_rfl) hv h
  obtain ⟨m, hc0, rfl, hwf⟩ := DataW.trod_int Tryd.underlying3 h0
  cases hc0
  rcases open_slice_fields Tryd.underlying22 Tryd.underlying66 (by kernel_rfl) (by kernel_rfl) h1 with ⟨hc1, _⟩ | ⟨a, len, cap, mm, D, Pl, hc1, _, hl, hm, hmm, hx, hi⟩
  · cases hc1
    exact ⟨m, none, [], 0, rfl, BSl.nil _, fun i h => absurd h (by simp), hwf, fun _ => by simp⟩
  · cases hc1
    have hlm : len ≤ mm := by rw [hmm]; split <;> omega
    have hex : ∀ i, i < len → ∃ b : B5, w.cell? (a.add (i * 4)) = some (.int .i64 b.l) ∧ w.cell? (a.add (i * 4 + 1)) = some (.int .i64 b.w) ∧ w.cell? (a.add (i * 4 + 2)) = some (.int .i64 b.u) ∧ w.cell? (a.add (i * 4 + 3)) = some (.string b.h) ∧ b.h.size ≤ maxLen := by
      intro i hil
      obtain ⟨ys, k, _, _, _, hf⟩ := hi i (by omega)
      obtain ⟨u0, z0, q0, _, t0⟩ := hf 0 _ rfl
      obtain ⟨u1, z1, q1, _, t1⟩ := hf 1 _ rfl
      obtain ⟨u2, z2, q2, _, t2⟩ := hf 2 _ rfl
      obtain ⟨u3, z3, q3, _, t3⟩ := hf 3 _ rfl
      obtain ⟨n0, e0, _, _⟩ := DataW.trod_int Tryd.underlying3 t0
      obtain ⟨n1, e1, _, _⟩ := DataW.trod_int Tryd.underlying3 t1
      obtain ⟨n2, e2, _, _⟩ := DataW.trod_int Tryd.underlying3 t2
      obtain ⟨s3, e3, _, hs3⟩ := DataW.trod_string Tryd.underlying9 t3
      cases e0; cases e1; cases e2; cases e3
      exact ⟨⟨n0, n1, n2, s3⟩, q0, q1, q2, q3, hs3⟩
    obtain ⟨bs, hbl, hb⟩ := blks_ex len hex
    subst hbl
    refine ⟨m, some a, bs, cap, rfl, ⟨?_, fun e => by cases e⟩, fun i hil => ?_, hwf, fun hz => ?_⟩
    · intro h0
      rw [bC_length] at h0
      have hq := (hb 0 (by omega)).1
      obtain ⟨b, o, e, hlt⟩ := spot_none hq
      have ha : a = ⟨b, o, none⟩ := by
        rw [Nat.zero_mul] at e
        unfold Addr.add at e; simpa using e
      subst ha
      refine ⟨b, o, rfl, hlt, fun j hj => ?_⟩
      rw [bC_length] at hj
      have had : ∀ k, Addr.add ⟨b, o, none⟩ k = ⟨b, o + k, none⟩ := fun k => by unfold Addr.add; split <;> simp_all
      obtain ⟨i, r, hij, hr⟩ : ∃ i r, j = i * 4 + r ∧ r < 4 := ⟨j / 4, j % 4, by omega, by omega⟩
      have hil : i < bs.length := by omega
      obtain ⟨c0, c1, c2, c3, _⟩ := hb i hil
      rw [had] at c0 c1 c2 c3
      obtain ⟨g0, g1, g2, g3⟩ := bC_get bs i hil
      subst hij
      rw [List.getD_eq_getElem?_getD]
      match r, hr with
      | 0, _ => rw [Nat.add_zero, g0]; exact c0
      | 1, _ => rw [g1]; exact c1
      | 2, _ => rw [g2]; exact c2
      | 3, _ => rw [g3]; exact c3
    · have := (hb i hil).2.2.2.2
      have h2 : maxLen ≤ 9223372036854775807 := by decide
      omega
    · rw [hx] at hz
      have hmem : ((List.range bs.length).map D).length * 40 ≤ reachBytes := by
        have h3 := List.all_eq_true.1 hz ((((List.range bs.length).map D).length + ((List.range (mm - bs.length)).map fun j => D (bs.length + j)).length) * Tryd.prog.bytesOf 66) (by
          simp [DataW.weights, DataW.weightsEach, Tryd.underlying24, Tryd.underlying22])
        rw [decide_eq_true_eq, show Tryd.prog.bytesOf 66 = 40 by kernel_rfl] at h3
        exact Nat.le_trans (Nat.mul_le_mul_right _ (Nat.le_add_right _ _)) h3
      rw [List.length_map, List.length_range] at hmem
      have := reachBytes_lt
      omega
end Go.Proofs.YteoniejpfmeibaaDoor
