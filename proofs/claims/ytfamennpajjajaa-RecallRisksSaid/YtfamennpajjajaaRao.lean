/- Logs that came in, as the rows read them. -/
import Derived.Deep.Slices
import Derived.Deep.Fields
import Derived.ChangeSame
import Derived.Lib.SmallJoins
import Derived.SizedLaws
import Derived.Handed
import Derived.ProofKit
import Derived.Test.YtfamennpajjajaaRa
import Derived.Test.YtfamennpajjajaaChecked
namespace Go.Proofs.Ytfamennpajjajaa
open Go.RowKit Go.Joins Go.ChangeShapes Go.WideShapes Go.Deep

section
variable {H : Type} {enc : TypeId × Value → H} {P : Program} {w : World} {base : Nat} {spare : Nat → Bool} {held : Bool}
/-- (After the guide's page of structs.) A slice of structs, cell by cell. -/
theorem open_slice_fields {t e : TypeId} {fs : Array Field} {fuel : Nat} {cs : List Value} {x : DataW H × List MemPlace} (ht : P.underlying t = some (.slice e)) (he : P.underlying e = some (.struct fs))
    (hone : oneCellFields P fs = true) (hC : P.cellsOf e = fs.size) (h : DataW.trod enc P w base spare held fuel t cs = some x) :
    (cs = [.slice none 0 0] ∧ x = (.nil, [])) ∨
    ∃ (a : Addr) (len cap m : Nat) (D : Nat → DataW H) (Pl : Nat → List MemPlace), cs = [.slice (some a) len cap] ∧ base ≤ a.block ∧ len ≤ cap ∧ cap ≤ maxLen ∧ m = (if spare a.block then cap else len) ∧
      x = (.slice ((List.range len).map D) ((List.range (m - len)).map fun j => D (len + j)), MemPlace.row a (m * fs.size) ++ (List.range m).flatMap Pl) ∧
      ∀ i, i < m → ∃ (ys : List (DataW H × List MemPlace)) (n : Nat), D i = .agg (ys.map (·.1)) ∧ Pl i = ys.flatMap (·.2) ∧ ys.length = fs.size ∧
        ∀ (j : Nat) (f : Field), fs[j]? = some f → ∃ (v : Value) (y : DataW H × List MemPlace), w.cell? (a.add (i * fs.size + j)) = some v ∧ ys[j]? = some y ∧ DataW.trod enc P w base spare held n f.type [v] = some y := by
  rcases open_slice ht h with h0 | ⟨a, len, cap, m, n, D, Pl, hcs, hb, hl, hm, hmm, hx, hi⟩
  · exact .inl h0
  · refine .inr ⟨a, len, cap, m, D, Pl, hcs, hb, hl, hm, hmm, by rw [hC] at hx; exact hx, fun i him => ?_⟩
    obtain ⟨cs', hc, ht'⟩ := hi i him
    rw [hC] at hc
    obtain ⟨ys, n', hn', hy, hlen, hyl, hf⟩ := DataW.trod_struct he ht'
    obtain ⟨_, hcl, hat⟩ := World.cells?_some hc
    simp only [Prod.mk.injEq] at hy
    refine ⟨ys, n', hy.1, hy.2, hyl, fun j f hj => ?_⟩
    obtain ⟨ho, hk⟩ := hone_of hone j f hj
    have hjl : j < fs.size := (Array.getElem?_eq_some_iff.1 hj).1
    have hcell := hat j hjl
    have hv : cs'[j]? = some (cs'[j]'(by omega)) := List.getElem?_eq_getElem (by omega)
    have h1 := hf j f hj
    rw [ho, hk] at h1
    have hone' : (cs'.drop j).take 1 = [cs'[j]'(by omega)] := by
      rw [List.drop_eq_getElem_cons (by omega)]
      rfl
    rw [hone'] at h1
    have hys : ys[j]? = some (ys[j]'(by omega)) := List.getElem?_eq_getElem (by omega)
    refine ⟨_, _, ?_, hys, h1.trans hys⟩
    rw [← Go.Deep.add_add, hcell, hv]

end
theorem spot_none {w : World} {x : Addr} {v : Value} (h : w.cell? x = some v) : ∃ b o, x = ⟨b, o, none⟩ ∧ b < w.heap.size := by
  obtain ⟨b, o, sp⟩ := x
  have hs : sp = none := by
    unfold World.cell? at h
    split at h
    · split at h
      · cases h
      · rename_i h2; simpa using h2
    · cases h
  subst hs
  exact ⟨b, o, rfl, lt_of_cell h⟩

theorem evs_ex {Q : Nat → Ev → Prop} : ∀ n : Nat, (∀ i, i < n → ∃ b, Q i b) → ∃ vs : List Ev, vs.length = n ∧ ∀ i, i < n → Q i (eAt vs i)
  | 0, _ => ⟨[], rfl, fun i h => absurd h (by omega)⟩
  | n + 1, h => by
    obtain ⟨bs, h1, h2⟩ := evs_ex n fun i hi => h i (by omega)
    obtain ⟨b, hb⟩ := h n (by omega)
    refine ⟨bs ++ [b], by simp [h1], fun i hi => ?_⟩
    by_cases e : i = n
    · subst e
      have : eAt (bs ++ [b]) i = b := by unfold eAt; rw [List.getD_eq_getElem?_getD, List.getElem?_append_right (by omega), h1]; simp
      rw [this]; exact hb
    · have : eAt (bs ++ [b]) i = eAt bs i := by unfold eAt; rw [List.getD_eq_getElem?_getD, List.getElem?_append_left (by omega), List.getD_eq_getElem?_getD]
      rw [this]; exact h2 i (by omega)

set_option maxRecDepth 100000 in
theorem open_log {H : Type} {enc : TypeId × Value → H} {w : World} {base : Nat} {spare : Nat → Bool} {held : Bool} {ae : Option Addr} {n c : Nat} {d : DataW H} {p : List MemPlace}
    (h : DataW.Trod enc Try.prog w base spare held 22 (.slice ae n c) d p) :
    ∃ vs : List Ev, n = vs.length ∧ CellsAt w ae (eC vs) ∧ LogOk vs ∧ ((DataW.weights Try.prog 22 d).all (· ≤ reachBytes) = true → vs.length * 56 ≤ 140737488355328) := by
  obtain ⟨fuel, h1⟩ := h
  rcases open_slice_fields Try.underlying22 Try.underlying51 (by kernel_rfl) (by kernel_rfl) h1 with ⟨hc1, _⟩ | ⟨a, len, cap, mm, D, Pl, hc1, _, hl, hm, hmm, hx, hi⟩
  · simp [Value.cells] at hc1
    obtain ⟨rfl, rfl, rfl⟩ := hc1
    exact ⟨[], rfl, CellsAt.nil _ _, fun i h => absurd h (by simp), fun _ => by simp⟩
  · simp [Value.cells] at hc1
    obtain ⟨rfl, rfl, rfl⟩ := hc1
    have hlm : n ≤ mm := by rw [hmm]; split <;> omega
    have hex : ∀ i, i < n → ∃ b : Ev, w.cell? (a.add (i * 4)) = some (.int .i64 b.k) ∧ w.cell? (a.add (i * 4 + 1)) = some (.string b.g) ∧ w.cell? (a.add (i * 4 + 2)) = some (.string b.p) ∧ w.cell? (a.add (i * 4 + 3)) = some (.string b.t) ∧ b.g.size ≤ maxLen ∧ b.p.size ≤ maxLen ∧ b.t.size ≤ maxLen := by
      intro i hil
      obtain ⟨ys, k, _, _, _, hf⟩ := hi i (by omega)
      obtain ⟨u0, z0, q0, _, t0⟩ := hf 0 _ rfl
      obtain ⟨u1, z1, q1, _, t1⟩ := hf 1 _ rfl
      obtain ⟨u2, z2, q2, _, t2⟩ := hf 2 _ rfl
      obtain ⟨u3, z3, q3, _, t3⟩ := hf 3 _ rfl
      obtain ⟨n0, e0, _, _⟩ := DataW.trod_int Try.underlying3 t0
      obtain ⟨s1, e1, _, hs1⟩ := DataW.trod_string Try.underlying9 t1
      obtain ⟨s2, e2, _, hs2⟩ := DataW.trod_string Try.underlying9 t2
      obtain ⟨s3, e3, _, hs3⟩ := DataW.trod_string Try.underlying9 t3
      cases e0; cases e1; cases e2; cases e3
      exact ⟨⟨n0, s1, s2, s3⟩, q0, q1, q2, q3, hs1, hs2, hs3⟩
    obtain ⟨vs, hbl, hb⟩ := evs_ex n hex
    subst hbl
    refine ⟨vs, rfl, ?_, fun i hil => ?_, fun hz => ?_⟩
    · intro h0
      rw [eC_length] at h0
      have hq := (hb 0 (by omega)).1
      obtain ⟨b, o, e, hlt⟩ := spot_none hq
      have ha : a = ⟨b, o, none⟩ := by
        rw [Nat.zero_mul] at e
        unfold Addr.add at e; simpa using e
      subst ha
      refine ⟨b, o, rfl, hlt, fun j hj => ?_⟩
      rw [eC_length] at hj
      have had : ∀ k, Addr.add ⟨b, o, none⟩ k = ⟨b, o + k, none⟩ := fun k => by unfold Addr.add; split <;> simp_all
      obtain ⟨i, r, hij, hr⟩ : ∃ i r, j = i * 4 + r ∧ r < 4 := ⟨j / 4, j % 4, by omega, by omega⟩
      have hil : i < vs.length := by omega
      obtain ⟨c0, c1, c2, c3, _⟩ := hb i hil
      rw [had] at c0 c1 c2 c3
      obtain ⟨g0, g1, g2, g3⟩ := eC_get vs i hil
      subst hij
      rw [List.getD_eq_getElem?_getD]
      match r, hr with
      | 0, _ => rw [Nat.add_zero, g0]; exact c0
      | 1, _ => rw [g1]; exact c1
      | 2, _ => rw [g2]; exact c2
      | 3, _ => rw [g3]; exact c3
    · have h3 := (hb i hil).2.2.2.2
      have h2 : maxLen ≤ 9223372036854775807 := by decide
      exact ⟨by omega, by omega, by omega⟩
    · rw [Prod.ext_iff] at hx
      obtain ⟨hx1, _⟩ := hx
      simp only at hx1
      subst hx1
      have hmem : ((List.range vs.length).map D).length * 56 ≤ reachBytes := by
        have h3 := List.all_eq_true.1 hz ((((List.range vs.length).map D).length + ((List.range (mm - vs.length)).map fun j => D (vs.length + j)).length) * Try.prog.bytesOf 51) (by
          simp [DataW.weights, Try.underlying22])
        rw [decide_eq_true_eq, show Try.prog.bytesOf 51 = 56 by kernel_rfl] at h3
        exact Nat.le_trans (Nat.mul_le_mul_right _ (Nat.le_add_right _ _)) h3
      rw [List.length_map, List.length_range] at hmem
      have := reachBytes_lt
      omega

/-- (After the library's own lemma for laws, with the sizes of what came in handed on.) -/
theorem returns_sized {H : Type} {enc : TypeId × Value → H} {a : Assume} {C : Checked} {os : Os} {f : FuncId} {fn : Func} {s : ChangeSpec} {conds : List PathCond} {apart fresh handsOn again : Bool}
    (own : ownKnob C.prog.godebug = none) (started : os.Started) (noInit : C.prog.inits.idxOf? f = none) (hfn : C.prog.funcs[f]? = some fn)
    (witness : ∃ (w : World) (tape : Tape) (i : Input), w.os = os ∧ (w.forCall tape i).Shaped C.prog ∧ i.vars = [] ∧ Input.okWide C.prog (w.forCall tape i) .any w.heap.size f i ∧
      s.pre6 enc C.prog fn conds apart (w.forCall tape i).memory i.args ∧ a.holds C.prog (lone (Frame.enter C.prog f i.args .normal) [] (w.forCall tape i)))
    (contract : ∀ (W : World) (base : Nat) (args : Array Value) (ds gs : List (DataW H)) (before : List MemPlace),
      (∀ (j : Nat) t v, fn.params[j]? = some t → args[j]? = some v → Value.okWide C.prog W .any base t v) →
      DataW.Whole enc C.prog fn.params.toList s.vars apart W args.toList ds gs before →
      (DataW.weightsEach C.prog (fn.params.toList ++ s.plain.varTypes C.prog) (ds ++ gs)).all (· ≤ reachBytes) = true →
      Calls C.prog f args W fun e W' => ∃ v, e = .returned v ∧ s.post enc C.prog fn apart fresh handsOn again W args v W') :
    ReturnsInHanded a C os f .any (s.pre6 enc C.prog fn conds apart) (s.post enc C.prog fn apart fresh handsOn again) := by
  refine returnsInHanded_of_calls own started noInit witness ?_
  intro w tape i _ _ _ hok hpre _
  obtain ⟨_, _, _, fn', hfn', _, _, _, _, hval⟩ := hok
  have e : fn' = fn := Option.some.inj (hfn'.symm.trans hfn)
  subst e
  obtain ⟨⟨ds, gs, before, hw, _⟩, hz⟩ := hpre
  have hw' := DataW.Whole.of_heap (w' := w.forCall tape i) (by rfl) hw
  refine (contract (w.forCall tape i) w.heap.size i.args ds gs before hval hw' (hz.weights hw)).mono fun e W' ⟨v, he, hp⟩ => ?_
  subst he
  exact ChangeSpec.post_blind hp
end Go.Proofs.Ytfamennpajjajaa
