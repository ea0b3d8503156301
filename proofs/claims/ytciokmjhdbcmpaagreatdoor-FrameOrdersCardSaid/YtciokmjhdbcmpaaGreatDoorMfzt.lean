/- Rows of frames; slices.Clone and Reverse of frames; IsSorted. (Printed by gen_rev.py.) IsSorted and Contains at names; what reversed and fewer frames have. (Printed by gen_srt.py.) -/
import Derived.Test.YtciokmjhdbcmpaaGreatDoorFzs
namespace Go.Proofs.YtciokmjhdbcmpaaGreatDoor
open Go.RowKit

/-- A frame with where its datums lie. -/
structure Fr5 where
  x : Fm
  a : Option Addr
  c : Nat
def Fr5.zero : Fr5 := ⟨Fm.zero, none, 0⟩
def fr5C (p : Fr5) : List Value := [.int .i64 p.x.k, .bool p.x.d, .int .i64 p.x.t, .int .i64 p.x.m, .slice p.a p.x.ds.length p.c]
def frC (ps : List Fr5) : List Value := ps.flatMap fr5C
def frAt (ps : List Fr5) (i : Nat) : Fr5 := ps.getD i Fr5.zero
theorem frAt_lt {ps : List Fr5} {i : Nat} (h : i < ps.length) : frAt ps i = ps[i] := by unfold frAt; rw [List.getD_eq_getElem?_getD, List.getElem?_eq_getElem h]; rfl
theorem frAt_succ (p : Fr5) (ps : List Fr5) (i : Nat) : frAt (p :: ps) (i + 1) = frAt ps i := rfl
theorem frC_length (ps : List Fr5) : (frC ps).length = ps.length * 5 := by
  induction ps with
  | nil => rfl
  | cons b bs ih => show (fr5C b ++ frC bs).length = _; rw [List.length_append, ih]; simp [fr5C]; omega
theorem frC_get (ps : List Fr5) : ∀ (i k : Nat), i < ps.length → k < 5 → (frC ps)[i * 5 + k]? = (fr5C (frAt ps i))[k]? := by
  induction ps with
  | nil => intro i k hi; exact absurd hi (by simp)
  | cons b bs ih =>
    intro i k hi hk
    cases i with
    | zero =>
      show (fr5C b ++ frC bs)[0 * 5 + k]? = _
      rw [Nat.zero_mul, Nat.zero_add, List.getElem?_append_left (by simpa [fr5C] using hk)]; rfl
    | succ i =>
      rw [frAt_succ, ← ih i k (by simpa using hi) hk]
      show (fr5C b ++ frC bs)[(i + 1) * 5 + k]? = _
      rw [List.getElem?_append_right (by simp [fr5C]; omega)]
      congr 1
      simp [fr5C]; omega
theorem frC_one (ps : List Fr5) : ∀ u ∈ frC ps, u.oneCell' = true := by
  intro u hu
  unfold frC at hu
  obtain ⟨p, _, hp⟩ := List.mem_flatMap.1 hu
  simp only [fr5C, List.mem_cons, List.not_mem_nil, or_false] at hp
  rcases hp with rfl | rfl | rfl | rfl | rfl <;> rfl
theorem fr5_at {w : World} {b o i : Nat} {ps : List Fr5} (hi : i < ps.length) (hc : ∀ j, j < (frC ps).length → w.cell? ⟨b, o + j, none⟩ = some ((frC ps).getD j undef)) (k : Nat) (u : Value) (hk : k < 5) (hu : (fr5C (frAt ps i))[k]? = some u) : w.cell? ⟨b, o + i * 5 + k, none⟩ = some u := by
  have h := hc (i * 5 + k) (by rw [frC_length]; omega)
  rw [List.getD_eq_getElem?_getD, frC_get ps i k hi hk, hu] at h
  rw [show o + i * 5 + k = o + (i * 5 + k) from by omega]; exact h
/-- From rows to frames. -/
theorem FmsAt.ofRows {w : World} {fo : Option Addr} {ps : List Fr5} (hc : CellsAt w fo (frC ps)) (hp : ∀ i, i < ps.length → FmOk w (frAt ps i).x (frAt ps i).a (frAt ps i).c) : FmsAt w fo (ps.map Fr5.x) := by
  intro h0
  rw [List.length_map] at h0
  obtain ⟨b, o, e, hl, hcell⟩ := hc (by rw [frC_length]; omega)
  refine ⟨b, o, e, hl, fun i hi => ?_⟩
  rw [List.length_map] at hi
  have hx : fmAt (ps.map Fr5.x) i = (frAt ps i).x := by rw [fmAt_lt (by rw [List.length_map]; exact hi), frAt_lt hi, List.getElem_map]
  rw [hx]
  have h := fun k u hk hu => fr5_at hi hcell k u hk hu
  exact ⟨_, _, hp i hi, by have := h 0 _ (by omega) rfl; rwa [Nat.add_zero] at this, h 1 _ (by omega) rfl, h 2 _ (by omega) rfl, h 3 _ (by omega) rfl, h 4 _ (by omega) rfl⟩
/-- From frames to rows. -/
theorem FmsAt.rows {w : World} {fo : Option Addr} {fs : List Fm} (h : FmsAt w fo fs) : ∃ ps : List Fr5, ps.map Fr5.x = fs ∧ CellsAt w fo (frC ps) ∧ ∀ i, i < ps.length → FmOk w (frAt ps i).x (frAt ps i).a (frAt ps i).c := by
  by_cases h0 : 0 < fs.length
  · obtain ⟨b, o, e, hl, hi⟩ := h h0
    have hg : ∀ i, ∃ q : Option Addr × Nat, i < fs.length → FmOk w (fmAt fs i) q.1 q.2 ∧
        w.cell? ⟨b, o + i * 5, none⟩ = some (.int .i64 (fmAt fs i).k) ∧ w.cell? ⟨b, o + i * 5 + 1, none⟩ = some (.bool (fmAt fs i).d) ∧ w.cell? ⟨b, o + i * 5 + 2, none⟩ = some (.int .i64 (fmAt fs i).t) ∧
        w.cell? ⟨b, o + i * 5 + 3, none⟩ = some (.int .i64 (fmAt fs i).m) ∧ w.cell? ⟨b, o + i * 5 + 4, none⟩ = some (.slice q.1 (fmAt fs i).ds.length q.2) := fun i => by
      by_cases hlt : i < fs.length
      · obtain ⟨da, dc, h1⟩ := hi i hlt
        exact ⟨(da, dc), fun _ => h1⟩
      · exact ⟨(none, 0), fun h => absurd h hlt⟩
    obtain ⟨g, hg⟩ := Classical.axiomOfChoice hg
    obtain ⟨ps, hps⟩ : ∃ ps, ps = (List.range fs.length).map (fun i => (⟨fmAt fs i, (g i).1, (g i).2⟩ : Fr5)) := ⟨_, rfl⟩
    have hlen : ps.length = fs.length := by rw [hps]; simp
    have hat : ∀ i, i < fs.length → frAt ps i = ⟨fmAt fs i, (g i).1, (g i).2⟩ := fun i hi => by
      rw [frAt_lt (by omega)]
      simp [hps]
    refine ⟨ps, ?_, fun hpos => ⟨b, o, e, hl, fun j hj => ?_⟩, fun i hi' => ?_⟩
    · refine List.ext_getElem (by rw [List.length_map, hlen]) fun i h1 h2 => ?_
      rw [List.getElem_map, ← frAt_lt (by omega), hat i h2, fmAt_lt h2]
    · rw [frC_length, hlen] at hj
      have hq : j / 5 < fs.length := by omega
      obtain ⟨_, c0, c1, c2, c3, c4⟩ := hg _ hq
      rw [List.getD_eq_getElem?_getD, show j = j / 5 * 5 + j % 5 from by omega, frC_get ps _ _ (by omega) (by omega), hat _ hq]
      obtain e | e | e | e | e : j % 5 = 0 ∨ j % 5 = 1 ∨ j % 5 = 2 ∨ j % 5 = 3 ∨ j % 5 = 4 := by omega
      · rw [e]; exact c0
      · rw [e]; exact c1
      · rw [e]; exact c2
      · rw [e]; exact c3
      · rw [e]; exact c4
    · rw [hat i (by omega)]
      exact (hg i (by omega)).1
  · obtain rfl := List.length_eq_zero_iff.1 (by omega : fs.length = 0)
    exact ⟨[], rfl, CellsAt.nil _ _, fun i hi => absurd hi (by simp)⟩
theorem frAt_rev {ps : List Fr5} {i : Nat} (h : i < ps.length) : frAt ps.reverse i = frAt ps (ps.length - 1 - i) := by
  rw [frAt_lt (by rw [List.length_reverse]; exact h), frAt_lt (by omega), List.getElem_reverse]
theorem frC_tail {w : World} {b o : Nat} {p : Fr5} {ps : List Fr5} (h : CellsAt w (some ⟨b, o, none⟩) (frC (p :: ps))) : CellsAt w (some ⟨b, o + 5, none⟩) (frC ps) := by
  intro h0
  obtain ⟨b', o', e, hl, hc⟩ := h (by rw [frC_length] at *; simp only [List.length_cons]; omega)
  cases e
  refine ⟨b, o + 5, rfl, hl, fun j hj => ?_⟩
  have h2 := hc (5 + j) (by rw [frC_length] at *; simp only [List.length_cons]; omega)
  rw [List.getD_eq_getElem?_getD] at h2
  have e2 : (frC (p :: ps))[5 + j]? = (frC ps)[j]? := by
    show (fr5C p ++ frC ps)[5 + j]? = _
    rw [List.getElem?_append_right (by simp [fr5C])]
    congr 1
    simp [fr5C]
  rw [e2, ← List.getD_eq_getElem?_getD] at h2
  rw [show o + 5 + j = o + (5 + j) from by omega]; exact h2

theorem Tryz.infoFr : (Tryz.prog.info? 31).map (fun i => (i.zero, i.size, i.bytes)) = some (some (.agg #[.int .i64 0, .bool false, .int .i64 0, .int .i64 0, .slice none 0 0]), 5, 56) := by kernel_rfl
theorem eqNilF (w : World) (a : Option Addr) (n c : Nat) : (binOp .eql 26 (.slice a n c) (.slice none 0 0)).run Tryz.prog w = .ok (.bool a.isNone) w :=
  Lib.run_eql_slice_nil w 26 31 a n c 0 0 Tryz.underlying26
/-- slices.Clone of frames. -/
theorem cloneF_any (ao : Option Addr) (ps : List Fr5) (n c : Nat) (w : World) (R : Ending → World → Prop) (hn0 : ps.length = n) (hl : n ≤ 1000000) (hn : ao = none → n = 0 ∧ c = 0) (hc : CellsAt w ao (frC ps))
   (hR : ∀ v w', Below w.heap.size w w' → w'.ownsRow w.heap.size 31 5 v n (frC ps) → R (.returned v) w') :
    Calls Tryz.prog 34 #[.slice ao n c] w R := by
  have HR := Lib.hid hR
  have HC := Lib.hid hc
  have HN := Lib.hid hn0
  clear hR hc
  cases ao with
  | none =>
    obtain ⟨h0, h1⟩ := hn rfl
    have h2 : ps.length = 0 := by omega
    obtain rfl := List.length_eq_zero_iff.1 h2
    subst h0 h1
    have hq := eqNilF
    clear hn0 h2
    go_enter Tryz.func34, Tryz.ntmps34
    go_wp2_with fail
    exact HR.out _ _ (Below.refl _ _) (World.ownsRow_nil _ _ _ _)
  | some a =>
    clear hn hn0
    have HO0 : Hid ((w.alloc (.cells #[] 31)).ownsRow w.heap.size 31 5 (.slice (some ⟨w.heap.size, 0, none⟩) 0 0) 0 []) := World.ownsRow_lit w #[] 0 (Nat.le_refl _) (by decide) rfl
    have HFL : Hid ((frC ps).length = n * 5) := by unfold Hid; rw [frC_length, HN.out]
    have hq := eqNilF
    go_enter Tryz.func34, Tryz.ntmps34
    go_wp2_with (at_builtin; refine wp_appendT rfl (.tmp 5) (.tmp 6) 26 rfl w.heap.size 31 Tryz.underlying26 Tryz.infoFr rfl (by decide) (.slice (some ⟨w.heap.size, 0, none⟩) 0 0) 0 [] rfl HO0.out a n c (frC ps) HFL.out rfl (HC.out.below ((Below.refl _ _).alloc (Nat.le_refl _) _)) (frC_one ps) (by omega) (by omega) (by simp) ?_; intro v1 w1 hown1 hgrow1 hn1; have H1 : Hid (w1.ownsRow w.heap.size 31 5 v1 n (frC ps)) := (by have h := hown1; rw [Nat.zero_add, List.nil_append] at h; exact h); have Hb1 : Hid (Below w.heap.size w w1) := ((Below.refl _ _).alloc (Nat.le_refl _) _).grown hgrow1 (by simp) (fun k e => by cases e; exact Nat.le_refl _); clear hown1 hgrow1 hn1)
    exact HR.out _ _ Hb1.out H1.out

/-! ### Reverse -/
theorem put5 (w : World) (b p : Nat) (cs : Array Value) (x0 x1 x2 x3 x4 : Value) (T : TypeId) (h : w.heap[b]? = some (.cells cs T (0, 0))) (hp : p + 4 < cs.size) :
    ∃ w' cs', ((((w.setCell ⟨b, p, none⟩ x0).setCell ⟨b, p + 1, none⟩ x1).setCell ⟨b, p + 2, none⟩ x2).setCell ⟨b, p + 3, none⟩ x3).setCell ⟨b, p + 4, none⟩ x4 = w' ∧ Hid (Below b w w') ∧ Hid (w'.heap[b]? = some (.cells cs' T (0, 0))) ∧ cs'.size = cs.size ∧
      Hid (∀ j, cs'[j]? = if p ≤ j ∧ j < p + 5 then [x0, x1, x2, x3, x4][j - p]? else cs[j]?) := by
  refine ⟨_, _, rfl, (((((Below.refl b w).setCell (Nat.le_refl _) x0).setCell (Nat.le_refl _) x1).setCell (Nat.le_refl _) x2).setCell (Nat.le_refl _) x3).setCell (Nat.le_refl _) x4,
    heap_setCell_same _ b (p + 4) _ _ x4 (heap_setCell_same _ b (p + 3) _ _ x3 (heap_setCell_same _ b (p + 2) _ _ x2 (heap_setCell_same _ b (p + 1) _ _ x1 (heap_setCell_same w b p _ _ x0 h)))), by simp, fun j => ?_⟩
  simp only [Array.getElem?_setIfInBounds, Array.size_setIfInBounds]
  by_cases e0 : j = p
  · subst e0; simp; omega
  by_cases e1 : j = p + 1
  · subst e1; simp; omega
  by_cases e2 : j = p + 2
  · subst e2; simp; omega
  by_cases e3 : j = p + 3
  · subst e3; simp; omega
  by_cases e4 : j = p + 4
  · subst e4; simp; omega
  rw [if_neg (by omega), if_neg (by omega), if_neg (by omega), if_neg (by omega), if_neg (by omega), if_neg (by omega)]
/-- Place j behind k exchanges. -/
def rvI (n k j : Nat) : Nat := if j < k ∨ n - 1 - k < j then n - 1 - j else j
/-- The cells behind k exchanges. -/
def RvAt (ps : List Fr5) (n k : Nat) (cs : Array Value) : Prop := ∀ j, j < n → ∀ m, m < 5 → cs[j * 5 + m]? = (fr5C (frAt ps (rvI n k j)))[m]?
theorem RvAt.step {ps : List Fr5} {n k : Nat} {cs cs1 cs2 : Array Value} (h : RvAt ps n k cs) (hk : k < n - 1 - k)
    (h1 : ∀ j, cs1[j]? = if k * 5 ≤ j ∧ j < k * 5 + 5 then (fr5C (frAt ps (n - 1 - k)))[j - k * 5]? else cs[j]?)
    (h2 : ∀ j, cs2[j]? = if (n - 1 - k) * 5 ≤ j ∧ j < (n - 1 - k) * 5 + 5 then (fr5C (frAt ps k))[j - (n - 1 - k) * 5]? else cs1[j]?) : RvAt ps n (k + 1) cs2 := by
  intro j hj m hm
  rw [h2]
  by_cases e1 : j = n - 1 - k
  · subst e1
    rw [if_pos (by omega), show (n - 1 - k) * 5 + m - (n - 1 - k) * 5 = m from by omega]
    have : rvI n (k + 1) (n - 1 - k) = k := by unfold rvI; rw [if_pos (.inr (by omega))]; omega
    rw [this]
  · rw [if_neg (by omega), h1]
    by_cases e2 : j = k
    · subst e2
      rw [if_pos (by omega), show j * 5 + m - j * 5 = m from by omega]
      have : rvI n (j + 1) j = n - 1 - j := by unfold rvI; rw [if_pos (.inl (by omega))]
      rw [this]
    · rw [if_neg (by omega), h j hj m hm]
      have : rvI n (k + 1) j = rvI n k j := by
        unfold rvI
        by_cases e3 : j < k ∨ n - 1 - k < j
        · rw [if_pos e3, if_pos (by omega)]
        · rw [if_neg e3, if_neg (by omega)]
      rw [this]
set_option maxRecDepth 100000 in
/-- slices.Reverse of nothing. -/
theorem reverseF_zero (a : Option Addr) (c : Nat) (w : World) (R : Ending → World → Prop) (hR : R (.returned (.tuple #[])) w) : Calls Tryz.prog 35 #[.slice a 0 c] w R := by
  have HR := Lib.hid hR
  clear hR
  go_enter Tryz.func35, Tryz.ntmps35
  go_wp2_with fail
  go_loopw [2, 3] (fun i j wr => i = .int .i64 0 ∧ j = .int .i64 (-1) ∧ wr = w) (fun _ _ _ => 0)
  case atStart => exact ⟨rfl, rfl, rfl⟩
  case round =>
    obtain ⟨rfl, rfl, rfl⟩ := hrel
    go_wp2_with fail
    go_end0
    exact HR.out
set_option maxRecDepth 100000 in
set_option maxHeartbeats 4000000 in
/-- slices.Reverse of frames, in their own block. -/
theorem reverseF_any (ps : List Fr5) (n c g : Nat) (cur : Array Value) (w : World) (R : Ending → World → Prop) (hn0 : ps.length = n) (hl : n ≤ 1000000) (hg : w.heap[g]? = some (.cells cur 31 (0, 0))) (hs : n * 5 ≤ cur.size) (hcur : cur.toList.take (n * 5) = frC ps)
   (hR : ∀ w', Below g w w' → CellsAt w' (some ⟨g, 0, none⟩) (frC ps.reverse) → R (.returned (.tuple #[])) w') :
    Calls Tryz.prog 35 #[.slice (some ⟨g, 0, none⟩) n c] w R := by
  have HR := Lib.hid hR
  have HG := Lib.hid hg
  have HN := Lib.hid hn0
  have H0 : Hid (RvAt ps n 0 cur) := by
    intro j hj m hm
    have e : (cur.toList.take (n * 5))[j * 5 + m]? = (frC ps)[j * 5 + m]? := by rw [hcur]
    rw [List.getElem?_take, if_pos (by omega), Array.getElem?_toList] at e
    rw [e, frC_get ps j m (by omega) hm]
    have : rvI n 0 j = j := by unfold rvI; rw [if_neg (by omega)]
    rw [this]
  have fin : ∀ (k : Nat) (cs : Array Value) (w' : World), n - 1 - k ≤ k → RvAt ps n k cs → w'.heap[g]? = some (.cells cs 31 (0, 0)) → n * 5 ≤ cs.size → CellsAt w' (some ⟨g, 0, none⟩) (frC ps.reverse) := by
    intro k cs w' hk hrv hw hcs hpos
    refine ⟨g, 0, rfl, lt_of_block hw, fun j hj => ?_⟩
    rw [frC_length, List.length_reverse, HN.out] at hj
    have hq : j / 5 < n := by omega
    have e := hrv (j / 5) hq (j % 5) (by omega)
    have e2 : rvI n k (j / 5) = n - 1 - j / 5 := by
      unfold rvI
      by_cases e3 : j / 5 < k ∨ n - 1 - k < j / 5
      · rw [if_pos e3]
      · rw [if_neg e3]; omega
    rw [e2, show j / 5 * 5 + j % 5 = j from by omega] at e
    have e4 : (frC ps.reverse)[j]? = (fr5C (frAt ps (n - 1 - j / 5)))[j % 5]? := by
      have h5 := frC_get ps.reverse (j / 5) (j % 5) (by rw [List.length_reverse, HN.out]; exact hq) (by omega)
      rw [show j / 5 * 5 + j % 5 = j from by omega, frAt_rev (by rw [HN.out]; exact hq), HN.out] at h5
      exact h5
    have hj2 : j < cs.size := by omega
    rw [List.getD_eq_getElem?_getD, e4, ← e, Nat.zero_add]
    simp [World.cell?, hw, hj2]
  have FIN := Lib.hid fin
  clear hR hg hcur fin hn0
  by_cases hz : n = 0
  · subst hz
    go_enter Tryz.func35, Tryz.ntmps35
    go_wp2_with fail
    go_loopw [2, 3] (fun i j wr => i = .int .i64 0 ∧ j = .int .i64 (-1) ∧ wr = w) (fun _ _ _ => 0)
    case atStart => exact ⟨rfl, rfl, rfl⟩
    case round =>
      obtain ⟨rfl, rfl, rfl⟩ := hrel
      go_wp2_with fail
      go_end0
      exact HR.out _ (Below.refl _ _) (FIN.out 0 cur _ (by omega) H0.out HG.out hs)
  · obtain ⟨nn, rfl⟩ : ∃ nn, n = nn + 1 := ⟨n - 1, by omega⟩
    go_enter Tryz.func35, Tryz.ntmps35
    go_wp2_with fail
    go_loopw [2, 3] (fun i j wr => ∃ (k jn : Nat) (cs : Array Value), i = .int .i64 k ∧ j = .int .i64 jn ∧ k + jn = nn ∧ k ≤ jn + 1 ∧ Hid (Below g w wr) ∧ Hid (wr.heap[g]? = some (.cells cs 31 (0, 0))) ∧ cs.size = cur.size ∧ Hid (RvAt ps (nn + 1) k cs)) (fun i _ _ => nn + 1 - (intOf i).toNat)
    case atStart => exact ⟨0, nn, cur, rfl, by go_num, by omega, by omega, Below.refl _ _, HG, rfl, H0⟩
    case round =>
      obtain ⟨k, jn, cs, rfl, rfl, hkj, hk1, HB, HC, hcs, HV⟩ := hrel
      by_cases hlt : k < jn
      · have hjn : nn + 1 - 1 - k = jn := by omega
        have i1 : rvI (nn + 1) k k = k := by unfold rvI; rw [if_neg (by omega)]
        have i2 : rvI (nn + 1) k jn = jn := by unfold rvI; rw [if_neg (by omega)]
        have hv1 := HV.out k (by omega)
        have hv2 := HV.out jn (by omega)
        rw [i1] at hv1
        rw [i2] at hv2
        obtain ⟨p, hp⟩ : ∃ p, frAt ps k = p := ⟨_, rfl⟩
        obtain ⟨q, hq⟩ : ∃ q, frAt ps jn = q := ⟨_, rfl⟩
        rw [hp] at hv1
        rw [hq] at hv2
        have HP := Lib.hid hp
        have HQ := Lib.hid hq
        obtain ⟨pn, hpn⟩ : ∃ pn, p.x.ds.length = pn := ⟨_, rfl⟩
        obtain ⟨qn, hqn⟩ : ∃ qn, q.x.ds.length = qn := ⟨_, rfl⟩
        have HPN := Lib.hid hpn
        have HQN := Lib.hid hqn
        have c0 : wr.cell? ⟨g, k * 5, none⟩ = some (.int .i64 p.x.k) := cell_at HC.out (by rw [show k * 5 = k * 5 + 0 from rfl, hv1 0 (by omega)]; rfl)
        have c1 : wr.cell? ⟨g, k * 5 + 1, none⟩ = some (.bool p.x.d) := cell_at HC.out (by rw [hv1 1 (by omega)]; rfl)
        have c2 : wr.cell? ⟨g, k * 5 + 2, none⟩ = some (.int .i64 p.x.t) := cell_at HC.out (by rw [hv1 2 (by omega)]; rfl)
        have c3 : wr.cell? ⟨g, k * 5 + 3, none⟩ = some (.int .i64 p.x.m) := cell_at HC.out (by rw [hv1 3 (by omega)]; rfl)
        have c4 : wr.cell? ⟨g, k * 5 + 4, none⟩ = some (.slice p.a pn p.c) := cell_at HC.out (by rw [hv1 4 (by omega), ← hpn]; rfl)
        have d0 : wr.cell? ⟨g, jn * 5, none⟩ = some (.int .i64 q.x.k) := cell_at HC.out (by rw [show jn * 5 = jn * 5 + 0 from rfl, hv2 0 (by omega)]; rfl)
        have d1 : wr.cell? ⟨g, jn * 5 + 1, none⟩ = some (.bool q.x.d) := cell_at HC.out (by rw [hv2 1 (by omega)]; rfl)
        have d2 : wr.cell? ⟨g, jn * 5 + 2, none⟩ = some (.int .i64 q.x.t) := cell_at HC.out (by rw [hv2 2 (by omega)]; rfl)
        have d3 : wr.cell? ⟨g, jn * 5 + 3, none⟩ = some (.int .i64 q.x.m) := cell_at HC.out (by rw [hv2 3 (by omega)]; rfl)
        have d4 : wr.cell? ⟨g, jn * 5 + 4, none⟩ = some (.slice q.a qn q.c) := cell_at HC.out (by rw [hv2 4 (by omega), ← hqn]; rfl)
        have f0 := frozen_at HC.out (k * 5)
        have f1 := frozen_at HC.out (k * 5 + 1)
        have f2 := frozen_at HC.out (k * 5 + 2)
        have f3 := frozen_at HC.out (k * 5 + 3)
        have f4 := frozen_at HC.out (k * 5 + 4)
        clear hv1 i1 i2 hp hq
        obtain ⟨wB, cB, EB, HBB, XB, sB, VB⟩ := put5 wr g (k * 5) cs (.int .i64 q.x.k) (.bool q.x.d) (.int .i64 q.x.t) (.int .i64 q.x.m) (.slice q.a qn q.c) _ HC.out (by omega)
        obtain ⟨wD, cD, ED, HBD, XD, sD, VD⟩ := put5 wB g (jn * 5) cB (.int .i64 p.x.k) (.bool p.x.d) (.int .i64 p.x.t) (.int .i64 p.x.m) (.slice p.a pn p.c) _ XB.out (by omega)
        have e0 := frozen_at XB.out (jn * 5)
        have e1 := frozen_at XB.out (jn * 5 + 1)
        have e2 := frozen_at XB.out (jn * 5 + 2)
        have e3 := frozen_at XB.out (jn * 5 + 3)
        have e4 := frozen_at XB.out (jn * 5 + 4)
        have g0 : wB.cell? ⟨g, jn * 5, none⟩ = some (.int .i64 q.x.k) := cell_at XB.out (by rw [VB.out, if_neg (by omega), show jn * 5 = jn * 5 + 0 from rfl, hv2 0 (by omega)]; rfl)
        have g1 : wB.cell? ⟨g, jn * 5 + 1, none⟩ = some (.bool q.x.d) := cell_at XB.out (by rw [VB.out, if_neg (by omega), hv2 1 (by omega)]; rfl)
        have g2 : wB.cell? ⟨g, jn * 5 + 2, none⟩ = some (.int .i64 q.x.t) := cell_at XB.out (by rw [VB.out, if_neg (by omega), hv2 2 (by omega)]; rfl)
        have g3 : wB.cell? ⟨g, jn * 5 + 3, none⟩ = some (.int .i64 q.x.m) := cell_at XB.out (by rw [VB.out, if_neg (by omega), hv2 3 (by omega)]; rfl)
        have g4 : wB.cell? ⟨g, jn * 5 + 4, none⟩ = some (.slice q.a qn q.c) := cell_at XB.out (by rw [VB.out, if_neg (by omega), hv2 4 (by omega), ← hqn]; rfl)
        clear hv2 hpn hqn
        have HBD2 : Hid (Below g w wD.drew) := (HB.out.trans (HBB.out.trans HBD.out)).drew
        have HX := XD
        have HV2 : Hid (RvAt ps (nn + 1) (k + 1) cD) := HV.out.step (by omega) (cs1 := cB) (by rw [hjn, HQ.out]; intro j; rw [VB.out j, ← HQN.out]; rfl) (by rw [hjn, HP.out]; intro j; rw [VD.out j, ← HPN.out]; rfl)
        clear HBB HBD XD VB VD HV HC HB
        have KJ : ((jn : Int) < (nn : Int) + 1) = True := eq_true (by omega)
        have KK : ((k : Int) < (nn : Int) + 1) = True := eq_true (by omega)
        go_wp2_with fail
        refine regionQ (fun _ => True) (by kernel_rfl) (trivial) (fun Qn hPQ hQn hS0 => ?_)
        refine takeQ (i := 0) (d := some 14) (v := ?_) rfl rfl (by kernel_rfl) (by kernel_rfl) (by kernel_rfl) hPQ hS0 (by kernel_rfl) ?_ ?_
        rotate_left
        · (intro w hSw; (try dsimp only at hSw); go_simp; (try with_reducible rfl))
        (try simp only [Act.put, List.setIfInBounds_toArray, List.set_cons_zero, List.set_cons_succ])
        refine takeQ (i := 1) (d := some 15) (v := ?_) rfl rfl (by kernel_rfl) (by kernel_rfl) (by kernel_rfl) hPQ hS0 (by kernel_rfl) ?_ ?_
        rotate_left
        · (intro w hSw; (try dsimp only at hSw); go_simp; (try with_reducible rfl))
        (try simp only [Act.put, List.setIfInBounds_toArray, List.set_cons_zero, List.set_cons_succ])
        refine takeQ (i := 2) (d := some 16) (v := ?_) rfl rfl (by kernel_rfl) (by kernel_rfl) (by kernel_rfl) hPQ hS0 (by kernel_rfl) ?_ ?_
        rotate_left
        · (intro w hSw; (try dsimp only at hSw); go_simp; (try with_reducible rfl))
        (try simp only [Act.put, List.setIfInBounds_toArray, List.set_cons_zero, List.set_cons_succ])
        refine takeQ (i := 3) (d := some 17) (v := ?_) rfl rfl (by kernel_rfl) (by kernel_rfl) (by kernel_rfl) hPQ hS0 (by kernel_rfl) ?_ ?_
        rotate_left
        · (intro w hSw; (try dsimp only at hSw); go_simp; (try with_reducible rfl))
        (try simp only [Act.put, List.setIfInBounds_toArray, List.set_cons_zero, List.set_cons_succ])
        refine takeQ (i := 4) (d := some 18) (v := ?_) rfl rfl (by kernel_rfl) (by kernel_rfl) (by kernel_rfl) hPQ hS0 (by kernel_rfl) ?_ ?_
        rotate_left
        · (intro w hSw; (try dsimp only at hSw); go_simp; (try with_reducible rfl))
        (try simp only [Act.put, List.setIfInBounds_toArray, List.set_cons_zero, List.set_cons_succ])
        refine takeQ (i := 5) (d := some 19) (v := ?_) rfl rfl (by kernel_rfl) (by kernel_rfl) (by kernel_rfl) hPQ hS0 (by kernel_rfl) ?_ ?_
        rotate_left
        · (intro w hSw; (try dsimp only at hSw); go_simp; (try with_reducible rfl))
        (try simp only [Act.put, List.setIfInBounds_toArray, List.set_cons_zero, List.set_cons_succ])
        refine takeQ (i := 6) (d := some 20) (v := ?_) rfl rfl (by kernel_rfl) (by kernel_rfl) (by kernel_rfl) hPQ hS0 (by kernel_rfl) ?_ ?_
        rotate_left
        · (intro w hSw; (try dsimp only at hSw); go_simp; (try with_reducible rfl))
        (try simp only [Act.put, List.setIfInBounds_toArray, List.set_cons_zero, List.set_cons_succ])
        refine takeQ (i := 8) (d := some 22) (v := ?_) rfl rfl (by kernel_rfl) (by kernel_rfl) (by kernel_rfl) hPQ hS0 (by kernel_rfl) ?_ ?_
        rotate_left
        · (intro w hSw; (try dsimp only at hSw); go_simp; (try with_reducible rfl))
        (try simp only [Act.put, List.setIfInBounds_toArray, List.set_cons_zero, List.set_cons_succ])
        refine takeQ (i := 9) (d := some 23) (v := ?_) rfl rfl (by kernel_rfl) (by kernel_rfl) (by kernel_rfl) hPQ hS0 (by kernel_rfl) ?_ ?_
        rotate_left
        · (intro w hSw; (try dsimp only at hSw); go_simp; (try with_reducible rfl))
        (try simp only [Act.put, List.setIfInBounds_toArray, List.set_cons_zero, List.set_cons_succ])
        refine takeQ (i := 10) (d := some 24) (v := ?_) rfl rfl (by kernel_rfl) (by kernel_rfl) (by kernel_rfl) hPQ hS0 (by kernel_rfl) ?_ ?_
        rotate_left
        · (intro w hSw; (try dsimp only at hSw); go_simp; (try with_reducible rfl))
        (try simp only [Act.put, List.setIfInBounds_toArray, List.set_cons_zero, List.set_cons_succ])
        refine wpAnyH_ready (rs := [7, 11]) (by kernel_rfl) (by simp) ?_
        refine AllReadyH.cons (o := _) rfl (fun K hK => ?_) (AllReadyH.cons (o := _) rfl (fun K hK => ?_) AllReadyH.nil)
        go_simp
        refine hK.out _ _ (trivial) (fun hS1 => ?_)
        clear hK K hS0
        (try simp only [Act.put, List.setIfInBounds_toArray, List.set_cons_zero, List.set_cons_succ])
        refine wpAnyH_ready (rs := [11]) (by kernel_rfl) (by simp) ?_
        refine AllReadyH.cons (o := _) rfl (fun K hK => ?_) AllReadyH.nil
        go_simp
        refine hK.out _ _ (trivial) (fun hS2 => ?_)
        clear hK K hS1
        (try simp only [Act.put, List.setIfInBounds_toArray, List.set_cons_zero, List.set_cons_succ])
        refine takeQ (i := 12) (d := some 26) (v := ?_) rfl rfl (by kernel_rfl) (by kernel_rfl) (by kernel_rfl) hPQ hS2 (by kernel_rfl) ?_ ?_
        rotate_left
        · (intro w hSw; (try dsimp only at hSw); go_simp; (try with_reducible rfl))
        (try simp only [Act.put, List.setIfInBounds_toArray, List.set_cons_zero, List.set_cons_succ])
        refine wpAnyH_ready (rs := [13]) (by kernel_rfl) (by simp) ?_
        refine AllReadyH.cons (o := _) rfl (fun K hK => ?_) AllReadyH.nil
        go_simp
        (try rw [EB])
        refine hK.out _ _ (trivial) (fun hS3 => ?_)
        clear hK K hS2
        (try simp only [Act.put, List.setIfInBounds_toArray, List.set_cons_zero, List.set_cons_succ])
        refine takeQ (i := 14) (d := some 27) (v := ?_) rfl rfl (by kernel_rfl) (by kernel_rfl) (by kernel_rfl) hPQ hS3 (by kernel_rfl) ?_ ?_
        rotate_left
        · (intro w hSw; (try dsimp only at hSw); go_simp; (try with_reducible rfl))
        (try simp only [Act.put, List.setIfInBounds_toArray, List.set_cons_zero, List.set_cons_succ])
        refine wpAnyH_ready (rs := [15]) (by kernel_rfl) (by simp) ?_
        refine AllReadyH.cons (o := _) rfl (fun K hK => ?_) AllReadyH.nil
        go_simp
        (try rw [ED])
        refine hK.out _ _ (trivial) (fun hS4 => ?_)
        clear hK K hS3
        (try simp only [Act.put, List.setIfInBounds_toArray, List.set_cons_zero, List.set_cons_succ])
        refine wpAnyH_done (by kernel_rfl) (hQn.out _ _ ?_) _
        clear hS4 hPQ hQn Qn
        rotate_left
        go_simp
        refine hK.out _ _ (trivial) (fun hS1 => ?_)
        clear hK K hS0
        (try simp only [Act.put, List.setIfInBounds_toArray, List.set_cons_zero, List.set_cons_succ])
        refine wpAnyH_ready (rs := [7]) (by kernel_rfl) (by simp) ?_
        refine AllReadyH.cons (o := _) rfl (fun K hK => ?_) AllReadyH.nil
        go_simp
        refine hK.out _ _ (trivial) (fun hS2 => ?_)
        clear hK K hS1
        (try simp only [Act.put, List.setIfInBounds_toArray, List.set_cons_zero, List.set_cons_succ])
        refine takeQ (i := 12) (d := some 26) (v := ?_) rfl rfl (by kernel_rfl) (by kernel_rfl) (by kernel_rfl) hPQ hS2 (by kernel_rfl) ?_ ?_
        rotate_left
        · (intro w hSw; (try dsimp only at hSw); go_simp; (try with_reducible rfl))
        (try simp only [Act.put, List.setIfInBounds_toArray, List.set_cons_zero, List.set_cons_succ])
        refine wpAnyH_ready (rs := [13]) (by kernel_rfl) (by simp) ?_
        refine AllReadyH.cons (o := _) rfl (fun K hK => ?_) AllReadyH.nil
        go_simp
        (try rw [EB])
        refine hK.out _ _ (trivial) (fun hS3 => ?_)
        clear hK K hS2
        (try simp only [Act.put, List.setIfInBounds_toArray, List.set_cons_zero, List.set_cons_succ])
        refine takeQ (i := 14) (d := some 27) (v := ?_) rfl rfl (by kernel_rfl) (by kernel_rfl) (by kernel_rfl) hPQ hS3 (by kernel_rfl) ?_ ?_
        rotate_left
        · (intro w hSw; (try dsimp only at hSw); go_simp; (try with_reducible rfl))
        (try simp only [Act.put, List.setIfInBounds_toArray, List.set_cons_zero, List.set_cons_succ])
        refine wpAnyH_ready (rs := [15]) (by kernel_rfl) (by simp) ?_
        refine AllReadyH.cons (o := _) rfl (fun K hK => ?_) AllReadyH.nil
        go_simp
        (try rw [ED])
        refine hK.out _ _ (trivial) (fun hS4 => ?_)
        clear hK K hS3
        (try simp only [Act.put, List.setIfInBounds_toArray, List.set_cons_zero, List.set_cons_succ])
        refine wpAnyH_done (by kernel_rfl) (hQn.out _ _ ?_) _
        clear hS4 hPQ hQn Qn
        rotate_left
        all_goals go_wp2_with fail
        all_goals exact ⟨⟨k + 1, jn - 1, cD, by go_num, by go_num, by omega, by omega, HBD2, HX, by omega, HV2⟩, by simp [intOf]; omega⟩
      · go_wp2_with fail
        go_end0
        exact HR.out _ HB.out (FIN.out k cs _ (by omega) HV.out HC.out (by omega))
end Go.Proofs.YtciokmjhdbcmpaaGreatDoor
namespace Go.Proofs.YtciokmjhdbcmpaaGreatDoor
open Go.RowKit

set_option maxHeartbeats 2000000 in
theorem nan107_any (a : ByteArray) (w : World) (R : Ending → World → Prop) (hR : R (.returned (.bool false)) w) : Calls Tryz.prog 107 #[.string a] w R := by
  have HR := Lib.hid hR
  have hs : (a.toList == a.toList) = true := by simp
  clear hR
  go_enter Tryz.func107, Tryz.ntmps107
  go_wp2_with fail
  exact HR.out
set_option maxHeartbeats 4000000 in
theorem less74_any (a b : ByteArray) (w : World) (R : Ending → World → Prop) (hR : R (.returned (.bool (ltB a b))) w) : Calls Tryz.prog 74 #[.string a, .string b] w R := by
  obtain ⟨q, hq⟩ : ∃ q, ltB a b = q := ⟨_, rfl⟩
  rw [hq] at hR
  have HR := Lib.hid hR
  have hs : Op.bytesLess a.toList b.toList = q := hq
  clear hR hq
  go_enter Tryz.func74, Tryz.ntmps74
  go_wp2_with fail
  refine nan107_any a _ _ ?_
  go_wp2_with fail
  exact HR.out
set_option maxRecDepth 100000 in
set_option maxHeartbeats 4000000 in
/-- slices.IsSorted of ascending names. -/
theorem sorted36_any (ao : Option Addr) (ks : List ByteArray) (n c : Nat) (w : World) (R : Ending → World → Prop) (hn : ks.length = n) (hl : n ≤ 1000000) (hc : CellsAt w ao (sC ks)) (hup : ks.Pairwise (fun a b => bL a < bL b))
   (hR : ∀ w', Below w.heap.size w w' → R (.returned (.bool true)) w') :
    Calls Tryz.prog 36 #[.slice ao n c] w R := by
  have HR := Lib.hid hR
  have HC := Lib.hid hc
  have HN := Lib.hid hn
  have HU := Lib.hid hup
  clear hR hc hup hn
  by_cases hz : n = 0
  · subst hz
    go_enter Tryz.func36, Tryz.ntmps36
    go_wp2_with fail
    go_loopw [3] (fun i wr => i = .int .i64 (-1) ∧ wr = w) (fun _ _ => 0)
    case atStart => exact ⟨rfl, rfl⟩
    case round =>
      obtain ⟨rfl, rfl⟩ := hrel
      go_wp2_with fail
      exact HR.out _ (Below.refl _ _)
  · obtain ⟨nn, rfl⟩ : ∃ nn, n = nn + 1 := ⟨n - 1, by omega⟩
    obtain ⟨b, og, rfl, hbl, hcell⟩ := HC.out.strs (by rw [HN.out]; omega)
    rw [HN.out] at hcell
    have HCC := Lib.hid hcell
    clear hcell
    go_enter Tryz.func36, Tryz.ntmps36
    go_wp2_with fail
    go_loopw [3] (fun i wr => ∃ k : Nat, k ≤ nn ∧ i = .int .i64 k ∧ Hid (Below w.heap.size w wr)) (fun i _ => (intOf i).toNat)
    case atStart => exact ⟨nn, Nat.le_refl _, by go_num, Below.refl _ _⟩
    case round =>
      obtain ⟨k, hk, rfl, HB⟩ := hrel
      by_cases hlt : 0 < k
      · obtain ⟨kk, rfl⟩ : ∃ kk, k = kk + 1 := ⟨k - 1, by omega⟩
        have e0 := HCC.out (kk + 1) (by omega)
        have e1 := HCC.out kk (by omega)
        have hlq : ltB (kat ks (kk + 1)) (kat ks kk) = false := by
          rw [ltB_no, kat_lt (by rw [HN.out]; omega), kat_lt (by rw [HN.out]; omega)]
          exact List.lt_asymm (List.pairwise_iff_getElem.1 HU.out kk (kk + 1) (by rw [HN.out]; omega) (by rw [HN.out]; omega) (by omega))
        obtain ⟨u, hu⟩ : ∃ u, kat ks (kk + 1) = u := ⟨_, rfl⟩
        obtain ⟨v, hv⟩ : ∃ v, kat ks kk = v := ⟨_, rfl⟩
        rw [hu] at e0 hlq
        rw [hv] at e1 hlq
        have HLQ := Lib.hid hlq
        have p0 : wr.drew.cell? ⟨b, og + (kk + 1), none⟩ = some (.string u) := cellB (HB.out.drew) e0 hbl
        have p1 : wr.drew.cell? ⟨b, og + kk, none⟩ = some (.string v) := cellB (HB.out.drew) e1 hbl
        have BD : Hid (Below w.heap.size w wr.drew) := HB.out.drew
        have KA : (0 ≤ (kk : Int) + 1) = True := eq_true (by omega)
        have KB : (kk < nn) = True := eq_true (by omega)
        have KC : ((kk : Int) < (nn : Int) + 1) = True := eq_true (by omega)
        have KD : (kk < nn + 1) = True := eq_true (by omega)
        have KW : IntKind.i64.wrap (kk : Int) = kk := by rw [IntKind.wrap_i64]; omega
        have KE : ((kk : Int) + 1 < (nn : Int) + 1) = True := eq_true (by omega)
        clear e0 e1 hu hv hlq
        go_wp2_with fail
        refine regionQ (fun w' => w'.cell? ⟨b, og + (kk + 1), none⟩ = some (.string u) ∧ w'.cell? ⟨b, og + kk, none⟩ = some (.string v)) (by kernel_rfl) (⟨p0, p1⟩) (fun Qn hPQ hQn hS0 => ?_)
        refine takeQ (i := 0) (d := some 11) (v := ?_) rfl rfl (by kernel_rfl) (by kernel_rfl) (by kernel_rfl) hPQ hS0 (by kernel_rfl) ?_ ?_
        rotate_left
        · (intro w hSw; (try dsimp only at hSw); obtain ⟨k0, k1⟩ := hSw; go_simp; (try with_reducible rfl))
        (try simp only [Act.put, List.setIfInBounds_toArray, List.set_cons_zero, List.set_cons_succ])
        refine takeQ (i := 1) (d := some 12) (v := ?_) rfl rfl (by kernel_rfl) (by kernel_rfl) (by kernel_rfl) hPQ hS0 (by kernel_rfl) ?_ ?_
        rotate_left
        · (intro w hSw; (try dsimp only at hSw); obtain ⟨k0, k1⟩ := hSw; go_simp; (try with_reducible rfl))
        (try simp only [Act.put, List.setIfInBounds_toArray, List.set_cons_zero, List.set_cons_succ])
        refine takeQ (i := 2) (d := some 13) (v := ?_) rfl rfl (by kernel_rfl) (by kernel_rfl) (by kernel_rfl) hPQ hS0 (by kernel_rfl) ?_ ?_
        rotate_left
        · (intro w hSw; (try dsimp only at hSw); obtain ⟨k0, k1⟩ := hSw; go_simp; (try with_reducible rfl))
        (try simp only [Act.put, List.setIfInBounds_toArray, List.set_cons_zero, List.set_cons_succ])
        refine takeQ (i := 3) (d := some 14) (v := ?_) rfl rfl (by kernel_rfl) (by kernel_rfl) (by kernel_rfl) hPQ hS0 (by kernel_rfl) ?_ ?_
        rotate_left
        · (intro w hSw; (try dsimp only at hSw); obtain ⟨k0, k1⟩ := hSw; go_simp; (try with_reducible rfl))
        (try simp only [Act.put, List.setIfInBounds_toArray, List.set_cons_zero, List.set_cons_succ])
        refine takeQ (i := 4) (d := some 15) (v := ?_) rfl rfl (by kernel_rfl) (by kernel_rfl) (by kernel_rfl) hPQ hS0 (by kernel_rfl) ?_ ?_
        rotate_left
        · (intro w hSw; (try dsimp only at hSw); obtain ⟨k0, k1⟩ := hSw; go_simp; (try with_reducible rfl))
        (try simp only [Act.put, List.setIfInBounds_toArray, List.set_cons_zero, List.set_cons_succ])
        refine takeQ (i := 5) (d := some 16) (v := ?_) rfl rfl (by kernel_rfl) (by kernel_rfl) (by kernel_rfl) hPQ hS0 (by kernel_rfl) ?_ ?_
        rotate_left
        · (intro w hSw; (try dsimp only at hSw); obtain ⟨k0, k1⟩ := hSw; go_simp; (try with_reducible rfl))
        (try simp only [Act.put, List.setIfInBounds_toArray, List.set_cons_zero, List.set_cons_succ])
        refine takeQ (i := 6) (d := some 17) (v := ?_) rfl rfl (by kernel_rfl) (by kernel_rfl) (by kernel_rfl) hPQ hS0 (by kernel_rfl) ?_ ?_
        rotate_left
        · (intro w hSw; (try dsimp only at hSw); obtain ⟨k0, k1⟩ := hSw; go_simp; (try with_reducible rfl))
        (try simp only [Act.put, List.setIfInBounds_toArray, List.set_cons_zero, List.set_cons_succ])
        refine takeQ (i := 7) (d := some 18) (v := ?_) rfl rfl (by kernel_rfl) (by kernel_rfl) (by kernel_rfl) hPQ hS0 (by kernel_rfl) ?_ ?_
        rotate_left
        · (intro w hSw; (try dsimp only at hSw); obtain ⟨k0, k1⟩ := hSw; go_simp; (try with_reducible rfl))
        (try simp only [Act.put, List.setIfInBounds_toArray, List.set_cons_zero, List.set_cons_succ])
        refine takeQ (i := 8) (d := some 19) (v := ?_) rfl rfl (by kernel_rfl) (by kernel_rfl) (by kernel_rfl) hPQ hS0 (by kernel_rfl) ?_ ?_
        rotate_left
        · (intro w hSw; (try dsimp only at hSw); obtain ⟨k0, k1⟩ := hSw; go_simp; (try with_reducible rfl))
        (try simp only [Act.put, List.setIfInBounds_toArray, List.set_cons_zero, List.set_cons_succ])
        refine wpAnyH_ready (rs := [9]) (by kernel_rfl) (by simp) ?_
        refine AllReadyH.cons (o := _) rfl (fun K hK => ?_) AllReadyH.nil
        go_simp
        refine less74_any _ _ _ _ ?_
        rw [HLQ.out]
        refine hK.out _ _ (hS0) (fun hS1 => ?_)
        clear hK K hS0
        (try simp only [Act.put, List.setIfInBounds_toArray, List.set_cons_zero, List.set_cons_succ])
        refine wpAnyH_done (by kernel_rfl) (hQn.out _ _ ?_) _
        clear hS1 hPQ hQn Qn
        go_wp2_with fail
        exact ⟨⟨kk, by omega, by go_num, BD⟩, by simp [intOf]⟩
      · obtain rfl : k = 0 := by omega
        go_wp2_with fail
        exact HR.out _ HB.out

theorem cont37_any (ao : Option Addr) (ks : List ByteArray) (n c : Nat) (s : ByteArray) (w : World) (R : Ending → World → Prop) (hn : ks.length = n) (hl : n ≤ 1000000) (hc : CellsAt w ao (sC ks)) (hs : s ∈ ks) (hR : R (.returned (.bool true)) w) :
    Calls Tryz.prog 37 #[.slice ao n c, .string s] w R := by
  subst hn
  have hpos : 0 < ks.length := List.length_pos_of_mem hs
  obtain ⟨b, og, rfl, hbl, hcell⟩ := hc.strs hpos
  refine (Tryz.slices_Contains_string b og ks.length c ks s w (Nat.le_refl _) (by omega) (fun j hj => by rw [hcell j hj, kat_lt hj]; first | rfl | simp [hj])).mono ?_
  rintro e w' ⟨rfl, rfl⟩
  rw [List.take_length, (Lib.containsS_iff _ _).2 hs]
  exact hR
/-! ### the frames in another order, and fewer -/
def Ft.wf (f : Ft) (gs : List Fm) : Ft := { f with fs := gs }
theorem alE_mem {f : Ft} : alE f = 0 ↔ ftE f = 0 ∧ f.fs.length ≤ 8 ∧ (∀ x ∈ f.fs, fcE f x = 0) ∧ (f.fs.map Fm.k).Nodup := by
  rw [alE_zero]
  have e : (∀ i, i < f.fs.length → fcE f (fmAt f.fs i) = 0 ∧ ∀ k, k < i → (fmAt f.fs k).k ≠ (fmAt f.fs i).k) ↔ ((∀ x ∈ f.fs, fcE f x = 0) ∧ (f.fs.map Fm.k).Nodup) := by
    rw [List.nodup_iff_pairwise_ne, List.pairwise_map, List.pairwise_iff_getElem]
    constructor
    · intro h
      refine ⟨fun x hx => ?_, fun i j hi hj hij => ?_⟩
      · obtain ⟨i, hi, rfl⟩ := List.mem_iff_getElem.1 hx
        have := (h i hi).1
        rwa [fmAt_lt hi] at this
      · have := (h j hj).2 i hij
        rwa [fmAt_lt hi, fmAt_lt hj] at this
    · intro h i hi
      refine ⟨by rw [fmAt_lt hi]; exact h.1 _ (List.getElem_mem hi), fun k hk => ?_⟩
      rw [fmAt_lt hi, fmAt_lt (by omega)]
      exact h.2 k i (by omega) hi hk
  rw [e]
theorem alE_wf {f : Ft} (h : alE f = 0) {gs : List Fm} (hl : gs.length ≤ 8) (hm : ∀ x ∈ gs, x ∈ f.fs) (hn : (gs.map Fm.k).Nodup) : alE (f.wf gs) = 0 := by
  obtain ⟨h1, _, h3, _⟩ := alE_mem.1 h
  exact alE_mem.2 ⟨h1, hl, fun x hx => h3 x (hm x hx), hn⟩
theorem nmsF_mem {fs : List Fm} {s : ByteArray} : s ∈ nmsF fs ↔ ∃ x ∈ fs, s ∈ x.ds.map Dt.n := List.mem_flatMap
theorem puts_mem {ns : List ByteArray} {s : ByteArray} : s ∈ putsL ns ↔ s ∈ ns := by rw [(putsL_srt ns).mem, hasL_iff]
theorem alE_rev {f : Ft} (h : alE f = 0) : alE (f.wf f.fs.reverse) = 0 := by
  obtain ⟨_, h2, _, h4⟩ := alE_mem.1 h
  exact alE_wf h (by rw [List.length_reverse]; exact h2) (fun x hx => List.mem_reverse.1 hx) (by rw [List.map_reverse]; exact (List.reverse_perm _).nodup_iff.2 h4)
theorem dmL_rev {f : Ft} (h : alE f = 0) : dmL (f.wf f.fs.reverse) = dmL f := by
  unfold dmL
  rw [if_pos h, if_pos (alE_rev h)]
  refine SrtIs.unique (Q := hasL (nmsF f.fs)) ⟨(putsL_srt _).up, fun s => ?_⟩ (putsL_srt _)
  · rw [puts_mem, hasL_iff, nmsF_mem, nmsF_mem]
    show (∃ x ∈ f.fs.reverse, _) ↔ _
    exact ⟨fun ⟨x, hx, hs⟩ => ⟨x, List.mem_reverse.1 hx, hs⟩, fun ⟨x, hx, hs⟩ => ⟨x, List.mem_reverse.2 hx, hs⟩⟩
theorem alE_tail {f : Ft} (h : alE f = 0) {x : Fm} {gs : List Fm} (e : f.fs.reverse = x :: gs) : alE (f.wf gs) = 0 := by
  obtain ⟨_, h2, _, h4⟩ := alE_mem.1 h
  have h5 : (f.fs.reverse.map Fm.k).Nodup := by rw [List.map_reverse]; exact (List.reverse_perm _).nodup_iff.2 h4
  have h6 : f.fs.reverse.length ≤ 8 := by rw [List.length_reverse]; exact h2
  rw [e] at h5 h6
  rw [List.map_cons, List.nodup_cons] at h5
  exact alE_wf h (by simp at h6; omega) (fun y hy => List.mem_reverse.1 (by rw [e]; exact List.mem_cons_of_mem _ hy)) h5.2
theorem dmL_tail {f : Ft} (h : alE f = 0) {x : Fm} {gs : List Fm} (e : f.fs.reverse = x :: gs) : ∀ s ∈ dmL (f.wf gs), s ∈ dmL f := by
  unfold dmL
  rw [if_pos h, if_pos (alE_tail h e)]
  intro s hs
  rw [puts_mem, nmsF_mem] at *
  obtain ⟨y, hy, hs⟩ := hs
  exact ⟨y, List.mem_reverse.1 (by rw [e]; exact List.mem_cons_of_mem _ hy), hs⟩
theorem dmL_up (f : Ft) : (dmL f).Pairwise (fun a b => bL a < bL b) := by
  unfold dmL
  split
  · exact (putsL_srt _).up
  · exact List.Pairwise.nil
end Go.Proofs.YtciokmjhdbcmpaaGreatDoor
