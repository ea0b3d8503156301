/- The walk of blocks.Standard: the series, each by its iterator, then the sort. (Printed by gen_std.py.) -/
import Derived.Sort.OwnSortedInts
import Derived.Test.YtdmolmdenfepkaaN
import Derived.Test.YtdmolmdenfepkaaShelf
namespace Go.Proofs.Ytdmolmdenfepkaa
open Go.RowKit Go.Shelf Go.Sort
attribute [local go_sem] Oper.semAt_some

def sortL (l : List Int) : List Int := l.mergeSort fun x y => decide (x ≤ y)
theorem sortL_length (l : List Int) : (sortL l).length = l.length := by simp [sortL]

theorem sort_own (base : Nat) (g cap : Nat) (l : List Int) (w : World) (hown : w.ownsRow base 3 1 (.slice (some ⟨g, 0, none⟩) l.length cap) l.length (I64s l)) (hl : l.length ≤ 1000000) (R : Ending → World → Prop)
    (hR : ∀ w', w.grownBy w' (some g) → w'.ownsRow base 3 1 (.slice (some ⟨g, 0, none⟩) l.length cap) l.length (I64s (sortL l)) → R (.returned (.tuple #[])) w') :
    Calls Try.prog 51 #[.slice (some ⟨g, 0, none⟩) l.length cap] w R := by
  rcases hown.2 with ⟨h, _⟩ | ⟨g', cap', cur, hv, hb, hg, hn, hm, hs, ht⟩
  · cases h
  · cases hv
    refine (Try.slices_Sort_int g 0 cap l w (holds_of_blockI hg (by rw [Nat.mul_one] at ht; exact ht)) (lt_of_block hg) (by omega)).mono ?_
    rintro e w' ⟨rfl, n, os, rfl⟩
    exact hR _ (grownBy_sortedI _) (ownsRow_sortedI (ss := l) (ts := sortL l) (sortL_length l) hb hg hn hm hs)

def std87pc : List Value := [.int .i64 1001, .int .i64 1009, .int .i64 1, .int .i64 1010, .int .i64 1490, .int .i64 10, .int .i64 500, .int .i64 9500, .int .i64 500, .int .i64 10000, .int .i64 100000, .int .i64 10000]
def std87o0 : List Int := []
def std87o1 : List Int := std87o0 ++ stepNums 1001 1 9
def std87o2 : List Int := std87o1 ++ stepNums 1010 10 49
def std87o3 : List Int := std87o2 ++ stepNums 500 500 19
def std87o4 : List Int := std87o3 ++ stepNums 10000 10000 10

set_option maxRecDepth 100000 in
set_option maxHeartbeats 8000000 in
theorem standard87_any (w : World) (R : Ending → World → Prop)
   (hR : ∀ g c w', Below w.heap.size w w' → CellsAt w' (some ⟨g, 0, none⟩) (I64s (sortL (std87o4))) → R (.returned (.tuple #[.slice (some ⟨g, 0, none⟩) (sortL (std87o4)).length c, .int .i64 0])) w') :
    Calls Try.prog 22 #[.int .i64 87] w R := by
  have HR := Lib.hid hR
  clear hR
  have h1 : 1 ≤ 5 := by omega
  refine (callsIn_wide (n := 5)).1 ?_
  refine callsIn_of_wp_marks Try.func22 rfl trivial ?_ rfl
  simp only [Try.ntmps22, List.size_toArray, List.length_cons, List.length_nil, Nat.reduceAdd, Nat.reduceSub, Array.replicate_succ, Array.replicate_zero, List.push_toArray, List.append_toArray, List.nil_append, List.cons_append]
  gi_wp2
  have hb0 : Below w.heap.size w ((w.alloc (.cells #[.int .i64 1001, .int .i64 1009, .int .i64 1, .int .i64 1010, .int .i64 1490, .int .i64 10, .int .i64 500, .int .i64 9500, .int .i64 500, .int .i64 10000, .int .i64 100000, .int .i64 10000] 75)).alloc (.cells #[.slice none 0 0] 22)) := ((Below.refl _ w).alloc (Nat.le_refl _) _).alloc (by simp) _
  have hP0 : ((w.alloc (.cells #[.int .i64 1001, .int .i64 1009, .int .i64 1, .int .i64 1010, .int .i64 1490, .int .i64 10, .int .i64 500, .int .i64 9500, .int .i64 500, .int .i64 10000, .int .i64 100000, .int .i64 10000] 75)).alloc (.cells #[.slice none 0 0] 22)).heap[w.heap.size]? = some (.cells std87pc.toArray 75 (0, 0)) :=
    (Below.heap_alloc _ _ _ (by simp)).trans (World.alloc_heap_new _ _)
  have bO0 := Boxed.new (w.alloc (.cells #[.int .i64 1001, .int .i64 1009, .int .i64 1, .int .i64 1010, .int .i64 1490, .int .i64 10, .int .i64 500, .int .i64 9500, .int .i64 500, .int .i64 10000, .int .i64 100000, .int .i64 10000] 75)) 22 (.slice none 0 0)
  rw [World.size_alloc] at bO0
  obtain ⟨W0, hW0⟩ : ∃ W0, (w.alloc (.cells #[.int .i64 1001, .int .i64 1009, .int .i64 1, .int .i64 1010, .int .i64 1490, .int .i64 10, .int .i64 500, .int .i64 9500, .int .i64 500, .int .i64 10000, .int .i64 100000, .int .i64 10000] 75)).alloc (.cells #[.slice none 0 0] 22) = W0 := ⟨_, rfl⟩
  have hz0 : w.heap.size + 2 ≤ W0.heap.size := by rw [← hW0]; simp
  rw [hW0] at hb0 hP0 bO0 ⊢
  clear hW0
  have HO0 : Hid (∃ v, Boxed W0 (w.heap.size + 1) 22 v ∧ W0.ownsRow w.heap.size 3 1 v (std87o0).length (I64s (std87o0)) ∧ (v = .slice none 0 0 ↔ std87o0 = [])) := ⟨_, bO0, World.ownsRow_nil _ _ _ _, by simp [std87o0]⟩
  have HP0 := Lib.hid hP0
  have HB0 := Lib.hid hb0
  have HD0 : Hid (∀ D ∈ ([] : List Nat), W0.heap[D]? = some (.deferred (some []))) := fun D hd => absurd hd (by simp)
  clear hb0 bO0 hP0
  refine wpIn_loop_rounds 5 ?_
  -- part 0
  rw [roundsIn_succ]
  have p0 : W0.cell? ⟨w.heap.size, 0, none⟩ = some (.int .i64 1001) := by simp [World.cell?, HP0.out, std87pc]
  have p1 : W0.cell? ⟨w.heap.size, 1, none⟩ = some (.int .i64 1009) := by simp [World.cell?, HP0.out, std87pc]
  have p2 : W0.cell? ⟨w.heap.size, 2, none⟩ = some (.int .i64 1) := by simp [World.cell?, HP0.out, std87pc]
  have hsz0 : w.heap.size < W0.heap.size := by omega
  gi_wp2_with (refine ⟨trivial, ?_⟩; gi_at_call 50; refine (steps_in Fence.wide 4 trivial rfl _ _ _ _).mono ?_; rintro e w' ⟨rfl, rfl⟩)
  have a0 := ((Boxed.new (W0.alloc (.cells #[.int .i64 1001, .int .i64 1009, .int .i64 1] 75)) 3 (.int .i64 1001)).alloc (.cells #[.int .i64 1009] 3)).alloc (.cells #[.int .i64 1] 3)
  have a1 := (Boxed.new ((W0.alloc (.cells #[.int .i64 1001, .int .i64 1009, .int .i64 1] 75)).alloc (.cells #[.int .i64 1001] 3)) 3 (.int .i64 1009)).alloc (.cells #[.int .i64 1] 3)
  have a2 := Boxed.new (((W0.alloc (.cells #[.int .i64 1001, .int .i64 1009, .int .i64 1] 75)).alloc (.cells #[.int .i64 1001] 3)).alloc (.cells #[.int .i64 1009] 3)) 3 (.int .i64 1)
  simp only [World.size_alloc] at a0 a1 a2
  have hbx0 : Below W0.heap.size W0 ((((W0.alloc (.cells #[.int .i64 1001, .int .i64 1009, .int .i64 1] 75)).alloc (.cells #[.int .i64 1001] 3)).alloc (.cells #[.int .i64 1009] 3)).alloc (.cells #[.int .i64 1] 3)) := ((((Below.refl _ _).alloc (Nat.le_refl _) _).alloc (by simp) _).alloc (by simp; omega) _).alloc (by simp; omega) _
  obtain ⟨X0, hX0⟩ : ∃ X, (((W0.alloc (.cells #[.int .i64 1001, .int .i64 1009, .int .i64 1] 75)).alloc (.cells #[.int .i64 1001] 3)).alloc (.cells #[.int .i64 1009] 3)).alloc (.cells #[.int .i64 1] 3) = X := ⟨_, rfl⟩
  have hxs0 : X0.heap.size = W0.heap.size + 4 := by rw [← hX0]; simp
  rw [hX0] at a0 a1 a2 hbx0 ⊢
  clear hX0 p0 p1 p2
  have hI0 : OutInv w.heap.size (w.heap.size + 1) w.heap.size (W0.heap.size + 1) std87pc 1001 1009 1 [] w (std87o0 ++ []) X0 := by
    obtain ⟨v, hv, hrow, hnil⟩ := HO0.out
    rw [List.append_nil]
    refine ⟨⟨v, (hbx0.block _ hv.lt).trans hv, ?_, hnil, fun g hg => .inl (by have := (hrow.lt g hg).2; omega)⟩, ⟨a0, a1, a2⟩, (hbx0.block _ (lt_of_block HP0.out)).trans HP0.out, fun D hd => (hbx0.block _ (lt_of_block (HD0.out D hd))).trans (HD0.out D hd), HB0.out.trans (hbx0.mono (by omega))⟩
    refine ⟨hrow.1, ?_⟩
    rcases hrow.2 with h | ⟨g, cap, cur, h1, h2, h3, h4⟩
    · exact .inl h
    · exact .inr ⟨g, cap, cur, h1, h2, (hbx0.block _ (lt_of_block h3)).trans h3, h4⟩
  have HDx0 : ∀ D ∈ ([] : List Nat), D < X0.heap.size := fun D hd => by have := lt_of_block (HD0.out D hd); omega
  refine wpIn_rangeFunc_ownG rfl h1 (gf := 60) (lb := #[.pointer (some ⟨W0.heap.size + 1, 0, none⟩), .pointer (some ⟨W0.heap.size + 1 + 1, 0, none⟩), .pointer (some ⟨W0.heap.size + 1 + 1 + 1, 0, none⟩)]) rfl trivial (enters_of Try.func60 (by kernel_rfl) rfl)
    (steps_stops Fence.wide 4 trivial rfl (by omega) (W0.heap.size + 1) 1001 1009 1 9 X0 (by omega) (by omega) (by omega) (by intro k hk; omega) (by omega) (by omega) a0.cell a1.cell a2.cell) Keep3.trans (keep3_b (by omega)) (Below.refl _ _) (fun _ => rfl)
    (fun pre W => OutInv w.heap.size (w.heap.size + 1) w.heap.size (W0.heap.size + 1) std87pc 1001 1009 1 [] w (std87o0 ++ pre) W)
    (fun _ _ _ => False)
    (fun s A B row hs hg hr => hs.kept hg hr HDx0 (by omega) (by have := hs.2.2.2.2.size; omega))
    (fun _ _ _ _ _ hs _ _ => hs)
    hI0
    (fun x => { tmps := #[.int .i64 87, undef, .slice none 0 0, .int .i64 0, .slice (some ⟨w.heap.size, 0, none⟩) 4 4, .pointer (some ⟨w.heap.size + 1, 0, none⟩), undef, .pointer (some ⟨W0.heap.size, 0, none⟩), .int .i64 x, .int .i64 87, .bool false, .bool false, undef, undef, undef, undef, undef, undef, undef, .bool false, .bool false, undef, undef, undef, undef, undef, undef, .bool true, .bool true, .agg #[.int .i64 1001, .int .i64 1009, .int .i64 1], .agg #[.int .i64 1010, .int .i64 1490, .int .i64 10], .agg #[.int .i64 500, .int .i64 9500, .int .i64 500], .agg #[.int .i64 10000, .int .i64 100000, .int .i64 10000], .slice (some ⟨w.heap.size, 0, none⟩) 4 4, .slice (some ⟨w.heap.size, 0, none⟩) 4 4, .int .i64 4, .int .i64 0, .bool true, .pointer (some ⟨w.heap.size, 0, none⟩), .agg #[.int .i64 1001, .int .i64 1009, .int .i64 1], .pointer (some ⟨W0.heap.size, 0, none⟩), .int .i64 1001, .pointer (some ⟨W0.heap.size, 1, none⟩), .int .i64 1009, .pointer (some ⟨W0.heap.size, 2, none⟩), .int .i64 1, .func (.func 60) #[] #[.pointer (some ⟨W0.heap.size + 1, 0, none⟩), .pointer (some ⟨W0.heap.size + 1 + 1, 0, none⟩), .pointer (some ⟨W0.heap.size + 1 + 1 + 1, 0, none⟩)], .int .i64 x, undef, undef, undef, undef, undef, undef, undef, undef], defers := [] }) ?assign0 ?body0 ?done0 ?stop0
  case assign0 =>
    intro l x W K hK
    gi_wp2
    exact hK
  case stop0 =>
    rintro D c pre W _ _ h _
    exact h.elim
  case body0 =>
    rintro l pre x W ⟨⟨v, hv, hrow, hnil, hne⟩, hbx, hP, hDs, hbl⟩ hlt
    have hc := hv.cell
    have hW0' : w.heap.size ≤ W.heap.size := hbl.size
    have hlen : (std87o0 ++ pre).length ≤ 1000 := by
      have : (std87o0).length ≤ 500 := by decide
      rw [List.length_append]; omega
    obtain ⟨bs, hbs, hbs1, hbs2, hrb⟩ : ∃ bs, w.heap.size ≤ bs ∧ bs ≤ W.heap.size ∧ ((std87o0 ++ pre).length = 0 → bs = W.heap.size) ∧ W.ownsRow bs 3 1 v (std87o0 ++ pre).length (I64s (std87o0 ++ pre)) := by
      by_cases h0 : (std87o0 ++ pre).length = 0
      · have h00 := List.length_eq_zero_iff.1 h0
        refine ⟨W.heap.size, hW0', Nat.le_refl _, fun _ => rfl, ?_⟩
        rw [hnil.2 h00, h00]
        exact World.ownsRow_nil _ _ _ _
      · exact ⟨w.heap.size, Nat.le_refl _, hW0', fun h => absurd h h0, hrow⟩
    have H1 := Lib.hid hrow
    have H2 := Lib.hid hne
    have H3 := Lib.hid hbx
    have H4 := Lib.hid hP
    have H5 := Lib.hid hDs
    have H6 := Lib.hid hbl
    have H7 := Lib.hid hbs2
    have H8 := Lib.hid hrb
    obtain ⟨ol, hol⟩ : ∃ ol, std87o0 ++ pre = ol := ⟨_, rfl⟩
    rw [hol] at H1 H7 H8 hlen
    have HOL := Lib.hid hol
    obtain ⟨i0, hi, hz0, hz1, hz2⟩ := info_parts Try.infoInt
    clear hrow hnil hne hbx hP hDs hbl hbs2 hrb hol
    gi_wp2_with (gi_at_builtin; refine wpListIn_append_own _ rfl _ _ 22 rfl bs 3 i0 (.int .i64 0) 1 8 Try.underlying22 hi hz0 hz1 hz2 rfl (by decide) _ _ _ rfl (H8.out.alloc _) ⟨W.heap.size, 0, none⟩ 1 1 [.int .i64 x] rfl rfl (cell_one_new _ _ _) (by simp [Value.oneCell']) (by unfold maxLen; omega) (by omega) (by simp; omega) ?_; intro v' w1 hown' hgrow _; obtain ⟨g', cap', rfl⟩ := ownsRow_succ hown'; obtain ⟨q1, q2, q3, q4⟩ := OutInv.push hv H1.out H2.out H3.out H4.out H5.out H6.out hW0' (by omega) (by omega) (by omega) hbs H7.out hown' hgrow; have hc1 := q1.cell; have hf1 := q1.frozen; have Q2 := Lib.hid q2; have Q3 := Lib.hid q3; have Q4 := Lib.hid q4; clear q2 q3 q4 hown' hgrow)
    refine ⟨Q2.out.from _, Q3.out, ?_⟩
    have e : std87o0 ++ (pre ++ [x]) = ol ++ [x] := by rw [← HOL.out, List.append_assoc]
    show OutInv _ _ _ _ _ _ _ _ _ _ (std87o0 ++ (pre ++ [x])) _
    rw [e]
    exact Q4.out
  case done0 =>
    rintro D0 ys W1 hD rfl hI hK
    obtain ⟨⟨v, hv, hrow, hnil, _⟩, _, hP, hDs, hbl⟩ := hI
    have hz1 : w.heap.size + 2 ≤ W1.heap.size := by have := hv.lt; omega
    have HO1 : Hid (∃ v, Boxed W1 (w.heap.size + 1) 22 v ∧ W1.ownsRow w.heap.size 3 1 v (std87o1).length (I64s (std87o1)) ∧ (v = .slice none 0 0 ↔ std87o1 = [])) := ⟨v, hv, hrow, hnil⟩
    have HP1 := Lib.hid hP
    have HB1 := Lib.hid hbl
    have HD1 : Hid (∀ D ∈ ([D0] : List Nat), W1.heap[D]? = some (.deferred (some []))) := by
      intro D hd
      rcases List.mem_cons.1 hd with rfl | hd
      · exact hK
      · exact hDs D hd
    have HL0 : Hid (W0.heap.size + 4 ≤ D0) := by unfold Hid; omega
    have HG0 : Hid (D0 < W1.heap.size) := lt_of_block hK
    clear hv hrow hnil hP hDs hbl hK hD hI0 HO0 HP0 HB0 HD0 HDx0 a0 a1 a2
    gi_wp2
    -- part 1
    rw [roundsIn_succ]
    have p0 : W1.cell? ⟨w.heap.size, 3, none⟩ = some (.int .i64 1010) := by simp [World.cell?, HP1.out, std87pc]
    have p1 : W1.cell? ⟨w.heap.size, 4, none⟩ = some (.int .i64 1490) := by simp [World.cell?, HP1.out, std87pc]
    have p2 : W1.cell? ⟨w.heap.size, 5, none⟩ = some (.int .i64 10) := by simp [World.cell?, HP1.out, std87pc]
    have hsz1 : w.heap.size < W1.heap.size := by omega
    gi_wp2_with (refine ⟨trivial, ?_⟩; gi_at_call 50; refine (steps_in Fence.wide 4 trivial rfl _ _ _ _).mono ?_; rintro e w' ⟨rfl, rfl⟩)
    have a0 := ((Boxed.new (W1.alloc (.cells #[.int .i64 1010, .int .i64 1490, .int .i64 10] 75)) 3 (.int .i64 1010)).alloc (.cells #[.int .i64 1490] 3)).alloc (.cells #[.int .i64 10] 3)
    have a1 := (Boxed.new ((W1.alloc (.cells #[.int .i64 1010, .int .i64 1490, .int .i64 10] 75)).alloc (.cells #[.int .i64 1010] 3)) 3 (.int .i64 1490)).alloc (.cells #[.int .i64 10] 3)
    have a2 := Boxed.new (((W1.alloc (.cells #[.int .i64 1010, .int .i64 1490, .int .i64 10] 75)).alloc (.cells #[.int .i64 1010] 3)).alloc (.cells #[.int .i64 1490] 3)) 3 (.int .i64 10)
    simp only [World.size_alloc] at a0 a1 a2
    have hbx1 : Below W1.heap.size W1 ((((W1.alloc (.cells #[.int .i64 1010, .int .i64 1490, .int .i64 10] 75)).alloc (.cells #[.int .i64 1010] 3)).alloc (.cells #[.int .i64 1490] 3)).alloc (.cells #[.int .i64 10] 3)) := ((((Below.refl _ _).alloc (Nat.le_refl _) _).alloc (by simp) _).alloc (by simp; omega) _).alloc (by simp; omega) _
    obtain ⟨X1, hX1⟩ : ∃ X, (((W1.alloc (.cells #[.int .i64 1010, .int .i64 1490, .int .i64 10] 75)).alloc (.cells #[.int .i64 1010] 3)).alloc (.cells #[.int .i64 1490] 3)).alloc (.cells #[.int .i64 10] 3) = X := ⟨_, rfl⟩
    have hxs1 : X1.heap.size = W1.heap.size + 4 := by rw [← hX1]; simp
    rw [hX1] at a0 a1 a2 hbx1 ⊢
    clear hX1 p0 p1 p2
    have hI1 : OutInv w.heap.size (w.heap.size + 1) w.heap.size (W1.heap.size + 1) std87pc 1010 1490 10 [D0] w (std87o1 ++ []) X1 := by
      obtain ⟨v, hv, hrow, hnil⟩ := HO1.out
      rw [List.append_nil]
      refine ⟨⟨v, (hbx1.block _ hv.lt).trans hv, ?_, hnil, fun g hg => .inl (by have := (hrow.lt g hg).2; omega)⟩, ⟨a0, a1, a2⟩, (hbx1.block _ (lt_of_block HP1.out)).trans HP1.out, fun D hd => (hbx1.block _ (lt_of_block (HD1.out D hd))).trans (HD1.out D hd), HB1.out.trans (hbx1.mono (by omega))⟩
      refine ⟨hrow.1, ?_⟩
      rcases hrow.2 with h | ⟨g, cap, cur, h1, h2, h3, h4⟩
      · exact .inl h
      · exact .inr ⟨g, cap, cur, h1, h2, (hbx1.block _ (lt_of_block h3)).trans h3, h4⟩
    have HDx1 : ∀ D ∈ ([D0] : List Nat), D < X1.heap.size := fun D hd => by have := lt_of_block (HD1.out D hd); omega
    refine wpIn_rangeFunc_ownG rfl h1 (gf := 60) (lb := #[.pointer (some ⟨W1.heap.size + 1, 0, none⟩), .pointer (some ⟨W1.heap.size + 1 + 1, 0, none⟩), .pointer (some ⟨W1.heap.size + 1 + 1 + 1, 0, none⟩)]) rfl trivial (enters_of Try.func60 (by kernel_rfl) rfl)
      (steps_stops Fence.wide 4 trivial rfl (by omega) (W1.heap.size + 1) 1010 1490 10 49 X1 (by omega) (by omega) (by omega) (by intro k hk; omega) (by omega) (by omega) a0.cell a1.cell a2.cell) Keep3.trans (keep3_b (by omega)) (Below.refl _ _) (fun _ => rfl)
      (fun pre W => OutInv w.heap.size (w.heap.size + 1) w.heap.size (W1.heap.size + 1) std87pc 1010 1490 10 [D0] w (std87o1 ++ pre) W)
      (fun _ _ _ => False)
      (fun s A B row hs hg hr => hs.kept hg hr HDx1 (by omega) (by have := hs.2.2.2.2.size; omega))
      (fun _ _ _ _ _ hs _ _ => hs)
      hI1
      (fun x => { tmps := #[.int .i64 87, undef, .slice none 0 0, .int .i64 0, .slice (some ⟨w.heap.size, 0, none⟩) 4 4, .pointer (some ⟨w.heap.size + 1, 0, none⟩), undef, .pointer (some ⟨W1.heap.size, 0, none⟩), .int .i64 x, .int .i64 87, .bool false, .bool false, undef, undef, undef, undef, undef, undef, undef, .bool false, .bool false, undef, undef, undef, undef, undef, undef, .bool true, .bool true, .agg #[.int .i64 1001, .int .i64 1009, .int .i64 1], .agg #[.int .i64 1010, .int .i64 1490, .int .i64 10], .agg #[.int .i64 500, .int .i64 9500, .int .i64 500], .agg #[.int .i64 10000, .int .i64 100000, .int .i64 10000], .slice (some ⟨w.heap.size, 0, none⟩) 4 4, .slice (some ⟨w.heap.size, 0, none⟩) 4 4, .int .i64 4, .int .i64 1, .bool true, .pointer (some ⟨w.heap.size, 3, none⟩), .agg #[.int .i64 1010, .int .i64 1490, .int .i64 10], .pointer (some ⟨W1.heap.size, 0, none⟩), .int .i64 1010, .pointer (some ⟨W1.heap.size, 1, none⟩), .int .i64 1490, .pointer (some ⟨W1.heap.size, 2, none⟩), .int .i64 10, .func (.func 60) #[] #[.pointer (some ⟨W1.heap.size + 1, 0, none⟩), .pointer (some ⟨W1.heap.size + 1 + 1, 0, none⟩), .pointer (some ⟨W1.heap.size + 1 + 1 + 1, 0, none⟩)], .int .i64 x, undef, undef, undef, undef, .int .i64 1, undef, undef, undef], defers := [] }) ?assign1 ?body1 ?done1 ?stop1
    case assign1 =>
      intro l x W K hK
      gi_wp2
      exact hK
    case stop1 =>
      rintro D c pre W _ _ h _
      exact h.elim
    case body1 =>
      rintro l pre x W ⟨⟨v, hv, hrow, hnil, hne⟩, hbx, hP, hDs, hbl⟩ hlt
      have hc := hv.cell
      have hW0' : w.heap.size ≤ W.heap.size := hbl.size
      have hlen : (std87o1 ++ pre).length ≤ 1000 := by
        have : (std87o1).length ≤ 500 := by decide
        rw [List.length_append]; omega
      obtain ⟨bs, hbs, hbs1, hbs2, hrb⟩ : ∃ bs, w.heap.size ≤ bs ∧ bs ≤ W.heap.size ∧ ((std87o1 ++ pre).length = 0 → bs = W.heap.size) ∧ W.ownsRow bs 3 1 v (std87o1 ++ pre).length (I64s (std87o1 ++ pre)) := by
        by_cases h0 : (std87o1 ++ pre).length = 0
        · have h00 := List.length_eq_zero_iff.1 h0
          refine ⟨W.heap.size, hW0', Nat.le_refl _, fun _ => rfl, ?_⟩
          rw [hnil.2 h00, h00]
          exact World.ownsRow_nil _ _ _ _
        · exact ⟨w.heap.size, Nat.le_refl _, hW0', fun h => absurd h h0, hrow⟩
      have H1 := Lib.hid hrow
      have H2 := Lib.hid hne
      have H3 := Lib.hid hbx
      have H4 := Lib.hid hP
      have H5 := Lib.hid hDs
      have H6 := Lib.hid hbl
      have H7 := Lib.hid hbs2
      have H8 := Lib.hid hrb
      obtain ⟨ol, hol⟩ : ∃ ol, std87o1 ++ pre = ol := ⟨_, rfl⟩
      rw [hol] at H1 H7 H8 hlen
      have HOL := Lib.hid hol
      obtain ⟨i0, hi, hz0, hz1, hz2⟩ := info_parts Try.infoInt
      clear hrow hnil hne hbx hP hDs hbl hbs2 hrb hol
      gi_wp2_with (gi_at_builtin; refine wpListIn_append_own _ rfl _ _ 22 rfl bs 3 i0 (.int .i64 0) 1 8 Try.underlying22 hi hz0 hz1 hz2 rfl (by decide) _ _ _ rfl (H8.out.alloc _) ⟨W.heap.size, 0, none⟩ 1 1 [.int .i64 x] rfl rfl (cell_one_new _ _ _) (by simp [Value.oneCell']) (by unfold maxLen; omega) (by omega) (by simp; omega) ?_; intro v' w1 hown' hgrow _; obtain ⟨g', cap', rfl⟩ := ownsRow_succ hown'; obtain ⟨q1, q2, q3, q4⟩ := OutInv.push hv H1.out H2.out H3.out H4.out H5.out H6.out hW0' (by omega) (by omega) (by omega) hbs H7.out hown' hgrow; have hc1 := q1.cell; have hf1 := q1.frozen; have Q2 := Lib.hid q2; have Q3 := Lib.hid q3; have Q4 := Lib.hid q4; clear q2 q3 q4 hown' hgrow)
      refine ⟨Q2.out.from _, Q3.out, ?_⟩
      have e : std87o1 ++ (pre ++ [x]) = ol ++ [x] := by rw [← HOL.out, List.append_assoc]
      show OutInv _ _ _ _ _ _ _ _ _ _ (std87o1 ++ (pre ++ [x])) _
      rw [e]
      exact Q4.out
    case done1 =>
      rintro D1 ys W2 hD rfl hI hK
      obtain ⟨⟨v, hv, hrow, hnil, _⟩, _, hP, hDs, hbl⟩ := hI
      have hz2 : w.heap.size + 2 ≤ W2.heap.size := by have := hv.lt; omega
      have HO2 : Hid (∃ v, Boxed W2 (w.heap.size + 1) 22 v ∧ W2.ownsRow w.heap.size 3 1 v (std87o2).length (I64s (std87o2)) ∧ (v = .slice none 0 0 ↔ std87o2 = [])) := ⟨v, hv, hrow, hnil⟩
      have HP2 := Lib.hid hP
      have HB2 := Lib.hid hbl
      have HD2 : Hid (∀ D ∈ ([D1, D0] : List Nat), W2.heap[D]? = some (.deferred (some []))) := by
        intro D hd
        rcases List.mem_cons.1 hd with rfl | hd
        · exact hK
        · exact hDs D hd
      have HL1 : Hid (W1.heap.size + 4 ≤ D1) := by unfold Hid; omega
      have HG1 : Hid (D1 < W2.heap.size) := lt_of_block hK
      clear hv hrow hnil hP hDs hbl hK hD hI1 HO1 HP1 HB1 HD1 HDx1 a0 a1 a2
      gi_wp2
      -- part 2
      rw [roundsIn_succ]
      have p0 : W2.cell? ⟨w.heap.size, 6, none⟩ = some (.int .i64 500) := by simp [World.cell?, HP2.out, std87pc]
      have p1 : W2.cell? ⟨w.heap.size, 7, none⟩ = some (.int .i64 9500) := by simp [World.cell?, HP2.out, std87pc]
      have p2 : W2.cell? ⟨w.heap.size, 8, none⟩ = some (.int .i64 500) := by simp [World.cell?, HP2.out, std87pc]
      have hsz2 : w.heap.size < W2.heap.size := by omega
      gi_wp2_with (refine ⟨trivial, ?_⟩; gi_at_call 50; refine (steps_in Fence.wide 4 trivial rfl _ _ _ _).mono ?_; rintro e w' ⟨rfl, rfl⟩)
      have a0 := ((Boxed.new (W2.alloc (.cells #[.int .i64 500, .int .i64 9500, .int .i64 500] 75)) 3 (.int .i64 500)).alloc (.cells #[.int .i64 9500] 3)).alloc (.cells #[.int .i64 500] 3)
      have a1 := (Boxed.new ((W2.alloc (.cells #[.int .i64 500, .int .i64 9500, .int .i64 500] 75)).alloc (.cells #[.int .i64 500] 3)) 3 (.int .i64 9500)).alloc (.cells #[.int .i64 500] 3)
      have a2 := Boxed.new (((W2.alloc (.cells #[.int .i64 500, .int .i64 9500, .int .i64 500] 75)).alloc (.cells #[.int .i64 500] 3)).alloc (.cells #[.int .i64 9500] 3)) 3 (.int .i64 500)
      simp only [World.size_alloc] at a0 a1 a2
      have hbx2 : Below W2.heap.size W2 ((((W2.alloc (.cells #[.int .i64 500, .int .i64 9500, .int .i64 500] 75)).alloc (.cells #[.int .i64 500] 3)).alloc (.cells #[.int .i64 9500] 3)).alloc (.cells #[.int .i64 500] 3)) := ((((Below.refl _ _).alloc (Nat.le_refl _) _).alloc (by simp) _).alloc (by simp; omega) _).alloc (by simp; omega) _
      obtain ⟨X2, hX2⟩ : ∃ X, (((W2.alloc (.cells #[.int .i64 500, .int .i64 9500, .int .i64 500] 75)).alloc (.cells #[.int .i64 500] 3)).alloc (.cells #[.int .i64 9500] 3)).alloc (.cells #[.int .i64 500] 3) = X := ⟨_, rfl⟩
      have hxs2 : X2.heap.size = W2.heap.size + 4 := by rw [← hX2]; simp
      rw [hX2] at a0 a1 a2 hbx2 ⊢
      clear hX2 p0 p1 p2
      have hI2 : OutInv w.heap.size (w.heap.size + 1) w.heap.size (W2.heap.size + 1) std87pc 500 9500 500 [D1, D0] w (std87o2 ++ []) X2 := by
        obtain ⟨v, hv, hrow, hnil⟩ := HO2.out
        rw [List.append_nil]
        refine ⟨⟨v, (hbx2.block _ hv.lt).trans hv, ?_, hnil, fun g hg => .inl (by have := (hrow.lt g hg).2; omega)⟩, ⟨a0, a1, a2⟩, (hbx2.block _ (lt_of_block HP2.out)).trans HP2.out, fun D hd => (hbx2.block _ (lt_of_block (HD2.out D hd))).trans (HD2.out D hd), HB2.out.trans (hbx2.mono (by omega))⟩
        refine ⟨hrow.1, ?_⟩
        rcases hrow.2 with h | ⟨g, cap, cur, h1, h2, h3, h4⟩
        · exact .inl h
        · exact .inr ⟨g, cap, cur, h1, h2, (hbx2.block _ (lt_of_block h3)).trans h3, h4⟩
      have HDx2 : ∀ D ∈ ([D1, D0] : List Nat), D < X2.heap.size := fun D hd => by have := lt_of_block (HD2.out D hd); omega
      refine wpIn_rangeFunc_ownG rfl h1 (gf := 60) (lb := #[.pointer (some ⟨W2.heap.size + 1, 0, none⟩), .pointer (some ⟨W2.heap.size + 1 + 1, 0, none⟩), .pointer (some ⟨W2.heap.size + 1 + 1 + 1, 0, none⟩)]) rfl trivial (enters_of Try.func60 (by kernel_rfl) rfl)
        (steps_stops Fence.wide 4 trivial rfl (by omega) (W2.heap.size + 1) 500 9500 500 19 X2 (by omega) (by omega) (by omega) (by intro k hk; omega) (by omega) (by omega) a0.cell a1.cell a2.cell) Keep3.trans (keep3_b (by omega)) (Below.refl _ _) (fun _ => rfl)
        (fun pre W => OutInv w.heap.size (w.heap.size + 1) w.heap.size (W2.heap.size + 1) std87pc 500 9500 500 [D1, D0] w (std87o2 ++ pre) W)
        (fun _ _ _ => False)
        (fun s A B row hs hg hr => hs.kept hg hr HDx2 (by omega) (by have := hs.2.2.2.2.size; omega))
        (fun _ _ _ _ _ hs _ _ => hs)
        hI2
        (fun x => { tmps := #[.int .i64 87, undef, .slice none 0 0, .int .i64 0, .slice (some ⟨w.heap.size, 0, none⟩) 4 4, .pointer (some ⟨w.heap.size + 1, 0, none⟩), undef, .pointer (some ⟨W2.heap.size, 0, none⟩), .int .i64 x, .int .i64 87, .bool false, .bool false, undef, undef, undef, undef, undef, undef, undef, .bool false, .bool false, undef, undef, undef, undef, undef, undef, .bool true, .bool true, .agg #[.int .i64 1001, .int .i64 1009, .int .i64 1], .agg #[.int .i64 1010, .int .i64 1490, .int .i64 10], .agg #[.int .i64 500, .int .i64 9500, .int .i64 500], .agg #[.int .i64 10000, .int .i64 100000, .int .i64 10000], .slice (some ⟨w.heap.size, 0, none⟩) 4 4, .slice (some ⟨w.heap.size, 0, none⟩) 4 4, .int .i64 4, .int .i64 2, .bool true, .pointer (some ⟨w.heap.size, 6, none⟩), .agg #[.int .i64 500, .int .i64 9500, .int .i64 500], .pointer (some ⟨W2.heap.size, 0, none⟩), .int .i64 500, .pointer (some ⟨W2.heap.size, 1, none⟩), .int .i64 9500, .pointer (some ⟨W2.heap.size, 2, none⟩), .int .i64 500, .func (.func 60) #[] #[.pointer (some ⟨W2.heap.size + 1, 0, none⟩), .pointer (some ⟨W2.heap.size + 1 + 1, 0, none⟩), .pointer (some ⟨W2.heap.size + 1 + 1 + 1, 0, none⟩)], .int .i64 x, undef, undef, undef, undef, .int .i64 2, undef, undef, undef], defers := [] }) ?assign2 ?body2 ?done2 ?stop2
      case assign2 =>
        intro l x W K hK
        gi_wp2
        exact hK
      case stop2 =>
        rintro D c pre W _ _ h _
        exact h.elim
      case body2 =>
        rintro l pre x W ⟨⟨v, hv, hrow, hnil, hne⟩, hbx, hP, hDs, hbl⟩ hlt
        have hc := hv.cell
        have hW0' : w.heap.size ≤ W.heap.size := hbl.size
        have hlen : (std87o2 ++ pre).length ≤ 1000 := by
          have : (std87o2).length ≤ 500 := by decide
          rw [List.length_append]; omega
        obtain ⟨bs, hbs, hbs1, hbs2, hrb⟩ : ∃ bs, w.heap.size ≤ bs ∧ bs ≤ W.heap.size ∧ ((std87o2 ++ pre).length = 0 → bs = W.heap.size) ∧ W.ownsRow bs 3 1 v (std87o2 ++ pre).length (I64s (std87o2 ++ pre)) := by
          by_cases h0 : (std87o2 ++ pre).length = 0
          · have h00 := List.length_eq_zero_iff.1 h0
            refine ⟨W.heap.size, hW0', Nat.le_refl _, fun _ => rfl, ?_⟩
            rw [hnil.2 h00, h00]
            exact World.ownsRow_nil _ _ _ _
          · exact ⟨w.heap.size, Nat.le_refl _, hW0', fun h => absurd h h0, hrow⟩
        have H1 := Lib.hid hrow
        have H2 := Lib.hid hne
        have H3 := Lib.hid hbx
        have H4 := Lib.hid hP
        have H5 := Lib.hid hDs
        have H6 := Lib.hid hbl
        have H7 := Lib.hid hbs2
        have H8 := Lib.hid hrb
        obtain ⟨ol, hol⟩ : ∃ ol, std87o2 ++ pre = ol := ⟨_, rfl⟩
        rw [hol] at H1 H7 H8 hlen
        have HOL := Lib.hid hol
        obtain ⟨i0, hi, hz0, hz1, hz2⟩ := info_parts Try.infoInt
        clear hrow hnil hne hbx hP hDs hbl hbs2 hrb hol
        gi_wp2_with (gi_at_builtin; refine wpListIn_append_own _ rfl _ _ 22 rfl bs 3 i0 (.int .i64 0) 1 8 Try.underlying22 hi hz0 hz1 hz2 rfl (by decide) _ _ _ rfl (H8.out.alloc _) ⟨W.heap.size, 0, none⟩ 1 1 [.int .i64 x] rfl rfl (cell_one_new _ _ _) (by simp [Value.oneCell']) (by unfold maxLen; omega) (by omega) (by simp; omega) ?_; intro v' w1 hown' hgrow _; obtain ⟨g', cap', rfl⟩ := ownsRow_succ hown'; obtain ⟨q1, q2, q3, q4⟩ := OutInv.push hv H1.out H2.out H3.out H4.out H5.out H6.out hW0' (by omega) (by omega) (by omega) hbs H7.out hown' hgrow; have hc1 := q1.cell; have hf1 := q1.frozen; have Q2 := Lib.hid q2; have Q3 := Lib.hid q3; have Q4 := Lib.hid q4; clear q2 q3 q4 hown' hgrow)
        refine ⟨Q2.out.from _, Q3.out, ?_⟩
        have e : std87o2 ++ (pre ++ [x]) = ol ++ [x] := by rw [← HOL.out, List.append_assoc]
        show OutInv _ _ _ _ _ _ _ _ _ _ (std87o2 ++ (pre ++ [x])) _
        rw [e]
        exact Q4.out
      case done2 =>
        rintro D2 ys W3 hD rfl hI hK
        obtain ⟨⟨v, hv, hrow, hnil, _⟩, _, hP, hDs, hbl⟩ := hI
        have hz3 : w.heap.size + 2 ≤ W3.heap.size := by have := hv.lt; omega
        have HO3 : Hid (∃ v, Boxed W3 (w.heap.size + 1) 22 v ∧ W3.ownsRow w.heap.size 3 1 v (std87o3).length (I64s (std87o3)) ∧ (v = .slice none 0 0 ↔ std87o3 = [])) := ⟨v, hv, hrow, hnil⟩
        have HP3 := Lib.hid hP
        have HB3 := Lib.hid hbl
        have HD3 : Hid (∀ D ∈ ([D2, D1, D0] : List Nat), W3.heap[D]? = some (.deferred (some []))) := by
          intro D hd
          rcases List.mem_cons.1 hd with rfl | hd
          · exact hK
          · exact hDs D hd
        have HL2 : Hid (W2.heap.size + 4 ≤ D2) := by unfold Hid; omega
        have HG2 : Hid (D2 < W3.heap.size) := lt_of_block hK
        clear hv hrow hnil hP hDs hbl hK hD hI2 HO2 HP2 HB2 HD2 HDx2 a0 a1 a2
        gi_wp2
        -- part 3
        rw [roundsIn_succ]
        have p0 : W3.cell? ⟨w.heap.size, 9, none⟩ = some (.int .i64 10000) := by simp [World.cell?, HP3.out, std87pc]
        have p1 : W3.cell? ⟨w.heap.size, 10, none⟩ = some (.int .i64 100000) := by simp [World.cell?, HP3.out, std87pc]
        have p2 : W3.cell? ⟨w.heap.size, 11, none⟩ = some (.int .i64 10000) := by simp [World.cell?, HP3.out, std87pc]
        have hsz3 : w.heap.size < W3.heap.size := by omega
        gi_wp2_with (refine ⟨trivial, ?_⟩; gi_at_call 50; refine (steps_in Fence.wide 4 trivial rfl _ _ _ _).mono ?_; rintro e w' ⟨rfl, rfl⟩)
        have a0 := ((Boxed.new (W3.alloc (.cells #[.int .i64 10000, .int .i64 100000, .int .i64 10000] 75)) 3 (.int .i64 10000)).alloc (.cells #[.int .i64 100000] 3)).alloc (.cells #[.int .i64 10000] 3)
        have a1 := (Boxed.new ((W3.alloc (.cells #[.int .i64 10000, .int .i64 100000, .int .i64 10000] 75)).alloc (.cells #[.int .i64 10000] 3)) 3 (.int .i64 100000)).alloc (.cells #[.int .i64 10000] 3)
        have a2 := Boxed.new (((W3.alloc (.cells #[.int .i64 10000, .int .i64 100000, .int .i64 10000] 75)).alloc (.cells #[.int .i64 10000] 3)).alloc (.cells #[.int .i64 100000] 3)) 3 (.int .i64 10000)
        simp only [World.size_alloc] at a0 a1 a2
        have hbx3 : Below W3.heap.size W3 ((((W3.alloc (.cells #[.int .i64 10000, .int .i64 100000, .int .i64 10000] 75)).alloc (.cells #[.int .i64 10000] 3)).alloc (.cells #[.int .i64 100000] 3)).alloc (.cells #[.int .i64 10000] 3)) := ((((Below.refl _ _).alloc (Nat.le_refl _) _).alloc (by simp) _).alloc (by simp; omega) _).alloc (by simp; omega) _
        obtain ⟨X3, hX3⟩ : ∃ X, (((W3.alloc (.cells #[.int .i64 10000, .int .i64 100000, .int .i64 10000] 75)).alloc (.cells #[.int .i64 10000] 3)).alloc (.cells #[.int .i64 100000] 3)).alloc (.cells #[.int .i64 10000] 3) = X := ⟨_, rfl⟩
        have hxs3 : X3.heap.size = W3.heap.size + 4 := by rw [← hX3]; simp
        rw [hX3] at a0 a1 a2 hbx3 ⊢
        clear hX3 p0 p1 p2
        have hI3 : OutInv w.heap.size (w.heap.size + 1) w.heap.size (W3.heap.size + 1) std87pc 10000 100000 10000 [D2, D1, D0] w (std87o3 ++ []) X3 := by
          obtain ⟨v, hv, hrow, hnil⟩ := HO3.out
          rw [List.append_nil]
          refine ⟨⟨v, (hbx3.block _ hv.lt).trans hv, ?_, hnil, fun g hg => .inl (by have := (hrow.lt g hg).2; omega)⟩, ⟨a0, a1, a2⟩, (hbx3.block _ (lt_of_block HP3.out)).trans HP3.out, fun D hd => (hbx3.block _ (lt_of_block (HD3.out D hd))).trans (HD3.out D hd), HB3.out.trans (hbx3.mono (by omega))⟩
          refine ⟨hrow.1, ?_⟩
          rcases hrow.2 with h | ⟨g, cap, cur, h1, h2, h3, h4⟩
          · exact .inl h
          · exact .inr ⟨g, cap, cur, h1, h2, (hbx3.block _ (lt_of_block h3)).trans h3, h4⟩
        have HDx3 : ∀ D ∈ ([D2, D1, D0] : List Nat), D < X3.heap.size := fun D hd => by have := lt_of_block (HD3.out D hd); omega
        refine wpIn_rangeFunc_ownG rfl h1 (gf := 60) (lb := #[.pointer (some ⟨W3.heap.size + 1, 0, none⟩), .pointer (some ⟨W3.heap.size + 1 + 1, 0, none⟩), .pointer (some ⟨W3.heap.size + 1 + 1 + 1, 0, none⟩)]) rfl trivial (enters_of Try.func60 (by kernel_rfl) rfl)
          (steps_stops Fence.wide 4 trivial rfl (by omega) (W3.heap.size + 1) 10000 100000 10000 10 X3 (by omega) (by omega) (by omega) (by intro k hk; omega) (by omega) (by omega) a0.cell a1.cell a2.cell) Keep3.trans (keep3_b (by omega)) (Below.refl _ _) (fun _ => rfl)
          (fun pre W => OutInv w.heap.size (w.heap.size + 1) w.heap.size (W3.heap.size + 1) std87pc 10000 100000 10000 [D2, D1, D0] w (std87o3 ++ pre) W)
          (fun _ _ _ => False)
          (fun s A B row hs hg hr => hs.kept hg hr HDx3 (by omega) (by have := hs.2.2.2.2.size; omega))
          (fun _ _ _ _ _ hs _ _ => hs)
          hI3
          (fun x => { tmps := #[.int .i64 87, undef, .slice none 0 0, .int .i64 0, .slice (some ⟨w.heap.size, 0, none⟩) 4 4, .pointer (some ⟨w.heap.size + 1, 0, none⟩), undef, .pointer (some ⟨W3.heap.size, 0, none⟩), .int .i64 x, .int .i64 87, .bool false, .bool false, undef, undef, undef, undef, undef, undef, undef, .bool false, .bool false, undef, undef, undef, undef, undef, undef, .bool true, .bool true, .agg #[.int .i64 1001, .int .i64 1009, .int .i64 1], .agg #[.int .i64 1010, .int .i64 1490, .int .i64 10], .agg #[.int .i64 500, .int .i64 9500, .int .i64 500], .agg #[.int .i64 10000, .int .i64 100000, .int .i64 10000], .slice (some ⟨w.heap.size, 0, none⟩) 4 4, .slice (some ⟨w.heap.size, 0, none⟩) 4 4, .int .i64 4, .int .i64 3, .bool true, .pointer (some ⟨w.heap.size, 9, none⟩), .agg #[.int .i64 10000, .int .i64 100000, .int .i64 10000], .pointer (some ⟨W3.heap.size, 0, none⟩), .int .i64 10000, .pointer (some ⟨W3.heap.size, 1, none⟩), .int .i64 100000, .pointer (some ⟨W3.heap.size, 2, none⟩), .int .i64 10000, .func (.func 60) #[] #[.pointer (some ⟨W3.heap.size + 1, 0, none⟩), .pointer (some ⟨W3.heap.size + 1 + 1, 0, none⟩), .pointer (some ⟨W3.heap.size + 1 + 1 + 1, 0, none⟩)], .int .i64 x, undef, undef, undef, undef, .int .i64 3, undef, undef, undef], defers := [] }) ?assign3 ?body3 ?done3 ?stop3
        case assign3 =>
          intro l x W K hK
          gi_wp2
          exact hK
        case stop3 =>
          rintro D c pre W _ _ h _
          exact h.elim
        case body3 =>
          rintro l pre x W ⟨⟨v, hv, hrow, hnil, hne⟩, hbx, hP, hDs, hbl⟩ hlt
          have hc := hv.cell
          have hW0' : w.heap.size ≤ W.heap.size := hbl.size
          have hlen : (std87o3 ++ pre).length ≤ 1000 := by
            have : (std87o3).length ≤ 500 := by decide
            rw [List.length_append]; omega
          obtain ⟨bs, hbs, hbs1, hbs2, hrb⟩ : ∃ bs, w.heap.size ≤ bs ∧ bs ≤ W.heap.size ∧ ((std87o3 ++ pre).length = 0 → bs = W.heap.size) ∧ W.ownsRow bs 3 1 v (std87o3 ++ pre).length (I64s (std87o3 ++ pre)) := by
            by_cases h0 : (std87o3 ++ pre).length = 0
            · have h00 := List.length_eq_zero_iff.1 h0
              refine ⟨W.heap.size, hW0', Nat.le_refl _, fun _ => rfl, ?_⟩
              rw [hnil.2 h00, h00]
              exact World.ownsRow_nil _ _ _ _
            · exact ⟨w.heap.size, Nat.le_refl _, hW0', fun h => absurd h h0, hrow⟩
          have H1 := Lib.hid hrow
          have H2 := Lib.hid hne
          have H3 := Lib.hid hbx
          have H4 := Lib.hid hP
          have H5 := Lib.hid hDs
          have H6 := Lib.hid hbl
          have H7 := Lib.hid hbs2
          have H8 := Lib.hid hrb
          obtain ⟨ol, hol⟩ : ∃ ol, std87o3 ++ pre = ol := ⟨_, rfl⟩
          rw [hol] at H1 H7 H8 hlen
          have HOL := Lib.hid hol
          obtain ⟨i0, hi, hz0, hz1, hz2⟩ := info_parts Try.infoInt
          clear hrow hnil hne hbx hP hDs hbl hbs2 hrb hol
          gi_wp2_with (gi_at_builtin; refine wpListIn_append_own _ rfl _ _ 22 rfl bs 3 i0 (.int .i64 0) 1 8 Try.underlying22 hi hz0 hz1 hz2 rfl (by decide) _ _ _ rfl (H8.out.alloc _) ⟨W.heap.size, 0, none⟩ 1 1 [.int .i64 x] rfl rfl (cell_one_new _ _ _) (by simp [Value.oneCell']) (by unfold maxLen; omega) (by omega) (by simp; omega) ?_; intro v' w1 hown' hgrow _; obtain ⟨g', cap', rfl⟩ := ownsRow_succ hown'; obtain ⟨q1, q2, q3, q4⟩ := OutInv.push hv H1.out H2.out H3.out H4.out H5.out H6.out hW0' (by omega) (by omega) (by omega) hbs H7.out hown' hgrow; have hc1 := q1.cell; have hf1 := q1.frozen; have Q2 := Lib.hid q2; have Q3 := Lib.hid q3; have Q4 := Lib.hid q4; clear q2 q3 q4 hown' hgrow)
          refine ⟨Q2.out.from _, Q3.out, ?_⟩
          have e : std87o3 ++ (pre ++ [x]) = ol ++ [x] := by rw [← HOL.out, List.append_assoc]
          show OutInv _ _ _ _ _ _ _ _ _ _ (std87o3 ++ (pre ++ [x])) _
          rw [e]
          exact Q4.out
        case done3 =>
          rintro D3 ys W4 hD rfl hI hK
          obtain ⟨⟨v, hv, hrow, hnil, _⟩, _, hP, hDs, hbl⟩ := hI
          have hz4 : w.heap.size + 2 ≤ W4.heap.size := by have := hv.lt; omega
          have HO4 : Hid (∃ v, Boxed W4 (w.heap.size + 1) 22 v ∧ W4.ownsRow w.heap.size 3 1 v (std87o4).length (I64s (std87o4)) ∧ (v = .slice none 0 0 ↔ std87o4 = [])) := ⟨v, hv, hrow, hnil⟩
          have HP4 := Lib.hid hP
          have HB4 := Lib.hid hbl
          have HD4 : Hid (∀ D ∈ ([D3, D2, D1, D0] : List Nat), W4.heap[D]? = some (.deferred (some []))) := by
            intro D hd
            rcases List.mem_cons.1 hd with rfl | hd
            · exact hK
            · exact hDs D hd
          have HL3 : Hid (W3.heap.size + 4 ≤ D3) := by unfold Hid; omega
          have HG3 : Hid (D3 < W4.heap.size) := lt_of_block hK
          clear hv hrow hnil hP hDs hbl hK hD hI3 HO3 HP3 HB3 HD3 HDx3 a0 a1 a2
          gi_wp2
          rw [roundsIn_succ]
          have hsz4 : w.heap.size < W4.heap.size := by omega
          obtain ⟨v, hv, hrow, hnil⟩ := HO4.out
          obtain ⟨ol, hol⟩ : ∃ ol, std87o4 = ol := ⟨_, rfl⟩
          have hne : ol.length ≠ 0 ∧ ol.length ≤ 1000 := by rw [← hol]; decide
          rw [hol] at hrow
          obtain ⟨g, cap, rfl⟩ : ∃ g cap, v = .slice (some ⟨g, 0, none⟩) ol.length cap := by
            rcases hrow.2 with ⟨_, h⟩ | ⟨g, cap, _, rfl, _⟩
            · exact absurd h hne.1
            · exact ⟨g, cap, rfl⟩
          have hc := hv.cell
          have hnb := hv.not_row (by decide) hrow
          have Hrow := Lib.hid hrow
          have Hv := Lib.hid hv
          have Hnb := Lib.hid hnb
          have Hol := Lib.hid hol
          have Hne := Lib.hid hne
          clear hv hrow hnil hnb hol hne
          gi_wp2_with (refine ⟨trivial, ?_⟩; gi_at_call 51; refine callsIn_wide.2 (sort_own w.heap.size g cap ol _ Hrow.out (by have := Hne.out.2; omega) _ ?_); intro w5 hg5 hr5; have hc5 := (Hv.out.kept hg5 Hnb.out).cell; have HG5 := Lib.hid hg5; have HR5 := Lib.hid hr5; clear hg5 hr5)
          have hDD : ∀ D, D ∈ [D3, D2, D1, D0] → w5.heap[D]? = some (.deferred (some [])) := by
            intro D hd
            have h := HD4.out D hd
            refine heap_kept h HG5.out (fun e => ?_)
            obtain ⟨c, hc⟩ := ownsRow_elem Hrow.out (show (Value.slice (some ⟨g, 0, none⟩) ol.length cap).ownBlock = some g from rfl)
            have e' : D = g := by simpa using e
            rw [e', hc] at h
            cases h
          have e3 : (w5).heap[D3]? = some (.deferred (some [])) := hDD D3 (by simp)
          have e2 : ((w5).putObj D3 (.deferred none)).heap[D2]? = some (.deferred (some [])) := by
            rw [World.putObj_heap_other (by have := HL3.out; have := HG2.out; omega)]
            exact hDD D2 (by simp)
          have e1 : (((w5).putObj D3 (.deferred none)).putObj D2 (.deferred none)).heap[D1]? = some (.deferred (some [])) := by
            rw [World.putObj_heap_other (by have := HL2.out; have := HG1.out; omega)]
            rw [World.putObj_heap_other (by have := HL3.out; have := HG1.out; have := HL2.out; have := HG2.out; omega)]
            exact hDD D1 (by simp)
          have e0 : ((((w5).putObj D3 (.deferred none)).putObj D2 (.deferred none)).putObj D1 (.deferred none)).heap[D0]? = some (.deferred (some [])) := by
            rw [World.putObj_heap_other (by have := HL1.out; have := HG0.out; omega)]
            rw [World.putObj_heap_other (by have := HL2.out; have := HG0.out; have := HL1.out; have := HG1.out; omega)]
            rw [World.putObj_heap_other (by have := HL3.out; have := HG0.out; have := HL1.out; have := HG1.out; have := HL2.out; have := HG2.out; omega)]
            exact hDD D0 (by simp)
          refine ⟨by simp, .inl ⟨_, _, rfl, run_takeDeferred e3, ⟨by simp, .inl ⟨_, _, rfl, run_takeDeferred e2, ⟨by simp, .inl ⟨_, _, rfl, run_takeDeferred e1, ⟨by simp, .inl ⟨_, _, rfl, run_takeDeferred e0, ?_⟩⟩⟩⟩⟩⟩⟩⟩
          refine ⟨_, results_tmp2 rfl _ _ _, ?_⟩
          have hg0 : w.heap.size ≤ g := (Hrow.out.lt g rfl).1
          have b4 : Below w.heap.size w w5 := HB4.out.grown HG5.out (by omega) (fun k e => by cases e; exact hg0)
          have r4 := HR5.out
          have z4 : W4.heap.size ≤ w5.heap.size := HG5.out.size
          have r3 := ownsRow_putObj r4 (.deferred none) e3 rfl
          have b3 := b4.grown (grownBy_putObj' (w5) D3 (.deferred none)) (by first | omega | (simp; omega)) (fun k e => by cases e; have := HL3.out; omega)
          have r2 := ownsRow_putObj r3 (.deferred none) e2 rfl
          have b2 := b3.grown (grownBy_putObj' ((w5).putObj D3 (.deferred none)) D2 (.deferred none)) (by first | omega | (simp; omega)) (fun k e => by cases e; have := HL2.out; omega)
          have r1 := ownsRow_putObj r2 (.deferred none) e1 rfl
          have b1 := b2.grown (grownBy_putObj' (((w5).putObj D3 (.deferred none)).putObj D2 (.deferred none)) D1 (.deferred none)) (by first | omega | (simp; omega)) (fun k e => by cases e; have := HL1.out; omega)
          have r0 := ownsRow_putObj r1 (.deferred none) e0 rfl
          have b0 := b1.grown (grownBy_putObj' ((((w5).putObj D3 (.deferred none)).putObj D2 (.deferred none)).putObj D1 (.deferred none)) D0 (.deferred none)) (by first | omega | (simp; omega)) (fun k e => by cases e; have := HL0.out; omega)
          have ho : OwnL (((((w5).putObj D3 (.deferred none)).putObj D2 (.deferred none)).putObj D1 (.deferred none)).putObj D0 (.deferred none)) w.heap.size 3 1 (.slice (some ⟨g, 0, none⟩) ol.length cap) ol.length (I64s (sortL ol)) := ⟨r0, by have := Hne.out.1; constructor <;> intro h <;> first | (cases h) | (exact absurd h this)⟩
          obtain ⟨ao, c, hv, hcs, _, _⟩ := ho.read
          obtain ⟨rfl, _, rfl⟩ := Value.slice.inj hv
          have hRR := HR.out
          rw [show std87o4 = ol from Hol.out, sortL_length] at hRR
          exact hRR g _ _ b0 hcs

end Go.Proofs.Ytdmolmdenfepkaa

