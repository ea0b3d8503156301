/- The walk of blocks.Standard: the series, each by its iterator, then the sort. (Printed by gen_std.py.) -/
import Derived.Sort.OwnSortedInts
import Derived.Test.YtdmolmdenfepkaaO
import Derived.Test.YtdmolmdenfepkaaShelf
namespace Go.Proofs.Ytdmolmdenfepkaa
open Go.RowKit Go.Shelf Go.Sort
attribute [local go_sem] Oper.semAt_some

def std32pc : List Value := [.int .i64 1005, .int .i64 1005, .int .i64 1, .int .i64 1010, .int .i64 1090, .int .i64 10, .int .i64 1100, .int .i64 1900, .int .i64 100, .int .i64 1000, .int .i64 9000, .int .i64 1000, .int .i64 10000, .int .i64 30000, .int .i64 10000, .int .i64 50000, .int .i64 50000, .int .i64 1]
def std32o0 : List Int := []
def std32o1 : List Int := std32o0 ++ stepNums 1005 1 1
def std32o2 : List Int := std32o1 ++ stepNums 1010 10 9
def std32o3 : List Int := std32o2 ++ stepNums 1100 100 9
def std32o4 : List Int := std32o3 ++ stepNums 1000 1000 9
def std32o5 : List Int := std32o4 ++ stepNums 10000 10000 3
def std32o6 : List Int := std32o5 ++ stepNums 50000 1 1

set_option maxRecDepth 100000 in
set_option maxHeartbeats 8000000 in
theorem standard32_any (w : World) (R : Ending → World → Prop)
   (hR : ∀ g c w', Below w.heap.size w w' → CellsAt w' (some ⟨g, 0, none⟩) (I64s (sortL (std32o6))) → R (.returned (.tuple #[.slice (some ⟨g, 0, none⟩) (sortL (std32o6)).length c, .int .i64 0])) w') :
    Calls Try.prog 22 #[.int .i64 32] w R := by
  have HR := Lib.hid hR
  clear hR
  have h1 : 1 ≤ 5 := by omega
  refine (callsIn_wide (n := 5)).1 ?_
  refine callsIn_of_wp_marks Try.func22 rfl trivial ?_ rfl
  simp only [Try.ntmps22, List.size_toArray, List.length_cons, List.length_nil, Nat.reduceAdd, Nat.reduceSub, Array.replicate_succ, Array.replicate_zero, List.push_toArray, List.append_toArray, List.nil_append, List.cons_append]
  gi_wp2
  have hb0 : Below w.heap.size w ((w.alloc (.cells #[.int .i64 1005, .int .i64 1005, .int .i64 1, .int .i64 1010, .int .i64 1090, .int .i64 10, .int .i64 1100, .int .i64 1900, .int .i64 100, .int .i64 1000, .int .i64 9000, .int .i64 1000, .int .i64 10000, .int .i64 30000, .int .i64 10000, .int .i64 50000, .int .i64 50000, .int .i64 1] 75)).alloc (.cells #[.slice none 0 0] 22)) := ((Below.refl _ w).alloc (Nat.le_refl _) _).alloc (by simp) _
  have hP0 : ((w.alloc (.cells #[.int .i64 1005, .int .i64 1005, .int .i64 1, .int .i64 1010, .int .i64 1090, .int .i64 10, .int .i64 1100, .int .i64 1900, .int .i64 100, .int .i64 1000, .int .i64 9000, .int .i64 1000, .int .i64 10000, .int .i64 30000, .int .i64 10000, .int .i64 50000, .int .i64 50000, .int .i64 1] 75)).alloc (.cells #[.slice none 0 0] 22)).heap[w.heap.size]? = some (.cells std32pc.toArray 75 (0, 0)) :=
    (Below.heap_alloc _ _ _ (by simp)).trans (World.alloc_heap_new _ _)
  have bO0 := Boxed.new (w.alloc (.cells #[.int .i64 1005, .int .i64 1005, .int .i64 1, .int .i64 1010, .int .i64 1090, .int .i64 10, .int .i64 1100, .int .i64 1900, .int .i64 100, .int .i64 1000, .int .i64 9000, .int .i64 1000, .int .i64 10000, .int .i64 30000, .int .i64 10000, .int .i64 50000, .int .i64 50000, .int .i64 1] 75)) 22 (.slice none 0 0)
  rw [World.size_alloc] at bO0
  obtain ⟨W0, hW0⟩ : ∃ W0, (w.alloc (.cells #[.int .i64 1005, .int .i64 1005, .int .i64 1, .int .i64 1010, .int .i64 1090, .int .i64 10, .int .i64 1100, .int .i64 1900, .int .i64 100, .int .i64 1000, .int .i64 9000, .int .i64 1000, .int .i64 10000, .int .i64 30000, .int .i64 10000, .int .i64 50000, .int .i64 50000, .int .i64 1] 75)).alloc (.cells #[.slice none 0 0] 22) = W0 := ⟨_, rfl⟩
  have hz0 : w.heap.size + 2 ≤ W0.heap.size := by rw [← hW0]; simp
  rw [hW0] at hb0 hP0 bO0 ⊢
  clear hW0
  have HO0 : Hid (∃ v, Boxed W0 (w.heap.size + 1) 22 v ∧ W0.ownsRow w.heap.size 3 1 v (std32o0).length (I64s (std32o0)) ∧ (v = .slice none 0 0 ↔ std32o0 = [])) := ⟨_, bO0, World.ownsRow_nil _ _ _ _, by simp [std32o0]⟩
  have HP0 := Lib.hid hP0
  have HB0 := Lib.hid hb0
  have HD0 : Hid (∀ D ∈ ([] : List Nat), W0.heap[D]? = some (.deferred (some []))) := fun D hd => absurd hd (by simp)
  clear hb0 bO0 hP0
  refine wpIn_loop_rounds 7 ?_
  -- part 0
  rw [roundsIn_succ]
  have p0 : W0.cell? ⟨w.heap.size, 0, none⟩ = some (.int .i64 1005) := by simp [World.cell?, HP0.out, std32pc]
  have p1 : W0.cell? ⟨w.heap.size, 1, none⟩ = some (.int .i64 1005) := by simp [World.cell?, HP0.out, std32pc]
  have p2 : W0.cell? ⟨w.heap.size, 2, none⟩ = some (.int .i64 1) := by simp [World.cell?, HP0.out, std32pc]
  have hsz0 : w.heap.size < W0.heap.size := by omega
  gi_wp2_with (refine ⟨trivial, ?_⟩; gi_at_call 50; refine (steps_in Fence.wide 4 trivial rfl _ _ _ _).mono ?_; rintro e w' ⟨rfl, rfl⟩)
  have a0 := ((Boxed.new (W0.alloc (.cells #[.int .i64 1005, .int .i64 1005, .int .i64 1] 75)) 3 (.int .i64 1005)).alloc (.cells #[.int .i64 1005] 3)).alloc (.cells #[.int .i64 1] 3)
  have a1 := (Boxed.new ((W0.alloc (.cells #[.int .i64 1005, .int .i64 1005, .int .i64 1] 75)).alloc (.cells #[.int .i64 1005] 3)) 3 (.int .i64 1005)).alloc (.cells #[.int .i64 1] 3)
  have a2 := Boxed.new (((W0.alloc (.cells #[.int .i64 1005, .int .i64 1005, .int .i64 1] 75)).alloc (.cells #[.int .i64 1005] 3)).alloc (.cells #[.int .i64 1005] 3)) 3 (.int .i64 1)
  simp only [World.size_alloc] at a0 a1 a2
  have hbx0 : Below W0.heap.size W0 ((((W0.alloc (.cells #[.int .i64 1005, .int .i64 1005, .int .i64 1] 75)).alloc (.cells #[.int .i64 1005] 3)).alloc (.cells #[.int .i64 1005] 3)).alloc (.cells #[.int .i64 1] 3)) := ((((Below.refl _ _).alloc (Nat.le_refl _) _).alloc (by simp) _).alloc (by simp; omega) _).alloc (by simp; omega) _
  obtain ⟨X0, hX0⟩ : ∃ X, (((W0.alloc (.cells #[.int .i64 1005, .int .i64 1005, .int .i64 1] 75)).alloc (.cells #[.int .i64 1005] 3)).alloc (.cells #[.int .i64 1005] 3)).alloc (.cells #[.int .i64 1] 3) = X := ⟨_, rfl⟩
  have hxs0 : X0.heap.size = W0.heap.size + 4 := by rw [← hX0]; simp
  rw [hX0] at a0 a1 a2 hbx0 ⊢
  clear hX0 p0 p1 p2
  have hI0 : OutInv w.heap.size (w.heap.size + 1) w.heap.size (W0.heap.size + 1) std32pc 1005 1005 1 [] w (std32o0 ++ []) X0 := by
    obtain ⟨v, hv, hrow, hnil⟩ := HO0.out
    rw [List.append_nil]
    refine ⟨⟨v, (hbx0.block _ hv.lt).trans hv, ?_, hnil, fun g hg => .inl (by have := (hrow.lt g hg).2; omega)⟩, ⟨a0, a1, a2⟩, (hbx0.block _ (lt_of_block HP0.out)).trans HP0.out, fun D hd => (hbx0.block _ (lt_of_block (HD0.out D hd))).trans (HD0.out D hd), HB0.out.trans (hbx0.mono (by omega))⟩
    refine ⟨hrow.1, ?_⟩
    rcases hrow.2 with h | ⟨g, cap, cur, h1, h2, h3, h4⟩
    · exact .inl h
    · exact .inr ⟨g, cap, cur, h1, h2, (hbx0.block _ (lt_of_block h3)).trans h3, h4⟩
  have HDx0 : ∀ D ∈ ([] : List Nat), D < X0.heap.size := fun D hd => by have := lt_of_block (HD0.out D hd); omega
  refine wpIn_rangeFunc_ownG rfl h1 (gf := 60) (lb := #[.pointer (some ⟨W0.heap.size + 1, 0, none⟩), .pointer (some ⟨W0.heap.size + 1 + 1, 0, none⟩), .pointer (some ⟨W0.heap.size + 1 + 1 + 1, 0, none⟩)]) rfl trivial (enters_of Try.func60 (by kernel_rfl) rfl)
    (steps_stops Fence.wide 4 trivial rfl (by omega) (W0.heap.size + 1) 1005 1005 1 1 X0 (by omega) (by omega) (by omega) (by intro k hk; omega) (by omega) (by omega) a0.cell a1.cell a2.cell) Keep3.trans (keep3_b (by omega)) (Below.refl _ _) (fun _ => rfl)
    (fun pre W => OutInv w.heap.size (w.heap.size + 1) w.heap.size (W0.heap.size + 1) std32pc 1005 1005 1 [] w (std32o0 ++ pre) W)
    (fun _ _ _ => False)
    (fun s A B row hs hg hr => hs.kept hg hr HDx0 (by omega) (by have := hs.2.2.2.2.size; omega))
    (fun _ _ _ _ _ hs _ _ => hs)
    hI0
    (fun x => { tmps := #[.int .i64 32, undef, .slice none 0 0, .int .i64 0, .slice (some ⟨w.heap.size, 0, none⟩) 6 6, .pointer (some ⟨w.heap.size + 1, 0, none⟩), undef, .pointer (some ⟨W0.heap.size, 0, none⟩), .int .i64 x, .int .i64 32, .bool true, .bool true, .agg #[.int .i64 1005, .int .i64 1005, .int .i64 1], .agg #[.int .i64 1010, .int .i64 1090, .int .i64 10], .agg #[.int .i64 1100, .int .i64 1900, .int .i64 100], .agg #[.int .i64 1000, .int .i64 9000, .int .i64 1000], .agg #[.int .i64 10000, .int .i64 30000, .int .i64 10000], .agg #[.int .i64 50000, .int .i64 50000, .int .i64 1], .slice (some ⟨w.heap.size, 0, none⟩) 6 6, undef, undef, undef, undef, undef, undef, undef, undef, undef, undef, undef, undef, undef, undef, undef, .slice (some ⟨w.heap.size, 0, none⟩) 6 6, .int .i64 6, .int .i64 0, .bool true, .pointer (some ⟨w.heap.size, 0, none⟩), .agg #[.int .i64 1005, .int .i64 1005, .int .i64 1], .pointer (some ⟨W0.heap.size, 0, none⟩), .int .i64 1005, .pointer (some ⟨W0.heap.size, 1, none⟩), .int .i64 1005, .pointer (some ⟨W0.heap.size, 2, none⟩), .int .i64 1, .func (.func 60) #[] #[.pointer (some ⟨W0.heap.size + 1, 0, none⟩), .pointer (some ⟨W0.heap.size + 1 + 1, 0, none⟩), .pointer (some ⟨W0.heap.size + 1 + 1 + 1, 0, none⟩)], .int .i64 x, undef, undef, undef, undef, undef, undef, undef, undef], defers := [] }) ?assign0 ?body0 ?done0 ?stop0
  case assign0 =>
    intro l x W K hK
    gi_wp2
    exact hK
  case stop0 =>
    rintro D c pre W _ _ h _
    exact h.elim
  case body0 =>
    rintro l pre x W ⟨⟨v, hv, hrow, hnil, hne⟩, hbx, hP, hDs, hbl⟩ hlt
    have hc := hv.cell
    have hW0' : w.heap.size ≤ W.heap.size := hbl.size
    have hlen : (std32o0 ++ pre).length ≤ 1000 := by
      have : (std32o0).length ≤ 500 := by decide
      rw [List.length_append]; omega
    obtain ⟨bs, hbs, hbs1, hbs2, hrb⟩ : ∃ bs, w.heap.size ≤ bs ∧ bs ≤ W.heap.size ∧ ((std32o0 ++ pre).length = 0 → bs = W.heap.size) ∧ W.ownsRow bs 3 1 v (std32o0 ++ pre).length (I64s (std32o0 ++ pre)) := by
      by_cases h0 : (std32o0 ++ pre).length = 0
      · have h00 := List.length_eq_zero_iff.1 h0
        refine ⟨W.heap.size, hW0', Nat.le_refl _, fun _ => rfl, ?_⟩
        rw [hnil.2 h00, h00]
        exact World.ownsRow_nil _ _ _ _
      · exact ⟨w.heap.size, Nat.le_refl _, hW0', fun h => absurd h h0, hrow⟩
    have H1 := Lib.hid hrow
    have H2 := Lib.hid hne
    have H3 := Lib.hid hbx
    have H4 := Lib.hid hP
    have H5 := Lib.hid hDs
    have H6 := Lib.hid hbl
    have H7 := Lib.hid hbs2
    have H8 := Lib.hid hrb
    obtain ⟨ol, hol⟩ : ∃ ol, std32o0 ++ pre = ol := ⟨_, rfl⟩
    rw [hol] at H1 H7 H8 hlen
    have HOL := Lib.hid hol
    obtain ⟨i0, hi, hz0, hz1, hz2⟩ := info_parts Try.infoInt
    clear hrow hnil hne hbx hP hDs hbl hbs2 hrb hol
    gi_wp2_with (gi_at_builtin; refine wpListIn_append_own _ rfl _ _ 22 rfl bs 3 i0 (.int .i64 0) 1 8 Try.underlying22 hi hz0 hz1 hz2 rfl (by decide) _ _ _ rfl (H8.out.alloc _) ⟨W.heap.size, 0, none⟩ 1 1 [.int .i64 x] rfl rfl (cell_one_new _ _ _) (by simp [Value.oneCell']) (by unfold maxLen; omega) (by omega) (by simp; omega) ?_; intro v' w1 hown' hgrow _; obtain ⟨g', cap', rfl⟩ := ownsRow_succ hown'; obtain ⟨q1, q2, q3, q4⟩ := OutInv.push hv H1.out H2.out H3.out H4.out H5.out H6.out hW0' (by omega) (by omega) (by omega) hbs H7.out hown' hgrow; have hc1 := q1.cell; have hf1 := q1.frozen; have Q2 := Lib.hid q2; have Q3 := Lib.hid q3; have Q4 := Lib.hid q4; clear q2 q3 q4 hown' hgrow)
    refine ⟨Q2.out.from _, Q3.out, ?_⟩
    have e : std32o0 ++ (pre ++ [x]) = ol ++ [x] := by rw [← HOL.out, List.append_assoc]
    show OutInv _ _ _ _ _ _ _ _ _ _ (std32o0 ++ (pre ++ [x])) _
    rw [e]
    exact Q4.out
  case done0 =>
    rintro D0 ys W1 hD rfl hI hK
    obtain ⟨⟨v, hv, hrow, hnil, _⟩, _, hP, hDs, hbl⟩ := hI
    have hz1 : w.heap.size + 2 ≤ W1.heap.size := by have := hv.lt; omega
    have HO1 : Hid (∃ v, Boxed W1 (w.heap.size + 1) 22 v ∧ W1.ownsRow w.heap.size 3 1 v (std32o1).length (I64s (std32o1)) ∧ (v = .slice none 0 0 ↔ std32o1 = [])) := ⟨v, hv, hrow, hnil⟩
    have HP1 := Lib.hid hP
    have HB1 := Lib.hid hbl
    have HD1 : Hid (∀ D ∈ ([D0] : List Nat), W1.heap[D]? = some (.deferred (some []))) := by
      intro D hd
      rcases List.mem_cons.1 hd with rfl | hd
      · exact hK
      · exact hDs D hd
    have HL0 : Hid (W0.heap.size + 4 ≤ D0) := by unfold Hid; omega
    have HG0 : Hid (D0 < W1.heap.size) := lt_of_block hK
    clear hv hrow hnil hP hDs hbl hK hD hI0 HO0 HP0 HB0 HD0 HDx0 a0 a1 a2
    gi_wp2
    -- part 1
    rw [roundsIn_succ]
    have p0 : W1.cell? ⟨w.heap.size, 3, none⟩ = some (.int .i64 1010) := by simp [World.cell?, HP1.out, std32pc]
    have p1 : W1.cell? ⟨w.heap.size, 4, none⟩ = some (.int .i64 1090) := by simp [World.cell?, HP1.out, std32pc]
    have p2 : W1.cell? ⟨w.heap.size, 5, none⟩ = some (.int .i64 10) := by simp [World.cell?, HP1.out, std32pc]
    have hsz1 : w.heap.size < W1.heap.size := by omega
    gi_wp2_with (refine ⟨trivial, ?_⟩; gi_at_call 50; refine (steps_in Fence.wide 4 trivial rfl _ _ _ _).mono ?_; rintro e w' ⟨rfl, rfl⟩)
    have a0 := ((Boxed.new (W1.alloc (.cells #[.int .i64 1010, .int .i64 1090, .int .i64 10] 75)) 3 (.int .i64 1010)).alloc (.cells #[.int .i64 1090] 3)).alloc (.cells #[.int .i64 10] 3)
    have a1 := (Boxed.new ((W1.alloc (.cells #[.int .i64 1010, .int .i64 1090, .int .i64 10] 75)).alloc (.cells #[.int .i64 1010] 3)) 3 (.int .i64 1090)).alloc (.cells #[.int .i64 10] 3)
    have a2 := Boxed.new (((W1.alloc (.cells #[.int .i64 1010, .int .i64 1090, .int .i64 10] 75)).alloc (.cells #[.int .i64 1010] 3)).alloc (.cells #[.int .i64 1090] 3)) 3 (.int .i64 10)
    simp only [World.size_alloc] at a0 a1 a2
    have hbx1 : Below W1.heap.size W1 ((((W1.alloc (.cells #[.int .i64 1010, .int .i64 1090, .int .i64 10] 75)).alloc (.cells #[.int .i64 1010] 3)).alloc (.cells #[.int .i64 1090] 3)).alloc (.cells #[.int .i64 10] 3)) := ((((Below.refl _ _).alloc (Nat.le_refl _) _).alloc (by simp) _).alloc (by simp; omega) _).alloc (by simp; omega) _
    obtain ⟨X1, hX1⟩ : ∃ X, (((W1.alloc (.cells #[.int .i64 1010, .int .i64 1090, .int .i64 10] 75)).alloc (.cells #[.int .i64 1010] 3)).alloc (.cells #[.int .i64 1090] 3)).alloc (.cells #[.int .i64 10] 3) = X := ⟨_, rfl⟩
    have hxs1 : X1.heap.size = W1.heap.size + 4 := by rw [← hX1]; simp
    rw [hX1] at a0 a1 a2 hbx1 ⊢
    clear hX1 p0 p1 p2
    have hI1 : OutInv w.heap.size (w.heap.size + 1) w.heap.size (W1.heap.size + 1) std32pc 1010 1090 10 [D0] w (std32o1 ++ []) X1 := by
      obtain ⟨v, hv, hrow, hnil⟩ := HO1.out
      rw [List.append_nil]
      refine ⟨⟨v, (hbx1.block _ hv.lt).trans hv, ?_, hnil, fun g hg => .inl (by have := (hrow.lt g hg).2; omega)⟩, ⟨a0, a1, a2⟩, (hbx1.block _ (lt_of_block HP1.out)).trans HP1.out, fun D hd => (hbx1.block _ (lt_of_block (HD1.out D hd))).trans (HD1.out D hd), HB1.out.trans (hbx1.mono (by omega))⟩
      refine ⟨hrow.1, ?_⟩
      rcases hrow.2 with h | ⟨g, cap, cur, h1, h2, h3, h4⟩
      · exact .inl h
      · exact .inr ⟨g, cap, cur, h1, h2, (hbx1.block _ (lt_of_block h3)).trans h3, h4⟩
    have HDx1 : ∀ D ∈ ([D0] : List Nat), D < X1.heap.size := fun D hd => by have := lt_of_block (HD1.out D hd); omega
    refine wpIn_rangeFunc_ownG rfl h1 (gf := 60) (lb := #[.pointer (some ⟨W1.heap.size + 1, 0, none⟩), .pointer (some ⟨W1.heap.size + 1 + 1, 0, none⟩), .pointer (some ⟨W1.heap.size + 1 + 1 + 1, 0, none⟩)]) rfl trivial (enters_of Try.func60 (by kernel_rfl) rfl)
      (steps_stops Fence.wide 4 trivial rfl (by omega) (W1.heap.size + 1) 1010 1090 10 9 X1 (by omega) (by omega) (by omega) (by intro k hk; omega) (by omega) (by omega) a0.cell a1.cell a2.cell) Keep3.trans (keep3_b (by omega)) (Below.refl _ _) (fun _ => rfl)
      (fun pre W => OutInv w.heap.size (w.heap.size + 1) w.heap.size (W1.heap.size + 1) std32pc 1010 1090 10 [D0] w (std32o1 ++ pre) W)
      (fun _ _ _ => False)
      (fun s A B row hs hg hr => hs.kept hg hr HDx1 (by omega) (by have := hs.2.2.2.2.size; omega))
      (fun _ _ _ _ _ hs _ _ => hs)
      hI1
      (fun x => { tmps := #[.int .i64 32, undef, .slice none 0 0, .int .i64 0, .slice (some ⟨w.heap.size, 0, none⟩) 6 6, .pointer (some ⟨w.heap.size + 1, 0, none⟩), undef, .pointer (some ⟨W1.heap.size, 0, none⟩), .int .i64 x, .int .i64 32, .bool true, .bool true, .agg #[.int .i64 1005, .int .i64 1005, .int .i64 1], .agg #[.int .i64 1010, .int .i64 1090, .int .i64 10], .agg #[.int .i64 1100, .int .i64 1900, .int .i64 100], .agg #[.int .i64 1000, .int .i64 9000, .int .i64 1000], .agg #[.int .i64 10000, .int .i64 30000, .int .i64 10000], .agg #[.int .i64 50000, .int .i64 50000, .int .i64 1], .slice (some ⟨w.heap.size, 0, none⟩) 6 6, undef, undef, undef, undef, undef, undef, undef, undef, undef, undef, undef, undef, undef, undef, undef, .slice (some ⟨w.heap.size, 0, none⟩) 6 6, .int .i64 6, .int .i64 1, .bool true, .pointer (some ⟨w.heap.size, 3, none⟩), .agg #[.int .i64 1010, .int .i64 1090, .int .i64 10], .pointer (some ⟨W1.heap.size, 0, none⟩), .int .i64 1010, .pointer (some ⟨W1.heap.size, 1, none⟩), .int .i64 1090, .pointer (some ⟨W1.heap.size, 2, none⟩), .int .i64 10, .func (.func 60) #[] #[.pointer (some ⟨W1.heap.size + 1, 0, none⟩), .pointer (some ⟨W1.heap.size + 1 + 1, 0, none⟩), .pointer (some ⟨W1.heap.size + 1 + 1 + 1, 0, none⟩)], .int .i64 x, undef, undef, undef, undef, .int .i64 1, undef, undef, undef], defers := [] }) ?assign1 ?body1 ?done1 ?stop1
    case assign1 =>
      intro l x W K hK
      gi_wp2
      exact hK
    case stop1 =>
      rintro D c pre W _ _ h _
      exact h.elim
    case body1 =>
      rintro l pre x W ⟨⟨v, hv, hrow, hnil, hne⟩, hbx, hP, hDs, hbl⟩ hlt
      have hc := hv.cell
      have hW0' : w.heap.size ≤ W.heap.size := hbl.size
      have hlen : (std32o1 ++ pre).length ≤ 1000 := by
        have : (std32o1).length ≤ 500 := by decide
        rw [List.length_append]; omega
      obtain ⟨bs, hbs, hbs1, hbs2, hrb⟩ : ∃ bs, w.heap.size ≤ bs ∧ bs ≤ W.heap.size ∧ ((std32o1 ++ pre).length = 0 → bs = W.heap.size) ∧ W.ownsRow bs 3 1 v (std32o1 ++ pre).length (I64s (std32o1 ++ pre)) := by
        by_cases h0 : (std32o1 ++ pre).length = 0
        · have h00 := List.length_eq_zero_iff.1 h0
          refine ⟨W.heap.size, hW0', Nat.le_refl _, fun _ => rfl, ?_⟩
          rw [hnil.2 h00, h00]
          exact World.ownsRow_nil _ _ _ _
        · exact ⟨w.heap.size, Nat.le_refl _, hW0', fun h => absurd h h0, hrow⟩
      have H1 := Lib.hid hrow
      have H2 := Lib.hid hne
      have H3 := Lib.hid hbx
      have H4 := Lib.hid hP
      have H5 := Lib.hid hDs
      have H6 := Lib.hid hbl
      have H7 := Lib.hid hbs2
      have H8 := Lib.hid hrb
      obtain ⟨ol, hol⟩ : ∃ ol, std32o1 ++ pre = ol := ⟨_, rfl⟩
      rw [hol] at H1 H7 H8 hlen
      have HOL := Lib.hid hol
      obtain ⟨i0, hi, hz0, hz1, hz2⟩ := info_parts Try.infoInt
      clear hrow hnil hne hbx hP hDs hbl hbs2 hrb hol
      gi_wp2_with (gi_at_builtin; refine wpListIn_append_own _ rfl _ _ 22 rfl bs 3 i0 (.int .i64 0) 1 8 Try.underlying22 hi hz0 hz1 hz2 rfl (by decide) _ _ _ rfl (H8.out.alloc _) ⟨W.heap.size, 0, none⟩ 1 1 [.int .i64 x] rfl rfl (cell_one_new _ _ _) (by simp [Value.oneCell']) (by unfold maxLen; omega) (by omega) (by simp; omega) ?_; intro v' w1 hown' hgrow _; obtain ⟨g', cap', rfl⟩ := ownsRow_succ hown'; obtain ⟨q1, q2, q3, q4⟩ := OutInv.push hv H1.out H2.out H3.out H4.out H5.out H6.out hW0' (by omega) (by omega) (by omega) hbs H7.out hown' hgrow; have hc1 := q1.cell; have hf1 := q1.frozen; have Q2 := Lib.hid q2; have Q3 := Lib.hid q3; have Q4 := Lib.hid q4; clear q2 q3 q4 hown' hgrow)
      refine ⟨Q2.out.from _, Q3.out, ?_⟩
      have e : std32o1 ++ (pre ++ [x]) = ol ++ [x] := by rw [← HOL.out, List.append_assoc]
      show OutInv _ _ _ _ _ _ _ _ _ _ (std32o1 ++ (pre ++ [x])) _
      rw [e]
      exact Q4.out
    case done1 =>
      rintro D1 ys W2 hD rfl hI hK
      obtain ⟨⟨v, hv, hrow, hnil, _⟩, _, hP, hDs, hbl⟩ := hI
      have hz2 : w.heap.size + 2 ≤ W2.heap.size := by have := hv.lt; omega
      have HO2 : Hid (∃ v, Boxed W2 (w.heap.size + 1) 22 v ∧ W2.ownsRow w.heap.size 3 1 v (std32o2).length (I64s (std32o2)) ∧ (v = .slice none 0 0 ↔ std32o2 = [])) := ⟨v, hv, hrow, hnil⟩
      have HP2 := Lib.hid hP
      have HB2 := Lib.hid hbl
      have HD2 : Hid (∀ D ∈ ([D1, D0] : List Nat), W2.heap[D]? = some (.deferred (some []))) := by
        intro D hd
        rcases List.mem_cons.1 hd with rfl | hd
        · exact hK
        · exact hDs D hd
      have HL1 : Hid (W1.heap.size + 4 ≤ D1) := by unfold Hid; omega
      have HG1 : Hid (D1 < W2.heap.size) := lt_of_block hK
      clear hv hrow hnil hP hDs hbl hK hD hI1 HO1 HP1 HB1 HD1 HDx1 a0 a1 a2
      gi_wp2
      -- part 2
      rw [roundsIn_succ]
      have p0 : W2.cell? ⟨w.heap.size, 6, none⟩ = some (.int .i64 1100) := by simp [World.cell?, HP2.out, std32pc]
      have p1 : W2.cell? ⟨w.heap.size, 7, none⟩ = some (.int .i64 1900) := by simp [World.cell?, HP2.out, std32pc]
      have p2 : W2.cell? ⟨w.heap.size, 8, none⟩ = some (.int .i64 100) := by simp [World.cell?, HP2.out, std32pc]
      have hsz2 : w.heap.size < W2.heap.size := by omega
      gi_wp2_with (refine ⟨trivial, ?_⟩; gi_at_call 50; refine (steps_in Fence.wide 4 trivial rfl _ _ _ _).mono ?_; rintro e w' ⟨rfl, rfl⟩)
      have a0 := ((Boxed.new (W2.alloc (.cells #[.int .i64 1100, .int .i64 1900, .int .i64 100] 75)) 3 (.int .i64 1100)).alloc (.cells #[.int .i64 1900] 3)).alloc (.cells #[.int .i64 100] 3)
      have a1 := (Boxed.new ((W2.alloc (.cells #[.int .i64 1100, .int .i64 1900, .int .i64 100] 75)).alloc (.cells #[.int .i64 1100] 3)) 3 (.int .i64 1900)).alloc (.cells #[.int .i64 100] 3)
      have a2 := Boxed.new (((W2.alloc (.cells #[.int .i64 1100, .int .i64 1900, .int .i64 100] 75)).alloc (.cells #[.int .i64 1100] 3)).alloc (.cells #[.int .i64 1900] 3)) 3 (.int .i64 100)
      simp only [World.size_alloc] at a0 a1 a2
      have hbx2 : Below W2.heap.size W2 ((((W2.alloc (.cells #[.int .i64 1100, .int .i64 1900, .int .i64 100] 75)).alloc (.cells #[.int .i64 1100] 3)).alloc (.cells #[.int .i64 1900] 3)).alloc (.cells #[.int .i64 100] 3)) := ((((Below.refl _ _).alloc (Nat.le_refl _) _).alloc (by simp) _).alloc (by simp; omega) _).alloc (by simp; omega) _
      obtain ⟨X2, hX2⟩ : ∃ X, (((W2.alloc (.cells #[.int .i64 1100, .int .i64 1900, .int .i64 100] 75)).alloc (.cells #[.int .i64 1100] 3)).alloc (.cells #[.int .i64 1900] 3)).alloc (.cells #[.int .i64 100] 3) = X := ⟨_, rfl⟩
      have hxs2 : X2.heap.size = W2.heap.size + 4 := by rw [← hX2]; simp
      rw [hX2] at a0 a1 a2 hbx2 ⊢
      clear hX2 p0 p1 p2
      have hI2 : OutInv w.heap.size (w.heap.size + 1) w.heap.size (W2.heap.size + 1) std32pc 1100 1900 100 [D1, D0] w (std32o2 ++ []) X2 := by
        obtain ⟨v, hv, hrow, hnil⟩ := HO2.out
        rw [List.append_nil]
        refine ⟨⟨v, (hbx2.block _ hv.lt).trans hv, ?_, hnil, fun g hg => .inl (by have := (hrow.lt g hg).2; omega)⟩, ⟨a0, a1, a2⟩, (hbx2.block _ (lt_of_block HP2.out)).trans HP2.out, fun D hd => (hbx2.block _ (lt_of_block (HD2.out D hd))).trans (HD2.out D hd), HB2.out.trans (hbx2.mono (by omega))⟩
        refine ⟨hrow.1, ?_⟩
        rcases hrow.2 with h | ⟨g, cap, cur, h1, h2, h3, h4⟩
        · exact .inl h
        · exact .inr ⟨g, cap, cur, h1, h2, (hbx2.block _ (lt_of_block h3)).trans h3, h4⟩
      have HDx2 : ∀ D ∈ ([D1, D0] : List Nat), D < X2.heap.size := fun D hd => by have := lt_of_block (HD2.out D hd); omega
      refine wpIn_rangeFunc_ownG rfl h1 (gf := 60) (lb := #[.pointer (some ⟨W2.heap.size + 1, 0, none⟩), .pointer (some ⟨W2.heap.size + 1 + 1, 0, none⟩), .pointer (some ⟨W2.heap.size + 1 + 1 + 1, 0, none⟩)]) rfl trivial (enters_of Try.func60 (by kernel_rfl) rfl)
        (steps_stops Fence.wide 4 trivial rfl (by omega) (W2.heap.size + 1) 1100 1900 100 9 X2 (by omega) (by omega) (by omega) (by intro k hk; omega) (by omega) (by omega) a0.cell a1.cell a2.cell) Keep3.trans (keep3_b (by omega)) (Below.refl _ _) (fun _ => rfl)
        (fun pre W => OutInv w.heap.size (w.heap.size + 1) w.heap.size (W2.heap.size + 1) std32pc 1100 1900 100 [D1, D0] w (std32o2 ++ pre) W)
        (fun _ _ _ => False)
        (fun s A B row hs hg hr => hs.kept hg hr HDx2 (by omega) (by have := hs.2.2.2.2.size; omega))
        (fun _ _ _ _ _ hs _ _ => hs)
        hI2
        (fun x => { tmps := #[.int .i64 32, undef, .slice none 0 0, .int .i64 0, .slice (some ⟨w.heap.size, 0, none⟩) 6 6, .pointer (some ⟨w.heap.size + 1, 0, none⟩), undef, .pointer (some ⟨W2.heap.size, 0, none⟩), .int .i64 x, .int .i64 32, .bool true, .bool true, .agg #[.int .i64 1005, .int .i64 1005, .int .i64 1], .agg #[.int .i64 1010, .int .i64 1090, .int .i64 10], .agg #[.int .i64 1100, .int .i64 1900, .int .i64 100], .agg #[.int .i64 1000, .int .i64 9000, .int .i64 1000], .agg #[.int .i64 10000, .int .i64 30000, .int .i64 10000], .agg #[.int .i64 50000, .int .i64 50000, .int .i64 1], .slice (some ⟨w.heap.size, 0, none⟩) 6 6, undef, undef, undef, undef, undef, undef, undef, undef, undef, undef, undef, undef, undef, undef, undef, .slice (some ⟨w.heap.size, 0, none⟩) 6 6, .int .i64 6, .int .i64 2, .bool true, .pointer (some ⟨w.heap.size, 6, none⟩), .agg #[.int .i64 1100, .int .i64 1900, .int .i64 100], .pointer (some ⟨W2.heap.size, 0, none⟩), .int .i64 1100, .pointer (some ⟨W2.heap.size, 1, none⟩), .int .i64 1900, .pointer (some ⟨W2.heap.size, 2, none⟩), .int .i64 100, .func (.func 60) #[] #[.pointer (some ⟨W2.heap.size + 1, 0, none⟩), .pointer (some ⟨W2.heap.size + 1 + 1, 0, none⟩), .pointer (some ⟨W2.heap.size + 1 + 1 + 1, 0, none⟩)], .int .i64 x, undef, undef, undef, undef, .int .i64 2, undef, undef, undef], defers := [] }) ?assign2 ?body2 ?done2 ?stop2
      case assign2 =>
        intro l x W K hK
        gi_wp2
        exact hK
      case stop2 =>
        rintro D c pre W _ _ h _
        exact h.elim
      case body2 =>
        rintro l pre x W ⟨⟨v, hv, hrow, hnil, hne⟩, hbx, hP, hDs, hbl⟩ hlt
        have hc := hv.cell
        have hW0' : w.heap.size ≤ W.heap.size := hbl.size
        have hlen : (std32o2 ++ pre).length ≤ 1000 := by
          have : (std32o2).length ≤ 500 := by decide
          rw [List.length_append]; omega
        obtain ⟨bs, hbs, hbs1, hbs2, hrb⟩ : ∃ bs, w.heap.size ≤ bs ∧ bs ≤ W.heap.size ∧ ((std32o2 ++ pre).length = 0 → bs = W.heap.size) ∧ W.ownsRow bs 3 1 v (std32o2 ++ pre).length (I64s (std32o2 ++ pre)) := by
          by_cases h0 : (std32o2 ++ pre).length = 0
          · have h00 := List.length_eq_zero_iff.1 h0
            refine ⟨W.heap.size, hW0', Nat.le_refl _, fun _ => rfl, ?_⟩
            rw [hnil.2 h00, h00]
            exact World.ownsRow_nil _ _ _ _
          · exact ⟨w.heap.size, Nat.le_refl _, hW0', fun h => absurd h h0, hrow⟩
        have H1 := Lib.hid hrow
        have H2 := Lib.hid hne
        have H3 := Lib.hid hbx
        have H4 := Lib.hid hP
        have H5 := Lib.hid hDs
        have H6 := Lib.hid hbl
        have H7 := Lib.hid hbs2
        have H8 := Lib.hid hrb
        obtain ⟨ol, hol⟩ : ∃ ol, std32o2 ++ pre = ol := ⟨_, rfl⟩
        rw [hol] at H1 H7 H8 hlen
        have HOL := Lib.hid hol
        obtain ⟨i0, hi, hz0, hz1, hz2⟩ := info_parts Try.infoInt
        clear hrow hnil hne hbx hP hDs hbl hbs2 hrb hol
        gi_wp2_with (gi_at_builtin; refine wpListIn_append_own _ rfl _ _ 22 rfl bs 3 i0 (.int .i64 0) 1 8 Try.underlying22 hi hz0 hz1 hz2 rfl (by decide) _ _ _ rfl (H8.out.alloc _) ⟨W.heap.size, 0, none⟩ 1 1 [.int .i64 x] rfl rfl (cell_one_new _ _ _) (by simp [Value.oneCell']) (by unfold maxLen; omega) (by omega) (by simp; omega) ?_; intro v' w1 hown' hgrow _; obtain ⟨g', cap', rfl⟩ := ownsRow_succ hown'; obtain ⟨q1, q2, q3, q4⟩ := OutInv.push hv H1.out H2.out H3.out H4.out H5.out H6.out hW0' (by omega) (by omega) (by omega) hbs H7.out hown' hgrow; have hc1 := q1.cell; have hf1 := q1.frozen; have Q2 := Lib.hid q2; have Q3 := Lib.hid q3; have Q4 := Lib.hid q4; clear q2 q3 q4 hown' hgrow)
        refine ⟨Q2.out.from _, Q3.out, ?_⟩
        have e : std32o2 ++ (pre ++ [x]) = ol ++ [x] := by rw [← HOL.out, List.append_assoc]
        show OutInv _ _ _ _ _ _ _ _ _ _ (std32o2 ++ (pre ++ [x])) _
        rw [e]
        exact Q4.out
      case done2 =>
        rintro D2 ys W3 hD rfl hI hK
        obtain ⟨⟨v, hv, hrow, hnil, _⟩, _, hP, hDs, hbl⟩ := hI
        have hz3 : w.heap.size + 2 ≤ W3.heap.size := by have := hv.lt; omega
        have HO3 : Hid (∃ v, Boxed W3 (w.heap.size + 1) 22 v ∧ W3.ownsRow w.heap.size 3 1 v (std32o3).length (I64s (std32o3)) ∧ (v = .slice none 0 0 ↔ std32o3 = [])) := ⟨v, hv, hrow, hnil⟩
        have HP3 := Lib.hid hP
        have HB3 := Lib.hid hbl
        have HD3 : Hid (∀ D ∈ ([D2, D1, D0] : List Nat), W3.heap[D]? = some (.deferred (some []))) := by
          intro D hd
          rcases List.mem_cons.1 hd with rfl | hd
          · exact hK
          · exact hDs D hd
        have HL2 : Hid (W2.heap.size + 4 ≤ D2) := by unfold Hid; omega
        have HG2 : Hid (D2 < W3.heap.size) := lt_of_block hK
        clear hv hrow hnil hP hDs hbl hK hD hI2 HO2 HP2 HB2 HD2 HDx2 a0 a1 a2
        gi_wp2
        -- part 3
        rw [roundsIn_succ]
        have p0 : W3.cell? ⟨w.heap.size, 9, none⟩ = some (.int .i64 1000) := by simp [World.cell?, HP3.out, std32pc]
        have p1 : W3.cell? ⟨w.heap.size, 10, none⟩ = some (.int .i64 9000) := by simp [World.cell?, HP3.out, std32pc]
        have p2 : W3.cell? ⟨w.heap.size, 11, none⟩ = some (.int .i64 1000) := by simp [World.cell?, HP3.out, std32pc]
        have hsz3 : w.heap.size < W3.heap.size := by omega
        gi_wp2_with (refine ⟨trivial, ?_⟩; gi_at_call 50; refine (steps_in Fence.wide 4 trivial rfl _ _ _ _).mono ?_; rintro e w' ⟨rfl, rfl⟩)
        have a0 := ((Boxed.new (W3.alloc (.cells #[.int .i64 1000, .int .i64 9000, .int .i64 1000] 75)) 3 (.int .i64 1000)).alloc (.cells #[.int .i64 9000] 3)).alloc (.cells #[.int .i64 1000] 3)
        have a1 := (Boxed.new ((W3.alloc (.cells #[.int .i64 1000, .int .i64 9000, .int .i64 1000] 75)).alloc (.cells #[.int .i64 1000] 3)) 3 (.int .i64 9000)).alloc (.cells #[.int .i64 1000] 3)
        have a2 := Boxed.new (((W3.alloc (.cells #[.int .i64 1000, .int .i64 9000, .int .i64 1000] 75)).alloc (.cells #[.int .i64 1000] 3)).alloc (.cells #[.int .i64 9000] 3)) 3 (.int .i64 1000)
        simp only [World.size_alloc] at a0 a1 a2
        have hbx3 : Below W3.heap.size W3 ((((W3.alloc (.cells #[.int .i64 1000, .int .i64 9000, .int .i64 1000] 75)).alloc (.cells #[.int .i64 1000] 3)).alloc (.cells #[.int .i64 9000] 3)).alloc (.cells #[.int .i64 1000] 3)) := ((((Below.refl _ _).alloc (Nat.le_refl _) _).alloc (by simp) _).alloc (by simp; omega) _).alloc (by simp; omega) _
        obtain ⟨X3, hX3⟩ : ∃ X, (((W3.alloc (.cells #[.int .i64 1000, .int .i64 9000, .int .i64 1000] 75)).alloc (.cells #[.int .i64 1000] 3)).alloc (.cells #[.int .i64 9000] 3)).alloc (.cells #[.int .i64 1000] 3) = X := ⟨_, rfl⟩
        have hxs3 : X3.heap.size = W3.heap.size + 4 := by rw [← hX3]; simp
        rw [hX3] at a0 a1 a2 hbx3 ⊢
        clear hX3 p0 p1 p2
        have hI3 : OutInv w.heap.size (w.heap.size + 1) w.heap.size (W3.heap.size + 1) std32pc 1000 9000 1000 [D2, D1, D0] w (std32o3 ++ []) X3 := by
          obtain ⟨v, hv, hrow, hnil⟩ := HO3.out
          rw [List.append_nil]
          refine ⟨⟨v, (hbx3.block _ hv.lt).trans hv, ?_, hnil, fun g hg => .inl (by have := (hrow.lt g hg).2; omega)⟩, ⟨a0, a1, a2⟩, (hbx3.block _ (lt_of_block HP3.out)).trans HP3.out, fun D hd => (hbx3.block _ (lt_of_block (HD3.out D hd))).trans (HD3.out D hd), HB3.out.trans (hbx3.mono (by omega))⟩
          refine ⟨hrow.1, ?_⟩
          rcases hrow.2 with h | ⟨g, cap, cur, h1, h2, h3, h4⟩
          · exact .inl h
          · exact .inr ⟨g, cap, cur, h1, h2, (hbx3.block _ (lt_of_block h3)).trans h3, h4⟩
        have HDx3 : ∀ D ∈ ([D2, D1, D0] : List Nat), D < X3.heap.size := fun D hd => by have := lt_of_block (HD3.out D hd); omega
        refine wpIn_rangeFunc_ownG rfl h1 (gf := 60) (lb := #[.pointer (some ⟨W3.heap.size + 1, 0, none⟩), .pointer (some ⟨W3.heap.size + 1 + 1, 0, none⟩), .pointer (some ⟨W3.heap.size + 1 + 1 + 1, 0, none⟩)]) rfl trivial (enters_of Try.func60 (by kernel_rfl) rfl)
          (steps_stops Fence.wide 4 trivial rfl (by omega) (W3.heap.size + 1) 1000 9000 1000 9 X3 (by omega) (by omega) (by omega) (by intro k hk; omega) (by omega) (by omega) a0.cell a1.cell a2.cell) Keep3.trans (keep3_b (by omega)) (Below.refl _ _) (fun _ => rfl)
          (fun pre W => OutInv w.heap.size (w.heap.size + 1) w.heap.size (W3.heap.size + 1) std32pc 1000 9000 1000 [D2, D1, D0] w (std32o3 ++ pre) W)
          (fun _ _ _ => False)
          (fun s A B row hs hg hr => hs.kept hg hr HDx3 (by omega) (by have := hs.2.2.2.2.size; omega))
          (fun _ _ _ _ _ hs _ _ => hs)
          hI3
          (fun x => { tmps := #[.int .i64 32, undef, .slice none 0 0, .int .i64 0, .slice (some ⟨w.heap.size, 0, none⟩) 6 6, .pointer (some ⟨w.heap.size + 1, 0, none⟩), undef, .pointer (some ⟨W3.heap.size, 0, none⟩), .int .i64 x, .int .i64 32, .bool true, .bool true, .agg #[.int .i64 1005, .int .i64 1005, .int .i64 1], .agg #[.int .i64 1010, .int .i64 1090, .int .i64 10], .agg #[.int .i64 1100, .int .i64 1900, .int .i64 100], .agg #[.int .i64 1000, .int .i64 9000, .int .i64 1000], .agg #[.int .i64 10000, .int .i64 30000, .int .i64 10000], .agg #[.int .i64 50000, .int .i64 50000, .int .i64 1], .slice (some ⟨w.heap.size, 0, none⟩) 6 6, undef, undef, undef, undef, undef, undef, undef, undef, undef, undef, undef, undef, undef, undef, undef, .slice (some ⟨w.heap.size, 0, none⟩) 6 6, .int .i64 6, .int .i64 3, .bool true, .pointer (some ⟨w.heap.size, 9, none⟩), .agg #[.int .i64 1000, .int .i64 9000, .int .i64 1000], .pointer (some ⟨W3.heap.size, 0, none⟩), .int .i64 1000, .pointer (some ⟨W3.heap.size, 1, none⟩), .int .i64 9000, .pointer (some ⟨W3.heap.size, 2, none⟩), .int .i64 1000, .func (.func 60) #[] #[.pointer (some ⟨W3.heap.size + 1, 0, none⟩), .pointer (some ⟨W3.heap.size + 1 + 1, 0, none⟩), .pointer (some ⟨W3.heap.size + 1 + 1 + 1, 0, none⟩)], .int .i64 x, undef, undef, undef, undef, .int .i64 3, undef, undef, undef], defers := [] }) ?assign3 ?body3 ?done3 ?stop3
        case assign3 =>
          intro l x W K hK
          gi_wp2
          exact hK
        case stop3 =>
          rintro D c pre W _ _ h _
          exact h.elim
        case body3 =>
          rintro l pre x W ⟨⟨v, hv, hrow, hnil, hne⟩, hbx, hP, hDs, hbl⟩ hlt
          have hc := hv.cell
          have hW0' : w.heap.size ≤ W.heap.size := hbl.size
          have hlen : (std32o3 ++ pre).length ≤ 1000 := by
            have : (std32o3).length ≤ 500 := by decide
            rw [List.length_append]; omega
          obtain ⟨bs, hbs, hbs1, hbs2, hrb⟩ : ∃ bs, w.heap.size ≤ bs ∧ bs ≤ W.heap.size ∧ ((std32o3 ++ pre).length = 0 → bs = W.heap.size) ∧ W.ownsRow bs 3 1 v (std32o3 ++ pre).length (I64s (std32o3 ++ pre)) := by
            by_cases h0 : (std32o3 ++ pre).length = 0
            · have h00 := List.length_eq_zero_iff.1 h0
              refine ⟨W.heap.size, hW0', Nat.le_refl _, fun _ => rfl, ?_⟩
              rw [hnil.2 h00, h00]
              exact World.ownsRow_nil _ _ _ _
            · exact ⟨w.heap.size, Nat.le_refl _, hW0', fun h => absurd h h0, hrow⟩
          have H1 := Lib.hid hrow
          have H2 := Lib.hid hne
          have H3 := Lib.hid hbx
          have H4 := Lib.hid hP
          have H5 := Lib.hid hDs
          have H6 := Lib.hid hbl
          have H7 := Lib.hid hbs2
          have H8 := Lib.hid hrb
          obtain ⟨ol, hol⟩ : ∃ ol, std32o3 ++ pre = ol := ⟨_, rfl⟩
          rw [hol] at H1 H7 H8 hlen
          have HOL := Lib.hid hol
          obtain ⟨i0, hi, hz0, hz1, hz2⟩ := info_parts Try.infoInt
          clear hrow hnil hne hbx hP hDs hbl hbs2 hrb hol
          gi_wp2_with (gi_at_builtin; refine wpListIn_append_own _ rfl _ _ 22 rfl bs 3 i0 (.int .i64 0) 1 8 Try.underlying22 hi hz0 hz1 hz2 rfl (by decide) _ _ _ rfl (H8.out.alloc _) ⟨W.heap.size, 0, none⟩ 1 1 [.int .i64 x] rfl rfl (cell_one_new _ _ _) (by simp [Value.oneCell']) (by unfold maxLen; omega) (by omega) (by simp; omega) ?_; intro v' w1 hown' hgrow _; obtain ⟨g', cap', rfl⟩ := ownsRow_succ hown'; obtain ⟨q1, q2, q3, q4⟩ := OutInv.push hv H1.out H2.out H3.out H4.out H5.out H6.out hW0' (by omega) (by omega) (by omega) hbs H7.out hown' hgrow; have hc1 := q1.cell; have hf1 := q1.frozen; have Q2 := Lib.hid q2; have Q3 := Lib.hid q3; have Q4 := Lib.hid q4; clear q2 q3 q4 hown' hgrow)
          refine ⟨Q2.out.from _, Q3.out, ?_⟩
          have e : std32o3 ++ (pre ++ [x]) = ol ++ [x] := by rw [← HOL.out, List.append_assoc]
          show OutInv _ _ _ _ _ _ _ _ _ _ (std32o3 ++ (pre ++ [x])) _
          rw [e]
          exact Q4.out
        case done3 =>
          rintro D3 ys W4 hD rfl hI hK
          obtain ⟨⟨v, hv, hrow, hnil, _⟩, _, hP, hDs, hbl⟩ := hI
          have hz4 : w.heap.size + 2 ≤ W4.heap.size := by have := hv.lt; omega
          have HO4 : Hid (∃ v, Boxed W4 (w.heap.size + 1) 22 v ∧ W4.ownsRow w.heap.size 3 1 v (std32o4).length (I64s (std32o4)) ∧ (v = .slice none 0 0 ↔ std32o4 = [])) := ⟨v, hv, hrow, hnil⟩
          have HP4 := Lib.hid hP
          have HB4 := Lib.hid hbl
          have HD4 : Hid (∀ D ∈ ([D3, D2, D1, D0] : List Nat), W4.heap[D]? = some (.deferred (some []))) := by
            intro D hd
            rcases List.mem_cons.1 hd with rfl | hd
            · exact hK
            · exact hDs D hd
          have HL3 : Hid (W3.heap.size + 4 ≤ D3) := by unfold Hid; omega
          have HG3 : Hid (D3 < W4.heap.size) := lt_of_block hK
          clear hv hrow hnil hP hDs hbl hK hD hI3 HO3 HP3 HB3 HD3 HDx3 a0 a1 a2
          gi_wp2
          -- part 4
          rw [roundsIn_succ]
          have p0 : W4.cell? ⟨w.heap.size, 12, none⟩ = some (.int .i64 10000) := by simp [World.cell?, HP4.out, std32pc]
          have p1 : W4.cell? ⟨w.heap.size, 13, none⟩ = some (.int .i64 30000) := by simp [World.cell?, HP4.out, std32pc]
          have p2 : W4.cell? ⟨w.heap.size, 14, none⟩ = some (.int .i64 10000) := by simp [World.cell?, HP4.out, std32pc]
          have hsz4 : w.heap.size < W4.heap.size := by omega
          gi_wp2_with (refine ⟨trivial, ?_⟩; gi_at_call 50; refine (steps_in Fence.wide 4 trivial rfl _ _ _ _).mono ?_; rintro e w' ⟨rfl, rfl⟩)
          have a0 := ((Boxed.new (W4.alloc (.cells #[.int .i64 10000, .int .i64 30000, .int .i64 10000] 75)) 3 (.int .i64 10000)).alloc (.cells #[.int .i64 30000] 3)).alloc (.cells #[.int .i64 10000] 3)
          have a1 := (Boxed.new ((W4.alloc (.cells #[.int .i64 10000, .int .i64 30000, .int .i64 10000] 75)).alloc (.cells #[.int .i64 10000] 3)) 3 (.int .i64 30000)).alloc (.cells #[.int .i64 10000] 3)
          have a2 := Boxed.new (((W4.alloc (.cells #[.int .i64 10000, .int .i64 30000, .int .i64 10000] 75)).alloc (.cells #[.int .i64 10000] 3)).alloc (.cells #[.int .i64 30000] 3)) 3 (.int .i64 10000)
          simp only [World.size_alloc] at a0 a1 a2
          have hbx4 : Below W4.heap.size W4 ((((W4.alloc (.cells #[.int .i64 10000, .int .i64 30000, .int .i64 10000] 75)).alloc (.cells #[.int .i64 10000] 3)).alloc (.cells #[.int .i64 30000] 3)).alloc (.cells #[.int .i64 10000] 3)) := ((((Below.refl _ _).alloc (Nat.le_refl _) _).alloc (by simp) _).alloc (by simp; omega) _).alloc (by simp; omega) _
          obtain ⟨X4, hX4⟩ : ∃ X, (((W4.alloc (.cells #[.int .i64 10000, .int .i64 30000, .int .i64 10000] 75)).alloc (.cells #[.int .i64 10000] 3)).alloc (.cells #[.int .i64 30000] 3)).alloc (.cells #[.int .i64 10000] 3) = X := ⟨_, rfl⟩
          have hxs4 : X4.heap.size = W4.heap.size + 4 := by rw [← hX4]; simp
          rw [hX4] at a0 a1 a2 hbx4 ⊢
          clear hX4 p0 p1 p2
          have hI4 : OutInv w.heap.size (w.heap.size + 1) w.heap.size (W4.heap.size + 1) std32pc 10000 30000 10000 [D3, D2, D1, D0] w (std32o4 ++ []) X4 := by
            obtain ⟨v, hv, hrow, hnil⟩ := HO4.out
            rw [List.append_nil]
            refine ⟨⟨v, (hbx4.block _ hv.lt).trans hv, ?_, hnil, fun g hg => .inl (by have := (hrow.lt g hg).2; omega)⟩, ⟨a0, a1, a2⟩, (hbx4.block _ (lt_of_block HP4.out)).trans HP4.out, fun D hd => (hbx4.block _ (lt_of_block (HD4.out D hd))).trans (HD4.out D hd), HB4.out.trans (hbx4.mono (by omega))⟩
            refine ⟨hrow.1, ?_⟩
            rcases hrow.2 with h | ⟨g, cap, cur, h1, h2, h3, h4⟩
            · exact .inl h
            · exact .inr ⟨g, cap, cur, h1, h2, (hbx4.block _ (lt_of_block h3)).trans h3, h4⟩
          have HDx4 : ∀ D ∈ ([D3, D2, D1, D0] : List Nat), D < X4.heap.size := fun D hd => by have := lt_of_block (HD4.out D hd); omega
          refine wpIn_rangeFunc_ownG rfl h1 (gf := 60) (lb := #[.pointer (some ⟨W4.heap.size + 1, 0, none⟩), .pointer (some ⟨W4.heap.size + 1 + 1, 0, none⟩), .pointer (some ⟨W4.heap.size + 1 + 1 + 1, 0, none⟩)]) rfl trivial (enters_of Try.func60 (by kernel_rfl) rfl)
            (steps_stops Fence.wide 4 trivial rfl (by omega) (W4.heap.size + 1) 10000 30000 10000 3 X4 (by omega) (by omega) (by omega) (by intro k hk; omega) (by omega) (by omega) a0.cell a1.cell a2.cell) Keep3.trans (keep3_b (by omega)) (Below.refl _ _) (fun _ => rfl)
            (fun pre W => OutInv w.heap.size (w.heap.size + 1) w.heap.size (W4.heap.size + 1) std32pc 10000 30000 10000 [D3, D2, D1, D0] w (std32o4 ++ pre) W)
            (fun _ _ _ => False)
            (fun s A B row hs hg hr => hs.kept hg hr HDx4 (by omega) (by have := hs.2.2.2.2.size; omega))
            (fun _ _ _ _ _ hs _ _ => hs)
            hI4
            (fun x => { tmps := #[.int .i64 32, undef, .slice none 0 0, .int .i64 0, .slice (some ⟨w.heap.size, 0, none⟩) 6 6, .pointer (some ⟨w.heap.size + 1, 0, none⟩), undef, .pointer (some ⟨W4.heap.size, 0, none⟩), .int .i64 x, .int .i64 32, .bool true, .bool true, .agg #[.int .i64 1005, .int .i64 1005, .int .i64 1], .agg #[.int .i64 1010, .int .i64 1090, .int .i64 10], .agg #[.int .i64 1100, .int .i64 1900, .int .i64 100], .agg #[.int .i64 1000, .int .i64 9000, .int .i64 1000], .agg #[.int .i64 10000, .int .i64 30000, .int .i64 10000], .agg #[.int .i64 50000, .int .i64 50000, .int .i64 1], .slice (some ⟨w.heap.size, 0, none⟩) 6 6, undef, undef, undef, undef, undef, undef, undef, undef, undef, undef, undef, undef, undef, undef, undef, .slice (some ⟨w.heap.size, 0, none⟩) 6 6, .int .i64 6, .int .i64 4, .bool true, .pointer (some ⟨w.heap.size, 12, none⟩), .agg #[.int .i64 10000, .int .i64 30000, .int .i64 10000], .pointer (some ⟨W4.heap.size, 0, none⟩), .int .i64 10000, .pointer (some ⟨W4.heap.size, 1, none⟩), .int .i64 30000, .pointer (some ⟨W4.heap.size, 2, none⟩), .int .i64 10000, .func (.func 60) #[] #[.pointer (some ⟨W4.heap.size + 1, 0, none⟩), .pointer (some ⟨W4.heap.size + 1 + 1, 0, none⟩), .pointer (some ⟨W4.heap.size + 1 + 1 + 1, 0, none⟩)], .int .i64 x, undef, undef, undef, undef, .int .i64 4, undef, undef, undef], defers := [] }) ?assign4 ?body4 ?done4 ?stop4
          case assign4 =>
            intro l x W K hK
            gi_wp2
            exact hK
          case stop4 =>
            rintro D c pre W _ _ h _
            exact h.elim
          case body4 =>
            rintro l pre x W ⟨⟨v, hv, hrow, hnil, hne⟩, hbx, hP, hDs, hbl⟩ hlt
            have hc := hv.cell
            have hW0' : w.heap.size ≤ W.heap.size := hbl.size
            have hlen : (std32o4 ++ pre).length ≤ 1000 := by
              have : (std32o4).length ≤ 500 := by decide
              rw [List.length_append]; omega
            obtain ⟨bs, hbs, hbs1, hbs2, hrb⟩ : ∃ bs, w.heap.size ≤ bs ∧ bs ≤ W.heap.size ∧ ((std32o4 ++ pre).length = 0 → bs = W.heap.size) ∧ W.ownsRow bs 3 1 v (std32o4 ++ pre).length (I64s (std32o4 ++ pre)) := by
              by_cases h0 : (std32o4 ++ pre).length = 0
              · have h00 := List.length_eq_zero_iff.1 h0
                refine ⟨W.heap.size, hW0', Nat.le_refl _, fun _ => rfl, ?_⟩
                rw [hnil.2 h00, h00]
                exact World.ownsRow_nil _ _ _ _
              · exact ⟨w.heap.size, Nat.le_refl _, hW0', fun h => absurd h h0, hrow⟩
            have H1 := Lib.hid hrow
            have H2 := Lib.hid hne
            have H3 := Lib.hid hbx
            have H4 := Lib.hid hP
            have H5 := Lib.hid hDs
            have H6 := Lib.hid hbl
            have H7 := Lib.hid hbs2
            have H8 := Lib.hid hrb
            obtain ⟨ol, hol⟩ : ∃ ol, std32o4 ++ pre = ol := ⟨_, rfl⟩
            rw [hol] at H1 H7 H8 hlen
            have HOL := Lib.hid hol
            obtain ⟨i0, hi, hz0, hz1, hz2⟩ := info_parts Try.infoInt
            clear hrow hnil hne hbx hP hDs hbl hbs2 hrb hol
            gi_wp2_with (gi_at_builtin; refine wpListIn_append_own _ rfl _ _ 22 rfl bs 3 i0 (.int .i64 0) 1 8 Try.underlying22 hi hz0 hz1 hz2 rfl (by decide) _ _ _ rfl (H8.out.alloc _) ⟨W.heap.size, 0, none⟩ 1 1 [.int .i64 x] rfl rfl (cell_one_new _ _ _) (by simp [Value.oneCell']) (by unfold maxLen; omega) (by omega) (by simp; omega) ?_; intro v' w1 hown' hgrow _; obtain ⟨g', cap', rfl⟩ := ownsRow_succ hown'; obtain ⟨q1, q2, q3, q4⟩ := OutInv.push hv H1.out H2.out H3.out H4.out H5.out H6.out hW0' (by omega) (by omega) (by omega) hbs H7.out hown' hgrow; have hc1 := q1.cell; have hf1 := q1.frozen; have Q2 := Lib.hid q2; have Q3 := Lib.hid q3; have Q4 := Lib.hid q4; clear q2 q3 q4 hown' hgrow)
            refine ⟨Q2.out.from _, Q3.out, ?_⟩
            have e : std32o4 ++ (pre ++ [x]) = ol ++ [x] := by rw [← HOL.out, List.append_assoc]
            show OutInv _ _ _ _ _ _ _ _ _ _ (std32o4 ++ (pre ++ [x])) _
            rw [e]
            exact Q4.out
          case done4 =>
            rintro D4 ys W5 hD rfl hI hK
            obtain ⟨⟨v, hv, hrow, hnil, _⟩, _, hP, hDs, hbl⟩ := hI
            have hz5 : w.heap.size + 2 ≤ W5.heap.size := by have := hv.lt; omega
            have HO5 : Hid (∃ v, Boxed W5 (w.heap.size + 1) 22 v ∧ W5.ownsRow w.heap.size 3 1 v (std32o5).length (I64s (std32o5)) ∧ (v = .slice none 0 0 ↔ std32o5 = [])) := ⟨v, hv, hrow, hnil⟩
            have HP5 := Lib.hid hP
            have HB5 := Lib.hid hbl
            have HD5 : Hid (∀ D ∈ ([D4, D3, D2, D1, D0] : List Nat), W5.heap[D]? = some (.deferred (some []))) := by
              intro D hd
              rcases List.mem_cons.1 hd with rfl | hd
              · exact hK
              · exact hDs D hd
            have HL4 : Hid (W4.heap.size + 4 ≤ D4) := by unfold Hid; omega
            have HG4 : Hid (D4 < W5.heap.size) := lt_of_block hK
            clear hv hrow hnil hP hDs hbl hK hD hI4 HO4 HP4 HB4 HD4 HDx4 a0 a1 a2
            gi_wp2
            -- part 5
            rw [roundsIn_succ]
            have p0 : W5.cell? ⟨w.heap.size, 15, none⟩ = some (.int .i64 50000) := by simp [World.cell?, HP5.out, std32pc]
            have p1 : W5.cell? ⟨w.heap.size, 16, none⟩ = some (.int .i64 50000) := by simp [World.cell?, HP5.out, std32pc]
            have p2 : W5.cell? ⟨w.heap.size, 17, none⟩ = some (.int .i64 1) := by simp [World.cell?, HP5.out, std32pc]
            have hsz5 : w.heap.size < W5.heap.size := by omega
            gi_wp2_with (refine ⟨trivial, ?_⟩; gi_at_call 50; refine (steps_in Fence.wide 4 trivial rfl _ _ _ _).mono ?_; rintro e w' ⟨rfl, rfl⟩)
            have a0 := ((Boxed.new (W5.alloc (.cells #[.int .i64 50000, .int .i64 50000, .int .i64 1] 75)) 3 (.int .i64 50000)).alloc (.cells #[.int .i64 50000] 3)).alloc (.cells #[.int .i64 1] 3)
            have a1 := (Boxed.new ((W5.alloc (.cells #[.int .i64 50000, .int .i64 50000, .int .i64 1] 75)).alloc (.cells #[.int .i64 50000] 3)) 3 (.int .i64 50000)).alloc (.cells #[.int .i64 1] 3)
            have a2 := Boxed.new (((W5.alloc (.cells #[.int .i64 50000, .int .i64 50000, .int .i64 1] 75)).alloc (.cells #[.int .i64 50000] 3)).alloc (.cells #[.int .i64 50000] 3)) 3 (.int .i64 1)
            simp only [World.size_alloc] at a0 a1 a2
            have hbx5 : Below W5.heap.size W5 ((((W5.alloc (.cells #[.int .i64 50000, .int .i64 50000, .int .i64 1] 75)).alloc (.cells #[.int .i64 50000] 3)).alloc (.cells #[.int .i64 50000] 3)).alloc (.cells #[.int .i64 1] 3)) := ((((Below.refl _ _).alloc (Nat.le_refl _) _).alloc (by simp) _).alloc (by simp; omega) _).alloc (by simp; omega) _
            obtain ⟨X5, hX5⟩ : ∃ X, (((W5.alloc (.cells #[.int .i64 50000, .int .i64 50000, .int .i64 1] 75)).alloc (.cells #[.int .i64 50000] 3)).alloc (.cells #[.int .i64 50000] 3)).alloc (.cells #[.int .i64 1] 3) = X := ⟨_, rfl⟩
            have hxs5 : X5.heap.size = W5.heap.size + 4 := by rw [← hX5]; simp
            rw [hX5] at a0 a1 a2 hbx5 ⊢
            clear hX5 p0 p1 p2
            have hI5 : OutInv w.heap.size (w.heap.size + 1) w.heap.size (W5.heap.size + 1) std32pc 50000 50000 1 [D4, D3, D2, D1, D0] w (std32o5 ++ []) X5 := by
              obtain ⟨v, hv, hrow, hnil⟩ := HO5.out
              rw [List.append_nil]
              refine ⟨⟨v, (hbx5.block _ hv.lt).trans hv, ?_, hnil, fun g hg => .inl (by have := (hrow.lt g hg).2; omega)⟩, ⟨a0, a1, a2⟩, (hbx5.block _ (lt_of_block HP5.out)).trans HP5.out, fun D hd => (hbx5.block _ (lt_of_block (HD5.out D hd))).trans (HD5.out D hd), HB5.out.trans (hbx5.mono (by omega))⟩
              refine ⟨hrow.1, ?_⟩
              rcases hrow.2 with h | ⟨g, cap, cur, h1, h2, h3, h4⟩
              · exact .inl h
              · exact .inr ⟨g, cap, cur, h1, h2, (hbx5.block _ (lt_of_block h3)).trans h3, h4⟩
            have HDx5 : ∀ D ∈ ([D4, D3, D2, D1, D0] : List Nat), D < X5.heap.size := fun D hd => by have := lt_of_block (HD5.out D hd); omega
            refine wpIn_rangeFunc_ownG rfl h1 (gf := 60) (lb := #[.pointer (some ⟨W5.heap.size + 1, 0, none⟩), .pointer (some ⟨W5.heap.size + 1 + 1, 0, none⟩), .pointer (some ⟨W5.heap.size + 1 + 1 + 1, 0, none⟩)]) rfl trivial (enters_of Try.func60 (by kernel_rfl) rfl)
              (steps_stops Fence.wide 4 trivial rfl (by omega) (W5.heap.size + 1) 50000 50000 1 1 X5 (by omega) (by omega) (by omega) (by intro k hk; omega) (by omega) (by omega) a0.cell a1.cell a2.cell) Keep3.trans (keep3_b (by omega)) (Below.refl _ _) (fun _ => rfl)
              (fun pre W => OutInv w.heap.size (w.heap.size + 1) w.heap.size (W5.heap.size + 1) std32pc 50000 50000 1 [D4, D3, D2, D1, D0] w (std32o5 ++ pre) W)
              (fun _ _ _ => False)
              (fun s A B row hs hg hr => hs.kept hg hr HDx5 (by omega) (by have := hs.2.2.2.2.size; omega))
              (fun _ _ _ _ _ hs _ _ => hs)
              hI5
              (fun x => { tmps := #[.int .i64 32, undef, .slice none 0 0, .int .i64 0, .slice (some ⟨w.heap.size, 0, none⟩) 6 6, .pointer (some ⟨w.heap.size + 1, 0, none⟩), undef, .pointer (some ⟨W5.heap.size, 0, none⟩), .int .i64 x, .int .i64 32, .bool true, .bool true, .agg #[.int .i64 1005, .int .i64 1005, .int .i64 1], .agg #[.int .i64 1010, .int .i64 1090, .int .i64 10], .agg #[.int .i64 1100, .int .i64 1900, .int .i64 100], .agg #[.int .i64 1000, .int .i64 9000, .int .i64 1000], .agg #[.int .i64 10000, .int .i64 30000, .int .i64 10000], .agg #[.int .i64 50000, .int .i64 50000, .int .i64 1], .slice (some ⟨w.heap.size, 0, none⟩) 6 6, undef, undef, undef, undef, undef, undef, undef, undef, undef, undef, undef, undef, undef, undef, undef, .slice (some ⟨w.heap.size, 0, none⟩) 6 6, .int .i64 6, .int .i64 5, .bool true, .pointer (some ⟨w.heap.size, 15, none⟩), .agg #[.int .i64 50000, .int .i64 50000, .int .i64 1], .pointer (some ⟨W5.heap.size, 0, none⟩), .int .i64 50000, .pointer (some ⟨W5.heap.size, 1, none⟩), .int .i64 50000, .pointer (some ⟨W5.heap.size, 2, none⟩), .int .i64 1, .func (.func 60) #[] #[.pointer (some ⟨W5.heap.size + 1, 0, none⟩), .pointer (some ⟨W5.heap.size + 1 + 1, 0, none⟩), .pointer (some ⟨W5.heap.size + 1 + 1 + 1, 0, none⟩)], .int .i64 x, undef, undef, undef, undef, .int .i64 5, undef, undef, undef], defers := [] }) ?assign5 ?body5 ?done5 ?stop5
            case assign5 =>
              intro l x W K hK
              gi_wp2
              exact hK
            case stop5 =>
              rintro D c pre W _ _ h _
              exact h.elim
            case body5 =>
              rintro l pre x W ⟨⟨v, hv, hrow, hnil, hne⟩, hbx, hP, hDs, hbl⟩ hlt
              have hc := hv.cell
              have hW0' : w.heap.size ≤ W.heap.size := hbl.size
              have hlen : (std32o5 ++ pre).length ≤ 1000 := by
                have : (std32o5).length ≤ 500 := by decide
                rw [List.length_append]; omega
              obtain ⟨bs, hbs, hbs1, hbs2, hrb⟩ : ∃ bs, w.heap.size ≤ bs ∧ bs ≤ W.heap.size ∧ ((std32o5 ++ pre).length = 0 → bs = W.heap.size) ∧ W.ownsRow bs 3 1 v (std32o5 ++ pre).length (I64s (std32o5 ++ pre)) := by
                by_cases h0 : (std32o5 ++ pre).length = 0
                · have h00 := List.length_eq_zero_iff.1 h0
                  refine ⟨W.heap.size, hW0', Nat.le_refl _, fun _ => rfl, ?_⟩
                  rw [hnil.2 h00, h00]
                  exact World.ownsRow_nil _ _ _ _
                · exact ⟨w.heap.size, Nat.le_refl _, hW0', fun h => absurd h h0, hrow⟩
              have H1 := Lib.hid hrow
              have H2 := Lib.hid hne
              have H3 := Lib.hid hbx
              have H4 := Lib.hid hP
              have H5 := Lib.hid hDs
              have H6 := Lib.hid hbl
              have H7 := Lib.hid hbs2
              have H8 := Lib.hid hrb
              obtain ⟨ol, hol⟩ : ∃ ol, std32o5 ++ pre = ol := ⟨_, rfl⟩
              rw [hol] at H1 H7 H8 hlen
              have HOL := Lib.hid hol
              obtain ⟨i0, hi, hz0, hz1, hz2⟩ := info_parts Try.infoInt
              clear hrow hnil hne hbx hP hDs hbl hbs2 hrb hol
              gi_wp2_with (gi_at_builtin; refine wpListIn_append_own _ rfl _ _ 22 rfl bs 3 i0 (.int .i64 0) 1 8 Try.underlying22 hi hz0 hz1 hz2 rfl (by decide) _ _ _ rfl (H8.out.alloc _) ⟨W.heap.size, 0, none⟩ 1 1 [.int .i64 x] rfl rfl (cell_one_new _ _ _) (by simp [Value.oneCell']) (by unfold maxLen; omega) (by omega) (by simp; omega) ?_; intro v' w1 hown' hgrow _; obtain ⟨g', cap', rfl⟩ := ownsRow_succ hown'; obtain ⟨q1, q2, q3, q4⟩ := OutInv.push hv H1.out H2.out H3.out H4.out H5.out H6.out hW0' (by omega) (by omega) (by omega) hbs H7.out hown' hgrow; have hc1 := q1.cell; have hf1 := q1.frozen; have Q2 := Lib.hid q2; have Q3 := Lib.hid q3; have Q4 := Lib.hid q4; clear q2 q3 q4 hown' hgrow)
              refine ⟨Q2.out.from _, Q3.out, ?_⟩
              have e : std32o5 ++ (pre ++ [x]) = ol ++ [x] := by rw [← HOL.out, List.append_assoc]
              show OutInv _ _ _ _ _ _ _ _ _ _ (std32o5 ++ (pre ++ [x])) _
              rw [e]
              exact Q4.out
            case done5 =>
              rintro D5 ys W6 hD rfl hI hK
              obtain ⟨⟨v, hv, hrow, hnil, _⟩, _, hP, hDs, hbl⟩ := hI
              have hz6 : w.heap.size + 2 ≤ W6.heap.size := by have := hv.lt; omega
              have HO6 : Hid (∃ v, Boxed W6 (w.heap.size + 1) 22 v ∧ W6.ownsRow w.heap.size 3 1 v (std32o6).length (I64s (std32o6)) ∧ (v = .slice none 0 0 ↔ std32o6 = [])) := ⟨v, hv, hrow, hnil⟩
              have HP6 := Lib.hid hP
              have HB6 := Lib.hid hbl
              have HD6 : Hid (∀ D ∈ ([D5, D4, D3, D2, D1, D0] : List Nat), W6.heap[D]? = some (.deferred (some []))) := by
                intro D hd
                rcases List.mem_cons.1 hd with rfl | hd
                · exact hK
                · exact hDs D hd
              have HL5 : Hid (W5.heap.size + 4 ≤ D5) := by unfold Hid; omega
              have HG5 : Hid (D5 < W6.heap.size) := lt_of_block hK
              clear hv hrow hnil hP hDs hbl hK hD hI5 HO5 HP5 HB5 HD5 HDx5 a0 a1 a2
              gi_wp2
              rw [roundsIn_succ]
              have hsz6 : w.heap.size < W6.heap.size := by omega
              obtain ⟨v, hv, hrow, hnil⟩ := HO6.out
              obtain ⟨ol, hol⟩ : ∃ ol, std32o6 = ol := ⟨_, rfl⟩
              have hne : ol.length ≠ 0 ∧ ol.length ≤ 1000 := by rw [← hol]; decide
              rw [hol] at hrow
              obtain ⟨g, cap, rfl⟩ : ∃ g cap, v = .slice (some ⟨g, 0, none⟩) ol.length cap := by
                rcases hrow.2 with ⟨_, h⟩ | ⟨g, cap, _, rfl, _⟩
                · exact absurd h hne.1
                · exact ⟨g, cap, rfl⟩
              have hc := hv.cell
              have hnb := hv.not_row (by decide) hrow
              have Hrow := Lib.hid hrow
              have Hv := Lib.hid hv
              have Hnb := Lib.hid hnb
              have Hol := Lib.hid hol
              have Hne := Lib.hid hne
              clear hv hrow hnil hnb hol hne
              gi_wp2_with (refine ⟨trivial, ?_⟩; gi_at_call 51; refine callsIn_wide.2 (sort_own w.heap.size g cap ol _ Hrow.out (by have := Hne.out.2; omega) _ ?_); intro w5 hg5 hr5; have hc5 := (Hv.out.kept hg5 Hnb.out).cell; have HG5 := Lib.hid hg5; have HR5 := Lib.hid hr5; clear hg5 hr5)
              have hDD : ∀ D, D ∈ [D5, D4, D3, D2, D1, D0] → w5.heap[D]? = some (.deferred (some [])) := by
                intro D hd
                have h := HD6.out D hd
                refine heap_kept h HG5.out (fun e => ?_)
                obtain ⟨c, hc⟩ := ownsRow_elem Hrow.out (show (Value.slice (some ⟨g, 0, none⟩) ol.length cap).ownBlock = some g from rfl)
                have e' : D = g := by simpa using e
                rw [e', hc] at h
                cases h
              have e5 : (w5).heap[D5]? = some (.deferred (some [])) := hDD D5 (by simp)
              have e4 : ((w5).putObj D5 (.deferred none)).heap[D4]? = some (.deferred (some [])) := by
                rw [World.putObj_heap_other (by have := HL5.out; have := HG4.out; omega)]
                exact hDD D4 (by simp)
              have e3 : (((w5).putObj D5 (.deferred none)).putObj D4 (.deferred none)).heap[D3]? = some (.deferred (some [])) := by
                rw [World.putObj_heap_other (by have := HL4.out; have := HG3.out; omega)]
                rw [World.putObj_heap_other (by have := HL5.out; have := HG3.out; have := HL4.out; have := HG4.out; omega)]
                exact hDD D3 (by simp)
              have e2 : ((((w5).putObj D5 (.deferred none)).putObj D4 (.deferred none)).putObj D3 (.deferred none)).heap[D2]? = some (.deferred (some [])) := by
                rw [World.putObj_heap_other (by have := HL3.out; have := HG2.out; omega)]
                rw [World.putObj_heap_other (by have := HL4.out; have := HG2.out; have := HL3.out; have := HG3.out; omega)]
                rw [World.putObj_heap_other (by have := HL5.out; have := HG2.out; have := HL3.out; have := HG3.out; have := HL4.out; have := HG4.out; omega)]
                exact hDD D2 (by simp)
              have e1 : (((((w5).putObj D5 (.deferred none)).putObj D4 (.deferred none)).putObj D3 (.deferred none)).putObj D2 (.deferred none)).heap[D1]? = some (.deferred (some [])) := by
                rw [World.putObj_heap_other (by have := HL2.out; have := HG1.out; omega)]
                rw [World.putObj_heap_other (by have := HL3.out; have := HG1.out; have := HL2.out; have := HG2.out; omega)]
                rw [World.putObj_heap_other (by have := HL4.out; have := HG1.out; have := HL2.out; have := HG2.out; have := HL3.out; have := HG3.out; omega)]
                rw [World.putObj_heap_other (by have := HL5.out; have := HG1.out; have := HL2.out; have := HG2.out; have := HL3.out; have := HG3.out; have := HL4.out; have := HG4.out; omega)]
                exact hDD D1 (by simp)
              have e0 : ((((((w5).putObj D5 (.deferred none)).putObj D4 (.deferred none)).putObj D3 (.deferred none)).putObj D2 (.deferred none)).putObj D1 (.deferred none)).heap[D0]? = some (.deferred (some [])) := by
                rw [World.putObj_heap_other (by have := HL1.out; have := HG0.out; omega)]
                rw [World.putObj_heap_other (by have := HL2.out; have := HG0.out; have := HL1.out; have := HG1.out; omega)]
                rw [World.putObj_heap_other (by have := HL3.out; have := HG0.out; have := HL1.out; have := HG1.out; have := HL2.out; have := HG2.out; omega)]
                rw [World.putObj_heap_other (by have := HL4.out; have := HG0.out; have := HL1.out; have := HG1.out; have := HL2.out; have := HG2.out; have := HL3.out; have := HG3.out; omega)]
                rw [World.putObj_heap_other (by have := HL5.out; have := HG0.out; have := HL1.out; have := HG1.out; have := HL2.out; have := HG2.out; have := HL3.out; have := HG3.out; have := HL4.out; have := HG4.out; omega)]
                exact hDD D0 (by simp)
              refine ⟨by simp, .inl ⟨_, _, rfl, run_takeDeferred e5, ⟨by simp, .inl ⟨_, _, rfl, run_takeDeferred e4, ⟨by simp, .inl ⟨_, _, rfl, run_takeDeferred e3, ⟨by simp, .inl ⟨_, _, rfl, run_takeDeferred e2, ⟨by simp, .inl ⟨_, _, rfl, run_takeDeferred e1, ⟨by simp, .inl ⟨_, _, rfl, run_takeDeferred e0, ?_⟩⟩⟩⟩⟩⟩⟩⟩⟩⟩⟩⟩
              refine ⟨_, results_tmp2 rfl _ _ _, ?_⟩
              have hg0 : w.heap.size ≤ g := (Hrow.out.lt g rfl).1
              have b6 : Below w.heap.size w w5 := HB6.out.grown HG5.out (by omega) (fun k e => by cases e; exact hg0)
              have r6 := HR5.out
              have z6 : W6.heap.size ≤ w5.heap.size := HG5.out.size
              have r5 := ownsRow_putObj r6 (.deferred none) e5 rfl
              have b5 := b6.grown (grownBy_putObj' (w5) D5 (.deferred none)) (by first | omega | (simp; omega)) (fun k e => by cases e; have := HL5.out; omega)
              have r4 := ownsRow_putObj r5 (.deferred none) e4 rfl
              have b4 := b5.grown (grownBy_putObj' ((w5).putObj D5 (.deferred none)) D4 (.deferred none)) (by first | omega | (simp; omega)) (fun k e => by cases e; have := HL4.out; omega)
              have r3 := ownsRow_putObj r4 (.deferred none) e3 rfl
              have b3 := b4.grown (grownBy_putObj' (((w5).putObj D5 (.deferred none)).putObj D4 (.deferred none)) D3 (.deferred none)) (by first | omega | (simp; omega)) (fun k e => by cases e; have := HL3.out; omega)
              have r2 := ownsRow_putObj r3 (.deferred none) e2 rfl
              have b2 := b3.grown (grownBy_putObj' ((((w5).putObj D5 (.deferred none)).putObj D4 (.deferred none)).putObj D3 (.deferred none)) D2 (.deferred none)) (by first | omega | (simp; omega)) (fun k e => by cases e; have := HL2.out; omega)
              have r1 := ownsRow_putObj r2 (.deferred none) e1 rfl
              have b1 := b2.grown (grownBy_putObj' (((((w5).putObj D5 (.deferred none)).putObj D4 (.deferred none)).putObj D3 (.deferred none)).putObj D2 (.deferred none)) D1 (.deferred none)) (by first | omega | (simp; omega)) (fun k e => by cases e; have := HL1.out; omega)
              have r0 := ownsRow_putObj r1 (.deferred none) e0 rfl
              have b0 := b1.grown (grownBy_putObj' ((((((w5).putObj D5 (.deferred none)).putObj D4 (.deferred none)).putObj D3 (.deferred none)).putObj D2 (.deferred none)).putObj D1 (.deferred none)) D0 (.deferred none)) (by first | omega | (simp; omega)) (fun k e => by cases e; have := HL0.out; omega)
              have ho : OwnL (((((((w5).putObj D5 (.deferred none)).putObj D4 (.deferred none)).putObj D3 (.deferred none)).putObj D2 (.deferred none)).putObj D1 (.deferred none)).putObj D0 (.deferred none)) w.heap.size 3 1 (.slice (some ⟨g, 0, none⟩) ol.length cap) ol.length (I64s (sortL ol)) := ⟨r0, by have := Hne.out.1; constructor <;> intro h <;> first | (cases h) | (exact absurd h this)⟩
              obtain ⟨ao, c, hv, hcs, _, _⟩ := ho.read
              obtain ⟨rfl, _, rfl⟩ := Value.slice.inj hv
              have hRR := HR.out
              rw [show std32o6 = ol from Hol.out, sortL_length] at hRR
              exact hRR g _ _ b0 hcs

end Go.Proofs.Ytdmolmdenfepkaa

