/- The walk of States of package recall. -/
import Derived.Test.YtfamennpajjajaaRo
import Derived.Test.YtfamennpajjajaaRg
namespace Go.Proofs.Ytfamennpajjajaa
open Go.RowKit Go.Maps
attribute [local go_sem] Oper.semAt_some

theorem infoI53 : (Try.prog.info? 3).map (fun i => (i.zero, i.size, i.bytes)) = some (some (.int .i64 0), 1, 8) := by kernel_rfl
def stL (vs : List Ev) : List Int := (List.range vs.length).map (stt vs)
theorem stL_length (vs : List Ev) : (stL vs).length = vs.length := by simp [stL]
/-- What is in the row when the last k states are known. -/
def stK (vs : List Ev) (k : Nat) : List Int := (List.range vs.length).map fun i => if vs.length - k ≤ i then stt vs i else 0
theorem stK_zero (vs : List Ev) : I64s (stK vs 0) = reps vs.length (.int .i64 0) := by
  unfold stK I64s reps
  rw [List.map_map, List.eq_replicate_iff]
  refine ⟨by simp, fun b hb => ?_⟩
  rw [List.mem_map] at hb
  obtain ⟨i, hi, rfl⟩ := hb
  have := List.mem_range.1 hi
  simp; omega
theorem stK_all (vs : List Ev) : stK vs vs.length = stL vs := by
  unfold stK stL
  apply List.map_congr_left
  intro i _; simp
theorem stK_get (vs : List Ev) (k i : Nat) (hi : i < vs.length) : (stK vs k)[i]? = some (if vs.length - k ≤ i then stt vs i else 0) := by
  unfold stK
  rw [List.getElem?_map, List.getElem?_range hi]; rfl
theorem stK_length (vs : List Ev) (k : Nat) : (stK vs k).length = vs.length := by simp [stK]
theorem stK_succ {vs : List Ev} {k x : Nat} (hk : k < vs.length) (hx : x = vs.length - 1 - k) : (stK vs k).set x (stt vs x) = stK vs (k + 1) := by
  apply List.ext_getElem?
  intro i
  by_cases hi : i < vs.length
  · rw [List.getElem?_set, stK_get vs (k + 1) i hi]
    by_cases e : x = i
    · rw [if_pos e, if_pos (by rw [stK_length]; omega), if_pos (by omega), e]
    · rw [if_neg e, stK_get vs k i hi]
      by_cases e2 : vs.length - k ≤ i
      · rw [if_pos e2, if_pos (by omega)]
      · rw [if_neg e2, if_neg (by omega)]
  · rw [List.getElem?_eq_none (by rw [List.length_set, stK_length]; omega), List.getElem?_eq_none (by rw [stK_length]; omega)]
theorem cellsOf_heap {W : World} {b : Nat} {cs : List Value} {t : TypeId} (h : W.heap[b]? = some (.cells cs.toArray t (0, 0))) : CellsAt W (some ⟨b, 0, none⟩) cs := by
  intro _
  refine ⟨b, 0, rfl, lt_of_block h, fun j hj => ?_⟩
  simp [World.cell?, h, List.getD, hj]
theorem chk3_le {vs : List Ev} (h : chk3 vs = 0) : vs.length ≤ 4096 := by
  unfold chk3 at h
  by_cases e : 4096 < vs.length
  · rw [if_pos e] at h; omega
  · omega

set_option maxRecDepth 100000 in
set_option maxHeartbeats 4000000 in
theorem states53_any (ao : Option Addr) (vs : List Ev) (c : Nat) (w : World) (R : Ending → World → Prop) (hl : vs.length ≤ 9223372036854775807) (hc : CellsAt w ao (eC vs)) (hv : LogOk vs)
   (hR1 : chk3 vs ≠ 0 → ∀ w', Below w.heap.size w w' → R (.returned (.tuple #[.slice none 0 0, .int .i64 (chk3 vs)])) w')
   (hR0 : chk3 vs = 0 → ∀ g w', Below w.heap.size w w' → w.heap.size ≤ g → CellsAt w' (some ⟨g, 0, none⟩) (I64s (stL vs)) → R (.returned (.tuple #[.slice (some ⟨g, 0, none⟩) vs.length vs.length, .int .i64 0])) w') :
    Calls Try.prog 11 #[.slice ao vs.length c] w R := by
  have HR1 := Lib.hid hR1
  have HR0 := Lib.hid hR0
  have HC := Lib.hid hc
  have HV := Lib.hid hv
  clear hR1 hR0 hc hv
  have h1 : 1 ≤ 6 := by omega
  obtain ⟨E, hE⟩ : ∃ E, Hid (chk3 vs = E) := ⟨_, rfl⟩
  refine (callsIn_wide (n := 6)).1 ?_
  refine callsIn_of_wp_marks Try.func11 rfl trivial ?_ rfl
  simp only [Try.ntmps11, List.size_toArray, List.length_cons, List.length_nil, Nat.reduceAdd, Nat.reduceSub, Array.replicate_succ, Array.replicate_zero, List.push_toArray, List.append_toArray, List.nil_append, List.cons_append]
  by_cases h0 : E = 0
  · subst h0
    have hln : vs.length ≤ 4096 := chk3_le hE.out
    gi_wp2_with (first | (refine ⟨trivial, ?_⟩; gi_at_call 16; refine callsIn_wide.2 (check53_any _ vs c _ _ hl HC.out HV.out ?_); intro w1 hb1; rw [hE.out]; have HB1 := Lib.hid hb1; have hmk := make_row (P := Try.prog) Try.underlying25 infoI53 rfl vs.length (by omega) (by omega) w1; clear hb1) | (refine ⟨trivial, ?_⟩; gi_at_call 38; refine (states_in Fence.wide 5 trivial rfl _ _ _ _).mono ?_; rintro e w' ⟨rfl, rfl⟩))
    have hB4 : Below w1.heap.size w1 (((w1.alloc (.cells (reps vs.length (.int .i64 0)).toArray 3)).alloc (.cells #[.slice (some ⟨w1.heap.size, 0, none⟩) vs.length vs.length] 25)).alloc (.cells #[.slice ao vs.length c] 22)) := (((Below.refl _ w1).alloc (Nat.le_refl _) _).alloc (by simp) _).alloc (by simp only [World.size_alloc]; omega) _
    have q0 : (((w1.alloc (.cells (reps vs.length (.int .i64 0)).toArray 3)).alloc (.cells #[.slice (some ⟨w1.heap.size, 0, none⟩) vs.length vs.length] 25)).alloc (.cells #[.slice ao vs.length c] 22)).heap[w1.heap.size]? = some (.cells (I64s (stK vs 0)).toArray 3 (0, 0)) := by
      rw [stK_zero, Below.heap_alloc _ _ _ (by simp only [World.size_alloc]; omega), Below.heap_alloc _ _ _ (by simp)]
      exact World.alloc_heap_new _ _
    have q1 : Boxed (((w1.alloc (.cells (reps vs.length (.int .i64 0)).toArray 3)).alloc (.cells #[.slice (some ⟨w1.heap.size, 0, none⟩) vs.length vs.length] 25)).alloc (.cells #[.slice ao vs.length c] 22)) (w1.heap.size + 1) 25 (.slice (some ⟨w1.heap.size, 0, none⟩) vs.length vs.length) := by
      have h := Boxed.new (w1.alloc (.cells (reps vs.length (.int .i64 0)).toArray 3)) 25 (.slice (some ⟨w1.heap.size, 0, none⟩) vs.length vs.length)
      rw [World.size_alloc] at h
      exact h.alloc _
    have q2 : Boxed (((w1.alloc (.cells (reps vs.length (.int .i64 0)).toArray 3)).alloc (.cells #[.slice (some ⟨w1.heap.size, 0, none⟩) vs.length vs.length] 25)).alloc (.cells #[.slice ao vs.length c] 22)) (w1.heap.size + 1 + 1) 22 (.slice ao vs.length c) := by
      have h := Boxed.new ((w1.alloc (.cells (reps vs.length (.int .i64 0)).toArray 3)).alloc (.cells #[.slice (some ⟨w1.heap.size, 0, none⟩) vs.length vs.length] 25)) 22 (.slice ao vs.length c)
      rw [World.size_alloc, World.size_alloc] at h
      exact h
    obtain ⟨W4, hW4⟩ : ∃ W4, (((w1.alloc (.cells (reps vs.length (.int .i64 0)).toArray 3)).alloc (.cells #[.slice (some ⟨w1.heap.size, 0, none⟩) vs.length vs.length] 25)).alloc (.cells #[.slice ao vs.length c] 22)) = W4 := ⟨_, rfl⟩
    have hs4 : W4.heap.size = w1.heap.size + 3 := by rw [← hW4]; simp
    rw [hW4] at q0 q1 q2 hB4 ⊢
    have hs1 := HB1.out.size
    have HB4 : Hid (Below w.heap.size w W4) := HB1.out.trans (hB4.mono hs1)
    have Q0 := Lib.hid q0
    have Q1 := Lib.hid q1
    have Q2 := Lib.hid q2
    clear hW4 hmk hB4 q0 q1 q2
    refine wpIn_rangeFunc_all (xs := dnp vs.length vs.length) (bs := logBs vs ao) rfl h1 (gf := 64) (lb := #[.pointer (some ⟨w1.heap.size + 1 + 1, 0, none⟩)]) rfl trivial (enters_of Try.func64 (by kernel_rfl) rfl)
      (states1_gives Fence.wide 5 trivial trivial trivial rfl rfl (by omega) (w1.heap.size + 1 + 1) _ ao vs c W4 (by omega) HV.out Q2.out.cell (by omega) (HC.out.below HB4.out) logBs_mem (logBs_lt (HC.out.below HB4.out))) (Below.refl _ _) (fun _ => rfl)
      (logBs_lt (HC.out.below HB4.out))
      (fun pre V => V.heap[w1.heap.size]? = some (.cells (I64s (stK vs pre.length)).toArray 3 (0, 0)) ∧ Boxed V (w1.heap.size + 1) 25 (.slice (some ⟨w1.heap.size, 0, none⟩) vs.length vs.length) ∧ Below w.heap.size w V)
      (fun s A B hs hAB => ⟨(hAB.block _ (by omega)).trans hs.1, (hAB.block _ (by omega)).trans hs.2.1, hs.2.2.trans (hAB.mono (by omega))⟩)
      ⟨Q0.out, Q1.out, HB4.out⟩
      (fun x a' V => ∃ Bx, W4.heap.size ≤ Bx ∧ V.heap[Bx]? = some (.cells #[.int .i64 (atN vs x), .int .i64 (stt vs x)] 65 (0, 0)) ∧ a' = { tmps := #[.slice ao vs.length c, undef, .slice none 0 0, .int .i64 0, .int .i64 0, .pointer (some ⟨w1.heap.size + 1, 0, none⟩), .int .i64 x, .pointer (some ⟨Bx, 0, none⟩), .slice ao vs.length c, .int .i64 0, .int .i64 0, .bool false, undef, .slice ao vs.length c, .int .i64 vs.length, .slice (some ⟨w1.heap.size, 0, none⟩) vs.length vs.length, .slice ao vs.length c, .func (.func 64) #[] #[.pointer (some ⟨w1.heap.size + 1 + 1, 0, none⟩)], .int .i64 x, .agg #[.int .i64 (atN vs x), .int .i64 (stt vs x)], undef, undef, undef, undef, undef, undef], defers := [] })
      (by rintro x a' V l' r o hl' ⟨Bx, h1, h2, h3⟩
          refine ⟨Bx, h1, (World.putObj_heap_other ?_).trans h2, h3⟩
          rintro rfl; rw [hl'] at h2; cases h2) ?assign ?body ?done
    case assign =>
      rintro l' pre x V K hi hsz hpre hK
      unfold stEnc
      gi_wp2
      refine hK _ _ ((Below.refl _ V).alloc (Nat.le_refl _) _) ⟨V.heap.size, hsz, World.alloc_heap_new _ _, rfl⟩
    case done =>
      rintro D V hD ⟨hr, ho, hb⟩ hK
      rw [dnp_length, stK_all] at hr
      have hoc := ho.cell
      have HRr := Lib.hid hr
      have HBb := Lib.hid hb
      clear hr hb ho
      gi_wp2
      refine endM (v := .tuple #[.slice (some ⟨w1.heap.size, 0, none⟩) vs.length vs.length, .int .i64 0]) hK (res2 (t := 2) (u := 3) rfl rfl rfl) (fun hp => HR0.out hE.out w1.heap.size _ (HBb.out.trans (hp.mono (by omega))) hs1 (cellsOf_heap ((World.putObj_heap_other (by omega)).trans HRr.out)))
    case body =>
      rintro l' pre x a' V ⟨hr, ho, hb⟩ ⟨Bx, hBx, hX, rfl⟩ hsz hpre
      obtain ⟨hlt, hpe, hxe⟩ := dnp_at hpre
      obtain ⟨k, hk⟩ : ∃ k, pre.length = k := ⟨_, rfl⟩
      rw [hk] at hlt hpe hxe hr
      have hxl : x < vs.length := by omega
      have hoc := ho.cell
      have hol := ho.lt
      have hof := ho.frozen
      have x1 := cell_at hX (j := 1) (v := .int .i64 (stt vs x)) rfl
      have hBxl : Bx < V.heap.size := lt_of_block hX
      have hB : Blk V w1.heap.size 3 (I64s (stK vs k)) := hr
      have hxl' : x < (stK vs k).length := by rw [stK_length]; exact hxl
      have hd0 : V.cell? ⟨w1.heap.size, x, none⟩ = some (.int .i64 (at0 (stK vs k) x)) := by
        rw [Blk.cell hB (by unfold I64s; rw [List.length_map]; exact hxl'), I64s_getD _ _ hxl']
      have hf0 := hB.frozen x
      have hl0 := hB.lt
      have HO := Lib.hid ho
      have HBV := Lib.hid hB
      have HBb := Lib.hid hb
      have HXE := Lib.hid hxe
      have HPE := Lib.hid hk
      have HSt : Hid ((stK vs k).set x (stt vs x) = stK vs (k + 1)) := stK_succ hlt hxe
      clear ho hr hB hb hxe hpe hk hX
      gi_wp2
      refine ⟨(KeepsUp.refl _ _).setCell (.inl (by show w1.heap.size < W4.heap.size; omega)) _, logBs_keep HC.out ((Below.refl _ _).setCell (by show w.heap.size ≤ w1.heap.size; omega) _), ?_, (Below.heap_setCell _ _ _ _ (by show w1.heap.size + 1 ≠ w1.heap.size; omega)).trans HO.out, HBb.out.trans ((Below.refl _ _).setCell (by show w.heap.size ≤ w1.heap.size; omega) _)⟩
      rw [List.length_append, HPE.out, List.length_singleton, ← HSt.out, show I64s ((stK vs k).set x (stt vs x)) = (I64s (stK vs k)).set x (.int .i64 (stt vs x)) from by unfold I64s; rw [List.map_set]]
      exact HBV.out.set x _
  · have HX := Lib.hid h0
    clear h0
    gi_wp2_with (first | (refine ⟨trivial, ?_⟩; gi_at_call 16; refine callsIn_wide.2 (check53_any _ vs c _ _ hl HC.out HV.out ?_); intro w1 hb1; rw [hE.out]; have HB1 := Lib.hid hb1; have h0 := HX.out; clear hb1))
    exact endM0 (v := .tuple #[.slice none 0 0, .int .i64 E]) (res2 (t := 2) (u := 3) rfl rfl rfl) (by have h := HR1.out (by rw [hE.out]; exact HX.out) w1 HB1.out; rw [hE.out] at h; exact h)
end Go.Proofs.Ytfamennpajjajaa
