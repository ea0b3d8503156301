/- The walks of slices.AppendSeq, Collect, Sorted over slices.Values. -/
import Derived.Test.YtdmolmdenfepkaaGe
namespace Go.Proofs.Ytdmolmdenfepkaa
open Go.RowKit Go.Shelf Go.Sort
attribute [local go_sem] Oper.semAt_some

set_option maxRecDepth 100000 in
set_option maxHeartbeats 2000000 in
theorem appendSeq_v (Bs b off cap : Nat) (zs : List Int) (hreach : zs.length ≤ 1000) (w : World) (hBs : Bs < w.heap.size) (hb : b < w.heap.size)
    (hc : w.cell? ⟨Bs, 0, none⟩ = some (.slice (some ⟨b, off, none⟩) zs.length cap)) (hI : ∀ j, j < zs.length → w.cell? ⟨b, off + j, none⟩ = some (.int .i64 (at0 zs j))) :
    CallsIn Fence.wide 5 Try.prog 64 #[.slice none 0 0, .func (.func 57) #[] #[.pointer (some ⟨Bs, 0, none⟩)]] w fun e w' =>
      ∃ v, e = .returned v ∧ w'.ownsRow w.heap.size 3 1 v zs.length (I64s zs) ∧ (v = .slice none 0 0 ↔ zs = []) ∧ Below w.heap.size w w' := by
  have HI := Lib.hid hI
  clear hI
  refine callsIn_of_wp_marks Try.func64 rfl trivial ?_ rfl
  simp only [Try.ntmps64, List.size_toArray, List.length_cons, List.length_nil, Nat.reduceAdd, Nat.reduceSub, Array.replicate_succ, Array.replicate_zero, List.push_toArray, List.append_toArray, List.nil_append, List.cons_append]
  gi_wp2
  have bN := Boxed.new w 22 (.slice none 0 0)
  have hB0 : Below w.heap.size w (w.alloc (.cells #[.slice none 0 0] 22)) := (Below.refl _ w).alloc (Nat.le_refl _) _
  refine wpIn_rangeFunc_ownG rfl (show 1 ≤ 5 by omega) (gf := 57) (lb := #[.pointer (some ⟨Bs, 0, none⟩)]) rfl trivial (enters_of Try.func57 (by kernel_rfl) rfl)
    (values_stops Fence.wide 4 trivial rfl (by omega) Bs w.heap.size b off cap zs (by omega) (w.alloc (.cells #[.slice none 0 0] 22)) (by simp; omega) (by simp) hb ((hB0.cell (p := ⟨Bs, 0, none⟩) hBs).trans hc) (fun j hj => (hB0.cell (p := ⟨b, off + j, none⟩) hb).trans (HI.out j hj))) belowK_t (belowK_b (by simp)) (Below.refl _ _) (fun _ => rfl)
    (fun pre W => (∃ v, Boxed W w.heap.size 22 v ∧ W.ownsRow w.heap.size 3 1 v pre.length (I64s pre) ∧ (v = .slice none 0 0 ↔ pre = [])) ∧ Below w.heap.size w W)
    (fun _ _ _ => False)
    (OwnFrom.and (Own.from (holdsRow_own w.heap.size w.heap.size 22 3 1 (fun pre : List Int => pre.length) (fun pre => I64s pre) (fun pre v => (v = .slice none 0 0 ↔ pre = []))) _) (ownFrom_below (Nat.le_refl _) (by simp)))
    (fun _ _ _ _ _ hs _ _ => hs)
    ⟨⟨_, bN, World.ownsRow_nil _ _ _ _, by simp⟩, hB0⟩
    (fun x => { tmps := #[.slice none 0 0, .func (.func 57) #[] #[.pointer (some ⟨Bs, 0, none⟩)], .pointer (some ⟨w.heap.size, 0, none⟩), undef, .slice none 0 0, .int .i64 x, .func (.func 57) #[] #[.pointer (some ⟨Bs, 0, none⟩)], .int .i64 x, undef, undef, undef, undef, undef], defers := [] }) ?assign ?body ?done ?stop
  case assign =>
    intro l x W K hK
    gi_wp2
    exact hK
  case stop =>
    rintro D c pre W _ _ h _
    exact h.elim
  case body =>
    rintro l pre x W ⟨⟨v, hv, hrow, hnil⟩, hbl⟩ hlt
    have hc := hv.cell
    have hW0 : w.heap.size ≤ W.heap.size := hbl.size
    have H1 := Lib.hid hrow
    have H2 := Lib.hid hbl
    have H3 := Lib.hid hnil
    obtain ⟨i0, hi, hz0, hz1, hz2⟩ := info_parts Try.infoInt
    clear hrow hbl hnil
    gi_wp2_with (gi_at_builtin; refine wpListIn_append_own _ rfl _ _ 22 rfl w.heap.size 3 i0 (.int .i64 0) 1 8 Try.underlying22 hi hz0 hz1 hz2 rfl (by decide) _ _ _ rfl (H1.out.alloc _) ⟨W.heap.size, 0, none⟩ 1 1 [.int .i64 x] rfl rfl (cell_one_new _ _ _) (by simp [Value.oneCell']) (by unfold maxLen; omega) (by omega) (by simp; omega) ?_; intro v' w1 hown' hgrow _; obtain ⟨g', cap', rfl⟩ := ownsRow_succ hown'; obtain ⟨q1, q2, q3, q4, q5⟩ := hv.appended (by decide) H1.out hW0 (Nat.le_refl _) hown' hgrow; have hc1 := q1.cell; have hf1 := q1.frozen; have Q2 := Lib.hid q2; have Q3 := Lib.hid q3; have Q4 := Lib.hid q4; have Q5 := Lib.hid q5; clear q2 q3 q4 q5 hown' hgrow)
    exact ⟨Q4.out.from _, Q5.out, ⟨_, Q2.out, by have := Q3.out; simpa [I64s] using this, by simp⟩, H2.out.trans Q5.out⟩
  case done =>
    rintro D ys W hD rfl ⟨⟨v, hv, hrow, hnil⟩, hbl⟩ hK
    have hc := hv.cell
    have H1 := Lib.hid hrow
    have H2 := Lib.hid hbl
    have H3 := Lib.hid hnil
    have H4 := Lib.hid hK
    clear hrow hbl hnil hK
    gi_wp2
    refine ⟨by simp, .inl ⟨_, _, rfl, run_takeDeferred H4.out, ?_⟩⟩
    rw [World.size_alloc] at hD
    have h5 : Below w.heap.size w (W.putObj D (.deferred none)) := H2.out.grown (row := some D) (grownBy_putObj' _ _ _) H2.out.size (fun k e => by cases e; omega)
    exact ⟨_, results_tmp rfl _ _ _, v, rfl, ownsRow_putObj H1.out _ H4.out rfl, H3.out, h5⟩

theorem collect_v (Bs b off cap : Nat) (zs : List Int) (hreach : zs.length ≤ 1000) (w : World) (hBs : Bs < w.heap.size) (hb : b < w.heap.size)
    (hc : w.cell? ⟨Bs, 0, none⟩ = some (.slice (some ⟨b, off, none⟩) zs.length cap)) (hI : ∀ j, j < zs.length → w.cell? ⟨b, off + j, none⟩ = some (.int .i64 (at0 zs j))) (R : Ending → World → Prop)
    (hR : ∀ v w', Below w.heap.size w w' → OwnL w' w.heap.size 3 1 v zs.length (I64s zs) → R (.returned v) w') :
    Calls Try.prog 56 #[.func (.func 57) #[] #[.pointer (some ⟨Bs, 0, none⟩)]] w R := by
  have HR := Lib.hid hR
  have HI := Lib.hid hI
  clear hR hI
  go_enter Try.func56, Try.ntmps56
  go_wp2_with fail
  refine ((callsIn_wide (n := 5)).1 (appendSeq_v Bs b off cap zs hreach w hBs hb hc HI.out)).mono ?_
  rintro e w' ⟨v, rfl, h1, h2, h3⟩
  have H1 : Hid (OwnL w' w.heap.size 3 1 v zs.length (I64s zs)) := ⟨h1, h2.trans List.length_eq_zero_iff.symm⟩
  have H3 := Lib.hid h3
  clear h1 h2 h3
  go_wp2_with fail
  exact HR.out _ _ H3.out H1.out
end Go.Proofs.Ytdmolmdenfepkaa
