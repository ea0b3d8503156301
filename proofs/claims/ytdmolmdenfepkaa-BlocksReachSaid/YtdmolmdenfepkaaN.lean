/- The loop over 'steps' that collects: what it holds. -/
import Derived.Test.YtdmolmdenfepkaaM
namespace Go.Proofs.Ytdmolmdenfepkaa
open Go.RowKit Go.Shelf

theorem ownsRow_mono {w : World} {base base' : Nat} {e : TypeId} {size : Nat} {v : Value} {n : Nat} {xs : List Value} (h : w.ownsRow base e size v n xs) (hb : base' ≤ base) : w.ownsRow base' e size v n xs := by
  refine ⟨h.1, ?_⟩
  rcases h.2 with h1 | ⟨g, cap, cur, h1, h2, h3⟩
  · exact .inl h1
  · exact .inr ⟨g, cap, cur, h1, by omega, h3⟩

def OutInv (B0 Bo Pb lo : Nat) (pc : List Value) (low high step : Int) (Ds : List Nat) (w0 : World) (outl : List Int) (W : World) : Prop :=
  (∃ v, Boxed W Bo 22 v ∧ W.ownsRow B0 3 1 v outl.length (I64s outl) ∧ (v = .slice none 0 0 ↔ outl = []) ∧ (∀ g, v.ownBlock = some g → g < lo ∨ lo + 3 ≤ g)) ∧
  (Boxed W lo 3 (.int .i64 low) ∧ Boxed W (lo + 1) 3 (.int .i64 high) ∧ Boxed W (lo + 2) 3 (.int .i64 step)) ∧
  W.heap[Pb]? = some (.cells pc.toArray 75 (0, 0)) ∧ (∀ D ∈ Ds, W.heap[D]? = some (.deferred (some []))) ∧ Below B0 w0 W

theorem heap_kept {W W' : World} {row : Option Nat} {k : Nat} {o : Obj} (h : W.heap[k]? = some o) (hg : W.grownBy W' row) (hne : some k ≠ row) : W'.heap[k]? = some o :=
  (hg.block k (lt_of_block h) hne).trans h

theorem cells_not_row {W : World} {k : Nat} {c : Array Value} {t e : TypeId} (h : W.heap[k]? = some (.cells c t (0, 0))) (hte : t ≠ e) {base size n : Nat} {v : Value} {xs : List Value} (hr : W.ownsRow base e size v n xs) : some k ≠ v.ownBlock := by
  rcases hr.2 with ⟨rfl, _⟩ | ⟨g, cap, cur, rfl, _, hgb, _⟩
  · simp [Value.ownBlock]
  · intro e'
    obtain rfl : k = g := by simpa [Value.ownBlock] using e'
    rw [h] at hgb; cases hgb; exact hte rfl

theorem OutInv.kept {B0 Bo Pb lo : Nat} {pc : List Value} {low high step : Int} {Ds : List Nat} {w0 : World} {outl : List Int} {W W' : World} {row : Option Nat} {Bm : Nat}
    (h : OutInv B0 Bo Pb lo pc low high step Ds w0 outl W) (hg : W.grownBy W' row) (hr : ∀ r, row = some r → Bm ≤ r ∧ ∃ o : Obj, W.heap[r]? = some o ∧ o.isCells = false)
    (hD : ∀ D ∈ Ds, D < Bm) (hB : B0 ≤ Bm) (hW0 : B0 ≤ W.heap.size) : OutInv B0 Bo Pb lo pc low high step Ds w0 outl W' := by
  obtain ⟨⟨v, hv, hrow, hn, hb⟩, ⟨b1, b2, b3⟩, hP, hDs, hbl⟩ := h
  have hne : ∀ {k : Nat} {c : Array Value} {t : TypeId} {f : Nat × Nat}, W.heap[k]? = some (.cells c t f) → some k ≠ row := by
    intro k c t f hk e
    obtain ⟨_, o, ho, hc⟩ := hr k e.symm
    rw [hk] at ho; cases ho; cases hc
  refine ⟨⟨v, hv.kept hg (hne hv), hrow.kept hg ?_, hn, hb⟩, ⟨b1.kept hg (hne b1), b2.kept hg (hne b2), b3.kept hg (hne b3)⟩, heap_kept hP hg (hne hP), fun D hd => heap_kept (hDs D hd) hg ?_, hbl.grown hg ?_ ?_⟩
  · cases hv : v.ownBlock with
    | none => exact .inl rfl
    | some g => exact .inr (by obtain ⟨c, hc⟩ := ownsRow_elem hrow hv; exact hne hc)
  · intro e; have := (hr D e.symm).1; have := hD D hd; omega
  · exact hW0
  · intro k e; have := (hr k e).1; omega

/-- The round of the loop: what the append and the store leave. -/
theorem OutInv.push {B0 Bo Pb lo bs : Nat} {pc : List Value} {low high step x : Int} {Ds : List Nat} {w0 : World} {outl : List Int} {W w1 : World} {v v' : Value} {tmp : Obj}
    (hv : Boxed W Bo 22 v) (hrow : W.ownsRow B0 3 1 v outl.length (I64s outl)) (hne : ∀ g, v.ownBlock = some g → g < lo ∨ lo + 3 ≤ g)
    (hbx : Boxed W lo 3 (.int .i64 low) ∧ Boxed W (lo + 1) 3 (.int .i64 high) ∧ Boxed W (lo + 2) 3 (.int .i64 step))
    (hP : W.heap[Pb]? = some (.cells pc.toArray 75 (0, 0))) (hDs : ∀ D ∈ Ds, W.heap[D]? = some (.deferred (some []))) (hbl : Below B0 w0 W)
    (hW0 : B0 ≤ W.heap.size) (hBo : B0 ≤ Bo) (hBlo : Bo < lo) (hPlo : Pb < lo) (hbs : B0 ≤ bs) (hbs0 : outl.length = 0 → bs = W.heap.size)
    (hown : w1.ownsRow bs 3 1 v' (outl.length + 1) (I64s outl ++ [.int .i64 x])) (hgrow : (W.alloc tmp).grownBy w1 v.ownBlock) :
    Boxed w1 Bo 22 v ∧ KeepsOthers W (w1.setCell ⟨Bo, 0, none⟩ v') ∧ Keep3 lo W (w1.setCell ⟨Bo, 0, none⟩ v') ∧ OutInv B0 Bo Pb lo pc low high step Ds w0 (outl ++ [x]) (w1.setCell ⟨Bo, 0, none⟩ v') := by
  obtain ⟨a1, a2, a3, a4, a5⟩ := hv.appended (by decide) hrow hW0 hBo (ownsRow_mono hown hbs) hgrow
  have hb : ∀ {k : Nat} {u : Value}, lo ≤ k → k < lo + 3 → Boxed W k 3 u → Boxed w1 k 3 u := fun {k u} h1 h2 h =>
    (h.alloc tmp).kept hgrow (fun e => by have := hne k e.symm; omega)
  have hb' : ∀ {k : Nat} {u : Value}, lo ≤ k → k < lo + 3 → Boxed W k 3 u → Boxed (w1.setCell ⟨Bo, 0, none⟩ v') k 3 u := fun h1 h2 h => (hb h1 h2 h).other (by omega) v'
  obtain ⟨b1, b2, b3⟩ := hbx
  have c1 := hb' (Nat.le_refl _) (by omega) b1
  have c2 := hb' (by omega) (by omega) b2
  have c3 := hb' (by omega) (by omega) b3
  refine ⟨a1, a4, ?_, ⟨v', a2, by simpa [I64s] using a3, ?_, ?_⟩, ⟨c1, c2, c3⟩, ?_, fun D hd => a4.same D _ (hDs D hd) rfl, hbl.trans a5⟩
  · intro k h1 h2
    rcases (show k = lo ∨ k = lo + 1 ∨ k = lo + 2 by omega) with rfl | rfl | rfl
    · exact (show _ = _ from c1).trans (show _ = _ from b1).symm
    · exact (show _ = _ from c2).trans (show _ = _ from b2).symm
    · exact (show _ = _ from c3).trans (show _ = _ from b3).symm
  · obtain ⟨g, cap, rfl⟩ := ownsRow_succ hown
    simp
  · intro g hg
    by_cases h0 : outl.length = 0
    · have h1 := (hown.lt g hg).1
      have h2 := b3.lt
      have h3 := hbs0 h0
      omega
    · by_cases h1 : lo ≤ g ∧ g < lo + 3
      · exfalso
        have hcap : ∃ u, Boxed w1 g 3 u := by
          rcases (show g = lo ∨ g = lo + 1 ∨ g = lo + 2 by omega) with rfl | rfl | rfl
          · exact ⟨_, hb (by omega) (by omega) b1⟩
          · exact ⟨_, hb (by omega) (by omega) b2⟩
          · exact ⟨_, hb (by omega) (by omega) b3⟩
        obtain ⟨u, hu⟩ := hcap
        rcases hown.2 with ⟨rfl, _⟩ | ⟨g', cap, cur, rfl, _, hgb, hle, _, hsz, _⟩
        · simp [Value.ownBlock] at hg
        · obtain rfl : g' = g := by simpa [Value.ownBlock] using hg
          rw [show w1.heap[g']? = _ from hu] at hgb
          cases hgb
          simp at hsz
          omega
      · omega
  · have h1 : (W.alloc tmp).heap[Pb]? = some (.cells pc.toArray 75 (0, 0)) := (Below.heap_alloc _ _ _ (lt_of_block hP)).trans hP
    have h2 := heap_kept h1 hgrow (cells_not_row h1 (by decide) (hrow.alloc tmp))
    rw [Below.heap_setCell _ _ _ _ (fun e => ?_)]
    · exact h2
    · have h3 := (show w1.heap[Bo]? = _ from a1)
      rw [show Bo = Pb from e.symm, h2] at h3
      simp at h3

theorem steps_in (F : Fence) (n : Nat) (h5 : F.fn 50) (hro : F.round = none) (a b c : Int) (w : World) :
    CallsIn F n Try.prog 50 #[.int .i64 a, .int .i64 b, .int .i64 c] w fun e w' => e = .returned (.func (.func 60) #[] #[.pointer (some ⟨w.heap.size, 0, none⟩), .pointer (some ⟨w.heap.size + 1, 0, none⟩), .pointer (some ⟨w.heap.size + 2, 0, none⟩)]) ∧
      w' = ((w.alloc (.cells #[.int .i64 a] 3)).alloc (.cells #[.int .i64 b] 3)).alloc (.cells #[.int .i64 c] 3) := by
  refine callsIn_of_wp Try.func50 rfl h5 ?_ hro
  simp only [Try.ntmps50, List.size_toArray, List.length_cons, List.length_nil, Nat.reduceAdd, Nat.reduceSub, Array.replicate_succ, Array.replicate_zero, List.push_toArray, List.append_toArray, List.nil_append, List.cons_append]
  gi_wp2
  go_ret
  exact ⟨rfl, rfl⟩

theorem steps_stops (F : Fence) (n : Nat) (h6 : F.fn 60) (hro : F.round = none) (hn : 1 ≤ n) (lo : Nat) (low high step : Int) (cnt : Nat) (w : World)
    (h0 : 0 ≤ low ∧ low ≤ 200000) (hs : 1 ≤ step ∧ step ≤ 200000) (hcn : cnt ≤ 1000) (hh : ∀ k : Nat, k < cnt → low + k * step ≤ high) (hh2 : high < low + cnt * step)
    (hlo : lo + 3 ≤ w.heap.size) (hb0 : w.cell? ⟨lo, 0, none⟩ = some (.int .i64 low)) (hb1 : w.cell? ⟨lo + 1, 0, none⟩ = some (.int .i64 high)) (hb2 : w.cell? ⟨lo + 2, 0, none⟩ = some (.int .i64 step)) :
    SeqStopsK F n Try.prog 60 #[.pointer (some ⟨lo, 0, none⟩), .pointer (some ⟨lo + 1, 0, none⟩), .pointer (some ⟨lo + 2, 0, none⟩)] (fun x : Int => #[Value.int .i64 x]) (Keep3 lo)
      (fun ys => ys = stepNums low step cnt) (fun pre => pre <+: stepNums low step cnt) cnt w := fun l J Jx W hW _ _ hY hJ0 =>
  stepsIt_in F n h6 hro hn l lo low high step cnt J Jx h0 hs hcn hh hh2 hY W ((hW.cell (p := ⟨lo, 0, none⟩) (show lo < w.heap.size by omega)).trans hb0) ((hW.cell (p := ⟨lo + 1, 0, none⟩) (show lo + 1 < w.heap.size by omega)).trans hb1) ((hW.cell (p := ⟨lo + 2, 0, none⟩) (show lo + 2 < w.heap.size by omega)).trans hb2) hJ0
end Go.Proofs.Ytdmolmdenfepkaa
