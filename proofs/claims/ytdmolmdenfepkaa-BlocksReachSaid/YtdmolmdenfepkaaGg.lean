/- slices.Sorted over slices.Values; slices.Compact of what is the call's own; slices.IsSorted. -/
import Derived.Test.YtdmolmdenfepkaaGf
import Derived.Test.YtdmolmdenfepkaaGd
namespace Go.Proofs.Ytdmolmdenfepkaa
open Go.RowKit Go.Shelf Go.Sort

/-- slices.Sorted(slices.Values(s)): a new slice of the numbers, sorted. -/
theorem sorted_v (Bs b off cap : Nat) (zs : List Int) (hreach : zs.length ≤ 1000) (h0 : 0 < zs.length) (w : World) (hBs : Bs < w.heap.size) (hb : b < w.heap.size)
    (hc : w.cell? ⟨Bs, 0, none⟩ = some (.slice (some ⟨b, off, none⟩) zs.length cap)) (hI : ∀ j, j < zs.length → w.cell? ⟨b, off + j, none⟩ = some (.int .i64 (at0 zs j))) (R : Ending → World → Prop)
    (hR : ∀ g cap' w', Below w.heap.size w w' → w.heap.size ≤ g → w'.ownsRow w.heap.size 3 1 (.slice (some ⟨g, 0, none⟩) zs.length cap') zs.length (I64s (sortL zs)) → R (.returned (.slice (some ⟨g, 0, none⟩) zs.length cap')) w') :
    Calls Try.prog 36 #[.func (.func 57) #[] #[.pointer (some ⟨Bs, 0, none⟩)]] w R := by
  have HR := Lib.hid hR
  have HI := Lib.hid hI
  clear hR hI
  go_enter Try.func36, Try.ntmps36
  go_wp2_with fail
  refine collect_v Bs b off cap zs hreach w hBs hb hc HI.out _ ?_
  intro v w1 hb1 hown
  have HB1 := Lib.hid hb1
  have HO := Lib.hid hown.1
  rcases hown.1.2 with ⟨_, h⟩ | ⟨g, cap', cur, hv, hg, _⟩
  · omega
  · subst hv
    clear hb1 hown
    go_wp2_with fail
    refine sort_own w.heap.size g cap' zs _ HO.out (by omega) _ ?_
    intro w2 hg2 hr2
    have HB2 : Hid (Below w.heap.size w w2) := HB1.out.grown hg2 HB1.out.size (fun k e => by cases e; exact hg)
    have HR2 := Lib.hid hr2
    clear hg2 hr2
    go_wp2_with fail
    exact HR.out _ _ _ HB2.out hg HR2.out
end Go.Proofs.Ytdmolmdenfepkaa
