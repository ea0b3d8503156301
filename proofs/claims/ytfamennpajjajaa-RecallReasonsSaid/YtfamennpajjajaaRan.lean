/- The walk of the law RecallReasons. (Printed by gen_laws53.py.) -/
import Derived.Test.YtfamennpajjajaaRak
namespace Go.Proofs.Ytfamennpajjajaa
open Go.RowKit Go.Maps

set_option maxRecDepth 100000 in
set_option maxHeartbeats 8000000 in
theorem lawReasons (ao : Option Addr) (vs : List Ev) (c : Nat) (s : ByteArray) (w : World) (R : Ending → World → Prop) (hl : vs.length * 56 ≤ 140737488355328) (hc : CellsAt w ao (eC vs)) (hv : LogOk vs) (hs : s.size ≤ 9223372036854775807)
   (hR : ∀ w', Below w.heap.size w w' → R (.returned (.bool true)) w') :
    Calls Try.prog 5 #[.slice ao vs.length c, .string s] w R := by
  have HR := Lib.hid hR
  have HC := Lib.hid hc
  have HV := Lib.hid hv
  clear hR hc hv
  have hl' : vs.length ≤ 9223372036854775807 := by omega
  have HB0 : Hid (Below w.heap.size w w) := Below.refl _ _
  obtain ⟨F, hF⟩ : ∃ F, Hid ((fwL vs && decide ((s : ByteArray).size ≤ 60)) = F) := ⟨_, rfl⟩
  go_enter Try.func5, Try.ntmps5
  go_wp2_with fail
  refine few53_any ao vs c s _ _ hl hs HC.out HV.out ?_
  rw [hF.out]
  intro w1 hb
  have T1 := Lib.hid hb
  have HB1 := T1
  clear hb
  cases F with
  | false =>
    go_wp2_with fail
    refine awake53_any _ _ ?_
    intro w2 hb
    have HB2 : Hid (Below w.heap.size w w2) := HB1.out.trans (hb.mono HB1.out.size)
    clear hb
    go_wp2_with fail
    exact HR.out _ HB2.out
  | true =>
    obtain ⟨P, hP⟩ : ∃ x, Hid (rkX vs s = x) := ⟨_, rfl⟩
    obtain ⟨A, hA⟩ : ∃ x, Hid (reA vs s = x) := ⟨_, rfl⟩
    obtain ⟨B, hB⟩ : ∃ x, Hid (reB vs s = x) := ⟨_, rfl⟩
    obtain ⟨E, hE⟩ : ∃ x, Hid (reE vs s = x) := ⟨_, rfl⟩
    obtain ⟨G, hG⟩ : ∃ x, Hid (nmX vs s = x) := ⟨_, rfl⟩
    have lP : P.length ≤ 1000000 := by rw [← hP.out]; exact rkX_len vs s
    have eA : (A == A) = true := by simp
    have eB : (B == B) = true := by simp
    have eE : (E == E) = true := by simp
    have eG : (G == G) = true := by simp
    go_wp2_with fail
    refine reason_x ao vs c _ _ hl' (HC.out.below HB1.out) HV.out s hs ?_
    rw [hA.out]
    rw [hB.out]
    rw [hE.out]
    intro w2 hb
    have T2 : Hid (Below w1.heap.size w1 w2) := hb
    have HB2 : Hid (Below w.heap.size w w2) := HB1.out.trans (hb.mono HB1.out.size)
    clear hb
    go_wp2_with fail
    refine own53_nil ao vs c _ _ hl (HC.out.below HB2.out) ?_
    intro a3 c3 w3 hb hc hcap hnil
    have T3 : Hid (Below w2.heap.size w2 w3) := hb
    have HB3 : Hid (Below w.heap.size w w3) := HB2.out.trans (hb.mono HB2.out.size)
    have C3 := Lib.hid hc
    have K3 := Lib.hid hcap
    have N3 := Lib.hid hnil
    clear hb hc hcap hnil
    go_wp2_with fail
    refine rreason_x a3 vs c3 _ _ hl' C3.out HV.out K3.out s hs ?_
    rw [hA.out]
    rw [hB.out]
    rw [hE.out]
    intro w4 hb
    have T4 : Hid (Below w3.heap.size w3 w4) := hb
    have HB4 : Hid (Below w.heap.size w w4) := HB3.out.trans (hb.mono HB3.out.size)
    clear hb
    go_wp2_with fail
    refine atRisk_x ao vs c _ _ hl' (HC.out.below HB4.out) HV.out s hs ?_
    rw [hP.out]
    rw [hG.out]
    intro a5 c5 w5 hb hc
    have T5 : Hid (Below w4.heap.size w4 w5) := hb
    have HB5 : Hid (Below w.heap.size w w5) := HB4.out.trans (hb.mono HB4.out.size)
    have C5 := Lib.hid hc
    clear hb hc
    go_wp2_with fail
    refine own53_nil ao vs c _ _ hl (HC.out.below HB5.out) ?_
    intro a6 c6 w6 hb hc hcap hnil
    have T6 : Hid (Below w5.heap.size w5 w6) := hb
    have HB6 : Hid (Below w.heap.size w w6) := HB5.out.trans (hb.mono HB5.out.size)
    have C6 := Lib.hid hc
    have K6 := Lib.hid hcap
    have N6 := Lib.hid hnil
    clear hb hc hcap hnil
    go_wp2_with fail
    refine ratRisk_x a6 vs c6 _ _ hl' C6.out HV.out K6.out s hs N6.out ?_
    rw [hP.out]
    rw [hG.out]
    intro a7 c7 w7 hb hc
    have T7 : Hid (Below w6.heap.size w6 w7) := hb
    have HB7 : Hid (Below w.heap.size w w7) := HB6.out.trans (hb.mono HB6.out.size)
    have C7 := Lib.hid hc
    clear hb hc
    go_wp2_with fail
    refine awake53_any _ _ ?_
    intro w8 hb
    have T8 : Hid (Below w7.heap.size w7 w8) := hb
    have HB8 : Hid (Below w.heap.size w w8) := HB7.out.trans (hb.mono HB7.out.size)
    clear hb
    go_wp2_with fail
    refine equalS_same a5 a7 P _ c5 c7 _ _ rfl lP (C5.out.below ((T6.out.trans (T7.out.mono T6.out.size)).trans (T8.out.mono (T6.out.trans (T7.out.mono T6.out.size)).size))) (C7.out.below T8.out) ?_
    intro w9 hd
    have hb := hd.below w8.heap.size
    have T9 : Hid (Below w8.heap.size w8 w9) := hb
    have HB9 : Hid (Below w.heap.size w w9) := HB8.out.trans (hb.mono HB8.out.size)
    clear hb hd
    go_wp2_with fail
    exact HR.out _ HB9.out
end Go.Proofs.Ytfamennpajjajaa
