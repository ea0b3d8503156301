/- The walks of recalled, sorted, Parts. -/
import Derived.Test.YtfamennpajjajaaRu
import Derived.Test.YtfamennpajjajaaRj
namespace Go.Proofs.Ytfamennpajjajaa
open Go.RowKit Go.Maps
attribute [local go_sem] Oper.semAt_some

theorem recalled53_any (ao : Option Addr) (vs : List Ev) (c : Nat) (w : World) (R : Ending → World → Prop) (hln : vs.length ≤ 1000000) (hc : CellsAt w ao (eC vs)) (hv : LogOk vs)
   (hR : ∀ b f w', Below w.heap.size w w' → w.heap.size ≤ b → MapIs Try.prog 9 w' b vs.length f → (∀ p, f p = if kpQ qR vs p = true then some (.bool true) else none) → R (.returned (.map (some b))) w') :
    Calls Try.prog 41 #[.slice ao vs.length c] w R := by
  have HR := Lib.hid hR
  have HC := Lib.hid hc
  have HV := Lib.hid hv
  clear hR hc hv
  go_enter Try.func41, Try.ntmps41
  go_wp2_with fail
  refine keptR_any _ vs c w _ hln HC.out HV.out ?_
  intro b f w' hb hbs hM hf
  have H1 := Lib.hid hb
  have H2 := Lib.hid hbs
  have H3 := Lib.hid hM
  have H4 := Lib.hid hf
  clear hb hbs hM hf
  go_wp2_with fail
  exact HR.out b f w' H1.out H2.out H3.out H4.out

theorem sorted53_any (b n : Nat) (f : SMap) (w : World) (R : Ending → World → Prop) (hn : n ≤ 1000000) (hM : MapIs Try.prog 9 w b n f)
   (hR : ∀ ks ao c w', Below w.heap.size w w' → SrtIs ks (fun s => (f s).isSome) → CellsAt w' ao (sC ks) → R (.returned (.slice ao ks.length c)) w') :
    Calls Try.prog 40 #[.map (some b)] w R := by
  have HR := Lib.hid hR
  have HM := Lib.hid hM
  clear hR hM
  go_enter Try.func40, Try.ntmps40
  go_wp2_with (first | (go_at_call 67; refine (callsIn_wide.1 (keys53 _ _)).mono ?_; rintro e w' ⟨rfl, rfl⟩) | (go_at_call 66; refine (callsIn_wide.1 (sortedK b n f w HM.out hn)).mono ?_; rintro e w' ⟨v, ks, rfl, h1, h2, h3⟩; have H1 := Lib.hid h1; have H2 := Lib.hid h2; have H3 := Lib.hid h3; clear h1 h2 h3))
  obtain ⟨ao, c, rfl, hc, _⟩ := ownsRow_read H2.out
  exact HR.out ks ao c w' H3.out H1.out hc

set_option maxHeartbeats 1000000 in
theorem parts53_any (ao : Option Addr) (vs : List Ev) (c : Nat) (w : World) (R : Ending → World → Prop) (hl : vs.length ≤ 9223372036854775807) (hc : CellsAt w ao (eC vs)) (hv : LogOk vs)
   (hR1 : chk3 vs ≠ 0 → ∀ w', Below w.heap.size w w' → R (.returned (.tuple #[.slice none 0 0, .int .i64 (chk3 vs)])) w')
   (hR0 : chk3 vs = 0 → ∀ ks ao' c' w', Below w.heap.size w w' → SrtIs ks (kpQ qR vs) → CellsAt w' ao' (sC ks) → R (.returned (.tuple #[.slice ao' ks.length c', .int .i64 0])) w') :
    Calls Try.prog 14 #[.slice ao vs.length c] w R := by
  have HR1 := Lib.hid hR1
  have HR0 := Lib.hid hR0
  have HC := Lib.hid hc
  have HV := Lib.hid hv
  clear hR1 hR0 hc hv
  obtain ⟨E, hE⟩ : ∃ E, Hid (chk3 vs = E) := ⟨_, rfl⟩
  go_enter Try.func14, Try.ntmps14
  go_wp2_with fail
  refine check53_any _ vs c _ _ hl HC.out HV.out ?_
  intro w1 hb1
  have HB1 := Lib.hid hb1
  clear hb1
  rw [hE.out]
  by_cases h0 : E = 0
  · subst h0
    have hln := chk3_le hE.out
    go_wp2_with fail
    refine recalled53_any _ vs c _ _ (by omega) (HC.out.below HB1.out) HV.out ?_
    intro b f w2 hb hbs hM hf
    have HB2 : Hid (Below w.heap.size w w2) := HB1.out.trans (hb.mono HB1.out.size)
    have HM := Lib.hid hM
    have HF := Lib.hid hf
    clear hb hM hf hbs
    go_wp2_with fail
    refine sorted53_any b vs.length f _ _ (by omega) HM.out ?_
    intro ks ao' c' w3 hb hs hc'
    have HB3 : Hid (Below w.heap.size w w3) := HB2.out.trans (hb.mono HB2.out.size)
    have HS := Lib.hid hs
    have HC' := Lib.hid hc'
    clear hb hs hc'
    go_wp2_with fail
    exact HR0.out hE.out ks ao' c' w3 HB3.out ⟨HS.out.up, fun s => by rw [HS.out.mem, HF.out s]; cases kpQ qR vs s <;> simp⟩ HC'.out
  · have HX := Lib.hid h0
    have K0 : (E != 0) = true := by simpa using h0
    clear h0
    go_wp2_with fail
    have h := HR1.out (by rw [hE.out]; exact HX.out) w1 HB1.out
    rw [hE.out] at h
    exact h
end Go.Proofs.Ytfamennpajjajaa
