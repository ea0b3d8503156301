/- The walk of AtRisk of package recall. -/
import Derived.Test.YtfamennpajjajaaRv
import Derived.Test.YtfamennpajjajaaRw
namespace Go.Proofs.Ytfamennpajjajaa
open Go.RowKit Go.Maps

theorem riskClo (Bo b n : Nat) (g : SMap) (s : ByteArray) (v : Value) (W : World) (hs : s.size ≤ maxLen) (hb : Boxed W Bo 49 (.map (some b))) (hM : MapIs Try.prog 9 W b n g) (q : Bool) (hq : g s = if q = true then some (.bool true) else none) :
    Calls Try.prog 56 (#[.string s, v] ++ #[.pointer (some ⟨Bo, 0, none⟩)]) W fun e w' => e = .returned (.bool q) ∧ W.grownBy w' none := by
  have hc := hb.cell
  have hl := hb.lt
  have FE : Hid ((g s).getD (.bool false) = .bool q) := by unfold Hid; rw [hq]; cases q <;> rfl
  have HM := Lib.hid hM
  clear hM hb hq
  go_enter Try.func56, Try.ntmps56
  go_wp2_with (at_lookup; refine wp_mapLook _ rfl _ _ 49 rfl 9 4 Try.underlying9 Try.underlying49 b n g rfl HM.out (zeroB _) s rfl hs _ FE.out ?_)
  go_ret
  exact ⟨rfl, World.grownBy.refl _ _⟩

set_option maxRecDepth 100000 in
set_option maxHeartbeats 4000000 in
theorem atRisk53_any (ao : Option Addr) (vs : List Ev) (c : Nat) (gg : ByteArray) (w : World) (R : Ending → World → Prop) (hl : vs.length ≤ 9223372036854775807) (hgl : gg.size ≤ 9223372036854775807) (hc : CellsAt w ao (eC vs)) (hv : LogOk vs)
   (hR1 : chk3 vs ≠ 0 → ∀ w', Below w.heap.size w w' → R (.returned (.tuple #[.slice none 0 0, .int .i64 (chk3 vs)])) w')
   (hR2 : chk3 vs = 0 → nmE gg ≠ 0 → ∀ w', Below w.heap.size w w' → R (.returned (.tuple #[.slice none 0 0, .int .i64 (nmE gg)])) w')
   (hR0 : chk3 vs = 0 → nmE gg = 0 → ∀ ks ao' c' w', Below w.heap.size w w' → SrtIs ks (fun p => kpQ (qA gg) vs p && !kpQ qR vs p) → CellsAt w' ao' (sC ks) → R (.returned (.tuple #[.slice ao' ks.length c', .int .i64 0])) w') :
    Calls Try.prog 26 #[.slice ao vs.length c, .string gg] w R := by
  have HR1 := Lib.hid hR1
  have HR2 := Lib.hid hR2
  have HR0 := Lib.hid hR0
  have HC := Lib.hid hc
  have HV := Lib.hid hv
  have hA : Below w.heap.size w (w.alloc (.cells #[.string gg] 9)) := (Below.refl _ _).alloc (Nat.le_refl _) _
  have hB := Boxed.new w 9 (.string gg)
  obtain ⟨E, hE⟩ : ∃ E, Hid (chk3 vs = E) := ⟨_, rfl⟩
  obtain ⟨E2, hE2⟩ : ∃ E, Hid (nmE gg = E) := ⟨_, rfl⟩
  obtain ⟨w0, hw0⟩ : ∃ w0, Hid (w.alloc (.cells #[.string gg] 9) = w0) := ⟨_, rfl⟩
  rw [hw0.out] at hA hB
  have hs0 := hB.lt
  have HA := Lib.hid hA
  have HB := Lib.hid hB
  have HCA := Lib.hid (HC.out.below hA)
  clear hR1 hR2 hR0 hc hv hA hB
  go_enter Try.func26, Try.ntmps26
  go_wp2_with fail
  rw [hw0.out]
  refine check53_any _ vs c _ _ hl HCA.out HV.out ?_
  intro w1 hb1
  have HB1 : Hid (Below w.heap.size w w1) := HA.out.trans (hb1.mono HA.out.size)
  have b1 : Boxed w1 w.heap.size 9 (.string gg) := (hb1.block _ hs0).trans HB.out
  have c1 := b1.cell
  have l1 := b1.lt
  have BX1 := Lib.hid b1
  clear hb1 b1
  rw [hE.out]
  by_cases h0 : E = 0
  · subst h0
    have hln := chk3_le hE.out
    go_wp2_with fail
    refine name_any gg _ _ hgl ?_
    rw [hE2.out]
    intro w2 hb2
    have HB2 : Hid (Below w.heap.size w w2) := HB1.out.trans (hb2.mono HB1.out.size)
    have BX2 : Hid (Boxed w2 w.heap.size 9 (.string gg)) := (hb2.block _ l1).trans BX1.out
    clear hb2 c1 l1
    by_cases h2 : E2 = 0
    · subst h2
      go_wp2_with fail
      refine recalled53_any _ vs c _ _ (by omega) (HC.out.below HB2.out) HV.out ?_
      intro b f w3 hb hbs hM hf
      have hs2 := HB2.out.size
      have HB3 : Hid (Below w.heap.size w w3) := HB2.out.trans (hb.mono hs2)
      have hs3 := HB3.out.size
      have bx3 : Boxed w3 w.heap.size 9 (.string gg) := (hb.block _ BX2.out.lt).trans BX2.out
      have hlb := hM.lt
      have a4 : Below w3.heap.size w3 (w3.alloc (.cells #[.map (some b)] 49)) := (Below.refl _ _).alloc (Nat.le_refl _) _
      have bn4 := Boxed.new w3 49 (.map (some b))
      obtain ⟨w4, hw4⟩ : ∃ w4, Hid (w3.alloc (.cells #[.map (some b)] 49) = w4) := ⟨_, rfl⟩
      rw [hw4.out] at a4 bn4
      have hl3 : w3.heap.size < w4.heap.size := bn4.lt
      have HB4 : Hid (Below w.heap.size w w4) := HB3.out.trans (a4.mono hs3)
      have BN4 := Lib.hid bn4
      have M4 : Hid (MapIs Try.prog 9 w4 b vs.length f) := hM.below a4 hlb
      have BX4 : Hid (Boxed w4 w.heap.size 9 (.string gg)) := (a4.block _ bx3.lt).trans bx3
      have HF := Lib.hid hf
      clear hb hM hf a4 bn4 bx3
      go_wp2_with fail
      rw [hw4.out]
      refine keptA_any _ vs c w.heap.size gg _ _ (by omega) (HC.out.below HB4.out) HV.out BX4.out.cell BX4.out.lt ?_
      intro b2 f2 w5 hb5 hbs5 hM5 hf5
      have HB5 : Hid (Below w.heap.size w w5) := HB4.out.trans (hb5.mono HB4.out.size)
      have BN5 : Hid (Boxed w5 w3.heap.size 49 (.map (some b))) := (hb5.block _ hl3).trans BN4.out
      have M5 : Hid (MapIs Try.prog 9 w5 b vs.length f) := M4.out.below hb5 M4.out.lt
      have hlb4 := M4.out.lt
      have eg : ∀ args w, (callFunc 56 args).run Try.prog w = .ok (.enter 56 args) w := enters_of Try.func56 (by kernel_rfl) rfl
      have HD := Lib.hid (del53 56 #[.pointer (some ⟨w3.heap.size, 0, none⟩)] b2 vs.length f2 (fun s => kpQ qR vs s) w5 hM5 eg (fun W s v hg hs => by
        refine riskClo _ _ _ f s v W hs (BN5.out.kept hg (by intro e; have := Option.some.inj e; omega)) (M5.out.keep (hg.block _ M5.out.lt (by intro e; have := Option.some.inj e; omega))) _ (HF.out s)))
      have HF5 := Lib.hid hf5
      have h2l := hM5.lt
      have h2b : w.heap.size ≤ b2 := Nat.le_trans HB4.out.size hbs5
      clear hb5 hbs5 hM5 hf5 eg
      go_wp2_with (go_at_call 55; refine HD.out.mono ?_; rintro e w9 ⟨rfl, m9, g9⟩; have M9 := Lib.hid m9; have G9 := Lib.hid g9; clear m9 g9)
      refine sorted53_any b2 vs.length _ _ _ (by omega) M9.out ?_
      intro ks ao' c' w10 hb10 hs10 hc10
      have B10 := Lib.hid hb10
      have S10 := Lib.hid hs10
      have C10 := Lib.hid hc10
      have HB9 : Hid (Below w.heap.size w w9) := HB5.out.grown G9.out HB5.out.size (by intro k e; cases e; exact h2b)
      clear hb10 hs10 hc10
      go_wp2_with fail
      refine HR0.out hE.out hE2.out ks ao' c' w10 (HB9.out.trans (B10.out.mono HB9.out.size)) ⟨S10.out.up, fun s => ?_⟩ C10.out
      rw [S10.out.mem]
      show (if kpQ qR vs s = true then none else f2 s).isSome = true ↔ _
      rw [HF5.out s]
      cases kpQ qR vs s <;> cases kpQ (qA gg) vs s <;> simp
    · have HX := Lib.hid h2
      have K0 : (E2 != 0) = true := by simpa using h2
      clear h2
      go_wp2_with fail
      have h := HR2.out hE.out (by rw [hE2.out]; exact HX.out) w2 HB2.out
      rw [hE2.out] at h
      exact h
  · have HX := Lib.hid h0
    have K0 : (E != 0) = true := by simpa using h0
    clear h0
    go_wp2_with fail
    have h := HR1.out (by rw [hE.out]; exact HX.out) w1 HB1.out
    rw [hE.out] at h
    exact h
end Go.Proofs.Ytfamennpajjajaa
