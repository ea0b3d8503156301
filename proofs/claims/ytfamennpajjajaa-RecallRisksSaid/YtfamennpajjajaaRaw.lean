/- A log that came in without an address is empty. -/
import Derived.Test.YtfamennpajjajaaRao
namespace Go.Proofs.Ytfamennpajjajaa
open Go.RowKit Go.Joins Go.ChangeShapes Go.WideShapes Go.Deep

set_option maxRecDepth 100000 in
theorem log_nil {H : Type} {enc : TypeId × Value → H} {w : World} {base : Nat} {spare : Nat → Bool} {held : Bool} {ae : Option Addr} {n c : Nat} {d : DataW H} {p : List MemPlace}
    (h : DataW.Trod enc Try.prog w base spare held 22 (.slice ae n c) d p) : ae = none → n = 0 ∧ c = 0 := by
  intro ha
  subst ha
  obtain ⟨fuel, h1⟩ := h
  rcases open_slice_fields Try.underlying22 Try.underlying51 (by kernel_rfl) (by kernel_rfl) h1 with ⟨hc1, _⟩ | ⟨a, len, cap, mm, D, Pl, hc1, _⟩
  · simp [Value.cells] at hc1
    exact hc1
  · simp [Value.cells] at hc1
end Go.Proofs.Ytfamennpajjajaa
