/-
  No cell of these rows narrows 'for every input' (looked for: loops, veiled, ifaces, maps, wideKeys, modest, calm, conditions, laid).
  DERIVED. THE GIVEN ROWS OF THIS SEAT. 7 by the template 'for every input the law returns true; each argument reads behind the call as it read before'; 0 by the template 'total and deterministic' (their statements: YtlgjhjgdmomfoaaTotals.lean).
  GIVEN WITH THE SEED: the statements are not yours to turn. If you find one false, say at which input.
  Laid BY PROGRAM, IN A SANDBOX (cutbox-rows.mjs): the forced cells as the released guide's own fill.sh prints them over the translation 1f6edcb5f288eb0a… (all of the seat's roots in one cut). By AI agents, Wed Nov 11 2026. No macro, syntax, notation, axiom, sorry.
-/
import Derived.Test.YtlgjhjgdmomfoaaChecked
import GoSem.Claim
import GoSem.ClaimJoined
import GoSem.ClaimMapViews
import Derived.JoinedTies
import Derived.KernelRfl
namespace Go.Proofs.Ytlgjhjgdmomfoaa
/- THE CELL 'sum', in the pinned program and in every row, IS THE sha256 OF THE DUMP (.gsa) THAT YtlgjhjgdmomfoaaProg.lean LOADS. Nothing in Lean hashes anything: it is a label: what it is worth is what the hold of that sum in a sandbox is worth. -/
noncomputable def Try.pinned : Pinned := { name := "ytlgjhjgdmomfoaa", sum := "1f6edcb5f288eb0ac193611b77f6d835ba10f6b532685271898a20c2049f7c9f", checked := Try.checked }
namespace Rows
def none {H : Type} : Left H := { results := [], args := [] }

/-- 'metrolablaw22.CompleteVerifies': WHATEVER THE INPUT: true; the input reads as it did. -/
def completeVerifiesSpec : ChangeSpec := { name := "completeVerifies", fn := fun _ => fun
  | [d1, d2, d3] => { results := [.lit (.bool true)], args := [d1, d2, d3] }
  | _ => none }
def completeVerifiesRow : OpenClaim := { program := "ytlgjhjgdmomfoaa", sum := "1f6edcb5f288eb0ac193611b77f6d835ba10f6b532685271898a20c2049f7c9f", func := "metrolab/metrolablaw22.CompleteVerifies", spec := "completeVerifies", unfollowed := true, recurses := true, apart := false }
def CompleteVerifiesSaid : Prop := completeVerifiesRow.holds Try.pinned (OpenSpec.ofChange completeVerifiesSpec)

/-- ITS FALSE NEIGHBOUR: 'it returns false'. Refute it at one input. -/
def completeVerifiesWrong : ChangeSpec := { name := "completeVerifies", fn := fun _ => fun
  | [d1, d2, d3] => { results := [.lit (.bool false)], args := [d1, d2, d3] }
  | _ => none }
def CompleteVerifiesWrongFalsely : Prop := completeVerifiesRow.holds Try.pinned (OpenSpec.ofChange completeVerifiesWrong)

/-- 'metrolablaw22.CompleteMeasures': WHATEVER THE INPUT: true; the input reads as it did. -/
def completeMeasuresSpec : ChangeSpec := { name := "completeMeasures", fn := fun _ => fun
  | [d1, d2, d3] => { results := [.lit (.bool true)], args := [d1, d2, d3] }
  | _ => none }
def completeMeasuresRow : OpenClaim := { program := "ytlgjhjgdmomfoaa", sum := "1f6edcb5f288eb0ac193611b77f6d835ba10f6b532685271898a20c2049f7c9f", func := "metrolab/metrolablaw22.CompleteMeasures", spec := "completeMeasures", unfollowed := true, recurses := true, apart := false }
def CompleteMeasuresSaid : Prop := completeMeasuresRow.holds Try.pinned (OpenSpec.ofChange completeMeasuresSpec)

/-- ITS FALSE NEIGHBOUR: 'it returns false'. Refute it at one input. -/
def completeMeasuresWrong : ChangeSpec := { name := "completeMeasures", fn := fun _ => fun
  | [d1, d2, d3] => { results := [.lit (.bool false)], args := [d1, d2, d3] }
  | _ => none }
def CompleteMeasuresWrongFalsely : Prop := completeMeasuresRow.holds Try.pinned (OpenSpec.ofChange completeMeasuresWrong)

/-- 'metrolablaw22.CompleteSolves': WHATEVER THE INPUT: true; the input reads as it did. -/
def completeSolvesSpec : ChangeSpec := { name := "completeSolves", fn := fun _ => fun
  | [d1, d2] => { results := [.lit (.bool true)], args := [d1, d2] }
  | _ => none }
def completeSolvesRow : OpenClaim := { program := "ytlgjhjgdmomfoaa", sum := "1f6edcb5f288eb0ac193611b77f6d835ba10f6b532685271898a20c2049f7c9f", func := "metrolab/metrolablaw22.CompleteSolves", spec := "completeSolves", unfollowed := true, recurses := true, apart := false }
def CompleteSolvesSaid : Prop := completeSolvesRow.holds Try.pinned (OpenSpec.ofChange completeSolvesSpec)

/-- ITS FALSE NEIGHBOUR: 'it returns false'. Refute it at one input. -/
def completeSolvesWrong : ChangeSpec := { name := "completeSolves", fn := fun _ => fun
  | [d1, d2] => { results := [.lit (.bool false)], args := [d1, d2] }
  | _ => none }
def CompleteSolvesWrongFalsely : Prop := completeSolvesRow.holds Try.pinned (OpenSpec.ofChange completeSolvesWrong)

/-- 'metrolablaw22.CompleteGroups': WHATEVER THE INPUT: true; the input reads as it did. -/
def completeGroupsSpec : ChangeSpec := { name := "completeGroups", fn := fun _ => fun
  | [d1, d2] => { results := [.lit (.bool true)], args := [d1, d2] }
  | _ => none }
def completeGroupsRow : OpenClaim := { program := "ytlgjhjgdmomfoaa", sum := "1f6edcb5f288eb0ac193611b77f6d835ba10f6b532685271898a20c2049f7c9f", func := "metrolab/metrolablaw22.CompleteGroups", spec := "completeGroups", unfollowed := true, recurses := true, apart := false }
def CompleteGroupsSaid : Prop := completeGroupsRow.holds Try.pinned (OpenSpec.ofChange completeGroupsSpec)

/-- ITS FALSE NEIGHBOUR: 'it returns false'. Refute it at one input. -/
def completeGroupsWrong : ChangeSpec := { name := "completeGroups", fn := fun _ => fun
  | [d1, d2] => { results := [.lit (.bool false)], args := [d1, d2] }
  | _ => none }
def CompleteGroupsWrongFalsely : Prop := completeGroupsRow.holds Try.pinned (OpenSpec.ofChange completeGroupsWrong)

/-- 'metrolablaw22.CompleteAttains': WHATEVER THE INPUT: true; the input reads as it did. -/
def completeAttainsSpec : ChangeSpec := { name := "completeAttains", fn := fun _ => fun
  | [d1, d2] => { results := [.lit (.bool true)], args := [d1, d2] }
  | _ => none }
def completeAttainsRow : OpenClaim := { program := "ytlgjhjgdmomfoaa", sum := "1f6edcb5f288eb0ac193611b77f6d835ba10f6b532685271898a20c2049f7c9f", func := "metrolab/metrolablaw22.CompleteAttains", spec := "completeAttains", unfollowed := true, recurses := true, apart := false }
def CompleteAttainsSaid : Prop := completeAttainsRow.holds Try.pinned (OpenSpec.ofChange completeAttainsSpec)

/-- ITS FALSE NEIGHBOUR: 'it returns false'. Refute it at one input. -/
def completeAttainsWrong : ChangeSpec := { name := "completeAttains", fn := fun _ => fun
  | [d1, d2] => { results := [.lit (.bool false)], args := [d1, d2] }
  | _ => none }
def CompleteAttainsWrongFalsely : Prop := completeAttainsRow.holds Try.pinned (OpenSpec.ofChange completeAttainsWrong)

/-- 'metrolablaw22.CompleteImplies': WHATEVER THE INPUT: true; the input reads as it did. -/
def completeImpliesSpec : ChangeSpec := { name := "completeImplies", fn := fun _ => fun
  | [d1, d2] => { results := [.lit (.bool true)], args := [d1, d2] }
  | _ => none }
def completeImpliesRow : OpenClaim := { program := "ytlgjhjgdmomfoaa", sum := "1f6edcb5f288eb0ac193611b77f6d835ba10f6b532685271898a20c2049f7c9f", func := "metrolab/metrolablaw22.CompleteImplies", spec := "completeImplies", unfollowed := true, recurses := true, apart := false }
def CompleteImpliesSaid : Prop := completeImpliesRow.holds Try.pinned (OpenSpec.ofChange completeImpliesSpec)

/-- ITS FALSE NEIGHBOUR: 'it returns false'. Refute it at one input. -/
def completeImpliesWrong : ChangeSpec := { name := "completeImplies", fn := fun _ => fun
  | [d1, d2] => { results := [.lit (.bool false)], args := [d1, d2] }
  | _ => none }
def CompleteImpliesWrongFalsely : Prop := completeImpliesRow.holds Try.pinned (OpenSpec.ofChange completeImpliesWrong)

/-- 'metrolablaw22.CompleteCounts': WHATEVER THE INPUT: true; the input reads as it did. -/
def completeCountsSpec : ChangeSpec := { name := "completeCounts", fn := fun _ => fun
  | [d1, d2] => { results := [.lit (.bool true)], args := [d1, d2] }
  | _ => none }
def completeCountsRow : OpenClaim := { program := "ytlgjhjgdmomfoaa", sum := "1f6edcb5f288eb0ac193611b77f6d835ba10f6b532685271898a20c2049f7c9f", func := "metrolab/metrolablaw22.CompleteCounts", spec := "completeCounts", unfollowed := true, recurses := true, apart := false }
def CompleteCountsSaid : Prop := completeCountsRow.holds Try.pinned (OpenSpec.ofChange completeCountsSpec)

/-- ITS FALSE NEIGHBOUR: 'it returns false'. Refute it at one input. -/
def completeCountsWrong : ChangeSpec := { name := "completeCounts", fn := fun _ => fun
  | [d1, d2] => { results := [.lit (.bool false)], args := [d1, d2] }
  | _ => none }
def CompleteCountsWrongFalsely : Prop := completeCountsRow.holds Try.pinned (OpenSpec.ofChange completeCountsWrong)

/- THE SECOND FORM. 'bulk': how many values and letters a reading holds, each counted each time it is reached (what is shared counts as often as it is met; a slice's spare places count too). A statement '..UptoSaid' is the law's where the arguments, and the package variables that the reading takes, are together of bulk at most 1048576: NARROWER than '..Said'. Prove '..Said' where nothing that the law and all that it calls make is longer than what came in: it says more and counts as full. Else prove '..UptoSaid'. A law counts once. -/
mutual
def uptoBulk {H : Type} : DataW H → Nat
  | .lit (.string bytes) => bytes.length + 1
  | .lit _ => 1
  | .nil => 1
  | .ptr d => uptoBulk d + 1
  | .slice elems spare => uptoBulkAll elems + uptoBulkAll spare + 1
  | .agg parts => uptoBulkAll parts + 1
  | .iface _ d => uptoBulk d + 1
  | .map entries => uptoBulkEntries entries + 1
  | .held _ => 1
def uptoBulkAll {H : Type} : List (DataW H) → Nat
  | [] => 0
  | d :: r => uptoBulk d + uptoBulkAll r
def uptoBulkEntries {H : Type} : List (Lit × DataW H) → Nat
  | [] => 0
  | x :: r => uptoBulkEntry x + uptoBulkEntries r
def uptoBulkEntry {H : Type} : Lit × DataW H → Nat
  | (.string bytes, d) => bytes.length + uptoBulk d + 1
  | (_, d) => uptoBulk d + 1
 end
def uptoSmall : (H : Type) → List (DataW H) → Bool := fun _ ds => decide (uptoBulkAll ds ≤ 1048576)
def OpenSpec.upto (s : _root_.Go.ChangeSpec) : _root_.Go.OpenSpec := { _root_.Go.OpenSpec.ofChange s with cond := some uptoSmall }

/-- 'metrolablaw22.CompleteVerifies', WHERE WHAT IT READS IS OF BULK AT MOST 1048576: true; the input reads as it did. -/
def completeVerifiesUptoRow : OpenClaim := { program := "ytlgjhjgdmomfoaa", sum := "1f6edcb5f288eb0ac193611b77f6d835ba10f6b532685271898a20c2049f7c9f", func := "metrolab/metrolablaw22.CompleteVerifies", spec := "completeVerifies", unfollowed := true, recurses := true, apart := false, narrowed := true }
def CompleteVerifiesUptoSaid : Prop := completeVerifiesUptoRow.holds Try.pinned (OpenSpec.upto completeVerifiesSpec)

/-- 'metrolablaw22.CompleteMeasures', WHERE WHAT IT READS IS OF BULK AT MOST 1048576: true; the input reads as it did. -/
def completeMeasuresUptoRow : OpenClaim := { program := "ytlgjhjgdmomfoaa", sum := "1f6edcb5f288eb0ac193611b77f6d835ba10f6b532685271898a20c2049f7c9f", func := "metrolab/metrolablaw22.CompleteMeasures", spec := "completeMeasures", unfollowed := true, recurses := true, apart := false, narrowed := true }
def CompleteMeasuresUptoSaid : Prop := completeMeasuresUptoRow.holds Try.pinned (OpenSpec.upto completeMeasuresSpec)

/-- 'metrolablaw22.CompleteSolves', WHERE WHAT IT READS IS OF BULK AT MOST 1048576: true; the input reads as it did. -/
def completeSolvesUptoRow : OpenClaim := { program := "ytlgjhjgdmomfoaa", sum := "1f6edcb5f288eb0ac193611b77f6d835ba10f6b532685271898a20c2049f7c9f", func := "metrolab/metrolablaw22.CompleteSolves", spec := "completeSolves", unfollowed := true, recurses := true, apart := false, narrowed := true }
def CompleteSolvesUptoSaid : Prop := completeSolvesUptoRow.holds Try.pinned (OpenSpec.upto completeSolvesSpec)

/-- 'metrolablaw22.CompleteGroups', WHERE WHAT IT READS IS OF BULK AT MOST 1048576: true; the input reads as it did. -/
def completeGroupsUptoRow : OpenClaim := { program := "ytlgjhjgdmomfoaa", sum := "1f6edcb5f288eb0ac193611b77f6d835ba10f6b532685271898a20c2049f7c9f", func := "metrolab/metrolablaw22.CompleteGroups", spec := "completeGroups", unfollowed := true, recurses := true, apart := false, narrowed := true }
def CompleteGroupsUptoSaid : Prop := completeGroupsUptoRow.holds Try.pinned (OpenSpec.upto completeGroupsSpec)

/-- 'metrolablaw22.CompleteAttains', WHERE WHAT IT READS IS OF BULK AT MOST 1048576: true; the input reads as it did. -/
def completeAttainsUptoRow : OpenClaim := { program := "ytlgjhjgdmomfoaa", sum := "1f6edcb5f288eb0ac193611b77f6d835ba10f6b532685271898a20c2049f7c9f", func := "metrolab/metrolablaw22.CompleteAttains", spec := "completeAttains", unfollowed := true, recurses := true, apart := false, narrowed := true }
def CompleteAttainsUptoSaid : Prop := completeAttainsUptoRow.holds Try.pinned (OpenSpec.upto completeAttainsSpec)

/-- 'metrolablaw22.CompleteImplies', WHERE WHAT IT READS IS OF BULK AT MOST 1048576: true; the input reads as it did. -/
def completeImpliesUptoRow : OpenClaim := { program := "ytlgjhjgdmomfoaa", sum := "1f6edcb5f288eb0ac193611b77f6d835ba10f6b532685271898a20c2049f7c9f", func := "metrolab/metrolablaw22.CompleteImplies", spec := "completeImplies", unfollowed := true, recurses := true, apart := false, narrowed := true }
def CompleteImpliesUptoSaid : Prop := completeImpliesUptoRow.holds Try.pinned (OpenSpec.upto completeImpliesSpec)

/-- 'metrolablaw22.CompleteCounts', WHERE WHAT IT READS IS OF BULK AT MOST 1048576: true; the input reads as it did. -/
def completeCountsUptoRow : OpenClaim := { program := "ytlgjhjgdmomfoaa", sum := "1f6edcb5f288eb0ac193611b77f6d835ba10f6b532685271898a20c2049f7c9f", func := "metrolab/metrolablaw22.CompleteCounts", spec := "completeCounts", unfollowed := true, recurses := true, apart := false, narrowed := true }
def CompleteCountsUptoSaid : Prop := completeCountsUptoRow.holds Try.pinned (OpenSpec.upto completeCountsSpec)

end Rows
end Go.Proofs.Ytlgjhjgdmomfoaa
