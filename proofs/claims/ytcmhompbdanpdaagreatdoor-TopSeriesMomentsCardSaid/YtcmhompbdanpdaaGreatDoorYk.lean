/- A region that draws its order, in a round of a range-over-func under the widest fence: what holds of it outside of rounds holds there. -/
import Derived.OrdersIn
import Derived.RangeFuncCalls
import Derived.Test.YtcmhompbdanpdaaGreatDoorWq
namespace Go.Proofs.YtcmhompbdanpdaaGreatDoor
open Go.RowKit
section
variable {P : Program} {ops : Array Oper} {Q : Exit → Act → World → Prop} {md : Region.Mode} {l n : Nat}
/-- No operation defers. -/
def noDefer (ops : Array Oper) : Bool := ops.toList.all fun o => match o.op with | .defer _ => false | _ => true
theorem noDefer_at (h : noDefer ops = true) {i : Nat} {o : Oper} (hi : ops[i]? = some o) : ∀ c, o.op ≠ .defer c := by
  unfold noDefer at h
  rw [List.all_eq_true] at h
  have hm : o ∈ ops.toList := by
    rw [← Array.getElem?_toList] at hi
    exact List.mem_of_getElem? hi
  intro c e
  have := h o hm
  rw [e] at this
  cases this
theorem rows_in {row : String} {args : Array Value} {w : World} {R : Value → World → Prop} (h : Rows P row args w R) : RowsIn (Fence.wide.inRound l) n P row args w R := fun c cs _ =>
  let ⟨v, w', r, s⟩ := h c cs
  ⟨v, w', r, (stepsIn_wide (P := P)).2 s⟩
theorem upon_in {o : Oper} {a : Act} {K : Act → World → Prop} (r : Result Next) (h : o.upon P a K Q r) : o.uponIn (Fence.wide.inRound l) n P a K Q r := by
  cases r with
  | ok x w' =>
    cases x with
    | value v => exact h
    | skip => exact h
    | defer d => exact h
    | enter f args => exact ⟨fun e => (by cases e), CallsIn.inRound l (callsIn_wide.2 h)⟩
    | row s args => exact ⟨fun e => (by cases e), rows_in h⟩
    | _ => exact (h : False).elim
  | halt x w' =>
    cases x with
    | panic v => exact h
    | _ => exact (h : False).elim
theorem opIn_of {i : Nat} {K : Act → World → Prop} {a : Act} {w : World} (hd : noDefer ops = true) (hl : ¬ LetsOut Q) (h : wpOp P ops Q i K a w) : wpOpIn (Fence.wide.inRound l) n P ops Q i K a w := by
  unfold wpOp at h
  unfold wpOpIn
  cases ho : ops[i]? with
  | none => rw [ho] at h; exact h
  | some o =>
    rw [ho] at h
    simp only at h ⊢
    split
    · rename_i hw
      rw [if_pos hw] at h
      rcases h with h | h
      · refine ⟨fun _ _ => trivial, ?_⟩
        rw [Oper.semAt_eq _ _ _ (noDefer_at hd ho)]
        exact upon_in _ h
      · exact absurd h.2 hl
    · rename_i hw
      rw [if_neg hw] at h
      exact ⟨fun _ _ => trivial, h⟩
theorem anyIn_of (hd : noDefer ops = true) (hl : ¬ LetsOut Q) : ∀ (fuel : Nat) (listed : Array Bool) (a : Act) (w : World), wpAny P md ops Q fuel listed a w → wpAnyIn (Fence.wide.inRound l) n P md ops Q fuel listed a w
  | 0, _, _, _, h => h
  | fuel + 1, _, _, _, h => ⟨h.1, fun i hi => opIn_of hd hl (wpOp_mono (fun a' w' h' => anyIn_of hd hl fuel _ a' w' h') (h.2 i hi))⟩
/-- Nothing but the plain end. -/
def OnlyN (Q : Exit → Act → World → Prop) : Exit → Act → World → Prop := fun e a w => e = .normal ∧ Q .normal a w
theorem OnlyN.calm : Calm (OnlyN Q) := fun _ _ _ _ h => absurd h.1 (by intro e; cases e)
theorem OnlyN.lets : ¬ LetsOut (OnlyN Q) := fun ⟨_, _, h⟩ => absurd h.1 (by intro e; cases e)
/-- A drawn region in a round. -/
theorem regionRL {id : Nat} {a : Act} {w : World} (o : List Nat) (S : World → Prop) (hd : noDefer ops = true) (hm : P.follows .mixedOrders = true) (hS : S w.drew)
    (h : ∀ Q' : Exit → Act → World → Prop, Calm Q' → Shut (∀ a w, Q .normal a w → Q' .normal a w) → S w.drew → WQ o P .any ops Q' S ops.size (Array.replicate ops.size false) a w.drew) : (Code.region id ops true).wpIn (Fence.wide.inRound l) n P Q a w :=
  wpIn_mono (wpIn_region_any hm (anyIn_of hd OnlyN.lets _ _ _ _ (wpAny_of_held _ _ _ _ (h (OnlyN Q) OnlyN.calm (fun _ _ h => ⟨rfl, h⟩) hS)))) (fun e a w h => by obtain ⟨rfl, h⟩ := h; exact h)
end
end Go.Proofs.YtcmhompbdanpdaaGreatDoor
