/- Drawn regions with the order in which their operations are taken (so that one line serves them all); texts of integers. -/
import Derived.Test.YtcmhompbdanpdaaGreatDoorDyq
import Derived.Test.YtcmhompbdanpdaaGreatDoorMwa
namespace Go.Proofs.YtcmhompbdanpdaaGreatDoor
open Go.RowKit
section
variable {P : Program} {ops : Array Oper} {Q : Exit → Act → World → Prop} {md : Region.Mode} {S : World → Prop}
/-- A drawn region under way; the list says which operations are taken next. -/
def WQ (_o : List Nat) (P : Program) (md : Region.Mode) (ops : Array Oper) (Q : Exit → Act → World → Prop) (S : World → Prop) (fuel : Nat) (listed : Array Bool) (a : Act) (w : World) : Prop :=
  wpAnyH P md ops Q S fuel listed a w
theorem regionL {id : Nat} {a : Act} {w : World} (o : List Nat) (S : World → Prop) (hm : P.follows .mixedOrders = true) (hS : S w.drew)
    (h : ∀ Q' : Exit → Act → World → Prop, Calm Q' → Shut (∀ a w, Q .normal a w → Q' .normal a w) → S w.drew → WQ o P .any ops Q' S ops.size (Array.replicate ops.size false) a w.drew) : (Code.region id ops true).wp P Q a w :=
  regionQ S hm hS h
theorem takeL {o : List Nat} {i : Nat} {oi : Oper} {d : Tmp} {v : Value} {fuel : Nat} {listed : Array Bool} {a : Act} {w : World} (hi : ops[i]? = some oi) (hd : oi.dst = some d)
    (hs : Region.noSelect ops = true) (hf : Region.free md ops listed i = true) (hr : (Region.ready md ops listed).contains i = true)
    (hQ : Calm Q) (hS : S w) (hw : Region.wanted oi (yielded ops a.tmps) = true) (hy : ∀ w, S w → (execOp a.eval oi).run P w = .ok (.value v) w)
    (h : WQ o P md ops Q S fuel (listed.setIfInBounds i true) (a.put (some d) v) w) : WQ (i :: o) P md ops Q S (fuel + 1) listed a w :=
  takeQ hi hd hs hf hr hQ hS hw hy h
theorem skipL {o : List Nat} {i : Nat} {oi : Oper} {d : Tmp} {fuel : Nat} {listed : Array Bool} {a : Act} {w : World} (hi : ops[i]? = some oi) (hd : oi.dst = some d)
    (hs : Region.noSelect ops = true) (hf : Region.free md ops listed i = true) (hr : (Region.ready md ops listed).contains i = true)
    (hQ : Calm Q) (hS : S w) (hw : Region.wanted oi (yielded ops a.tmps) = false)
    (h : WQ o P md ops Q S fuel (listed.setIfInBounds i true) (a.put (some d) undef) w) : WQ (i :: o) P md ops Q S (fuel + 1) listed a w :=
  skipQ hi hd hs hf hr hQ hS hw h
theorem skipN {o : List Nat} {i : Nat} {oi : Oper} {fuel : Nat} {listed : Array Bool} {a : Act} {w : World} (hi : ops[i]? = some oi) (hd : oi.dst = none)
    (hs : Region.noSelect ops = true) (hf : Region.free md ops listed i = true) (hr : (Region.ready md ops listed).contains i = true)
    (hQ : Calm Q) (hS : S w) (hw : Region.wanted oi (yielded ops a.tmps) = false)
    (h : WQ o P md ops Q S fuel (listed.setIfInBounds i true) a w) : WQ (i :: o) P md ops Q S (fuel + 1) listed a w :=
  skipQ hi hd hs hf hr hQ hS hw h
theorem toL (o : List Nat) {fuel : Nat} {listed : Array Bool} {a : Act} {w : World} (h : WQ o P md ops Q S fuel listed a w) : wpAnyH P md ops Q S fuel listed a w := h
theorem ofL {o : List Nat} {fuel : Nat} {listed : Array Bool} {a : Act} {w : World} (h : wpAnyH P md ops Q S fuel listed a w) : WQ o P md ops Q S fuel listed a w := h
end
end Go.Proofs.YtcmhompbdanpdaaGreatDoor
