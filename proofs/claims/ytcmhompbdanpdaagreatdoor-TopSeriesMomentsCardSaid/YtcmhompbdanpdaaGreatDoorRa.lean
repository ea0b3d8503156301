/- Logs as data: slices of events; names; what the functions of package recall compute. -/
import Derived.Test.YtcmhompbdanpdaaGreatDoorSa
namespace Go.Proofs.YtcmhompbdanpdaaGreatDoor
open Go.RowKit

/-- An event of a log. -/
structure Ev where
  k : Int
  g : ByteArray
  p : ByteArray
  t : ByteArray
def Ev.cells (v : Ev) : List Value := [.int .i64 v.k, .string v.g, .string v.p, .string v.t]
def Ev.zero : Ev := ⟨0, ⟨#[]⟩, ⟨#[]⟩, ⟨#[]⟩⟩
def eC (vs : List Ev) : List Value := vs.flatMap Ev.cells
def eAt (vs : List Ev) (i : Nat) : Ev := vs.getD i Ev.zero
theorem eC_length (vs : List Ev) : (eC vs).length = vs.length * 4 := by
  induction vs with
  | nil => rfl
  | cons b bs ih => show (b.cells ++ eC bs).length = _; rw [List.length_append, ih]; simp [Ev.cells]; omega
theorem eC_cons (v : Ev) (vs : List Ev) : eC (v :: vs) = .int .i64 v.k :: .string v.g :: .string v.p :: .string v.t :: eC vs := rfl
theorem eC_append (a b : List Ev) : eC (a ++ b) = eC a ++ eC b := by unfold eC; rw [List.flatMap_append]
theorem eAt_succ (v : Ev) (vs : List Ev) (i : Nat) : eAt (v :: vs) (i + 1) = eAt vs i := rfl
theorem eAt_lt {vs : List Ev} {i : Nat} (h : i < vs.length) : eAt vs i = vs[i] := by unfold eAt; rw [List.getD_eq_getElem?_getD, List.getElem?_eq_getElem h]; rfl
theorem take_succE {vs : List Ev} {k : Nat} (h : k < vs.length) : vs.take (k + 1) = vs.take k ++ [eAt vs k] := by
  rw [List.take_succ_eq_append_getElem h, eAt_lt h]
theorem eC_get (vs : List Ev) : ∀ (i : Nat), i < vs.length → (eC vs)[i * 4]? = some (.int .i64 (eAt vs i).k) ∧ (eC vs)[i * 4 + 1]? = some (.string (eAt vs i).g) ∧ (eC vs)[i * 4 + 2]? = some (.string (eAt vs i).p) ∧ (eC vs)[i * 4 + 3]? = some (.string (eAt vs i).t) := by
  induction vs with
  | nil => intro i hi; exact absurd hi (by simp)
  | cons b bs ih =>
    intro i hi
    cases i with
    | zero => exact ⟨rfl, rfl, rfl, rfl⟩
    | succ i =>
      have h := ih i (by simpa using hi)
      rw [eAt_succ, eC_cons, show (i + 1) * 4 = i * 4 + 4 from by omega]
      exact h
theorem CellsAt.evts {w : World} {ao : Option Addr} {vs : List Ev} (h : CellsAt w ao (eC vs)) (h0 : 0 < vs.length) :
    ∃ b o, ao = some ⟨b, o, none⟩ ∧ b < w.heap.size ∧ ∀ i, i < vs.length → w.cell? ⟨b, o + i * 4, none⟩ = some (.int .i64 (eAt vs i).k) ∧ w.cell? ⟨b, o + i * 4 + 1, none⟩ = some (.string (eAt vs i).g) ∧ w.cell? ⟨b, o + i * 4 + 2, none⟩ = some (.string (eAt vs i).p) ∧ w.cell? ⟨b, o + i * 4 + 3, none⟩ = some (.string (eAt vs i).t) := by
  obtain ⟨b, o, e, hl, _⟩ := h (by rw [eC_length]; omega)
  refine ⟨b, o, e, hl, fun i hi => ?_⟩
  obtain ⟨h1, h2, h3, h4⟩ := eC_get vs i hi
  exact ⟨h.get e h1, h.get e h2, h.get e h3, h.get e h4⟩
/-- Strings are strings. -/
def EvOk (v : Ev) : Prop := v.g.size ≤ 9223372036854775807 ∧ v.p.size ≤ 9223372036854775807 ∧ v.t.size ≤ 9223372036854775807
def LogOk (vs : List Ev) : Prop := ∀ i, i < vs.length → EvOk (eAt vs i)

/-! ### names -/
def letC (c : UInt8) : Bool := (decide (65 ≤ c.toNat) && decide (c.toNat ≤ 90)) || (decide (97 ≤ c.toNat) && decide (c.toNat ≤ 122))
def digC (c : UInt8) : Bool := decide (48 ≤ c.toNat) && decide (c.toNat ≤ 57)
def ndF (s : ByteArray) (i : Nat) (_ : Unit) : Unit ⊕ Int := if letC (s.data.toList.getD i 0) = true then .inl () else if digC (s.data.toList.getD i 0) = true then .inl () else .inr 3
/-- The error of a name. -/
def nmE (s : ByteArray) : Int :=
  if 24 < s.size then 17 else if s.size = 0 then 3 else if letC (s.data.toList.getD 0 0) = true then chkR (loopE (ndF s) s.size 0 ()) else 3
/-- The error of an event alone. -/
def evE (v : Ev) : Int :=
  if v.k < 0 ∨ 3 < v.k then 1
  else if v.k = 0 then (if nmE v.g = 0 then if nmE v.p = 0 then nmE v.t else nmE v.p else nmE v.g)
  else if v.k = 3 then (if nmE v.p = 0 then if v.g.size = 0 ∧ v.t.size = 0 then 0 else 3 else nmE v.p)
  else (if nmE v.g = 0 then if v.p.size = 0 ∧ v.t.size = 0 then 0 else 3 else nmE v.g)
end Go.Proofs.YtcmhompbdanpdaaGreatDoor
