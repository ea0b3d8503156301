/- The walks of Withdrawn, Measured of the reference. The walk of Check of the reference. (Printed by gen_rcheck.py.) The walks of Few, Next, State of the reference. The walks of State, First, Recalled, Few of the reference. -/
import Derived.Test.YtcmhompbdanpdaaGreatDoorMre
import Derived.Test.YtcmhompbdanpdaaGreatDoorMrb
namespace Go.Proofs.YtcmhompbdanpdaaGreatDoor
open Go.RowKit

theorem anyTo_false {q : Ev → Bool} {vs : List Ev} {n : Nat} (h : ∀ j, j < n → q (eAt vs j) = false) : anyTo q vs n = false := by
  cases e : anyTo q vs n with
  | false => rfl
  | true => obtain ⟨j, h1, h2⟩ := (anyTo_iff n).1 e; rw [h j h1] at h2; cases h2

end Go.Proofs.YtcmhompbdanpdaaGreatDoor
namespace Go.Proofs.YtcmhompbdanpdaaGreatDoor
open Go.RowKit

theorem quiet_add {P : Program} {f : FuncId} {args : Array Value} {w : World} {a n : Nat} {v : Value}
    (h : Calls P f args (w.drewN (a + n)) fun e w' => e = .returned v ∧ ∃ m, w' = (w.drewN (a + n)).drewN m) :
    Calls P f args (w.drewN (a + n)) fun e w'' => e = .returned v ∧ ∃ m, w'' = w.drewN (a + m) :=
  h.mono fun _ _ ⟨he, m, hm⟩ => ⟨he, n + m, by rw [hm, World.drewN_drewN, Nat.add_assoc]⟩
theorem CellsAt.drewN {w : World} {ao : Option Addr} {cs : List Value} (h : CellsAt w ao cs) (n : Nat) : CellsAt (w.drewN n) ao cs := h.below ((Drew.refl _).drewN.below _)

end Go.Proofs.YtcmhompbdanpdaaGreatDoor
namespace Go.Proofs.YtcmhompbdanpdaaGreatDoor
open Go.RowKit

def loQ (v : Ev) : Bool := decide (60 < v.g.size) || (decide (60 < v.p.size) || decide (60 < v.t.size))
/-- Few. -/
def fwL (vs : List Ev) : Bool := if (16 < vs.length ∧ vs.length ≤ 4096) ∨ 8192 < vs.length then false else !anyTo loQ vs vs.length
/-- A check of a gauge. -/
def ckQ (g : ByteArray) (v : Ev) : Bool := (v.k == 1 || v.k == 2) && sameB v.g g
def nxS (g : ByteArray) (vs : List Ev) : Nat → Nat → Int
  | 0, _ => -1
  | d + 1, k => if ckQ g (eAt vs k) = true then (k : Int) else nxS g vs d (k + 1)
/-- 'Next', 'State'. -/
def nx (vs : List Ev) (i : Nat) : Int := nxS (eAt vs i).g vs (vs.length - (i + 1)) (i + 1)
def stt (vs : List Ev) (i : Nat) : Int := if (eAt vs i).k = 0 then if nx vs i < 0 then 1 else 1 + (eAt vs (nx vs i).toNat).k else 0
theorem nxS_cases (g : ByteArray) (vs : List Ev) : ∀ (d k : Nat), nxS g vs d k = -1 ∨ ∃ j : Nat, nxS g vs d k = j ∧ k ≤ j ∧ j < k + d ∧ ckQ g (eAt vs j) = true
  | 0, _ => .inl rfl
  | d + 1, k => by
    rw [nxS]
    split
    · rename_i h; exact .inr ⟨k, rfl, Nat.le_refl _, by omega, h⟩
    · rcases nxS_cases g vs d (k + 1) with h | ⟨j, h1, h2, h3, h4⟩
      · exact .inl h
      · exact .inr ⟨j, h1, by omega, by omega, h4⟩
theorem nx_cases (vs : List Ev) (i : Nat) : nx vs i = -1 ∨ ∃ j : Nat, nx vs i = j ∧ i < j ∧ j < vs.length ∧ ckQ (eAt vs i).g (eAt vs j) = true := by
  rcases nxS_cases (eAt vs i).g vs (vs.length - (i + 1)) (i + 1) with h | ⟨j, h1, h2, h3, h4⟩
  · exact .inl h
  · exact .inr ⟨j, h1, by omega, by omega, h4⟩
theorem nxS_step {g : ByteArray} {vs : List Ev} {n k : Nat} {X : Int} (h : Hid (nxS g vs (n - k) k = X)) (hk : k < n) (hf : ckQ g (eAt vs k) = false) : Hid (nxS g vs (n - (k + 1)) (k + 1) = X) := by
  have h := h.out
  rw [show n - k = (n - (k + 1)) + 1 from by omega, nxS, if_neg (by rw [hf]; simp)] at h
  exact h
theorem nxS_hit {g : ByteArray} {vs : List Ev} {n k : Nat} {X : Int} (h : Hid (nxS g vs (n - k) k = X)) (hk : k < n) (hf : ckQ g (eAt vs k) = true) : X = k := by
  have h := h.out
  rw [show n - k = (n - (k + 1)) + 1 from by omega, nxS, if_pos hf] at h
  exact h.symm
theorem nxS_end {g : ByteArray} {vs : List Ev} {n k : Nat} {X : Int} (h : Hid (nxS g vs (n - k) k = X)) (hk : ¬ k < n) : X = -1 := by
  have h := h.out
  rw [show n - k = 0 from by omega, nxS] at h
  exact h.symm

end Go.Proofs.YtcmhompbdanpdaaGreatDoor
namespace Go.Proofs.YtcmhompbdanpdaaGreatDoor
open Go.RowKit

def fsQ (p : ByteArray) (st : Int) (vs : List Ev) (k : Nat) : Bool := sameB (eAt vs k).p p && stt vs k == st
def fsS (p : ByteArray) (st : Int) (vs : List Ev) : Nat → Nat → Int
  | 0, _ => -1
  | d + 1, k => if fsQ p st vs k = true then (k : Int) else fsS p st vs d (k + 1)
/-- 'First', 'Recalled'. -/
def frs (vs : List Ev) (p : ByteArray) (st : Int) : Int := fsS p st vs vs.length 0
def rcl (vs : List Ev) (p : ByteArray) : Bool := decide (0 ≤ frs vs p 3) && (decide (frs vs p 2 < 0) && !anyTo (wdQ p) vs vs.length)
theorem fsS_step {p : ByteArray} {st : Int} {vs : List Ev} {n k : Nat} {X : Int} (h : Hid (fsS p st vs (n - k) k = X)) (hk : k < n) (hf : fsQ p st vs k = false) : Hid (fsS p st vs (n - (k + 1)) (k + 1) = X) := by
  have h := h.out
  rw [show n - k = (n - (k + 1)) + 1 from by omega, fsS, if_neg (by rw [hf]; simp)] at h
  exact h
theorem fsS_hit {p : ByteArray} {st : Int} {vs : List Ev} {n k : Nat} {X : Int} (h : Hid (fsS p st vs (n - k) k = X)) (hk : k < n) (hf : fsQ p st vs k = true) : X = k := by
  have h := h.out
  rw [show n - k = (n - (k + 1)) + 1 from by omega, fsS, if_pos hf] at h
  exact h.symm
theorem fsS_end {p : ByteArray} {st : Int} {vs : List Ev} {n k : Nat} {X : Int} (h : Hid (fsS p st vs (n - k) k = X)) (hk : ¬ k < n) : X = -1 := by
  have h := h.out
  rw [show n - k = 0 from by omega, fsS] at h
  exact h.symm
theorem fsS_cases (p : ByteArray) (st : Int) (vs : List Ev) : ∀ (d k : Nat), fsS p st vs d k = -1 ∨ ∃ j : Nat, fsS p st vs d k = j ∧ k ≤ j ∧ j < k + d ∧ fsQ p st vs j = true
  | 0, _ => .inl rfl
  | d + 1, k => by
    rw [fsS]
    split
    · rename_i h; exact .inr ⟨k, rfl, Nat.le_refl _, by omega, h⟩
    · rcases fsS_cases p st vs d (k + 1) with h | ⟨j, h1, h2, h3, h4⟩
      · exact .inl h
      · exact .inr ⟨j, h1, by omega, by omega, h4⟩

end Go.Proofs.YtcmhompbdanpdaaGreatDoor
