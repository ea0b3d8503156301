/- Texts of integers as values of the program. No program in sight. Reading and writing numbers word by word. No program in sight. -/
import Derived.WalkKit
import Derived.Lib.Strings
import Derived.Lib.Split
import Derived.Lib.IndexBytes
import Derived.Test.YtcmhompbdanpdaaGreatDoorMwa
import Derived.Test.YtcmhompbdanpdaaGreatDoorMve
namespace Go.Proofs.YtcmhompbdanpdaaGreatDoor
open Go Go.RowKit Go.Lib

def tB (l : List UInt8) : ByteArray := ⟨l.toArray⟩
theorem tB_data (b : ByteArray) : tB b.data.toList = b := by cases b; rfl
theorem data_tB (l : List UInt8) : (tB l).data.toList = l := by simp [tB]
theorem tB_eq {a b : ByteArray} (h : a.data.toList = b.data.toList) : a = b := by rw [← tB_data a, ← tB_data b, h]
/-- A text of bytes; the text of an integer. -/
def Tx (a : ByteArray) (l : List UInt8) : Prop := a.data.toList = l
def Txt (a : ByteArray) (n : Int) : Prop := Tx a (itoa n)
theorem Tx.of (l : List UInt8) : Tx (tB l) l := data_tB l
theorem Tx.size {a : ByteArray} {l : List UInt8} (h : Tx a l) : a.size = l.length := by rw [← h]; simp
theorem Tx.list {a : ByteArray} {l : List UInt8} (h : Tx a l) : a.toList = l := by rw [Lib.toList_data]; exact h
theorem Tx.eq {a : ByteArray} {l : List UInt8} (h : Tx a l) : a = tB l := tB_eq (by rw [data_tB]; exact h)
theorem Tx.inj {a b : ByteArray} {l : List UInt8} (h : Tx a l) (h' : Tx b l) : a = b := h.eq.trans h'.eq.symm
theorem Tx.get {a : ByteArray} {l : List UInt8} (h : Tx a l) {i : Nat} (hi : i < a.size) : a[i] = l.getD i 0 := by
  rw [← show a.data.toList = l from h, List.getD_eq_getElem?_getD, List.getElem?_eq_getElem (by simpa using hi)]; rfl
theorem Tx.add {a b : ByteArray} {l m : List UInt8} (h : Tx a l) (h' : Tx b m) : Tx (a ++ b) (l ++ m) := by
  unfold Tx; rw [← show a.data.toList = l from h, ← show b.data.toList = m from h']; simp
theorem Tx.drop {a : ByteArray} {l : List UInt8} (h : Tx a l) (k : Nat) : Tx (a.extract k a.size) (l.drop k) := by
  unfold Tx; rw [Lib.extract_to_end, show a.data.toList = l from h]
theorem Tx.take {a : ByteArray} {l : List UInt8} (h : Tx a l) (k : Nat) : Tx (a.extract 0 k) (l.take k) := by
  unfold Tx; rw [Lib.extract_from_zero, show a.data.toList = l from h]
theorem Tx.add_run {P : Program} {x y : ByteArray} {l m : List UInt8} (h : Tx x l) (h' : Tx y m) (hs : l.length + m.length ≤ 9223372036854775807) : ∀ w : World, (Op.stringOp .add x y).run P w = .ok (.string (tB (l ++ m))) w := fun w => by
  rw [run_string_add_sum w x y (by rw [h.size, h'.size]; exact hs), ← (h.add h').eq]
theorem Txt.inj {a b : ByteArray} {m n : Int} (h : Txt a m) (h' : Txt b n) : a = b ↔ m = n := by
  constructor
  · intro e
    subst e
    exact itoa_inj ((show _ = _ from h).symm.trans h')
  · intro e
    subst e
    exact Tx.inj h h'
/-- Comparing texts of integers. -/
theorem Txt.beq {a b : ByteArray} {m n : Int} (h : Txt a m) (h' : Txt b n) : (a.toList == b.toList) = decide (m = n) := by
  rw [h.list, h'.list]
  by_cases e : m = n
  · subst e; simp
  · have : itoa m ≠ itoa n := fun h => e (itoa_inj h)
    simp [this, e]
theorem Txt.zero : Txt ⟨#[48]⟩ 0 := by unfold Txt; rw [itoa_zero]; rfl
theorem Txt.one : Txt ⟨#[49]⟩ 1 := by unfold Txt; rw [itoa_one]; rfl
theorem Txt.minus : Txt ⟨#[45, 49]⟩ (-1) := by unfold Txt; rw [itoa_below (by omega)]; show _ = 45 :: decDigits 1; rw [dec_small (by decide)]; rfl
theorem Txt.size {a : ByteArray} {n : Int} (h : Txt a n) : a.size = lenI n + (if n < 0 then 1 else 0) := (Tx.size h).trans (itoa_len n)
theorem Txt.pos {a : ByteArray} {n : Int} (h : Txt a n) : 0 < a.size := by rw [Txt.size h]; have := lenI_pos n; omega
theorem Txt.head {a : ByteArray} {n : Int} (h : Txt a n) (hp : 0 < a.size) : (a[0].toNat = 45) ↔ n < 0 := by
  rw [Tx.get h hp, ← below_itoa]
  cases e : itoa n with
  | nil => have := Tx.size h; rw [e, List.length_nil] at this; omega
  | cons c r =>
    simp
    constructor
    · intro h; exact UInt8.toNat.inj h
    · intro h; rw [h]; rfl
/-- Digits of a magnitude. -/
theorem Txt.nat {a : ByteArray} {v : Nat} (h : Tx a (decDigits v)) : Txt a v := by unfold Txt; rw [itoa_pos (by omega)]; exact h
theorem Txt.dec {a : ByteArray} {v : Nat} (h : Txt a (v : Int)) : Tx a (decDigits v) := by unfold Txt at h; rw [itoa_pos (by omega)] at h; exact h
theorem itoa_tail {n : Int} (h : n < 0) : (itoa n).drop 1 = itoa (n.natAbs : Int) := by rw [itoa_below h, itoa_pos (by omega)]; rfl
theorem Txt.tail {a : ByteArray} {n : Int} (h : Txt a n) (hn : n < 0) : Txt (a.extract 1 a.size) (n.natAbs : Int) := by
  unfold Txt; rw [← itoa_tail hn]; exact Tx.drop h 1
theorem Txt.whole {a : ByteArray} {n : Int} (h : Txt a n) (hn : 0 ≤ n) : Txt a (n.natAbs : Int) := by rw [show (n.natAbs : Int) = n from by omega]; exact h
theorem Txt.minus_run {a : ByteArray} {n : Int} (h : Txt a n) (hn : 0 < n) (hs : lenI n ≤ 1000000) {P : Program} : ∀ w : World, (Op.stringOp .add ⟨#[45]⟩ a).run P w = .ok (.string (tB (itoa (-n)))) w := by
  have hd : Tx ⟨#[45]⟩ [45] := rfl
  have e : [45] ++ itoa n = itoa (-n) := by
    rw [itoa_below (n := -n) (by omega), itoa_pos (n := n) (by omega), show n.toNat = (-n).natAbs from by omega]; rfl
  rw [← e]
  exact hd.add_run h (by rw [itoa_len]; simp; split <;> omega)
theorem Txt.of (n : Int) : Txt (tB (itoa n)) n := data_tB _
theorem atoi_dgs {l : List UInt8} (h : Dgs l) (hn : l ≠ []) : atoi l = some (dv l : Int) := by
  cases l with
  | nil => exact absurd rfl hn
  | cons b r =>
    have hb := (h.cons).1
    have h1 : ¬ b.toNat = 45 := by omega
    have h2 : ¬ b.toNat = 43 := by omega
    have h3 : ¬ b = 45 := fun e => h1 (by rw [e]; rfl)
    have h4 : ¬ b = 43 := fun e => h2 (by rw [e]; rfl)
    have hd : decNat (b :: r) = some (dv (b :: r)) := by unfold decNat; simp [decFrom_dgs h, dv]
    simp [atoi, h3, h4, hd]
theorem atoi_itoa (n : Int) : atoi (itoa n) = some n := by
  by_cases h : n < 0
  · rw [itoa_below h]
    have hd : decNat (decDigits n.natAbs) = some n.natAbs := by
      have hne := dec_ne n.natAbs
      have := decFrom_dgs (dgs_dec n.natAbs) 0
      have hv : dvF 0 (decDigits n.natAbs) = n.natAbs := dv_dec _
      unfold decNat
      simp [this, hv, hne]
    simp [atoi, hd]
    omega
  · rw [itoa_pos (by omega), atoi_dgs (dgs_dec _) (dec_ne _), dv_dec]
    congr 1
    omega
end Go.Proofs.YtcmhompbdanpdaaGreatDoor
namespace Go.Proofs.YtcmhompbdanpdaaGreatDoor
open Go Go.Lib

theorem nw_low {v i : Nat} (h : i < nw v) : bB ^ i ≤ v := by
  have := mt (nw_le i v).2 (by omega)
  omega
theorem div_step (v i : Nat) : v / bB ^ i / bB = v / bB ^ (i + 1) := by rw [Nat.div_div_eq_div_mul, Nat.pow_succ]
theorem text_step {v i : Nat} (h : i + 1 < nw v) : decDigits (v / bB ^ i) = decDigits (v / bB ^ (i + 1)) ++ padL 9 (decDigits (wd v i)) := by
  have h1 : bB ≤ v / bB ^ i := by
    rw [Nat.le_div_iff_mul_le (bB_pos i), Nat.mul_comm, ← Nat.pow_succ]
    exact nw_low h
  rw [dec_word h1, div_step]
  rfl
theorem top_word {v : Nat} (h : v ≠ 0) : wd v (nw v - 1) = v / bB ^ (nw v - 1) := by
  have h0 : 0 < nw v := by
    have := mt (nw_eq_zero (v := v)).1 h
    omega
  unfold wd
  refine Nat.mod_eq_of_lt ?_
  rw [Nat.div_lt_iff_lt_mul (bB_pos _), Nat.mul_comm, ← Nat.pow_succ, show (nw v - 1).succ = nw v from by omega]
  exact lt_nw v
theorem word_len {x : Nat} (h : x < bB) : (decDigits x).length ≤ 9 := dec_len_lt (by rw [pow9]; exact h) (by decide)
/-- The text that is left, and how many words are read. -/
structure RdI (v n : Nat) (l : List UInt8) (tot : Nat) : Prop where
  dgs : Dgs l
  eq : dv l = v / bB ^ n
  len : 9 * n ≤ tot + 8
  at_ : l ≠ [] → l.length + 9 * n = tot
theorem RdI.start {l : List UInt8} (h : Dgs l) : RdI (dv l) 0 l l.length := ⟨h, by simp, by omega, fun _ => by omega⟩
theorem RdI.step {v n tot : Nat} {l : List UInt8} (h : RdI v n l tot) (hn : l ≠ []) :
    RdI v (n + 1) (l.take (l.length - 9)) tot ∧ dv (l.drop (l.length - 9)) = wd v n ∧ l.drop (l.length - 9) ≠ [] ∧ Dgs (l.drop (l.length - 9)) := by
  obtain ⟨h1, h2⟩ := dv_cut2 h.dgs
  have ha := h.at_ hn
  have hp := List.length_pos_iff.2 hn
  refine ⟨⟨h.dgs.take _, by rw [h2, h.eq, div_step], by omega, fun he => ?_⟩, by rw [h1, h.eq]; rfl, ?_, h.dgs.drop _⟩
  · have := List.length_pos_iff.2 he
    rw [List.length_take] at this ⊢
    omega
  · have := List.length_pos_iff.2 hn
    intro e
    have := congrArg List.length e
    rw [List.length_drop, List.length_nil] at this
    omega
theorem RdI.done {v n tot : Nat} (h : RdI v n [] tot) : nw v ≤ n := by
  have := h.eq
  rw [dv_nil] at this
  rw [nw_le]
  exact (Nat.div_eq_zero_iff_lt (bB_pos n)).1 this.symm
end Go.Proofs.YtcmhompbdanpdaaGreatDoor
