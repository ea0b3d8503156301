/- Gauge blocks and stocks as data: slices of structs of four fields, what the functions of package stock and of its reference compute. -/
import Derived.Test.YtcmhompbdanpdaaGreatDoorMspec
import Derived.Test.YtcmhompbdanpdaaGreatDoorLibB
import Derived.Lib.Strings
import Derived.Lib.SlTrimSet
namespace Go.Proofs.YtcmhompbdanpdaaGreatDoor
open Go.RowKit

/-- A gauge block: its length, wear, uses, holder. -/
structure B5 where
  l : Int
  w : Int
  u : Int
  h : ByteArray
def B5.cells (b : B5) : List Value := [.int .i64 b.l, .int .i64 b.w, .int .i64 b.u, .string b.h]
def bC (bs : List B5) : List Value := bs.flatMap B5.cells
def bAt (bs : List B5) (i : Nat) : B5 := bs.getD i ⟨0, 0, 0, ⟨#[]⟩⟩
theorem bC_length (bs : List B5) : (bC bs).length = bs.length * 4 := by
  induction bs with
  | nil => rfl
  | cons b bs ih => show (b.cells ++ bC bs).length = _; rw [List.length_append, ih]; simp [B5.cells]; omega
theorem bC_cons (b : B5) (bs : List B5) : bC (b :: bs) = .int .i64 b.l :: .int .i64 b.w :: .int .i64 b.u :: .string b.h :: bC bs := rfl
theorem bAt_succ (b : B5) (bs : List B5) (i : Nat) : bAt (b :: bs) (i + 1) = bAt bs i := rfl
theorem bC_get (bs : List B5) : ∀ (i : Nat), i < bs.length → (bC bs)[i * 4]? = some (.int .i64 (bAt bs i).l) ∧ (bC bs)[i * 4 + 1]? = some (.int .i64 (bAt bs i).w) ∧ (bC bs)[i * 4 + 2]? = some (.int .i64 (bAt bs i).u) ∧ (bC bs)[i * 4 + 3]? = some (.string (bAt bs i).h) := by
  induction bs with
  | nil => intro i hi; exact absurd hi (by simp)
  | cons b bs ih =>
    intro i hi
    cases i with
    | zero => exact ⟨rfl, rfl, rfl, rfl⟩
    | succ i =>
      have h := ih i (by simpa using hi)
      rw [bAt_succ, bC_cons, show (i + 1) * 4 = i * 4 + 4 from by omega]
      exact h
theorem CellsAt.get {w : World} {b o : Nat} {cs : List Value} {ao : Option Addr} (h : CellsAt w ao cs) (ha : ao = some ⟨b, o, none⟩) {j : Nat} {v : Value} (hj : cs[j]? = some v) : w.cell? ⟨b, o + j, none⟩ = some v := by
  obtain ⟨hlt, _⟩ := List.getElem?_eq_some_iff.1 hj
  obtain ⟨b', o', e, _, hc⟩ := h (by omega)
  rw [ha] at e; cases e
  rw [hc j hlt, List.getD_eq_getElem?_getD, hj]; rfl
theorem CellsAt.blks {w : World} {ao : Option Addr} {bs : List B5} (h : CellsAt w ao (bC bs)) (h0 : 0 < bs.length) :
    ∃ b o, ao = some ⟨b, o, none⟩ ∧ b < w.heap.size ∧ ∀ i, i < bs.length → w.cell? ⟨b, o + i * 4, none⟩ = some (.int .i64 (bAt bs i).l) ∧ w.cell? ⟨b, o + i * 4 + 1, none⟩ = some (.int .i64 (bAt bs i).w) ∧ w.cell? ⟨b, o + i * 4 + 2, none⟩ = some (.int .i64 (bAt bs i).u) ∧ w.cell? ⟨b, o + i * 4 + 3, none⟩ = some (.string (bAt bs i).h) := by
  obtain ⟨b, o, e, hl, _⟩ := h (by rw [bC_length]; omega)
  refine ⟨b, o, e, hl, fun i hi => ?_⟩
  obtain ⟨h1, h2, h3, h4⟩ := bC_get bs i hi
  exact ⟨h.get e h1, h.get e h2, h.get e h3, h.get e h4⟩

theorem ret_i {R : Ending → World → Prop} {v' : Value} {w : World} {k : IntKind} {a b : Int} (h : R (.returned (.int k a)) w) (ev : v' = .int k b) (e : a = b) : R (.returned v') w := by rw [ev, ← e]; exact h
theorem ret_b {R : Ending → World → Prop} {v' : Value} {w : World} {a b : Bool} (h : R (.returned (.bool a)) w) (ev : v' = .bool b) (e : a = b) : R (.returned v') w := by rw [ev, ← e]; exact h
/-! ### boxes -/
theorem box_ex (w : World) (cs : Array Value) (e : TypeId) : ∃ w1, w.alloc (.cells cs e) = w1 ∧ Hid (Below w.heap.size w w1) ∧ w.heap.size < w1.heap.size ∧ Hid (w1.heap[w.heap.size]? = some (.cells cs e (0, 0))) :=
  ⟨_, rfl, (Below.refl _ _).alloc (Nat.le_refl _) _, by simp, by show (w.heap.push _)[_]? = _; simp⟩
theorem cell_at {w : World} {b : Nat} {cs : Array Value} {e : TypeId} (h : w.heap[b]? = some (.cells cs e (0, 0))) {j : Nat} {v : Value} (hj : cs[j]? = some v) : w.cell? ⟨b, j, none⟩ = some v := by
  simp [World.cell?, h, hj]
theorem frozen_at {w : World} {b : Nat} {cs : Array Value} {e : TypeId} (h : w.heap[b]? = some (.cells cs e (0, 0))) (j : Nat) : w.frozen? ⟨b, j, none⟩ = false := by
  simp [World.frozen?, h]
theorem box2 (w : World) (x y : Value) (e : TypeId) : ∃ w1, Hid (w.alloc (.cells #[x, y] e) = w1) ∧ Hid (Below w.heap.size w w1) ∧ w.heap.size < w1.heap.size ∧ w1.cell? ⟨w.heap.size, 0, none⟩ = some x ∧ w1.cell? ⟨w.heap.size, 1, none⟩ = some y := by
  obtain ⟨w1, h1, h2, h3, h4⟩ := box_ex w #[x, y] e
  exact ⟨w1, h1, h2, h3, cell_at h4.out rfl, cell_at h4.out rfl⟩
theorem box4 (w : World) (x y z u : Value) (e : TypeId) : ∃ w1, Hid (w.alloc (.cells #[x, y, z, u] e) = w1) ∧ Hid (Below w.heap.size w w1) ∧ w.heap.size < w1.heap.size ∧ w1.cell? ⟨w.heap.size, 0, none⟩ = some x ∧ w1.cell? ⟨w.heap.size, 1, none⟩ = some y ∧
    w1.cell? ⟨w.heap.size, 2, none⟩ = some z ∧ w1.cell? ⟨w.heap.size, 3, none⟩ = some u := by
  obtain ⟨w1, h1, h2, h3, h4⟩ := box_ex w #[x, y, z, u] e
  exact ⟨w1, h1, h2, h3, cell_at h4.out rfl, cell_at h4.out rfl, cell_at h4.out rfl, cell_at h4.out rfl⟩
/-- A cell that was there reads as before. -/
theorem cellB {n : Nat} {w w' : World} {b o : Nat} {v : Value} (hb : Below n w w') (h : w.cell? ⟨b, o, none⟩ = some v) (hn : b < n) : w'.cell? ⟨b, o, none⟩ = some v := (hb.cell (p := ⟨b, o, none⟩) hn).trans h
theorem heap_below {w w' : World} {b n : Nat} {o : Option Obj} (h : w.heap[b]? = o) (hb : Below n w w') (hn : b < n) : w'.heap[b]? = o := (hb.block b hn).trans h

/-! ### numbers and names -/
def inB (n a b : Int) : Bool := decide (a ≤ n) && decide (n ≤ b)
theorem inB_iff {n a b : Int} : inB n a b = true ↔ a ≤ n ∧ n ≤ b := by simp [inB]
def lowC (c : UInt8) : Bool := decide (97 ≤ c.toNat) && decide (c.toNat ≤ 122)
def lowB (s : ByteArray) : Bool := s.data.toList.all lowC
/-- The error of a text that should have letters only. -/
def ltrE (s : ByteArray) : Int := if lowB s = true then if s.size ≤ 24 then 0 else 17 else 3
/-- The error of a name. -/
def namE (s : ByteArray) : Int := if s.size = 0 then 3 else ltrE s
def azL : List UInt8 := [97, 98, 99, 100, 101, 102, 103, 104, 105, 106, 107, 108, 109, 110, 111, 112, 113, 114, 115, 116, 117, 118, 119, 120, 121, 122]
theorem az_iff (c : UInt8) : azL.contains c = lowC c := by
  have h : ∀ n : Fin 256, azL.contains (UInt8.ofNat n.val) = lowC (UInt8.ofNat n.val) := by decide +kernel
  have := h ⟨c.toNat, c.toNat_lt⟩
  simpa using this

/-! ### stocks -/
def ckS (m : Int) (bs : List B5) (i : Nat) (_ : Unit) : Unit ⊕ Int :=
  if inB (bAt bs i).l 1 100000 = false ∨ inB (bAt bs i).w 0 100000 = false ∨ inB (bAt bs i).u 0 1048576 = false then .inr 2
  else if 0 < i ∧ (bAt bs i).l ≤ (bAt bs (i - 1)).l then .inr 9
  else if ltrE (bAt bs i).h ≠ 0 then .inr (ltrE (bAt bs i).h)
  else if m < (bAt bs i).w ∧ (bAt bs i).h.size ≠ 0 then .inr 14 else .inl ()
/-- 'Check'. -/
def chkS (m : Int) (bs : List B5) : Int := if inB m 0 100000 = true then if 256 < bs.length then 5 else chkR (loopE (ckS m bs) bs.length 0 ()) else 2
/-- A string is a string. -/
def StrOk (bs : List B5) : Prop := ∀ i, i < bs.length → (bAt bs i).h.size ≤ 9223372036854775807
theorem empty_of {s : ByteArray} (h : s.size = 0) : s.toList.isEmpty = true := by
  rw [Lib.toList_data]
  have : s.data.toList.length = 0 := by simpa using h
  rw [List.length_eq_zero_iff.1 this]; rfl
theorem nempty_of {s : ByteArray} (h : s.size ≠ 0) : s.toList.isEmpty = false := by
  rw [Lib.toList_data]
  cases e : s.data.toList with
  | nil => exact absurd (by have : s.data.toList.length = 0 := by rw [e]; rfl
                            simpa using this) h
  | cons => rfl
theorem lowB_empty {s : ByteArray} (h : s.size = 0) : lowB s = true := by
  have : s.data.toList.length = 0 := by simpa using h
  unfold lowB; rw [List.length_eq_zero_iff.1 this]; rfl
theorem ltrE_empty {s : ByteArray} (h : s.size = 0) : ltrE s = 0 := by
  rw [ltrE, if_pos (lowB_empty h), if_pos (by omega)]
theorem trim_low {s : ByteArray} (h : lowB s = true) : Lib.trimS s.data.toList azL = [] := by
  have h1 : ∀ l : List UInt8, l.all lowC = true → l.dropWhile (azL.contains ·) = [] := by
    intro l hl
    induction l with
    | nil => rfl
    | cons c l ih =>
      rw [List.all_cons, Bool.and_eq_true] at hl
      rw [List.dropWhile_cons_of_pos (by rw [az_iff]; exact hl.1)]
      exact ih hl.2
  unfold Lib.trimS Lib.trimRightS
  rw [h1 _ (by rw [List.all_reverse]; exact h)]
  rfl
theorem trim_notlow {s : ByteArray} (h : lowB s = false) : Lib.trimS s.data.toList azL ≠ [] := by
  have h1 : ∀ l : List UInt8, l.all lowC = false → (l.dropWhile (azL.contains ·)).all lowC = false := by
    intro l
    induction l with
    | nil => intro hl; cases hl
    | cons c l ih =>
      intro hl
      by_cases hc : lowC c = true
      · rw [List.dropWhile_cons_of_pos (by rw [az_iff]; exact hc)]
        rw [List.all_cons, hc, Bool.true_and] at hl
        exact ih hl
      · rw [List.dropWhile_cons_of_neg (by rw [az_iff]; exact hc)]
        exact hl
  intro e
  have h2 : (Lib.trimS s.data.toList azL).all lowC = false := by
    unfold Lib.trimS Lib.trimLeftS
    refine h1 _ ?_
    unfold Lib.trimRightS
    rw [List.all_reverse]
    exact h1 _ (by rw [List.all_reverse]; exact h)
  rw [e] at h2; cases h2
def nmF (s : ByteArray) (i : Nat) (_ : Unit) : Unit ⊕ Int := if lowC (s.data.toList.getD i 0) = true then .inl () else .inr 3
theorem nmF_eq (s : ByteArray) : (loopE (nmF s) s.size 0 () = .inl () ∧ lowB s = true) ∨ (loopE (nmF s) s.size 0 () = .inr 3 ∧ lowB s = false) := by
  have hs : s.size = s.data.toList.length := by simp
  cases h : loopE (nmF s) s.size 0 () with
  | inl u =>
    refine .inl ⟨rfl, ?_⟩
    have h' := (loopE_unit _ _).1 h
    unfold lowB
    rw [List.all_eq_true]
    intro c hc
    obtain ⟨j, hj, rfl⟩ := List.mem_iff_getElem.1 hc
    have := h' j (by omega) (by omega)
    unfold nmF at this
    split at this
    · rename_i h2; rw [List.getD_eq_getElem?_getD, List.getElem?_eq_getElem hj] at h2; exact h2
    · cases this
  | inr r =>
    obtain ⟨j, _, hj, hf⟩ := loopE_unit_inr _ _ h
    have hj' : j < s.data.toList.length := by omega
    unfold nmF at hf
    split at hf
    · cases hf
    · rename_i h2
      cases hf
      refine .inr ⟨rfl, ?_⟩
      cases hl : lowB s with
      | false => rfl
      | true =>
        unfold lowB at hl
        rw [List.all_eq_true] at hl
        exact absurd (by rw [List.getD_eq_getElem?_getD, List.getElem?_eq_getElem hj']; exact hl _ (List.getElem_mem hj')) h2

/-! ### the places of the blocks for which a condition holds -/
def pickTo (p : B5 → Bool) (bs : List B5) : Nat → List Int
  | 0 => []
  | n + 1 => pickTo p bs n ++ if p (bAt bs n) = true then [(n : Int)] else []
def pickL (p : B5 → Bool) (bs : List B5) : List Int := pickTo p bs bs.length
theorem pickTo_length (p : B5 → Bool) (bs : List B5) : ∀ n, (pickTo p bs n).length ≤ n
  | 0 => Nat.le_refl _
  | n + 1 => by
    have := pickTo_length p bs n
    rw [pickTo, List.length_append]; split <;> simp <;> omega
theorem pickTo_mem {p : B5 → Bool} {bs : List B5} {x : Int} : ∀ n, x ∈ pickTo p bs n ↔ ∃ i : Nat, i < n ∧ x = i ∧ p (bAt bs i) = true
  | 0 => by simp [pickTo]
  | n + 1 => by
    rw [pickTo, List.mem_append, pickTo_mem n]
    constructor
    · rintro (⟨i, h1, h2, h3⟩ | h)
      · exact ⟨i, by omega, h2, h3⟩
      · split at h
        · rename_i hp; simp at h; exact ⟨n, by omega, h, hp⟩
        · simp at h
    · rintro ⟨i, h1, h2, h3⟩
      by_cases e : i = n
      · subst e; right; rw [if_pos h3]; simp [h2]
      · exact .inl ⟨i, by omega, h2, h3⟩
def freeP (m : Int) (b : B5) : Bool := decide (b.h.size = 0) && decide (b.w ≤ m)
def heldP (who : ByteArray) (b : B5) : Bool := b.h.toList == who.toList
def lenP (l : Int) (b : B5) : Bool := b.l == l
theorem freeP_no {m : Int} {b : B5} (h : b.h.size ≠ 0) : freeP m b = false := by simp [freeP, h]
theorem freeP_no2 {m : Int} {b : B5} (h : ¬ b.w ≤ m) : freeP m b = false := by simp [freeP, h]
theorem freeP_yes {m : Int} {b : B5} (h : b.h.size = 0) (h2 : b.w ≤ m) : freeP m b = true := by simp [freeP, h, h2]
def B5.val (b : B5) : Value := .agg #[.int .i64 b.l, .int .i64 b.w, .int .i64 b.u, .string b.h]

/-! ### results -/
def nmS (m : Int) (bs : List B5) (who : ByteArray) : Int := if chkS m bs = 0 then namE who else chkS m bs
def frL (m : Int) (bs : List B5) : List Int := if chkS m bs = 0 then pickL (freeP m) bs else []
def devF (bs : List B5) (L : List Int) (i : Nat) (s : Int) : Int ⊕ Int := .inl (wrap64 (s + (bAt bs (at0 L i).toNat).w))
def devS (bs : List B5) (L : List Int) : Int := sumR (loopE (devF bs L) L.length 0 0)
def devN (m : Int) (bs : List B5) (who : ByteArray) : Int := if nmS m bs who = 0 then if (pickL (heldP who) bs).length = 0 then 0 else devS bs (pickL (heldP who) bs) else 0
def devE (m : Int) (bs : List B5) (who : ByteArray) : Int := if nmS m bs who = 0 then if (pickL (heldP who) bs).length = 0 then 6 else 0 else nmS m bs who
theorem chkS_len {m : Int} {bs : List B5} (h : chkS m bs = 0) : bs.length ≤ 256 := by
  by_cases h' : bs.length ≤ 256
  · exact h'
  · unfold chkS at h; split at h
    · rw [if_pos (by omega)] at h; cases h
    · cases h
theorem nmS_chk {m : Int} {bs : List B5} {who : ByteArray} (h : nmS m bs who = 0) : chkS m bs = 0 := by
  unfold nmS at h; split at h
  · assumption
  · exact h
theorem pick_bd {p : B5 → Bool} {bs : List B5} {j : Nat} (hj : j < (pickL p bs).length) : ∃ i : Nat, at0 (pickL p bs) j = i ∧ i < bs.length ∧ p (bAt bs i) = true := by
  have hm : at0 (pickL p bs) j ∈ pickL p bs := by
    unfold at0; rw [List.getD_eq_getElem?_getD, List.getElem?_eq_getElem hj]; exact List.getElem_mem _
  obtain ⟨i, h1, h2, h3⟩ := (pickTo_mem _).1 hm
  exact ⟨i, h2, h1, h3⟩
end Go.Proofs.YtcmhompbdanpdaaGreatDoor
