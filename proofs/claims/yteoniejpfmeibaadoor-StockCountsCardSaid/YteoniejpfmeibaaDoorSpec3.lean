/- All stacks of n blocks, as the reference lists them. -/
import Derived.Test.YteoniejpfmeibaaDoorSpec2
namespace Go.Proofs.YteoniejpfmeibaaDoor
open Go.RowKit

def frm (k : Nat) (l : List Int) : Nat := if 0 < k then (at0 l (k - 1) + 1).toNat else 0
def ext (n k : Nat) (l : List Int) : List (List Int) := (List.range' (frm k l) (n - frm k l)).map fun (b : Nat) => l ++ [(b : Int)]
def lasts (n : Nat) : Nat → List (List Int)
  | 0 => [[]]
  | k + 1 => (lasts n k).flatMap (ext n k)
def stks (n : Nat) : Nat → List (List Int)
  | 0 => [[]]
  | k + 1 => stks n k ++ lasts n (k + 1)

theorem at0_append_left (l : List Int) (x : Int) (j : Nat) (h : j < l.length) : at0 (l ++ [x]) j = at0 l j := by
  unfold at0; rw [List.getD_eq_getElem?_getD, List.getElem?_append_left h, List.getD_eq_getElem?_getD]
theorem at0_append_last (l : List Int) (x : Int) : at0 (l ++ [x]) l.length = x := by
  unfold at0; rw [List.getD_eq_getElem?_getD, List.getElem?_append_right (Nat.le_refl _)]; simp
theorem at0_append_last' (l : List Int) (x : Int) (j : Nat) (h : j = l.length) : at0 (l ++ [x]) j = x := by subst h; exact at0_append_last l x

/-- What is known of the stacks of k blocks. -/
theorem lasts_ok (n : Nat) : ∀ k, ∀ l ∈ lasts n k, l.length = k ∧ ∀ j, j < k → 0 ≤ at0 l j ∧ at0 l j < n
  | 0 => by intro l hl; simp [lasts] at hl; subst hl; exact ⟨rfl, fun j hj => absurd hj (by omega)⟩
  | k + 1 => by
    intro l hl
    simp only [lasts, List.mem_flatMap] at hl
    obtain ⟨l0, hl0, hl⟩ := hl
    obtain ⟨h1, h2⟩ := lasts_ok n k l0 hl0
    simp only [ext, List.mem_map, List.mem_range'_1] at hl
    obtain ⟨b, hb, rfl⟩ := hl
    refine ⟨by simp [h1], fun j hj => ?_⟩
    by_cases e : j = k
    · subst e
      rw [at0_append_last' _ _ _ h1.symm]; omega
    · rw [at0_append_left _ _ _ (by omega)]
      exact h2 j (by omega)
theorem frm_le {n k : Nat} {l : List Int} (h : l ∈ lasts n k) : frm k l ≤ n := by
  obtain ⟨h1, h2⟩ := lasts_ok n k l h
  unfold frm; split
  · have := h2 (k - 1) (by omega); omega
  · omega
theorem ext_length (n k : Nat) (l : List Int) : (ext n k l).length ≤ n := by simp [ext]
theorem flatMap_ext_length (n k : Nat) (ls : List (List Int)) : (ls.flatMap (ext n k)).length ≤ ls.length * n := by
  induction ls with
  | nil => simp
  | cons l ls ih =>
    have := ext_length n k l
    rw [List.flatMap_cons, List.length_append, List.length_cons, Nat.succ_mul]
    omega
theorem lasts_length {n : Nat} (hn : n ≤ 9) : ∀ k, (lasts n k).length ≤ 9 ^ k
  | 0 => by simp [lasts]
  | k + 1 => by
    have h1 := lasts_length hn k
    have h2 := flatMap_ext_length n k (lasts n k)
    rw [Nat.pow_succ]
    exact Nat.le_trans h2 (Nat.mul_le_mul h1 hn)
theorem lasts_length' {n k : Nat} (hn : n ≤ 9) (hk : k ≤ 9) : (lasts n k).length ≤ 387420489 :=
  Nat.le_trans (lasts_length hn k) (by rw [show (387420489 : Nat) = 9 ^ 9 from rfl]; exact Nat.pow_le_pow_right (by omega) hk)
theorem lasts_length8 {n k : Nat} (hn : n ≤ 9) (hk : k ≤ 8) : (lasts n k).length ≤ 43046721 :=
  Nat.le_trans (lasts_length hn k) (by rw [show (43046721 : Nat) = 9 ^ 8 from rfl]; exact Nat.pow_le_pow_right (by omega) hk)
theorem prev_length {n k i : Nat} (hn : n ≤ 9) (hk : k ≤ 8) : (((lasts n k).take i).flatMap (ext n k)).length ≤ 387420489 := by
  have h1 := flatMap_ext_length n k ((lasts n k).take i)
  have h2 := lasts_length8 hn hk
  have h3 : ((lasts n k).take i).length ≤ 43046721 := by rw [List.length_take]; omega
  exact Nat.le_trans h1 (Nat.le_trans (Nat.mul_le_mul h3 hn) (by omega))
theorem stks_length {n : Nat} (hn : n ≤ 9) : ∀ k, (stks n k).length ≤ (9 ^ (k + 1) - 1) / 8 
  | 0 => by simp [stks]
  | k + 1 => by
    have h1 := stks_length hn k
    have h2 := lasts_length hn (k + 1)
    have h3 : 9 ^ (k + 1 + 1) = 9 ^ (k + 1) * 9 := Nat.pow_succ ..
    simp only [stks, List.length_append]
    have h4 : 1 ≤ 9 ^ (k + 1) := Nat.one_le_pow _ _ (by omega)
    generalize 9 ^ (k + 1) = p at *
    omega
theorem stks_length' {n k : Nat} (hn : n ≤ 9) (hk : k ≤ 9) : (stks n k).length ≤ 435848050 := by
  refine Nat.le_trans (stks_length hn k) ?_
  have : 9 ^ (k + 1) ≤ 9 ^ 10 := Nat.pow_le_pow_right (by omega) (by omega)
  have e : (9 : Nat) ^ 10 = 3486784401 := rfl
  omega
/-- The first of the stacks that go on from l. -/
def extTo (k : Nat) (l : List Int) (m : Nat) : List (List Int) := (List.range' (frm k l) m).map fun (b : Nat) => l ++ [(b : Int)]
theorem extTo_succ (k : Nat) (l : List Int) (m : Nat) : extTo k l (m + 1) = extTo k l m ++ [l ++ [((frm k l + m : Nat) : Int)]] := by
  unfold extTo
  have : List.range' (frm k l) (m + 1) = List.range' (frm k l) m ++ [frm k l + m] := by
    have := List.range'_append_1 (s := frm k l) (m := m) (n := 1); simpa using this.symm
  rw [this]; simp
theorem extTo_all (n k : Nat) (l : List Int) : extTo k l (n - frm k l) = ext n k l := rfl
theorem extTo_length (k : Nat) (l : List Int) (m : Nat) : (extTo k l m).length = m := by simp [extTo]
theorem flatMap_take_succ {α β : Type} (ls : List α) (f : α → List β) (i : Nat) (h : i < ls.length) : (ls.take (i + 1)).flatMap f = (ls.take i).flatMap f ++ f ls[i] := by
  rw [List.take_succ_eq_append_getElem h, List.flatMap_append]; simp

end Go.Proofs.YteoniejpfmeibaaDoor
