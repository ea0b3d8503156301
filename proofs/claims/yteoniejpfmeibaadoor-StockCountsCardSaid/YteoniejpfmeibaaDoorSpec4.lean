/- What the functions of the reference compute. -/
import Derived.Test.YteoniejpfmeibaaDoorSpec3
namespace Go.Proofs.YteoniejpfmeibaaDoor
open Go.RowKit

theorem stks_ok (n : Nat) : ∀ k, ∀ l ∈ stks n k, l.length ≤ k ∧ ∀ j, j < l.length → 0 ≤ at0 l j ∧ at0 l j < n
  | 0 => by intro l hl; simp [stks] at hl; subst hl; exact ⟨by simp, fun j hj => absurd hj (by simp)⟩
  | k + 1 => by
    intro l hl
    simp only [stks, List.mem_append] at hl
    rcases hl with hl | hl
    · have := stks_ok n k l hl; exact ⟨by omega, this.2⟩
    · have := lasts_ok n (k + 1) l hl; exact ⟨by omega, fun j hj => this.2 j (by omega)⟩

/-- 'Best'. -/
def isLen (zs : List Int) (l : Int) (s : List Int) : Bool := sum zs s == l
def rbest (zs : List Int) (l : Int) : List Int := ((stks zs.length zs.length).find? (isLen zs l)).getD []
def rfewL (zs : List Int) (l : Int) : List Int := if gvn zs l = 0 then rbest zs l else []
def rfewE (zs : List Int) (l : Int) : Int := if gvn zs l = 0 then if (rbest zs l).length = 0 then 6 else 0 else gvn zs l
def rverE (zs : List Int) (l : Int) (st : List Int) : Int :=
  if gvn zs l = 0 then if stk zs st = 0 then if eqL (rbest zs l) st = true ∧ st.length ≠ 0 then 0 else 15 else stk zs st else gvn zs l
def rcnt (zs : List Int) (l : Int) : Nat := ((stks zs.length zs.length).filter (isLen zs l)).length
def rcntN (zs : List Int) (l : Int) : Int := if gvn zs l = 0 then if rcnt zs l ≤ 1048576 then rcnt zs l else 0 else 0
def rcntE (zs : List Int) (l : Int) : Int := if gvn zs l = 0 then if rcnt zs l ≤ 1048576 then 0 else 12 else gvn zs l

/-- 'Added'. -/
def addS (x n : Int) (s : List Int × Bool) : List Int × Bool :=
  let s1 := if s.2 = false ∧ n ≤ x then (s.1 ++ [n], true) else s
  if x = n then s1 else (s1.1 ++ [x], s1.2)
def addGo (n : Int) : List Int → List Int × Bool → List Int × Bool
  | [], s => s
  | x :: l, s => addGo n l (addS x n s)
def added (l : List Int) (n : Int) : List Int := if (addGo n l ([], false)).2 = false then (addGo n l ([], false)).1 ++ [n] else (addGo n l ([], false)).1
def wt : Bool → Nat | true => 0 | false => 1
theorem addS_len (x n : Int) (s : List Int × Bool) : (addS x n s).1.length + wt (addS x n s).2 ≤ s.1.length + 1 + wt s.2 := by
  obtain ⟨o, d⟩ := s
  unfold addS
  cases d <;> by_cases h1 : n ≤ x <;> by_cases h2 : x = n <;> simp [h1, h2, wt] <;> omega
theorem addGo_len (n : Int) : ∀ (l : List Int) (s : List Int × Bool), (addGo n l s).1.length + wt (addGo n l s).2 ≤ s.1.length + l.length + wt s.2
  | [], s => by simp [addGo]
  | x :: l, s => by
    have h1 := addGo_len n l (addS x n s)
    have h2 := addS_len x n s
    simp only [addGo, List.length_cons]
    omega
theorem added_len (l : List Int) (n : Int) : (added l n).length ≤ l.length + 1 := by
  have h := addGo_len n l ([], false)
  unfold added
  split
  · rename_i h1; rw [h1] at h; simp [wt] at h ⊢; omega
  · rename_i h1
    have h1' : (addGo n l ([], false)).2 = true := by simpa using h1
    rw [h1'] at h; simp [wt] at h ⊢; omega
theorem addGo_drop {n : Int} {l : List Int} {k : Nat} (hk : k < l.length) (s : List Int × Bool) : addGo n (l.drop k) s = addGo n (l.drop (k + 1)) (addS (at0 l k) n s) := by
  have e : l.drop k = at0 l k :: l.drop (k + 1) := by rw [List.drop_eq_getElem_cons hk]; simp [at0, List.getD, hk]
  rw [e, addGo]

/-- 'Reach'. -/
def reaS (zs : List Int) (most : Int) (out : List Int) (s : List Int) : List Int := if (s.length : Int) ≤ most ∧ insB (sum zs s) = true then added out (sum zs s) else out
def rreaX (zs : List Int) (most : Int) : List Int := (stks zs.length zs.length).foldl (reaS zs most) []
def rreaL (zs : List Int) (most : Int) : List Int := if chk zs = 0 then if 1 ≤ most ∧ most ≤ 8 then if (rreaX zs most).length ≤ 16384 then rreaX zs most else [] else [] else []
def rreaE (zs : List Int) (most : Int) : Int := if chk zs = 0 then if 1 ≤ most ∧ most ≤ 8 then if (rreaX zs most).length ≤ 16384 then 0 else 12 else 2 else chk zs
theorem reaS_len (zs : List Int) (most : Int) (out s : List Int) : (reaS zs most out s).length ≤ out.length + 1 := by
  unfold reaS; split
  · exact added_len _ _
  · omega

/-- 'steps'. -/
def stepsL (l : List Int) (low step : Int) : Nat → List Int
  | 0 => l
  | k + 1 => added (stepsL l low step k) (low + k * step)
theorem stepsL_len (l : List Int) (low step : Int) (k : Nat) : (stepsL l low step k).length ≤ l.length + k := by
  induction k with
  | zero => simp [stepsL]
  | succ k ih => have := added_len (stepsL l low step k) (low + k * step); simp only [stepsL]; omega
def rstd32 : List Int := stepsL (stepsL (stepsL (stepsL (stepsL [1005] 1010 10 9) 1100 100 9) 1000 1000 9) 10000 10000 3) 50000 1 1
def rstd47 : List Int := stepsL (stepsL (stepsL (stepsL [1005] 1010 10 19) 1200 100 8) 1000 1000 9) 10000 10000 10
def rstd87 : List Int := stepsL (stepsL (stepsL (stepsL [] 1001 1 9) 1010 10 49) 500 500 19) 10000 10000 10
def rstdL (size : Int) : List Int := if size = 32 then rstd32 else if size = 47 then rstd47 else if size = 87 then rstd87 else []
def rstdE (size : Int) : Int := if size = 32 then 0 else if size = 47 then 0 else if size = 87 then 0 else 1
/-- 'Few'. -/
def fewB (zs : List Int) : Bool := decide (zs.length ≤ 9) || (decide (zs.length ≤ 512) && (chk zs != 0))
end Go.Proofs.YteoniejpfmeibaaDoor
