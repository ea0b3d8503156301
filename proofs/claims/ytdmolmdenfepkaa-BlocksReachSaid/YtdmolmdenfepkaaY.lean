/- Plain law: each standard set makes all lengths from 3000 to 19995 by 5 with at most five blocks. -/
import Derived.Test.YtdmolmdenfepkaaR
namespace Go.Proofs.Ytdmolmdenfepkaa
open Go.RowKit

/-- Some of the blocks are a stack. -/
theorem St_sub {zs : List Int} : ∀ (m i : Nat), zs.length - i ≤ m → ∀ {vs : List Int}, vs.Sublist (zs.drop i) → ∃ s, St zs.length i s ∧ wsum zs s = vs.sum ∧ s.length = vs.length := by
  intro m
  induction m with
  | zero =>
    intro i hm vs h
    rw [List.drop_eq_nil_of_le (by omega)] at h
    have := List.sublist_nil.1 h
    subst this
    exact ⟨[], trivial, rfl, rfl⟩
  | succ m ih =>
    intro i hm vs h
    by_cases hi : i < zs.length
    · have e : zs.drop i = at0 zs i :: zs.drop (i+1) := by rw [List.drop_eq_getElem_cons hi]; simp [at0, List.getD, hi]
      rw [e] at h
      cases h with
      | cons _ h =>
        obtain ⟨s, h1, h2, h3⟩ := ih (i + 1) (by omega) h
        exact ⟨s, St_mono (by omega) h1, h2, h3⟩
      | cons_cons _ h =>
        obtain ⟨s, h1, h2, h3⟩ := ih (i + 1) (by omega) h
        exact ⟨(i : Int) :: s, St_cons hi h1, by rw [wsum_cons, h2, List.sum_cons], by simp [h3]⟩
    · rw [List.drop_eq_nil_of_le (by omega)] at h
      have := List.sublist_nil.1 h
      subst this
      exact ⟨[], trivial, rfl, rfl⟩

def insN (x : Nat) : List Nat → List Nat
  | [] => [x]
  | y :: l => if x ≤ y then x :: y :: l else y :: insN x l
def someN (n : Nat) : List Nat := if n = 0 then [] else [n]
/-- The blocks for a length out of the sets of 32 and of 47 blocks. -/
def pick47 (n : Nat) : List Nat :=
  let v5 := if n % 10 = 5 then 1005 else 0
  let n1 := n - v5
  let b := if n1 % 100 = 0 then 0 else 1000 + n1 % 100
  let n2 := n1 - b
  let c := if n2 % 1000 = 0 then 0 else 1000 + n2 % 1000
  let n3 := n2 - c
  let d := if n3 < 10000 then n3 else n3 - 10000
  let e := if n3 < 10000 then 0 else 10000
  (someN v5 ++ someN b ++ someN c ++ someN d ++ someN e).foldr insN []
/-- The blocks for a length out of the set of 87 blocks. -/
def pick87 (n : Nat) : List Nat :=
  let v5 := if n % 10 = 5 then 1005 else 0
  let n1 := n - v5
  let b := if n1 % 500 = 0 then 0 else 1000 + n1 % 500
  let n3 := n1 - b
  let d := if n3 < 10000 then n3 else n3 - 10000
  let e := if n3 < 10000 then 0 else 10000
  (someN v5 ++ someN b ++ someN d ++ someN e).foldr insN []
def subB : List Nat → List Nat → Bool
  | [], _ => true
  | _ :: _, [] => false
  | v :: vs, z :: zs => cond (Nat.beq v z) (subB vs zs) (subB (v :: vs) zs)
theorem subB_sub : ∀ {vs zs : List Nat}, subB vs zs = true → vs.Sublist zs
  | [], zs, _ => List.nil_sublist zs
  | _ :: _, [], h => by cases h
  | v :: vs, z :: zs, h => by
    rw [subB] at h
    cases hb : Nat.beq v z with
    | true =>
      rw [hb] at h
      obtain rfl := Nat.eq_of_beq_eq_true hb
      exact (subB_sub h).cons_cons _
    | false =>
      rw [hb] at h
      exact (subB_sub h).cons _
def goodB (zs vs : List Nat) (n : Nat) : Bool := subB vs zs && (Nat.beq vs.sum n && Nat.ble vs.length 5)
def allB (f : Nat → Bool) : Nat → Bool
  | 0 => true
  | n + 1 => f n && allB f n
theorem allB_at {f : Nat → Bool} : ∀ {n : Nat}, allB f n = true → ∀ k, k < n → f k = true
  | 0, _, k, hk => absurd hk (by omega)
  | n + 1, h, k, hk => by
    rw [allB, Bool.and_eq_true] at h
    by_cases e : k = n
    · subst e; exact h.1
    · exact allB_at h.2 k (by omega)
def n32 : List Nat := [1000, 1005, 1010, 1020, 1030, 1040, 1050, 1060, 1070, 1080, 1090, 1100, 1200, 1300, 1400, 1500, 1600, 1700, 1800, 1900, 2000, 3000, 4000, 5000, 6000, 7000, 8000, 9000, 10000, 20000, 30000, 50000]
def n47 : List Nat := [1000, 1005, 1010, 1020, 1030, 1040, 1050, 1060, 1070, 1080, 1090, 1100, 1110, 1120, 1130, 1140, 1150, 1160, 1170, 1180, 1190, 1200, 1300, 1400, 1500, 1600, 1700, 1800, 1900, 2000, 3000, 4000, 5000, 6000, 7000, 8000, 9000, 10000, 20000, 30000, 40000, 50000, 60000, 70000, 80000, 90000, 100000]
def n87 : List Nat := [500, 1000, 1001, 1002, 1003, 1004, 1005, 1006, 1007, 1008, 1009, 1010, 1020, 1030, 1040, 1050, 1060, 1070, 1080, 1090, 1100, 1110, 1120, 1130, 1140, 1150, 1160, 1170, 1180, 1190, 1200, 1210, 1220, 1230, 1240, 1250, 1260, 1270, 1280, 1290, 1300, 1310, 1320, 1330, 1340, 1350, 1360, 1370, 1380, 1390, 1400, 1410, 1420, 1430, 1440, 1450, 1460, 1470, 1480, 1490, 1500, 2000, 2500, 3000, 3500, 4000, 4500, 5000, 5500, 6000, 6500, 7000, 7500, 8000, 8500, 9000, 9500, 10000, 20000, 30000, 40000, 50000, 60000, 70000, 80000, 90000, 100000]
def ints (l : List Nat) : List Int := l.map fun (n : Nat) => (n : Int)
set_option maxRecDepth 100000 in
theorem n32_eq : rstd32 = ints n32 := by decide +kernel
set_option maxRecDepth 100000 in
theorem n47_eq : rstd47 = ints n47 := by decide +kernel
set_option maxRecDepth 100000 in
theorem n87_eq : rstd87 = ints n87 := by decide +kernel
theorem ints_sum : ∀ l : List Nat, (ints l).sum = (l.sum : Int)
  | [] => rfl
  | n :: l => by
    have := ints_sum l
    show (n : Int) + (ints l).sum = _
    rw [this, List.sum_cons]; simp
set_option maxRecDepth 100000 in
theorem good32 : (allB (fun k => goodB n32 (pick47 (3000 + k * 5)) (3000 + k * 5)) 3400) = true := by decide +kernel
set_option maxRecDepth 100000 in
theorem good47 : (allB (fun k => goodB n47 (pick47 (3000 + k * 5)) (3000 + k * 5)) 3400) = true := by decide +kernel
set_option maxRecDepth 100000 in
theorem good87 : (allB (fun k => goodB n87 (pick87 (3000 + k * 5)) (3000 + k * 5)) 3400) = true := by decide +kernel
theorem right32 : chk rstd32 = 0 := by decide +kernel
theorem right47 : chk rstd47 = 0 := by decide +kernel
theorem right87 : chk rstd87 = 0 := by decide +kernel

theorem std_of {zs : List Int} (hc : chk zs = 0) {ns vs : List Nat} (hns : zs = ints ns) {n : Nat} (hn : 1 ≤ n) (hn2 : n ≤ 100000) (h : goodB ns vs n = true) :
    fewE zs n = 0 ∧ (fewL zs n).length ≤ 5 ∧ sum zs (fewL zs n) = n ∧ ∀ j, j < (fewL zs n).length → 0 ≤ at0 (fewL zs n) j ∧ at0 (fewL zs n) j < zs.length := by
  have hz : RightSet zs := (chk_zero _).1 hc
  have hg : gvn zs n = 0 := by rw [gvn, if_pos hc, if_pos ((insB_iff _).2 (by omega))]
  unfold goodB at h
  rw [Bool.and_eq_true, Bool.and_eq_true] at h
  obtain ⟨h1, h2, h3⟩ := h
  have h2 := Nat.eq_of_beq_eq_true h2
  have h3 := Nat.le_of_ble_eq_true h3
  obtain ⟨s, k1, k2, k3⟩ := St_sub (zs := zs) zs.length 0 (by omega) (vs := ints vs) (by rw [List.drop_zero, hns]; exact (subB_sub h1).map _)
  rw [ints_sum, h2] at k2
  have k4 : s.length = vs.length := by rw [k3]; exact List.length_map _
  have hr : reachB zs (n : Int).toNat = true := (reachB_iff hz _).2 ⟨s, k1, by rw [k2]; omega⟩
  obtain ⟨q1, q2, _, q4⟩ := best_ok hz hr
  have q5 : (bestL zs 0 (n : Int).toNat).length ≤ s.length := (q4 s k1 (by rw [k2]; omega)).1
  have eL : fewL zs n = bestL zs 0 (n : Int).toNat := by rw [fewL, if_pos ⟨hg, hr⟩]
  rw [fewE, if_pos hg, if_pos hr, eL]
  refine ⟨rfl, by omega, by rw [sum_St hz q1, q2]; omega, fun j hj => ?_⟩
  have := (St_iff.1 q1 j hj).1
  omega
set_option maxRecDepth 100000 in
theorem std_few {size : Int} (h : size = 32 ∨ size = 47 ∨ size = 87) {k : Nat} (hk : k < 3400) :
    fewE (rstdL size) ((3000 + k * 5 : Nat) : Int) = 0 ∧ (fewL (rstdL size) ((3000 + k * 5 : Nat) : Int)).length ≤ 5 ∧ sum (rstdL size) (fewL (rstdL size) ((3000 + k * 5 : Nat) : Int)) = ((3000 + k * 5 : Nat) : Int) ∧
    ∀ j, j < (fewL (rstdL size) ((3000 + k * 5 : Nat) : Int)).length → 0 ≤ at0 (fewL (rstdL size) ((3000 + k * 5 : Nat) : Int)) j ∧ at0 (fewL (rstdL size) ((3000 + k * 5 : Nat) : Int)) j < (rstdL size).length := by
  rcases h with rfl | rfl | rfl
  · exact std_of right32 n32_eq (by omega) (by omega) (allB_at good32 k hk)
  · exact std_of right47 n47_eq (by omega) (by omega) (allB_at good47 k hk)
  · exact std_of right87 n87_eq (by omega) (by omega) (allB_at good87 k hk)
theorem rstdL_length (size : Int) : (rstdL size).length ≤ 87 := by
  unfold rstdL
  split
  · decide +kernel
  · split
    · decide +kernel
    · split
      · decide +kernel
      · simp
end Go.Proofs.Ytdmolmdenfepkaa
