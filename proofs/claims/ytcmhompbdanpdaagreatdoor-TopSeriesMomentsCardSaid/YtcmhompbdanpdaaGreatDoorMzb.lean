/- What TopSeriesCapable compares: limits around all values. No program in sight. Check of reference 02 at the text of a number; the first lines of the laws of top29: playValues, playSeries. Distributions as they lie in memory; the error of a list of elements (dist.Check, reference 26). No program in sight. The law TopSeriesCapable. (Printed by gen_capable.py.) -/
import Derived.Test.YtcmhompbdanpdaaGreatDoorZa
import Derived.Test.YtcmhompbdanpdaaGreatDoorMyq
import Derived.Test.YtcmhompbdanpdaaGreatDoorVm
import Derived.Test.YtcmhompbdanpdaaGreatDoorMwa
namespace Go.Proofs.YtcmhompbdanpdaaGreatDoor
open Go.RowKit

theorem sum_le_max {l : List Int} {M : Int} (h : ∀ x ∈ l, x ≤ M) : sumI l ≤ (l.length : Int) * M := by
  induction l with
  | nil => simp [sumI]
  | cons x l ih =>
    have h1 := ih (fun y hy => h y (List.mem_cons_of_mem _ hy))
    have h2 := h x List.mem_cons_self
    rw [sumI_cons, List.length_cons, Int.natCast_add, Int.add_mul]
    omega
theorem sum_ge_min {l : List Int} {M : Int} (h : ∀ x ∈ l, M ≤ x) : (l.length : Int) * M ≤ sumI l := by
  induction l with
  | nil => simp [sumI]
  | cons x l ih =>
    have h1 := ih (fun y hy => h y (List.mem_cons_of_mem _ hy))
    have h2 := h x List.mem_cons_self
    rw [sumI_cons, List.length_cons, Int.natCast_add, Int.add_mul]
    omega
theorem sum_lt_max {l : List Int} {M y : Int} (h : ∀ x ∈ l, x ≤ M) (hy : y ∈ l) (hlt : y < M) : sumI l < (l.length : Int) * M := by
  induction l with
  | nil => cases hy
  | cons x l ih =>
    have h2 := h x List.mem_cons_self
    rw [sumI_cons, List.length_cons, Int.natCast_add, Int.add_mul]
    rcases List.mem_cons.1 hy with rfl | hy
    · have := sum_le_max (l := l) (M := M) (fun y hy => h y (List.mem_cons_of_mem _ hy))
      omega
    · have := ih (fun y hy => h y (List.mem_cons_of_mem _ hy)) hy
      omega
theorem sum_gt_min {l : List Int} {M y : Int} (h : ∀ x ∈ l, M ≤ x) (hy : y ∈ l) (hlt : M < y) : (l.length : Int) * M < sumI l := by
  induction l with
  | nil => cases hy
  | cons x l ih =>
    have h2 := h x List.mem_cons_self
    rw [sumI_cons, List.length_cons, Int.natCast_add, Int.add_mul]
    rcases List.mem_cons.1 hy with rfl | hy
    · have := sum_ge_min (l := l) (M := M) (fun y hy => h y (List.mem_cons_of_mem _ hy))
      omega
    · have := ih (fun y hy => h y (List.mem_cons_of_mem _ hy)) hy
      omega
/-- A short series with small values (the law's own test). -/
def pvI (n : Int) : Bool := decide (n < -999) || decide (999 < n)
def pvS (l : List Int) : Bool := decide (1 < l.length) && decide (l.length ≤ 16) && !l.any pvI
theorem pvS_rg {l : List Int} (h : pvS l = true) : rgS l = true ∧ ∀ x ∈ l, -999 ≤ x ∧ x ≤ 999 := by
  unfold pvS at h
  simp only [Bool.and_eq_true, decide_eq_true_eq, Bool.not_eq_true'] at h
  obtain ⟨⟨h1, h2⟩, h3⟩ := h
  have hb : ∀ x ∈ l, -999 ≤ x ∧ x ≤ 999 := fun x hx => by
    have := List.any_eq_false.1 h3 x hx
    unfold pvI at this
    simp at this
    omega
  refine ⟨?_, hb⟩
  unfold rgS
  simp only [Bool.and_eq_true, decide_eq_true_eq, Bool.not_eq_true']
  refine ⟨⟨h1, by omega⟩, List.any_eq_false.2 fun x hx => ?_⟩
  have := hb x hx
  unfold bigI
  simp
  omega
theorem pv_capable {l : List Int} (h : pvS l = true) (hne : Lib.minOf l ≠ Lib.maxOf l) {b : Int} (hb : 0 ≤ b ∧ b ≤ 255) :
    varS l ≠ 0 ∧ (-1048576 ≤ Lib.minOf l - b ∧ Lib.minOf l - b ≤ 1048576) ∧ (-1048576 ≤ Lib.maxOf l + b ∧ Lib.maxOf l + b ≤ 1048576) ∧
    gvS l (Lib.minOf l - b) (Lib.maxOf l + b) = 0 ∧ viS l (Lib.minOf l - b) (Lib.maxOf l + b) = 0 ∧ cmpI (farI l (Lib.minOf l - b) (Lib.maxOf l + b)) 0 = 1 ∧
    cmpI (cenS l (Lib.minOf l - b) (Lib.maxOf l + b)).num 0 = 1 ∧ cmpR (cenS l (Lib.minOf l - b) (Lib.maxOf l + b)) (capS l (Lib.minOf l - b) (Lib.maxOf l + b)) ≠ 1 ∧ 9 * farN l ≤ l.length := by
  obtain ⟨hr, hx⟩ := pvS_rg h
  obtain ⟨h1, h2, _⟩ := rgS_ok hr
  have hpos : 0 < l.length := by omega
  obtain ⟨m1, m2⟩ := maxOf_spec hpos
  obtain ⟨n1, n2⟩ := minOf_spec hpos
  have e1 := hx _ m1
  have e2 := hx _ n1
  have e3 := m2 _ n1
  have hlt : Lib.minOf l < Lib.maxOf l := by omega
  have hv : varS l ≠ 0 := fun e => hne ((varS_ends hr).1 e).symm
  have hvp : 0 < varS l := varS_pos h1 ⟨_, n1, _, m1, by omega⟩
  have b1 : -1048576 ≤ Lib.minOf l - b ∧ Lib.minOf l - b ≤ 1048576 := by omega
  have b2 : -1048576 ≤ Lib.maxOf l + b ∧ Lib.maxOf l + b ≤ 1048576 := by omega
  have hg : gvS l (Lib.minOf l - b) (Lib.maxOf l + b) = 0 := by
    unfold gvS
    rw [if_pos (rgS_ck hr).1, inT_iff.2 b1, inT_iff.2 b2, if_neg (by decide), if_neg (by omega)]
  have hvi : viS l (Lib.minOf l - b) (Lib.maxOf l + b) = 0 := by unfold viS; rw [if_pos hg, if_pos (rgS_ck hr).2, if_neg hv]
  have s1 := sum_lt_max m2 n1 hlt
  have s2 := sum_gt_min n2 m1 hlt
  have hfar : 0 < farI l (Lib.minOf l - b) (Lib.maxOf l + b) := by
    have hn : (0 : Int) ≤ (l.length : Int) * b := Int.mul_nonneg (by omega) hb.1
    have d1 : (l.length : Int) * (Lib.maxOf l + b) = (l.length : Int) * Lib.maxOf l + (l.length : Int) * b := Int.mul_add _ _ _
    have d2 : (l.length : Int) * (Lib.minOf l - b) = (l.length : Int) * Lib.minOf l - (l.length : Int) * b := Int.mul_sub _ _ _
    unfold farI
    rw [d1, d2]
    omega
  have hsg := (cmpI_one (m := farI l (Lib.minOf l - b) (Lib.maxOf l + b)) (n := 0)).1.2 hfar
  have hfs : 0 < (farS l (Lib.minOf l - b) (Lib.maxOf l + b)).num := by
    have e := farS_sign hpos (Lib.minOf l - b) (Lib.maxOf l + b)
    rw [hsg] at e
    exact cmpI_one.1.1 e
  have hf0 : 0 < farS l (Lib.minOf l - b) (Lib.maxOf l + b) := by
    have h3 : 0 ≤ farS l (Lib.minOf l - b) (Lib.maxOf l + b) := Rat.num_nonneg.1 (by omega)
    refine Rat.not_le.1 fun hle => ?_
    have h4 := Rat.le_antisymm hle h3
    rw [h4] at hfs
    exact absurd hfs (by decide)
  have hc0 : 0 < cenS l (Lib.minOf l - b) (Lib.maxOf l + b) := by
    unfold cenS
    have h5 := Rat.mul_pos hf0 hf0
    have h6 : (0 : Rat) < 9 * varS l := Rat.mul_pos (by decide) hvp
    rw [Rat.div_def]
    exact Rat.mul_pos h5 (Rat.inv_pos.2 h6)
  refine ⟨hv, b1, b2, hg, hvi, hsg, ?_, fun e => ?_, farN_le h1 hvp⟩
  · refine cmpI_one.1.2 ?_
    have h3 : 0 ≤ (cenS l (Lib.minOf l - b) (Lib.maxOf l + b)).num := Rat.num_nonneg.2 (Rat.le_of_lt hc0)
    by_cases e : (cenS l (Lib.minOf l - b) (Lib.maxOf l + b)).num = 0
    · have := Rat.num_eq_zero.1 e
      rw [this] at hc0
      exact absurd hc0 Rat.lt_irrefl
    · omega
  · exact absurd (cmpR_pos.1 e) (Rat.not_lt.2 (cen_cap h1 hvp _ _ (Int.le_of_lt hfar)).1)
end Go.Proofs.YtcmhompbdanpdaaGreatDoor
namespace Go.Proofs.YtcmhompbdanpdaaGreatDoor
open Go.RowKit

theorem len_one : lenI 1 ≤ 1 := (lenI_le (by decide)).2 (by decide)
theorem lgE_sm {k : Nat} {q : Rat} (h : SmR k q) (hk : k ≤ 500) : lgE q.num = 0 ∧ lgE (q.den : Int) = 0 := by
  have h2 := (h.mono hk).ok
  exact ⟨lgE_zero.2 h2.num, lgE_zero.2 h2.lden⟩
set_option maxHeartbeats 2000000 in
theorem ycheckI_any (a : ByteArray) (q : Rat) (ha : TxR a q) (hs : SmR 500 q) (w : World) (R : Ending → World → Prop) (hR : ∀ w', Below w.heap.size w w' → R (.returned (.int .i64 0)) w') :
    Calls Tryz.prog 60 #[.string a] w R := by
  have HR := Lib.hid hR
  have HA := Lib.hid ha
  have HS := Lib.hid hs
  have L1 : Hid (lgE q.num = 0) := (lgE_sm hs (by decide)).1
  have L2 : Hid (lgE (q.den : Int) = 0) := (lgE_sm hs (by decide)).2
  have M1 : Hid (lenI q.num ≤ 1024) := lgE_zero.1 L1.out
  have M2 : Hid (lenI (q.den : Int) ≤ 1024) := lgE_zero.1 L2.out
  have hl : Hid ((rtL q).length ≤ 100000) := by have := rtL_size hs (by decide); unfold Hid; omega
  clear hR ha hs
  go_enter Tryz.func60, Tryz.ntmps60
  go_wp2_with fail
  refine ysplit_any a q HA.out HS.out _ _ fun n d w1 hb hn hd => ?_
  have B1 := Lib.hid hb
  have TN := Lib.hid hn
  have TD := Lib.hid hd
  clear hb hn hd
  go_wp2_with fail
  refine xcheckI_any n q.num TN.out (by have := M1.out; omega) _ _ ?_
  rw [L1.out]
  go_wp2_with fail
  refine xcheckI_any d _ TD.out (by have := M2.out; omega) _ _ ?_
  rw [L2.out]
  go_wp2_with fail
  refine xcheckI_any n q.num TN.out (by have := M1.out; omega) _ _ ?_
  rw [L1.out]
  go_wp2_with fail
  refine xcheckI_any d _ TD.out (by have := M2.out; omega) _ _ ?_
  rw [L2.out]
  go_wp2_with fail
  have HX : Hid (Tx a (rtL q)) := HA.out
  with_reducible refine yslash_any a (rtL q) HX.out hl.out _ _ ?_
  by_cases hd1 : q.den = 1
  · have e : Hid (slI (rtL q) = -1) := by unfold Hid slI rtL; rw [if_pos hd1, List.append_nil]; exact index_none47 (itoa_no47 _)
    rw [e.out]
    clear hd1
    go_wp2_with fail
    exact HR.out _ B1.out
  · have hr : rtL q = Lib.itoa q.num ++ 47 :: Lib.decDigits q.den := by unfold rtL; rw [if_neg hd1]
    obtain ⟨k, hk⟩ : ∃ k, (Lib.itoa q.num).length = k := ⟨_, rfl⟩
    have e : Hid (slI (rtL q) = (k : Int)) := by unfold Hid slI; rw [hr, ← hk]; exact index_at47 _ (itoa_no47 _)
    have K1 : ((0 : Int) ≤ (k : Int)) = True := eq_true (by omega)
    have c1 : Hid (cmpI (q.den : Int) 1 = 1) := cmpI_one.1.2 (by have := q.den_pos; omega)
    have c2 : Hid (Nat.gcd q.num.natAbs ((q.den : Int)).natAbs = 1) := q.reduced
    rw [e.out]
    clear hd1 hr hk
    go_wp2_with fail
    refine xorder_any d _ _ 1 TD.out Txt.one (by have := M2.out; omega) (by have := len_one; omega) _ _ fun w2 hb => ?_
    have B2 := Lib.hid (bstep B1.out hb)
    rw [c1.out]
    clear hb
    go_wp2_with fail
    refine xshared_any n d _ _ TN.out TD.out (by have := M1.out; omega) (by have := M2.out; omega) _ _ fun r w3 hb hr => ?_
    have B3 := Lib.hid (bstep B2.out hb)
    rw [c2.out] at hr
    have q1 : (r.toList == [49]) = true := (Txt.beqL (n := ((1 : Nat) : Int)) hr 1 itoa_1).trans (decide_eq_true rfl)
    have q2 : (r.toList != [49]) = false := by simp [bne, q1]
    clear hb hr
    go_wp2_with fail
    exact HR.out _ B3.out
set_option maxHeartbeats 1000000 in
theorem pvI_any (n : Int) (w : World) (R : Ending → World → Prop) (hR : R (.returned (.bool (pvI n))) w) :
    Calls Tryz.prog 121 #[.int .i64 n] w R := by
  go_enter Tryz.func121, Tryz.ntmps121
  go_wp2
  all_goals exact ret_eq hR (by simp [pvI, *] <;> omega)
set_option maxHeartbeats 2000000 in
theorem playValues_any (ao : Option Addr) (l : List Int) (c : Nat) (w : World) (R : Ending → World → Prop) (hc : CellsAt w ao (I64s l)) (hR : R (.returned (.bool (pvS l))) w) :
    Calls Tryz.prog 52 #[.slice ao l.length c] w R := by
  have HR := Lib.hid hR
  have HC := Lib.hid hc
  clear hR hc
  by_cases h1 : 1 < l.length
  · have K1 : (1 < (l.length : Int)) = True := eq_true (by omega)
    by_cases h2 : l.length ≤ 16
    · have K2 : ((l.length : Int) ≤ 16) = True := eq_true (by omega)
      have HL : Hid (l.length ≤ 1000000000) := by unfold Hid; omega
      have e : Hid (pvS l = !l.any pvI) := by unfold Hid pvS; rw [decide_eq_true h1, decide_eq_true h2]; rfl
      clear h1 h2
      go_enter Tryz.func52, Tryz.ntmps52
      go_wp2_with fail
      refine zcontains_any 121 pvI ao l c _ _ (enters_of Tryz.func121 (by kernel_rfl) rfl) HL.out HC.out (fun n w R h => pvI_any n w R h) ?_
      go_wp2_with fail
      exact ret_b HR.out rfl e.out
    · have K2 : ((l.length : Int) ≤ 16) = False := eq_false (by omega)
      have e : Hid (pvS l = false) := by unfold Hid pvS; rw [decide_eq_false h2]; simp
      clear h1 h2
      go_enter Tryz.func52, Tryz.ntmps52
      go_wp2_with fail
      exact ret_b HR.out rfl e.out
  · have K1 : (1 < (l.length : Int)) = False := eq_false (by omega)
    have e : Hid (pvS l = false) := by unfold Hid pvS; rw [decide_eq_false h1]; simp
    clear h1
    go_enter Tryz.func52, Tryz.ntmps52
    go_wp2_with fail
    exact ret_b HR.out rfl e.out
set_option maxRecDepth 100000 in
set_option maxHeartbeats 2000000 in
theorem playSeries_any (w : World) (R : Ending → World → Prop) (hE : Env w) (hR : ∀ w', Below w.heap.size w w' → R (.returned (.bool true)) w') :
    Calls Tryz.prog 55 #[] w R := by
  have HR := Lib.hid hR
  have HE := Lib.hid hE
  clear hR hE
  go_enter Tryz.func55, Tryz.ntmps55
  go_wp2_with fail
  have hba : Below w.heap.size w (w.alloc (.cells #[.int .i64 2, .int .i64 4, .int .i64 4, .int .i64 10] 3)) := (Below.refl _ _).alloc (Nat.le_refl _) _
  have hca : CellsAt (w.alloc (.cells #[.int .i64 2, .int .i64 4, .int .i64 4, .int .i64 10] 3)) (some ⟨w.heap.size, 0, none⟩) (I64s aL) := cells_lit w aL 3
  obtain ⟨wa, Ea⟩ : ∃ wa, w.alloc (.cells #[.int .i64 2, .int .i64 4, .int .i64 4, .int .i64 10] 3) = wa := ⟨_, rfl⟩
  rw [Ea] at hba hca ⊢
  have B0 := Lib.hid hba
  have C0 := Lib.hid hca
  have HE0 := Lib.hid (HE.out.below B0.out)
  clear hba hca Ea
  refine zmean_any _ aL 4 _ _ (by decide) C0.out HE0.out fun r1 w1 hb h h2 => ?_
  have B1 := Lib.hid (bstep B0.out hb)
  have T1 := h aL_ck
  rw [aL_mean] at T1
  have q1 := T1.beqL ((5 : Int) : Rat) (c := [53]) rtL_5
  rw [decide_eq_true rfl] at q1
  rw [aL_ck]
  clear T1 hb h h2
  go_wp2_with fail
  exact HR.out _ B1.out
end Go.Proofs.YtcmhompbdanpdaaGreatDoor
namespace Go.Proofs.YtcmhompbdanpdaaGreatDoor
open Go.RowKit

/-- An element as it lies: a value and the text of its weight. -/
structure Wd where
  n : Int
  t : ByteArray
def Wd.cells (v : Wd) : List Value := [.int .i64 v.n, .string v.t]
def Wd.zero : Wd := ⟨0, ⟨#[]⟩⟩
def wdsC (vs : List Wd) : List Value := vs.flatMap Wd.cells
def wdAt (vs : List Wd) (i : Nat) : Wd := vs.getD i Wd.zero
theorem wdsC_length (vs : List Wd) : (wdsC vs).length = vs.length * 2 := by
  induction vs with
  | nil => rfl
  | cons b bs ih => show (b.cells ++ wdsC bs).length = _; rw [List.length_append, ih]; simp [Wd.cells]; omega
theorem wdsC_append (a b : List Wd) : wdsC (a ++ b) = wdsC a ++ wdsC b := by unfold wdsC; rw [List.flatMap_append]
theorem wdAt_succ (v : Wd) (vs : List Wd) (i : Nat) : wdAt (v :: vs) (i + 1) = wdAt vs i := rfl
theorem wdAt_lt {vs : List Wd} {i : Nat} (h : i < vs.length) : wdAt vs i = vs[i] := by unfold wdAt; rw [List.getD_eq_getElem?_getD, List.getElem?_eq_getElem h]; rfl
theorem wdsC_get (vs : List Wd) : ∀ (i : Nat), i < vs.length → (wdsC vs)[i * 2]? = some (.int .i64 (wdAt vs i).n) ∧ (wdsC vs)[i * 2 + 1]? = some (.string (wdAt vs i).t) := by
  induction vs with
  | nil => intro i hi; exact absurd hi (by simp)
  | cons b bs ih =>
    intro i hi
    cases i with
    | zero => exact ⟨rfl, rfl⟩
    | succ i =>
      have h := ih i (by simpa using hi)
      rw [wdAt_succ, show wdsC (b :: bs) = .int .i64 b.n :: .string b.t :: wdsC bs from rfl, show (i + 1) * 2 = i * 2 + 2 from by omega]
      exact h
theorem wdsC_one (vs : List Wd) : ∀ u ∈ wdsC vs, u.oneCell' = true := by
  intro u hu
  obtain ⟨p, _, hp⟩ := List.mem_flatMap.1 hu
  simp only [Wd.cells, List.mem_cons, List.not_mem_nil, or_false] at hp
  rcases hp with rfl | rfl <;> rfl
theorem CellsAt.wds {w : World} {ao : Option Addr} {vs : List Wd} (h : CellsAt w ao (wdsC vs)) (h0 : 0 < vs.length) :
    ∃ b o, ao = some ⟨b, o, none⟩ ∧ b < w.heap.size ∧ ∀ i, i < vs.length → w.cell? ⟨b, o + i * 2, none⟩ = some (.int .i64 (wdAt vs i).n) ∧ w.cell? ⟨b, o + i * 2 + 1, none⟩ = some (.string (wdAt vs i).t) := by
  obtain ⟨b, o, e, hl, _⟩ := h (by rw [wdsC_length]; omega)
  refine ⟨b, o, e, hl, fun i hi => ?_⟩
  obtain ⟨h1, h2⟩ := wdsC_get vs i hi
  exact ⟨h.get e h1, h.get e h2⟩
/-! ### the first error of a loop -/
def firE (f : Nat → Int) : Nat → Int
  | 0 => 0
  | n + 1 => if firE f n = 0 then f n else firE f n
theorem firE_zero {f : Nat → Int} : ∀ {n : Nat}, firE f n = 0 ↔ ∀ j, j < n → f j = 0
  | 0 => ⟨fun _ j h => absurd h (Nat.not_lt_zero j), fun _ => rfl⟩
  | n + 1 => by
    rw [firE]
    by_cases h : firE f n = 0
    · rw [if_pos h]
      have h2 := (firE_zero (f := f) (n := n)).1 h
      exact ⟨fun h3 j hj => by
        by_cases e : j = n
        · rw [e]; exact h3
        · exact h2 j (by omega), fun h3 => h3 n (by omega)⟩
    · rw [if_neg h]
      exact ⟨fun h3 => absurd h3 h, fun h3 => absurd ((firE_zero (f := f) (n := n)).2 fun j hj => h3 j (by omega)) h⟩
theorem firE_at {f : Nat → Int} {i : Nat} (h : firE f i = 0) (hf : f i ≠ 0) : ∀ {n : Nat}, i < n → firE f n = f i
  | 0, hi => absurd hi (Nat.not_lt_zero i)
  | n + 1, hi => by
    rw [firE]
    by_cases e : i = n
    · subst e; rw [if_pos h]
    · have := firE_at h hf (n := n) (by omega)
      rw [this, if_neg hf]
theorem firE_step {f : Nat → Int} {i : Nat} (h : firE f i = 0) (hf : f i = 0) : firE f (i + 1) = 0 := by rw [firE, if_pos h]; exact hf
theorem firE_congr {f g : Nat → Int} : ∀ {n : Nat}, (∀ j, j < n → f j = g j) → firE f n = firE g n
  | 0, _ => rfl
  | n + 1, h => by rw [firE, firE, firE_congr fun j hj => h j (by omega), h n (by omega)]
/-! ### the error of a distribution -/
/-- The number that a text has. -/
def tV (t : ByteArray) : Int := (Lib.atoi t.data.toList).getD 0
theorem Txt.val {a : ByteArray} {n : Int} (h : Txt a n) : tV a = n := by
  unfold tV
  rw [show a.data.toList = Lib.itoa n from h, atoi_itoa]; rfl
def ckB (t : ByteArray) : Int := ckT t.data.toList
def dcX (vs : List Wd) (i : Nat) : Int :=
  if ckB (wdAt vs i).t ≠ 0 then ckB (wdAt vs i).t
  else if tV (wdAt vs i).t ≤ 0 ∨ inT (wdAt vs i).n = false then 2
  else if 0 < i ∧ (wdAt vs i).n ≤ (wdAt vs (i - 1)).n then 9 else 0
def dcE (vs : List Wd) : Int := if vs.length = 0 then 13 else if 4096 < vs.length then 5 else firE (dcX vs) vs.length
/-- A right distribution. -/
structure Ds (l : List Wt) : Prop where
  pos : 0 < l.length
  few : l.length ≤ 4096
  up : UpW l
  wpos : PosW l
  rng : ∀ x ∈ l, inT x.1 = true
  len : ∀ x ∈ l, lenI x.2 ≤ 1024
def wdOf (x : Wt) : Wd := ⟨x.1, tB (Lib.itoa x.2)⟩
def wts (l : List Wt) : List Wd := l.map wdOf
theorem wts_length (l : List Wt) : (wts l).length = l.length := List.length_map _
theorem wts_at {l : List Wt} {i : Nat} (h : i < l.length) : wdAt (wts l) i = wdOf l[i] := by
  rw [wdAt_lt (by rw [wts_length]; exact h)]; unfold wts; rw [List.getElem_map]
theorem wts_append (a b : List Wt) : wts (a ++ b) = wts a ++ wts b := List.map_append
theorem wdOf_txt (x : Wt) : Txt (wdOf x).t x.2 := Txt.of x.2
theorem ckB_txt {a : ByteArray} {n : Int} (h : Txt a n) : ckB a = lgE n := by
  unfold ckB
  rw [show a.data.toList = Lib.itoa n from h, ckT_itoa]; rfl
theorem up_of_next {l : List Wt} (h : ∀ i, (h1 : i + 1 < l.length) → (l[i]'(by omega)).1 < l[i + 1].1) : UpW l := by
  refine List.pairwise_iff_getElem.2 fun i j hi hj hij => ?_
  induction j with
  | zero => omega
  | succ j ih =>
    have h1 := h j hj
    by_cases e : i = j
    · subst e; exact h1
    · have := ih (by omega) (by omega); omega
theorem dcE_zero {vs : List Wd} (h : dcE vs = 0) : ∃ l, vs = wts l ∧ Ds l := by
  unfold dcE at h
  split at h
  · exact absurd h (by decide)
  rename_i h0
  split at h
  · exact absurd h (by decide)
  rename_i h1
  have hx := firE_zero.1 h
  have hi : ∀ i, i < vs.length → ∃ n : Int, (wdAt vs i).t.data.toList = Lib.itoa n ∧ lenI n ≤ 1024 ∧ 0 < n ∧ inT (wdAt vs i).n = true ∧ (0 < i → (wdAt vs (i - 1)).n < (wdAt vs i).n) := fun i hi => by
    have h2 := hx i hi
    unfold dcX at h2
    by_cases c1 : ckB (wdAt vs i).t ≠ 0
    · rw [if_pos c1] at h2; exact absurd h2 c1
    rw [if_neg c1] at h2
    obtain ⟨n, e1, e2⟩ := ckT_zero (Classical.byContradiction fun e => c1 e)
    have e3 : tV (wdAt vs i).t = n := Txt.val e1
    by_cases c2 : tV (wdAt vs i).t ≤ 0 ∨ inT (wdAt vs i).n = false
    · rw [if_pos c2] at h2; exact absurd h2 (by decide)
    rw [if_neg c2] at h2
    by_cases c3 : 0 < i ∧ (wdAt vs i).n ≤ (wdAt vs (i - 1)).n
    · rw [if_pos c3] at h2; exact absurd h2 (by decide)
    refine ⟨n, e1, e2, ?_, ?_, fun hp => ?_⟩
    · have : ¬ tV (wdAt vs i).t ≤ 0 := fun e => c2 (.inl e)
      omega
    · cases e : inT (wdAt vs i).n with
      | true => rfl
      | false => exact absurd (.inr e) c2
    · have : ¬ (wdAt vs i).n ≤ (wdAt vs (i - 1)).n := fun e => c3 ⟨hp, e⟩
      omega
  obtain ⟨l, hl⟩ : ∃ l : List Wt, l = vs.map (fun v => (v.n, tV v.t)) := ⟨_, rfl⟩
  have hlen : l.length = vs.length := by rw [hl, List.length_map]
  have hat : ∀ i, (h2 : i < vs.length) → l[i]'(by omega) = ((wdAt vs i).n, tV (wdAt vs i).t) := fun i h2 => by
    rw [wdAt_lt h2]; simp [hl]
  have hmem : ∀ x ∈ l, ∃ i, i < vs.length ∧ x = ((wdAt vs i).n, tV (wdAt vs i).t) := fun x hxm => by
    obtain ⟨i, h2, e⟩ := List.mem_iff_getElem.1 hxm
    exact ⟨i, by omega, by rw [← e, hat i (by omega)]⟩
  refine ⟨l, ?_, by omega, by omega, ?_, fun x hxm => ?_, fun x hxm => ?_, fun x hxm => ?_⟩
  · refine List.ext_getElem (by rw [wts_length, hlen]) fun i h2 h3 => ?_
    rw [← wdAt_lt h2, ← wdAt_lt h3, wts_at (by omega), hat i h2]
    obtain ⟨n, e1, e2, _⟩ := hi i h2
    have e3 : tV (wdAt vs i).t = n := Txt.val e1
    unfold wdOf
    rw [e3]
    have e4 : (wdAt vs i).t = tB (Lib.itoa n) := Tx.eq e1
    show wdAt vs i = ⟨(wdAt vs i).n, tB (Lib.itoa n)⟩
    rw [← e4]
  · refine up_of_next fun i h2 => ?_
    rw [hat i (by omega), hat (i + 1) (by omega)]
    obtain ⟨n, _, _, _, _, e⟩ := hi (i + 1) (by omega)
    exact e (by omega)
  · obtain ⟨i, h2, e⟩ := hmem x hxm
    obtain ⟨n, e1, e2, e3, _⟩ := hi i h2
    rw [e]; show 0 < tV _; rw [Txt.val e1]; exact e3
  · obtain ⟨i, h2, e⟩ := hmem x hxm
    obtain ⟨n, _, _, _, e3, _⟩ := hi i h2
    rw [e]; exact e3
  · obtain ⟨i, h2, e⟩ := hmem x hxm
    obtain ⟨n, e1, e2, _⟩ := hi i h2
    rw [e]; show lenI (tV _) ≤ 1024; rw [Txt.val e1]; exact e2
theorem Ds.at {l : List Wt} (h : Ds l) {i : Nat} (hi : i < l.length) : 0 < l[i].2 ∧ (-1048576 ≤ l[i].1 ∧ l[i].1 ≤ 1048576) ∧ lenI l[i].2 ≤ 1024 :=
  ⟨h.wpos _ (List.getElem_mem hi), inT_iff.1 (h.rng _ (List.getElem_mem hi)), h.len _ (List.getElem_mem hi)⟩
theorem Ds.check {l : List Wt} (h : Ds l) : dcE (wts l) = 0 := by
  unfold dcE
  have h1 := h.pos
  have h2 := h.few
  rw [wts_length, if_neg (by omega), if_neg (by omega)]
  refine firE_zero.2 fun i hi => ?_
  unfold dcX
  rw [wts_at hi]
  obtain ⟨a, b, c⟩ := h.at hi
  have e1 : ckB (wdOf l[i]).t = 0 := by rw [ckB_txt (wdOf_txt _)]; exact lgE_zero.2 c
  rw [if_neg (by rw [e1]; simp), Txt.val (wdOf_txt _), if_neg, if_neg]
  · rintro ⟨h3, h4⟩
    rw [wts_at (by omega)] at h4
    have := List.pairwise_iff_getElem.1 h.up (i - 1) i (by omega) hi (by omega)
    have h5 : l[i].1 ≤ (l[i - 1]'(by omega)).1 := h4
    omega
  · rintro (h3 | h3)
    · omega
    · have : inT l[i].1 = true := inT_iff.2 b
      rw [show (wdOf l[i]).n = l[i].1 from rfl, this] at h3; cases h3
/-- Distributions are known by their rows. -/
theorem wdOf_inj {x y : Wt} (h : wdOf x = wdOf y) : x = y := by
  have h1 : x.1 = y.1 := congrArg Wd.n h
  have h2 : x.2 = y.2 := by
    have := Txt.val (wdOf_txt x)
    rw [← this, ← Txt.val (wdOf_txt y), h]
  exact Prod.ext h1 h2
theorem wts_inj : ∀ {a b : List Wt}, wts a = wts b → a = b
  | [], [], _ => rfl
  | [], _ :: _, h => by cases h
  | _ :: _, [], h => by cases h
  | x :: a, y :: b, h => by
    have h2 : wdOf x :: wts a = wdOf y :: wts b := h
    obtain ⟨h3, h4⟩ := List.cons.inj h2
    rw [wdOf_inj h3, wts_inj h4]
end Go.Proofs.YtcmhompbdanpdaaGreatDoor
namespace Go.Proofs.YtcmhompbdanpdaaGreatDoor
open Go.RowKit

theorem SmR.add {j k : Nat} {p q : Rat} (hp : SmR j p) (hq : SmR k q) : SmR (j + k + 1) (p + q) := by
  rw [← rat_add p q]
  have h1 := p.den_pos
  have h2 := q.den_pos
  have a1 : p.num.natAbs * q.den < 10 ^ (j + k) := by rw [Nat.pow_add]; exact Nat.mul_lt_mul'' hp.1 hq.2
  have a2 : q.num.natAbs * p.den < 10 ^ (j + k) := by rw [Nat.add_comm, Nat.pow_add]; exact Nat.mul_lt_mul'' hq.1 hp.2
  have a3 : p.den * q.den < 10 ^ (j + k) := by rw [Nat.pow_add]; exact Nat.mul_lt_mul'' hp.2 hq.2
  have a4 : 10 ^ (j + k + 1) = 10 ^ (j + k) * 10 := Nat.pow_succ _ _
  refine SmR.ofDiv (Int.mul_ne_zero (by omega) (by omega)) ?_ ?_
  · have := Int.natAbs_add_le (p.num * (q.den : Int)) (q.num * (p.den : Int))
    rw [Int.natAbs_mul, Int.natAbs_mul, Int.natAbs_natCast, Int.natAbs_natCast] at this
    omega
  · rw [Int.natAbs_mul, Int.natAbs_natCast, Int.natAbs_natCast]; omega
theorem SmR.sub {j k : Nat} {p q : Rat} (hp : SmR j p) (hq : SmR k q) : SmR (j + k + 1) (p - q) := by
  rw [Rat.sub_eq_add_neg]; exact hp.add hq.neg
def farB (v m : Rat) (x : Int) : Bool := decide (9 * v < ((x : Rat) - m) * ((x : Rat) - m))
theorem farN_take {l : List Int} {v m : Rat} {i : Nat} (h : i < l.length) : (l.take (i + 1)).countP (farB v m) = (l.take i).countP (farB v m) + (if farB v m (at0 l i) = true then 1 else 0) := by
  rw [List.take_succ_eq_append_getElem h, List.countP_append, at0_get h]
  simp [List.countP_cons]
theorem rtL_9 : rtL ((9 : Int) : Rat) = [57] := rtL_i (n := 9) (by decide) (by decide)
theorem tx_9 : TxR ⟨#[57]⟩ ((9 : Int) : Rat) := by unfold TxR; rw [rtL_9]; rfl
set_option maxRecDepth 100000 in
set_option maxHeartbeats 8000000 in
theorem topCapable_any (ao : Option Addr) (l : List Int) (c : Nat) (b : Int) (w : World) (R : Ending → World → Prop) (hc : CellsAt w ao (I64s l)) (hb0 : 0 ≤ b ∧ b ≤ 255) (hE : Env w) (hR : ∀ w', Below w.heap.size w w' → R (.returned (.bool true)) w') :
    Calls Tryz.prog 11 #[.slice ao l.length c, .int .u8 b] w R := by
  have HR := Lib.hid hR
  have HC := Lib.hid hc
  have HE := Lib.hid hE
  have HB0 := Lib.hid hb0
  clear hR hc hE hb0
  go_enter Tryz.func11, Tryz.ntmps11
  go_wp2_with fail
  refine playValues_any ao l c _ _ HC.out ?_
  cases hr : pvS l with
  | false =>
    clear hr
    go_wp2_with fail
    refine playSeries_any _ _ HE.out fun w9 hb => ?_
    have B9 := Lib.hid hb
    clear hb
    go_wp2_with fail
    exact HR.out _ B9.out
  | true =>
    have Hpv := Lib.hid hr
    have Hrg := Lib.hid (pvS_rg hr).1
    have HL : Hid (l.length ≤ 1000000000) := by have := (rgS_ok Hrg.out).2.1; unfold Hid; omega
    have hp : Hid (0 < l.length) := by have := (rgS_ok Hrg.out).1; unfold Hid; omega
    have hq : Hid (l.length ≤ 100000) := by have := (rgS_ok Hrg.out).2.1; unfold Hid; omega
    have h16 : Hid (l.length ≤ 16) := by unfold Hid; unfold pvS at hr; simp only [Bool.and_eq_true, decide_eq_true_eq] at hr; exact hr.1.2
    clear hr
    obtain ⟨bd, od, rfl, hbd, hdc⟩ := HC.out.ints hp.out
    have HDC := Lib.hid hdc
    clear hdc hbd
    go_wp2_with fail
    refine zmin_any bd od l.length c l _ _ hp.out rfl hq.out HDC.out ?_
    go_wp2_with fail
    refine zmax_any bd od l.length c l _ _ hp.out rfl hq.out HDC.out ?_
    obtain ⟨mx, hmx⟩ : ∃ y, Lib.maxOf l = y := ⟨_, rfl⟩
    obtain ⟨mn, hmn⟩ : ∃ y, Lib.minOf l = y := ⟨_, rfl⟩
    rw [hmx, hmn]
    by_cases hm : mn = mx
    · have K1 : (mn == mx) = true := by simp [hm]
      clear hm hmx hmn
      go_wp2_with fail
      refine playSeries_any _ _ HE.out fun w9 hb => ?_
      have B9 := Lib.hid hb
      clear hb
      go_wp2_with fail
      exact HR.out _ B9.out
    · have K1 : (mn == mx) = false := by simpa using hm
      have hcap := pv_capable Hpv.out (by rw [hmn, hmx]; exact hm) HB0.out
      rw [hmn, hmx] at hcap
      obtain ⟨hv, h4, h5, hg, hvi, hsg, hcn, hcc, hfar⟩ := hcap
      have Hmn := Lib.hid hmn
      have Hmx := Lib.hid hmx
      obtain ⟨lo, hlo⟩ : ∃ z, mn - b = z := ⟨_, rfl⟩
      obtain ⟨hi, hhi⟩ : ∃ z, mx + b = z := ⟨_, rfl⟩
      rw [hlo] at h4 hg hvi hsg hcn hcc
      rw [hhi] at h5 hg hvi hsg hcn hcc
      have HVN := Lib.hid hv
      have H4 := Lib.hid h4
      have H5 := Lib.hid h5
      have HVI := Lib.hid hvi
      have HSG := Lib.hid hsg
      have HCN := Lib.hid hcn
      have HCC := Lib.hid hcc
      have HFAR := Lib.hid hfar
      have HS := Lib.hid (rgS_srs Hrg.out)
      have H8 : Hid (2 ≤ l.length) := (rgS_ok Hrg.out).1
      have KB : IntKind.i64.wrap b = b := by have := HB0.out; rw [IntKind.wrap_i64] <;> omega
      have KL : IntKind.i64.wrap (mn - b) = lo := by rw [hlo, IntKind.wrap_i64] <;> omega
      have KH : IntKind.i64.wrap (mx + b) = hi := by rw [hhi, IntKind.wrap_i64] <;> omega
      have SM : Hid (SmR 20 (meanS l)) := meanS_small HS.out
      have SV : Hid (SmR 30 (varS l)) := varS_small HS.out H8.out
      have SC : Hid (SmR 90 (cenS l lo hi)) := cen_small HS.out H8.out hv h4 h5
      have SP : Hid (SmR 60 (capS l lo hi)) := cap_small HS.out H8.out hv h4 h5
      obtain ⟨w1, E1, HB1, s1, b0, b1⟩ := box2 w (.int .i64 lo) (.int .i64 hi) 25
      have C1 := Lib.hid (HC.out.below HB1.out)
      have HE1 := Lib.hid (HE.out.below HB1.out)
      have B1 : Hid (Below w.heap.size w w1) := HB1
      clear hm hmx hmn hv h4 h5 hg hvi hsg hcn hcc hfar hlo hhi s1 HDC HB1
      go_wp2_with fail
      refine zmin_any bd od l.length c l _ _ hp.out rfl hq.out (fun j hj => by obtain ⟨b', o', e, hl, hcell⟩ := HC.out.ints hp.out; cases e; exact hcell j hj) ?_
      rw [Hmn.out]
      go_wp2_with fail
      refine zmax_any bd od l.length c l _ _ hp.out rfl hq.out (fun j hj => by obtain ⟨b', o', e, hl, hcell⟩ := HC.out.ints hp.out; cases e; exact hcell j hj) ?_
      rw [Hmx.out]
      go_wp2_with (rw [E1.out])
      clear E1
      refine zcentered_any _ l c lo hi _ _ HL.out C1.out HE1.out fun rc s w2 hb h1 h2 => ?_
      have B2 := Lib.hid (bstep B1.out hb)
      have C2 := Lib.hid (C1.out.below hb)
      have HE2 := Lib.hid (HE1.out.below hb)
      have d20 := cellB hb b0 (lt_of_cell' b0)
      have d21 := cellB hb b1 (lt_of_cell' b1)
      clear b0 b1
      obtain ⟨TB0, hs⟩ := h1 HVI.out
      rw [HSG.out] at hs
      subst hs
      have TC := Lib.hid TB0
      rw [HVI.out]
      clear h1 h2 TB0 hb
      go_wp2_with fail
      refine zcap_any _ l c lo hi _ _ HL.out C2.out HE2.out fun rp w3 hb h1 h2 => ?_
      have B3 := Lib.hid (bstep B2.out hb)
      have C3 := Lib.hid (C2.out.below hb)
      have HE3 := Lib.hid (HE2.out.below hb)
      have d30 := cellB hb d20 (lt_of_cell' d20)
      have d31 := cellB hb d21 (lt_of_cell' d21)
      clear d20 d21
      have TP := Lib.hid (h1 HVI.out)
      rw [HVI.out]
      clear h1 h2 hb
      go_wp2_with fail
      refine zmean_any _ l c _ _ HL.out C3.out HE3.out fun rm w4 hb h1 h2 => ?_
      have B4 := Lib.hid (bstep B3.out hb)
      have C4 := Lib.hid (C3.out.below hb)
      have HE4 := Lib.hid (HE3.out.below hb)
      have TM := Lib.hid (h1 (rgS_ck Hrg.out).1)
      rw [(rgS_ck Hrg.out).1]
      clear h1 h2 hb
      go_wp2_with fail
      refine zvariance_any _ l c _ _ HL.out C4.out HE4.out fun rv w5 hb h1 h2 => ?_
      have B5 := Lib.hid (bstep B4.out hb)
      have C5 := Lib.hid (C4.out.below hb)
      have HE5 := Lib.hid (HE4.out.below hb)
      have TV := Lib.hid (h1 (rgS_ck Hrg.out).2)
      rw [(rgS_ck Hrg.out).2]
      clear h1 h2 hb
      go_wp2_with fail
      refine ycheckI_any rm _ TM.out (SM.out.mono (by decide)) _ _ fun w6 hb => ?_
      have B6 := Lib.hid (bstep B5.out hb)
      have C6 := Lib.hid (C5.out.below hb)
      have HE6 := Lib.hid (HE5.out.below hb)
      clear hb
      go_wp2_with fail
      refine ycheckI_any rv _ TV.out (SV.out.mono (by decide)) _ _ fun w7 hb => ?_
      have B7 := Lib.hid (bstep B6.out hb)
      have C7 := Lib.hid (C6.out.below hb)
      have HE7 := Lib.hid (HE6.out.below hb)
      clear hb
      go_wp2_with fail
      refine ycheckI_any rc _ TC.out (SC.out.mono (by decide)) _ _ fun w8 hb => ?_
      have B8 := Lib.hid (bstep B7.out hb)
      have C8 := Lib.hid (C7.out.below hb)
      have HE8 := Lib.hid (HE7.out.below hb)
      clear hb
      go_wp2_with fail
      refine ycheckI_any rp _ TP.out (SP.out.mono (by decide)) _ _ fun w9 hb => ?_
      have B9 := Lib.hid (bstep B8.out hb)
      have C9 := Lib.hid (C8.out.below hb)
      have HE9 := Lib.hid (HE8.out.below hb)
      clear hb
      go_wp2_with fail
      refine ysignum_any rc _ TC.out (SC.out.mono (by decide)) _ _ fun w10 hb => ?_
      have B10 := Lib.hid (bstep B9.out hb)
      have C10 := Lib.hid (C9.out.below hb)
      have HE10 := Lib.hid (HE9.out.below hb)
      clear hb
      rw [HCN.out]
      go_wp2_with fail
      refine yorder_any rc rp _ _ TC.out TP.out (SC.out.mono (by decide)) (SP.out.mono (by decide)) _ _ fun w11 hb => ?_
      have B11 := Lib.hid (bstep B10.out hb)
      have C11 := Lib.hid (C10.out.below hb)
      have HE11 := Lib.hid (HE10.out.below hb)
      clear hb
      obtain ⟨od2, hod⟩ : ∃ z, cmpR (cenS l lo hi) (capS l lo hi) = z := ⟨_, rfl⟩
      have Kod : ((0 : Int) < od2) = False := eq_false (by rcases cmpR_cases (cenS l lo hi) (capS l lo hi) with e | e | e <;> rw [hod] at e <;> first | omega | exact absurd (by rw [hod, e]) HCC.out)
      rw [hod]
      clear hod
      go_wp2_with fail
      as_aux_lemma =>
        go_loopw [15, 109] (fun f i wr => ∃ k : Nat, f = .int .i64 (((l.take k).countP (farB (varS l) (meanS l)) : Nat) : Int) ∧ i = .int .i64 k ∧ k ≤ l.length ∧ Hid (Below w.heap.size w wr)) (fun _ i _ => l.length - (intOf i).toNat)
        case atStart => exact ⟨0, rfl, rfl, Nat.zero_le _, B11⟩
        case round =>
          obtain ⟨k, rfl, rfl, hk, HBr⟩ := hrel
          obtain ⟨cnt, hcnt⟩ : ∃ z, (l.take k).countP (farB (varS l) (meanS l)) = z := ⟨_, rfl⟩
          have hl16 : l.length ≤ 16 := h16.out
          have hcb : cnt ≤ 16 := by rw [← hcnt]; exact Nat.le_trans List.countP_le_length (by rw [List.length_take]; have := h16.out; omega)
          rw [hcnt]
          by_cases hlt : k < l.length
          · have K2 : ((k : Int) < (l.length : Int)) = True := eq_true (by omega)
            have Cr := Lib.hid (HC.out.below HBr.out)
            obtain ⟨b', o', e, hl2, hcell⟩ := Cr.out.ints hp.out
            cases e
            have g1 := hcell k hlt
            have hx := (pvS_rg Hpv.out).2 (at0 l k) (by rw [at0_get hlt]; exact List.getElem_mem hlt)
            have hst := farN_take (v := varS l) (m := meanS l) hlt
            rw [hcnt] at hst
            obtain ⟨x, hx0⟩ : ∃ x, at0 l k = x := ⟨_, rfl⟩
            rw [hx0] at g1 hx hst
            have HX := Lib.hid hx
            have HST := Lib.hid hst
            have SX : Hid (SmR 20 (x : Rat)) := SmR.int (Nat.lt_of_le_of_lt (show x.natAbs ≤ 999 by omega) (by decide)) (by decide)
            have SG : Hid (SmR 50 ((x : Rat) - meanS l)) := (SX.out.sub SM.out).mono (by decide)
            have SGG : Hid (SmR 100 (((x : Rat) - meanS l) * ((x : Rat) - meanS l))) := SG.out.mul SG.out
            have S9 : Hid (SmR 10 ((9 : Int) : Rat)) := SmR.int (by decide) (by decide)
            have S9V : Hid (SmR 40 (((9 : Int) : Rat) * varS l)) := S9.out.mul SV.out
            clear hcell hx hst hx0 hl2 hcnt
            go_wp2_with fail
            refine ywhole_any x (by have := HX.out; omega) (by have := HX.out; omega) _ _ fun r1 y1 hb hr => ?_
            have D1 := Lib.hid (bstep HBr.out hb)
            have T1 := Lib.hid hr
            clear hb hr
            go_wp2_with fail
            refine yminus_any r1 rm _ _ T1.out TM.out (SX.out.mono (by decide)) (SM.out.mono (by decide)) _ _ fun r2 y2 hb hr => ?_
            have D2 := Lib.hid (bstep D1.out hb)
            have T2 := Lib.hid hr
            clear hb hr
            go_wp2_with fail
            refine ytimes_any r2 r2 _ _ T2.out T2.out (SG.out.mono (by decide)) (SG.out.mono (by decide)) _ _ fun r3 y3 hb hr => ?_
            have D3 := Lib.hid (bstep D2.out hb)
            have T3 := Lib.hid hr
            clear hb hr
            go_wp2_with fail
            refine ytimes_any _ rv _ _ tx_9 TV.out (S9.out.mono (by decide)) (SV.out.mono (by decide)) _ _ fun r4 y4 hb hr => ?_
            have D4 := Lib.hid (bstep D3.out hb)
            have T4 := Lib.hid hr
            clear hb hr
            go_wp2_with fail
            refine yorder_any r3 r4 _ _ T3.out T4.out (SGG.out.mono (by decide)) (S9V.out.mono (by decide)) _ _ fun y5 hb => ?_
            have D5 := Lib.hid (bstep D4.out hb)
            clear hb
            obtain ⟨od3, hod⟩ : ∃ z, cmpR (((x : Rat) - meanS l) * ((x : Rat) - meanS l)) (((9 : Int) : Rat) * varS l) = z := ⟨_, rfl⟩
            rw [hod]
            have hcs := cmpR_cases (((x : Rat) - meanS l) * ((x : Rat) - meanS l)) (((9 : Int) : Rat) * varS l)
            rw [hod] at hcs
            have hps := cmpR_pos (p := ((x : Rat) - meanS l) * ((x : Rat) - meanS l)) (q := ((9 : Int) : Rat) * varS l)
            rw [hod] at hps
            have hst2 := HST.out
            by_cases hgt : 0 < od3
            · have K3 : ((0 : Int) < od3) = True := eq_true hgt
              have e1 : farB (varS l) (meanS l) x = true := decide_eq_true (hps.1 (by omega))
              rw [if_pos e1] at hst2
              have HN := Lib.hid hst2
              clear hgt hcs hps hod hst2 e1
              go_wp2_with fail
              exact ⟨⟨k + 1, by rw [HN.out]; go_num, by go_num, by omega, D5⟩, by simp [intOf]; omega⟩
            · have K3 : ((0 : Int) < od3) = False := eq_false hgt
              have e1 : ¬ farB (varS l) (meanS l) x = true := fun e => by have := hps.2 (of_decide_eq_true e); omega
              rw [if_neg e1] at hst2
              have HN := Lib.hid hst2
              clear hgt hcs hps hod hst2 e1
              go_wp2_with fail
              exact ⟨⟨k + 1, by rw [HN.out]; rfl, by go_num, by omega, D5⟩, by simp [intOf]; omega⟩
          · have K2 : ((k : Int) < (l.length : Int)) = False := eq_false (by omega)
            have hfin : cnt = farN l := by rw [← hcnt, List.take_of_length_le (by omega)]; rfl
            have h9 := HFAR.out
            rw [← hfin] at h9
            have KM : IntKind.i64.wrap (9 * (cnt : Int)) = 9 * (cnt : Int) := by rw [IntKind.wrap_i64] <;> omega
            have K3 : (9 * (cnt : Int) ≤ (l.length : Int)) = True := eq_true (by omega)
            have HEr := Lib.hid (HE.out.below HBr.out)
            clear hfin h9 hcnt
            go_wp2_with fail
            refine playSeries_any _ _ HEr.out fun w9 hb => ?_
            have B9 := Lib.hid (bstep HBr.out hb)
            clear hb
            go_wp2_with fail
            exact HR.out _ B9.out
end Go.Proofs.YtcmhompbdanpdaaGreatDoor
