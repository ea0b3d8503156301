/- slices.Values, AppendSeq, Collect and Sorted at ints. (Printed by gen_sorti.py.) Sorted of reference 57: insertion. (Printed by gen_rsort.py.) Variance and Median of capability and of reference 57. (Printed by gen_median.py.) Series with limits: both, Given, varied, index and Capability, both sides. (Printed by gen_cap.py.) The centered capability, both sides. (Printed by gen_cen.py.) Histograms, both sides. (Printed by gen_hist.py.) Runs, both sides; AppendSeq and Collect of ints out of whatever iterator makes no memory. (Printed by gen_runs.py.) -/
import Derived.Sort.OwnSortedInts
import Derived.OwnWalkIn
import Derived.Test.YtcmhompbdanpdaaGreatDoorRm
import Derived.Test.YtcmhompbdanpdaaGreatDoorRj
import Derived.Test.YtcmhompbdanpdaaGreatDoorMwzz
import Derived.Test.YtcmhompbdanpdaaGreatDoorShelf
import Derived.Test.YtcmhompbdanpdaaGreatDoorMwzw
namespace Go.Proofs.YtcmhompbdanpdaaGreatDoor
open Go.RowKit Go.Shelf Go.Sort Go.Maps
attribute [local go_sem] Oper.semAt_some

theorem Tryz.infoInts : (Tryz.prog.info? 3).map (fun i => (i.zero, i.size, i.bytes)) = some (some (.int .i64 0), 1, 8) := by kernel_rfl
theorem I64s_append (a b : List Int) : I64s (a ++ b) = I64s a ++ I64s b := by simp [I64s]
theorem I64s_get {ks : List Int} {k : Nat} (h : k < ks.length) : (I64s ks)[k]? = some (.int .i64 (at0 ks k)) := by simp [I64s, at0, h]
def sortL (l : List Int) : List Int := l.mergeSort fun x y => decide (x ≤ y)
theorem sortL_length (l : List Int) : (sortL l).length = l.length := by simp [sortL]
theorem cells_one (w : World) (x : Value) (e : TypeId) : CellsAt (w.alloc (.cells #[x] e)) (some ⟨w.heap.size, 0, none⟩) [x] := by
  intro _
  refine ⟨_, 0, rfl, by simp, fun j hj => ?_⟩
  rw [Nat.zero_add, World.cell?_alloc_new]
  match j, hj with
  | 0, _ => rfl
theorem sort_own (base : Nat) (g cap : Nat) (l : List Int) (w : World) (hown : w.ownsRow base 3 1 (.slice (some ⟨g, 0, none⟩) l.length cap) l.length (I64s l)) (hl : l.length ≤ 1000000) (R : Ending → World → Prop)
    (hR : ∀ w', w.grownBy w' (some g) → w'.ownsRow base 3 1 (.slice (some ⟨g, 0, none⟩) l.length cap) l.length (I64s (sortL l)) → R (.returned (.tuple #[])) w') :
    Calls Tryz.prog 200 #[.slice (some ⟨g, 0, none⟩) l.length cap] w R := by
  rcases hown.2 with ⟨h, _⟩ | ⟨g', cap', cur, hv, hb, hg, hn, hm, hs, ht⟩
  · cases h
  · cases hv
    refine (Tryz.slices_Sort_int g 0 cap l w (holds_of_blockI hg (by rw [Nat.mul_one] at ht; exact ht)) (lt_of_block hg) (by omega)).mono ?_
    rintro e w' ⟨rfl, n, os, rfl⟩
    exact hR _ (grownBy_sortedI _) (ownsRow_sortedI (ss := l) (ts := sortL l) (sortL_length l) hb hg hn hm hs)

theorem wpIn_appendT {F : Fence} {nf : Nat} {P : Program} {w : World} {ops : Array Oper} {rest : List Oper} {o : Oper} {a : Act} {Q : Exit → Act → World → Prop} (hgd : o.guard = none) (s x : Operand) (t : TypeId)
    (ho : o.op = .call { callee := .builtin .append, args := #[s, x], argTypes := #[t, t] })
    (base : Nat) (e : TypeId) {z : Value} {size bytes : Nat} (ht : P.underlying t = some (.slice e)) (hi : (P.info? e).map (fun i => (i.zero, i.size, i.bytes)) = some (some z, size, bytes))
    (hzs : z.cells.size = size) (hsz : 0 < size)
    (v : Value) (n : Nat) (xs : List Value) (hs : a.eval s = v) (hown : w.ownsRow base e size v n xs)
    (ad : Addr) (m c : Nat) (news : List Value) (hm : news.length = m * size) (hx : a.eval x = .slice (some ad) m c) (hc : CellsAt w (some ad) news) (h1 : ∀ u ∈ news, u.oneCell' = true)
    (hn : n + m ≤ 9223372036854775807) (hbytes : (n + m) * bytes ≤ 140737488355328) (hbase : base ≤ w.heap.size)
    (h : ∀ v' w', w'.ownsRow base e size v' (n + m) (xs ++ news) → w.grownBy w' v.ownBlock → (v' = .slice none 0 0 ↔ v = .slice none 0 0 ∧ m = 0) → wpListIn F nf P ops Q rest (a.put o.dst v') w') : wpListIn F nf P ops Q (o :: rest) a w := by
  obtain ⟨i0, q1, q2, q3, q4⟩ := info_parts hi
  refine wpListIn_append_own w hgd s x t ho base e i0 z size bytes ht q1 q2 q3 q4 hzs hsz v n xs hs hown ad m c news hx hm ?_ h1 (by unfold maxLen; omega) hbytes hbase h
  intro j u hj
  obtain ⟨hlt, _⟩ := List.getElem?_eq_some_iff.1 hj
  obtain ⟨b, o, e, _, _⟩ := hc (by omega)
  cases e
  have : (⟨b, o, none⟩ : Addr).add j = ⟨b, o + j, none⟩ := by unfold Addr.add; split <;> simp_all
  rw [this]; exact hc.get rfl hj
/-- What an iterator does that makes no memory: xs come, in this order. -/
def GivesE {α : Type} (F : Fence) (n : Nat) (P : Program) (g : Nat) (lb : Array Value) (encs : α → Array Value) (bs : List Nat) (xs : List α) (w0 : World) : Prop :=
  ∀ (l : Nat) (J : List α → World → Prop) (W : World), Below w0.heap.size w0 W →
    (∀ pre x W1, J pre W1 → (pre ++ [x]) <+: xs → YieldAt F (n - 1) P l (encs x) W1 fun e W' => e = .returned (.bool true) ∧ J (pre ++ [x]) W' ∧ KeepsBs bs W1 W') →
    J [] W → CallsIn F n P g (#[.func (.yield l) #[] #[]] ++ lb) W fun e W' => (∃ v, e = .returned v) ∧ J xs W'
/-- Loops and what is deferred stay. -/
def KeepsLD (W W' : World) : Prop := W.heap.size ≤ W'.heap.size ∧ ∀ k : Nat, ((∃ r, W.heap[k]? = some (Obj.loop r)) ∨ ∃ d, W.heap[k]? = some (Obj.deferred d)) → W'.heap[k]? = W.heap[k]?
def postE {α : Type} (bs : List Nat) (I : List α → World → Prop) (xs : List α) (W : World) : Exit → Act → World → Prop
  | .normal, _, W' => KeepsLD W W' ∧ KeepsBs bs W W' ∧ I xs W'
  | _, _, _ => False
theorem wpIn_rangeFunc_e {F : Fence} {n : Nat} {P : Program} {α : Type} {g : Operand} {ps : Array Tmp} {assign body : Code} {Q : Exit → Act → World → Prop} {a : Act} {w : World}
    (hro : F.round = none) (h1 : 1 ≤ n) {gf : Nat} {lb : Array Value} (hg : a.eval g = .func (.func gf) #[] lb) (hFg : F.fn gf) (eg : ∀ args w, (callFunc gf args).run P w = .ok (.enter gf args) w)
    {encs : α → Array Value} {bs : List Nat} {xs : List α} {w0 : World} (hseq : GivesE F (n - 1) P gf lb encs bs xs w0) (hb0 : Below w0.heap.size w0 w) (hps : ∀ x, (encs x).size = ps.size) (hbs : ∀ k ∈ bs, k < w.heap.size)
    (I : List α → World → Prop) (hI2 : ∀ s A B, I s A → Below A.heap.size A B → I s B) (hI3 : ∀ s A L r o, w.heap.size ≤ L → A.heap[L]? = some (.loop r) → I s A → I s (A.putObj L o))
    (h0 : I [] w) (Ax : α → Act → World → Prop) (hAx : ∀ x a' W l r o, W.heap[l]? = some (.loop r) → Ax x a' W → Ax x a' (W.putObj l o))
    (hassign : ∀ (l : Nat) (pre : List α) (x : α) (W : World) (K : Act → World → Prop), I pre W → w.heap.size ≤ W.heap.size → (pre ++ [x]) <+: xs → (∀ a' W', Below W.heap.size W W' → Ax x a' W' → K a' W') →
      assign.wpIn (F.inRound l) (n - 1 - 1) P (Exit.then K (fun _ _ _ => False)) { tmps := (ps.zip (encs x)).foldl (fun t (p, v) => t.setIfInBounds p v) a.tmps, defers := [] } W)
    (hbody : ∀ (l : Nat) (pre : List α) (x : α) (a' : Act) (W : World), I pre W → Ax x a' W → w.heap.size ≤ W.heap.size → (pre ++ [x]) <+: xs → body.wpIn (F.inRound l) (n - 1 - 1) P (postE bs I (pre ++ [x]) W) a' W)
    (hdone : ∀ (D : Nat) (W : World), w.heap.size ≤ D → I xs W → W.heap[D]? = some (.deferred (some [])) → Q .normal { a with defers := { target := .collected D, args := #[] } :: a.defers } W) :
    (Code.rangeFunc g ps assign body).wpIn F n P Q a w := by
  refine wpIn_rangeFunc ?_
  intro fn hfn
  rw [hro]
  obtain ⟨W0, hW0⟩ : ∃ W0, ((w.alloc (.deferred (some []))).alloc (.loop { state := .ready, pending := none, fn, tmps := a.tmps, params := ps, assign, body, defers := w.heap.size })) = W0 := ⟨_, rfl⟩
  have hB : w.heap.size + 2 = W0.heap.size := by rw [← hW0]; simp
  have hL : W0.heap[w.heap.size + 1]? = some (.loop { state := .ready, pending := none, fn, tmps := a.tmps, params := ps, assign, body, defers := w.heap.size }) := by
    rw [← hW0]
    have := World.alloc_heap_new (w.alloc (.deferred (some []))) (.loop { state := .ready, pending := none, fn, tmps := a.tmps, params := ps, assign, body, defers := w.heap.size }); rwa [World.size_alloc] at this
  have hK : W0.heap[w.heap.size]? = some (.deferred (some [])) := by
    rw [← hW0]; exact (Below.heap_alloc _ _ _ (by simp)).trans (World.alloc_heap_new w _)
  have hbl : Below w.heap.size w W0 := by
    rw [← hW0]; exact ((Below.refl _ w).alloc (Nat.le_refl _) _).alloc (by simp) _
  refine ⟨w.heap.size + 1, [{ target := .collected w.heap.size, args := #[] }], W0, { target := .fn (.func gf) lb, args := #[.func (.yield (w.heap.size + 1)) #[] #[]] }, W0, gf,
    #[.func (.yield (w.heap.size + 1)) #[] #[]] ++ lb, W0, ?_, ?_, ?_, ?_, fun _ => h1, ?_⟩
  · rw [← hW0]; exact run_enterLoop_outer _ _ _ _ _
  · simp only [resolve, hg]
    simp [go_sem]
  · intro f' hf'; simp [Target.leads] at hf'; subst hf'; exact hFg
  · simp [invoke, go_sem, eg]
  · clear hW0
    refine (hseq (w.heap.size + 1)
      (fun pre W => I pre W ∧ W.heap[w.heap.size + 1]? = some (.loop { state := .ready, pending := none, fn, tmps := a.tmps, params := ps, assign, body, defers := w.heap.size }) ∧ W.heap[w.heap.size]? = some (.deferred (some [])))
      W0 (hb0.trans (hbl.mono hb0.size))
      ?_ ⟨hI2 _ _ _ h0 hbl, hL, hK⟩).mono ?_
    · rintro pre x W ⟨hi, hl, hk⟩ hpre
      have hlt : w.heap.size + 1 < W.heap.size := (Array.getElem?_eq_some_iff.1 hl).1
      refine ⟨fn, _, assign, body, run_yield (P := P) (args := encs x) hl (hps x), roundIn_of_wpIn hfn (hassign _ pre x W _ hi (by omega) hpre ?_)⟩
      intro a' Wa hba hax
      have hla := (hba.block _ hlt).trans hl
      have hka := (hba.block w.heap.size (by omega)).trans hk
      have hia := hI2 _ _ _ hi hba
      have hsa := hba.size
      refine ⟨_, run_beginRound hla rfl, ?_⟩
      refine wpIn_mono (hbody _ pre x a' _ (hI3 _ _ _ _ _ (by omega) hla hia) (hAx _ _ _ _ _ _ hla hax) (by simp; omega) hpre) ?_
      rintro e a3 W3 hpost
      cases e with
      | normal =>
        obtain ⟨k1, k2, k3⟩ := hpost
        have hl3 := (k1.2 (w.heap.size + 1) (.inl ⟨_, World.putObj_heap_same (by omega)⟩)).trans (World.putObj_heap_same (by omega))
        have hkp : ∀ o, (Wa.putObj (w.heap.size + 1) o).heap[w.heap.size]? = some (.deferred (some [])) := fun o => (World.putObj_heap_other (by omega)).trans hka
        have hk3 := (k1.2 w.heap.size (.inr ⟨_, hkp _⟩)).trans (hkp _)
        refine ⟨_, _, run_endRound (P := P) none hl3, rfl, ⟨hI3 _ _ _ _ _ (by omega) hl3 k3, World.putObj_heap_same (Array.getElem?_eq_some_iff.1 hl3).1, (World.putObj_heap_other (by omega)).trans hk3⟩, ?_⟩
        intro k hk'
        have h2 := hbs k hk'
        exact ((World.putObj_heap_other (by omega)).trans (k2 k hk')).trans ((World.putObj_heap_other (by omega)).trans (hba.block k (by omega)))
      | ret => exact hpost.elim
      | exit id => exact hpost.elim
      | goto t => exact hpost.elim
      | panic ch => exact hpost.elim
      | outgrown => exact hpost.elim
    · rintro e W2 ⟨⟨v, rfl⟩, hi, hl, hk⟩
      have hlt : w.heap.size + 1 < W2.heap.size := (Array.getElem?_eq_some_iff.1 hl).1
      exact ⟨none, _, run_endLoop (P := P) hl (by simp), hdone _ _ (Nat.le_refl _) (hI3 _ _ _ _ _ (by omega) hl hi) ((World.putObj_heap_other (by omega)).trans hk)⟩
def inEnc (ks : List Int) (i : Nat) : Array Value := #[.int .i64 (at0 ks i)]
theorem range_pre {n : Nat} {pre : List Nat} {x : Nat} (h : (pre ++ [x]) <+: List.range n) : pre.length < n ∧ pre = List.range pre.length ∧ x = pre.length := by
  have hl := h.length_le
  simp at hl
  have h2 : List.range (pre.length + 1) <+: List.range n := by
    refine List.prefix_iff_eq_take.2 ?_
    rw [List.length_range, List.take_range, Nat.min_eq_left (by omega)]
  have h3 : (pre ++ [x]) = List.range (pre.length + 1) := by
    have e1 := List.prefix_iff_eq_take.1 h
    have e2 := List.prefix_iff_eq_take.1 h2
    rw [e2, List.length_range, e1]; simp
  rw [List.range_succ] at h3
  have h4 := List.append_inj h3 (by simp)
  exact ⟨by omega, h4.1, by simpa using h4.2⟩
theorem ivalues_any (ao : Option Addr) (m c : Nat) (w : World) (R : Ending → World → Prop) (hR : R (.returned (.func (.func 201) #[] #[.pointer (some ⟨w.heap.size, 0, none⟩)])) (w.alloc (.cells #[.slice ao m c] 23))) :
    Calls Tryz.prog 143 #[.slice ao m c] w R := by
  have HR := Lib.hid hR
  clear hR
  go_enter Tryz.func143, Tryz.ntmps143
  go_wp2_with fail
  exact HR.out
set_option maxHeartbeats 1000000 in
theorem ivalues1_gives (F : Fence) (n : Nat) (h84 : F.fn 201) (hro : F.round = none) (_hn : 1 ≤ n) (Bn : Nat) (bs : List Nat) (ao : Option Addr) (ks : List Int) (m c : Nat) (w0 : World)
    (hm : ks.length = m) (hl : m ≤ 1000000) (hB : w0.cell? ⟨Bn, 0, none⟩ = some (.slice ao m c)) (hBl : Bn < w0.heap.size) (hBm : Bn ∈ bs) (hc : CellsAt w0 ao (I64s ks)) (hbm : 0 < m → ∀ b o, ao = some ⟨b, o, none⟩ → b ∈ bs) :
    GivesE F n Tryz.prog 201 #[.pointer (some ⟨Bn, 0, none⟩)] (inEnc ks) bs (List.range m) w0 := by
  intro l J W hW hY hJ0
  have HY := Lib.hid hY
  have HC := Lib.hid hc
  have HW := Lib.hid hW
  have HBm := Lib.hid hBm
  have Hbm := Lib.hid hbm
  have HBc := Lib.hid ((hW.cell (p := ⟨Bn, 0, none⟩) hBl).trans hB)
  have Hm := Lib.hid hm
  clear hY hc hW hB hBm hbm hm
  refine callsIn_of_wp Tryz.func201 rfl h84 ?_ hro
  simp only [Tryz.ntmps201, List.size_toArray, List.length_cons, List.length_nil, Nat.reduceAdd, Nat.reduceSub, Array.replicate_succ, Array.replicate_zero, List.push_toArray, List.append_toArray, List.nil_append, List.cons_append]
  have hb0 := HBc.out
  gi_wp2
  gi_loopw [7] (fun p wr => ∃ k : Nat, k ≤ m ∧ p = .int .i64 k ∧ J (List.range k) wr ∧ KeepsBs bs W wr) (fun p _ => m - (intOf p).toNat)
  case atStart => exact ⟨0, Nat.zero_le _, rfl, hJ0, fun _ _ => rfl⟩
  case round =>
    obtain ⟨k, hk, rfl, hJ, hK⟩ := hrel
    by_cases hlt : k < m
    · obtain ⟨b, o, rfl, hbb, _⟩ := HC.out (by rw [I64s_length, Hm.out]; omega)
      have a0 := HC.out.get rfl (I64s_get (show k < ks.length by rw [Hm.out]; exact hlt))
      have hbk : wr.heap[b]? = w0.heap[b]? := (hK b (Hbm.out (by omega) b o rfl)).trans (HW.out.block b hbb)
      have d0 := (World.cell?_of_block (a := ⟨b, o + k, none⟩) hbk).trans a0
      have hb1 := (World.cell?_of_block (a := ⟨Bn, 0, none⟩) (hK Bn HBm.out)).trans HBc.out
      have hpre : (List.range k ++ [k]) <+: List.range m := by
        rw [← List.range_succ]
        refine List.prefix_iff_eq_take.2 ?_
        rw [List.length_range, List.take_range, Nat.min_eq_left (by omega)]
      obtain ⟨fn, tmps, assign, body, hy, hR⟩ := HY.out (List.range k) k wr hJ hpre
      unfold inEnc at hy
      have HK := Lib.hid hK
      clear hK hJ hb0 hbk a0 hpre
      gi_wp2
      refine hR.mono ?_
      rintro e W3 ⟨rfl, hJ3, hb3⟩
      have HB3 := Lib.hid hb3
      have HI3 : Hid (J (List.range (k + 1)) W3) := by unfold Hid; rw [List.range_succ]; exact hJ3
      clear hJ3 hb3 d0 hb1
      gi_wp2
      go_roundw
      case rel => exact ⟨k + 1, by omega, by go_num, HI3.out, fun x hx => (HB3.out x hx).trans (HK.out x hx)⟩
      case measure => simp [intOf] <;> omega
    · obtain rfl : k = m := by omega
      gi_wp2
      go_end0
      exact ⟨⟨_, rfl⟩, hJ⟩
def inBs (m : Nat) (ao : Option Addr) : List Nat := if m = 0 then [] else match ao with | some a => [a.block] | none => []
theorem irow_not_obj {W : World} {base n : Nat} {v : Value} {xs : List Value} {L : Nat} (h : W.ownsRow base 3 1 v n xs) (hL : ∀ cs t f, W.heap[L]? ≠ some (.cells cs t f)) (o : Obj) : (W.putObj L o).ownsRow base 3 1 v n xs := by
  refine ⟨h.1, ?_⟩
  rcases h.2 with h1 | ⟨g, cap, cur, h1, h2, h3, h4⟩
  · exact .inl h1
  · refine .inr ⟨g, cap, cur, h1, h2, (World.putObj_heap_other ?_).trans h3, h4⟩
    rintro rfl; exact hL _ _ _ h3
set_option maxRecDepth 100000 in
set_option maxHeartbeats 4000000 in
theorem iappendSeq_any (Bn : Nat) (ao : Option Addr) (ks : List Int) (m c : Nat) (w : World) (R : Ending → World → Prop) (hm : ks.length = m) (hl : m ≤ 100000) (hB : w.cell? ⟨Bn, 0, none⟩ = some (.slice ao m c)) (hBl : Bn < w.heap.size) (hc : CellsAt w ao (I64s ks))
   (hR : ∀ v w', Below w.heap.size w w' → w'.ownsRow w.heap.size 3 1 v m (I64s ks) → R (.returned v) w') :
    Calls Tryz.prog 230 #[.slice none 0 0, .func (.func 201) #[] #[.pointer (some ⟨Bn, 0, none⟩)]] w R := by
  have HR := Lib.hid hR
  have HC := Lib.hid hc
  have HB := Lib.hid hB
  have Hm := Lib.hid hm
  clear hR hc hB hm
  have h1 : 1 ≤ 6 := by omega
  refine (callsIn_wide (n := 6)).1 ?_
  refine callsIn_of_wp_marks Tryz.func230 rfl trivial ?_ rfl
  simp only [Tryz.ntmps230, List.size_toArray, List.length_cons, List.length_nil, Nat.reduceAdd, Nat.reduceSub, Array.replicate_succ, Array.replicate_zero, List.push_toArray, List.append_toArray, List.nil_append, List.cons_append]
  gi_wp2
  have q1 : Boxed (w.alloc (.cells #[.slice none 0 0] 23)) w.heap.size 23 (.slice none 0 0) := Boxed.new w _ _
  have hb0 : Below w.heap.size w (w.alloc (.cells #[.slice none 0 0] 23)) := (Below.refl _ _).alloc (Nat.le_refl _) _
  obtain ⟨W0, hW0⟩ : ∃ W0, w.alloc (.cells #[.slice none 0 0] 23) = W0 := ⟨_, rfl⟩
  have hs0 : W0.heap.size = w.heap.size + 1 := by rw [← hW0]; simp
  rw [hW0] at q1 hb0 ⊢
  clear hW0
  have HB0 := Lib.hid hb0
  have HC0 := Lib.hid (HC.out.below hb0)
  have hbm : 0 < m → ∀ b o, ao = some ⟨b, o, none⟩ → b ∈ Bn :: inBs m ao := fun h b o e => by
    unfold inBs; rw [if_neg (by omega), e]; simp
  have hbs : ∀ k ∈ Bn :: inBs m ao, k < w.heap.size := fun k hk => by
    rcases List.mem_cons.1 hk with rfl | hk
    · exact hBl
    · unfold inBs at hk
      by_cases h0 : m = 0
      · rw [if_pos h0] at hk; cases hk
      · obtain ⟨b, o, rfl, hb, _⟩ := HC.out (by rw [I64s_length, Hm.out]; omega)
        rw [if_neg h0] at hk
        rw [List.mem_singleton.1 hk]; exact hb
  have Hbs := Lib.hid hbs
  refine wpIn_rangeFunc_e (xs := List.range m) (bs := Bn :: inBs m ao) rfl h1 (gf := 201) (lb := #[.pointer (some ⟨Bn, 0, none⟩)]) rfl trivial (enters_of Tryz.func201 (by kernel_rfl) rfl)
    (ivalues1_gives Fence.wide 5 trivial rfl (by omega) Bn _ ao ks m c W0 Hm.out (by omega) ((hb0.cell (p := ⟨Bn, 0, none⟩) hBl).trans HB.out) (by omega) (by simp) HC0.out hbm) (Below.refl _ _) (fun _ => rfl)
    (fun k hk => by have := hbs k hk; omega)
    (fun pre V => ∃ v, Boxed V w.heap.size 23 v ∧ V.ownsRow (w.heap.size + 1) 3 1 v pre.length (I64s (ks.take pre.length)) ∧ Below w.heap.size w V)
    ?stable ?put ⟨_, q1, by have h := World.ownsRow_nil W0 (w.heap.size + 1) 3 1; simpa [I64s] using h, hb0⟩
    (fun x a' V => a' = { tmps := #[.slice none 0 0, .func (.func 201) #[] #[.pointer (some ⟨Bn, 0, none⟩)], .pointer (some ⟨w.heap.size, 0, none⟩), undef, .slice none 0 0, .int .i64 (at0 ks x), .func (.func 201) #[] #[.pointer (some ⟨Bn, 0, none⟩)], .int .i64 (at0 ks x), undef, undef, undef, undef, undef], defers := [] })
    (by rintro x a' V l' r o _ h; exact h) ?assign ?body ?done
  case stable =>
    rintro s A B ⟨v, h1, h2, h3⟩ hAB
    exact ⟨v, (hAB.block _ h1.lt).trans h1, ownsRow_below h2 hAB, h3.trans (hAB.mono h3.size)⟩
  case put =>
    rintro s A L r o hge hL ⟨v, h1, h2, h3⟩
    have hne : w.heap.size ≠ L := by rintro rfl; rw [h1] at hL; cases hL
    exact ⟨v, (World.putObj_heap_other hne).trans h1, irow_not_obj h2 (fun cs t f e => by rw [hL] at e; cases e) o, h3.trans ⟨rfl, rfl, rfl, by simp, fun k hk => World.putObj_heap_other (by omega)⟩⟩
  case assign =>
    rintro l' pre x V K hi hsz hpre hK
    unfold inEnc
    gi_wp2
    exact hK _ _ (Below.refl _ _) rfl
  case done =>
    rintro D V hD ⟨v, h1, h2, h3⟩ hK
    rw [List.length_range, List.take_of_length_le (by rw [Hm.out]; exact Nat.le_refl _)] at h2
    have hcl := h1.cell
    have H2 := Lib.hid h2
    have H3 := Lib.hid h3
    clear h1 h2 h3
    gi_wp2
    refine endM (v := v) hK (res1 (t := 4) rfl rfl) (fun hp => HR.out v _ (H3.out.trans (hp.mono (by omega))) (irow_not_obj (ownsRow_mono H2.out (by omega)) (fun cs t f e => by rw [hK] at e; cases e) _))
  case body =>
    rintro l' pre x a' V ⟨v, hb, ho, hB3⟩ rfl hsz hpre
    obtain ⟨hlt, _, hxe⟩ := range_pre hpre
    subst hxe
    obtain ⟨k, hk⟩ : ∃ k, pre.length = k := ⟨_, rfl⟩
    have hpl : Hid ((pre ++ [pre.length]).length = k + 1) := by unfold Hid; rw [List.length_append, hk]; rfl
    rw [hk] at ho hlt
    rw [hk] at hpl ⊢
    have htk : Hid (I64s (ks.take (k + 1)) = I64s (ks.take k) ++ [.int .i64 (at0 ks k)]) := by
      have hk' : k < ks.length := by rw [Hm.out]; exact hlt
      unfold Hid
      rw [List.take_succ_eq_append_getElem hk', I64s_append]
      congr 1
      unfold at0
      rw [List.getD_eq_getElem?_getD, List.getElem?_eq_getElem hk']; rfl
    obtain ⟨nm, hnm⟩ : ∃ nm, at0 ks k = nm := ⟨_, rfl⟩
    obtain ⟨L, hL⟩ : ∃ L, I64s (ks.take k) = L := ⟨_, rfl⟩
    rw [hnm, hL] at htk
    rw [hL] at ho
    rw [hnm]
    have hcl := hb.cell
    have hfr := hb.frozen
    have hbl := hb.lt
    have HOa : Hid ((V.alloc (.cells #[.int .i64 nm] 3)).ownsRow (w.heap.size + 1) 3 1 v k L) := ownsRow_below ho ((Below.refl _ _).alloc (Nat.le_refl _) _)
    have HBa := Lib.hid (hb.alloc (.cells #[.int .i64 nm] 3))
    have Hb := Lib.hid hb
    have Ho := Lib.hid ho
    have H3 := Lib.hid hB3
    have hs3 := hB3.size
    clear hb ho hB3 hk hnm hL hpre
    gi_wp2_with (gi_at_builtin; refine wpIn_appendT rfl (.tmp 8) (.tmp 10) 23 rfl (w.heap.size + 1) 3 Tryz.underlying23 Tryz.infoInts rfl (by decide) v k L rfl HOa.out ⟨V.heap.size, 0, none⟩ 1 1 [.int .i64 nm] rfl rfl (by have h := cells_one V (.int .i64 nm) 3; simpa using h) (one1 _ rfl) (by omega) (by omega) (by simp; omega) ?_; intro v5 w5 hown hgrow _; obtain ⟨a5, c5, rfl, _, _⟩ := ownsRow_read hown; have O5 := Lib.hid hown; have G5 := Lib.hid hgrow; have B5 := Lib.hid (HBa.out.kept hgrow (Boxed.not_row HBa.out (by decide) HOa.out)); have b5c := B5.out.cell; have b5f := B5.out.frozen; clear hown hgrow)
    have hown : ∀ g, v.ownBlock = some g → w.heap.size + 1 ≤ g := fun g e => by
      rcases Ho.out.2 with ⟨rfl, _⟩ | ⟨g', cap, cur, rfl, h2, _⟩
      · simp [Value.ownBlock] at e
      · simp [Value.ownBlock] at e; omega
    have hkeep : ∀ q, q < V.heap.size → q ≠ w.heap.size → (∀ g, v.ownBlock = some g → q ≠ g) → (w5.setCell ⟨w.heap.size, 0, none⟩ (.slice a5 (k + 1) c5)).heap[q]? = V.heap[q]? := fun q hq hne hng => by
      rw [Below.heap_setCell _ _ _ _ hne, G5.out.block q (by simp; omega) (fun e => hng q e.symm rfl)]
      exact Below.heap_alloc _ _ _ hq
    refine ⟨⟨?_, fun q hq => ?_⟩, fun q hq => ?_, _, B5.out.set _, ?_, ?_⟩
    · have h := G5.out.size
      have h2 := (Below.setCell (Below.refl w.heap.size w5) (p := ⟨w.heap.size, 0, none⟩) (Nat.le_refl _) (.slice a5 (k + 1) c5)).size
      simp at h
      omega
    · have hql : q < V.heap.size := by
        rcases hq with ⟨_, h⟩ | ⟨_, h⟩ <;> exact lt_of_block h
      refine hkeep q hql ?_ ?_
      · rintro rfl
        have h2 : V.heap[w.heap.size]? = _ := Hb.out
        rcases hq with ⟨_, h⟩ | ⟨_, h⟩ <;> (rw [h2] at h; cases h)
      · intro g e hqg
        subst hqg
        rcases Ho.out.2 with ⟨rfl, _⟩ | ⟨g', cap, cur, rfl, h2, h3, _⟩
        · simp [Value.ownBlock] at e
        · simp [Value.ownBlock] at e
          subst e
          rcases hq with ⟨_, h⟩ | ⟨_, h⟩ <;> (rw [h3] at h; cases h)
    · have h := Hbs.out q hq
      exact hkeep q (by omega) (by omega) (fun g e => by have := hown g e; omega)
    · rw [hpl.out, htk.out]
      refine ⟨O5.out.1, ?_⟩
      rcases O5.out.2 with h | ⟨g, cap, cur, h1, h2, h3, h4⟩
      · exact .inl h
      · exact .inr ⟨g, cap, cur, h1, h2, (Below.heap_setCell _ _ _ _ (show g ≠ w.heap.size by omega)).trans h3, h4⟩
    · have hA : Below w.heap.size w (V.alloc (.cells #[.int .i64 nm] 3)) := H3.out.alloc hs3 _
      exact (hA.grown G5.out (by simp; omega) (fun j e => by have := hown j e; omega)).setCell (p := ⟨w.heap.size, 0, none⟩) (Nat.le_refl _) _

set_option maxRecDepth 100000 in
set_option maxHeartbeats 2000000 in
theorem icollect_any (Bn : Nat) (ao : Option Addr) (ks : List Int) (m c : Nat) (w : World) (R : Ending → World → Prop) (hm : ks.length = m) (hl : m ≤ 100000) (hB : w.cell? ⟨Bn, 0, none⟩ = some (.slice ao m c)) (hBl : Bn < w.heap.size) (hc : CellsAt w ao (I64s ks))
   (hR : ∀ v w', Below w.heap.size w w' → w'.ownsRow w.heap.size 3 1 v m (I64s ks) → R (.returned v) w') :
    Calls Tryz.prog 199 #[.func (.func 201) #[] #[.pointer (some ⟨Bn, 0, none⟩)]] w R := by
  have HR := Lib.hid hR
  have HC := Lib.hid hc
  have HB := Lib.hid hB
  clear hR hc hB
  go_enter Tryz.func199, Tryz.ntmps199
  go_wp2_with fail
  refine iappendSeq_any Bn ao ks m c _ _ hm hl HB.out hBl HC.out ?_
  intro v w1 hb ho
  have B1 := Lib.hid hb
  have O1 := Lib.hid ho
  clear hb ho
  go_wp2_with fail
  exact HR.out _ _ B1.out O1.out
set_option maxRecDepth 100000 in
set_option maxHeartbeats 2000000 in
theorem isortedV_any (Bn : Nat) (ao : Option Addr) (ks : List Int) (m c : Nat) (w : World) (R : Ending → World → Prop) (hm : ks.length = m) (hl : m ≤ 100000) (hB : w.cell? ⟨Bn, 0, none⟩ = some (.slice ao m c)) (hBl : Bn < w.heap.size) (hc : CellsAt w ao (I64s ks)) (h0 : 0 < m)
   (hR : ∀ a c' w', Below w.heap.size w w' → CellsAt w' a (I64s (sortL ks)) → R (.returned (.slice a m c')) w') :
    Calls Tryz.prog 142 #[.func (.func 201) #[] #[.pointer (some ⟨Bn, 0, none⟩)]] w R := by
  subst hm
  have HR := Lib.hid hR
  have HC := Lib.hid hc
  have HB := Lib.hid hB
  clear hR hc hB
  go_enter Tryz.func142, Tryz.ntmps142
  go_wp2_with fail
  refine icollect_any Bn ao ks _ c _ _ rfl hl HB.out hBl HC.out ?_
  intro v w1 hb ho
  have B1 := Lib.hid hb
  have O1 := Lib.hid ho
  obtain ⟨g, cap, rfl⟩ : ∃ g cap, v = .slice (some ⟨g, 0, none⟩) ks.length cap := by
    rcases ho.2 with ⟨_, h⟩ | ⟨g, cap, cur, h, _⟩
    · exact absurd h (by omega)
    · exact ⟨g, cap, h⟩
  clear hb ho
  go_wp2_with fail
  refine sort_own w.heap.size g cap ks _ O1.out (by omega) _ ?_
  intro w2 hg ho
  have B2 := Lib.hid (B1.out.grown hg B1.out.size (fun j e => (O1.out.lt j (by cases e; rfl)).1))
  obtain ⟨a2, c2, e2, h2, _⟩ := ownsRow_read ho
  have H2 := Lib.hid h2
  cases e2
  clear hg ho h2
  go_wp2_with fail
  exact HR.out _ _ _ B2.out H2.out
end Go.Proofs.YtcmhompbdanpdaaGreatDoor
namespace Go.Proofs.YtcmhompbdanpdaaGreatDoor
open Go.RowKit

theorem sortL_unique {l m : List Int} (hs : m.Pairwise fun a b => a ≤ b) (hp : m.Perm l) : sortL l = m := by
  refine List.Perm.eq_of_pairwise (le := fun a b : Int => a ≤ b) (fun a b _ _ h1 h2 => Int.le_antisymm h1 h2) ?_ hs ((List.mergeSort_perm l _).trans hp.symm)
  have := List.pairwise_mergeSort (le := fun x y : Int => decide (x ≤ y)) (fun a b c h1 h2 => by simp at *; omega) (fun a b => by simp; omega) l
  exact this.imp (fun h => by simpa using h)
theorem sortL_up (l : List Int) : (sortL l).Pairwise fun a b => a ≤ b := by
  have := List.pairwise_mergeSort (le := fun x y : Int => decide (x ≤ y)) (fun a b c h1 h2 => by simp at *; omega) (fun a b => by simp; omega) l
  exact this.imp (fun h => by simpa using h)
theorem sortL_perm (l : List Int) : (sortL l).Perm l := List.mergeSort_perm l _
/-- A value put in its place. -/
theorem sortL_put {l A B : List Int} {k : Nat} {x : Int} (hk : k < l.length) (hx : at0 l k = x) (hS : A ++ B = sortL (l.take k)) (hB : ∀ y ∈ B, x < y) (hA : ∀ A' y, A = A' ++ [y] → y ≤ x) : sortL (l.take (k + 1)) = A ++ x :: B := by
  have hu := sortL_up (l.take k)
  rw [← hS, List.pairwise_append] at hu
  obtain ⟨h1, h2, h3⟩ := hu
  have hAx : ∀ a ∈ A, a ≤ x := by
    intro a ha
    rcases List.eq_nil_or_concat A with e | ⟨A', y, e⟩
    · rw [e] at ha; cases ha
    · have hy := hA A' y (by rw [e]; simp)
      rw [e] at ha h1
      simp only [List.concat_eq_append, List.mem_append, List.mem_singleton] at ha
      rcases ha with ha | rfl
      · simp only [List.concat_eq_append, List.pairwise_append] at h1
        exact Int.le_trans (h1.2.2 a ha y (by simp)) hy
      · exact hy
  refine sortL_unique ?_ ?_
  · rw [List.pairwise_append]
    refine ⟨h1, List.pairwise_cons.2 ⟨fun y hy => Int.le_of_lt (hB y hy), h2⟩, fun a ha b hb => ?_⟩
    rcases List.mem_cons.1 hb with rfl | hb
    · exact hAx a ha
    · exact h3 a ha b hb
  · rw [List.take_succ_eq_append_getElem hk, ← at0_get hk, hx]
    refine List.perm_middle.trans ?_
    rw [hS]
    exact ((sortL_perm (l.take k)).cons x).trans (List.perm_append_singleton x _).symm
theorem swap_set (A B : List Int) (x y : Int) : ((A ++ y :: x :: B).set (A.length + 1) y).set A.length x = A ++ x :: y :: B := by simp
theorem at_mid (A B : List Int) (x : Int) : at0 (A ++ x :: B) A.length = x := by simp [at0, List.getD]
theorem at_mid2 (A B : List Int) (x y : Int) : at0 (A ++ y :: x :: B) (A.length + 1) = x := by
  have := at_mid (A ++ [y]) B x
  simpa using this
theorem own_get {w : World} {base n : Nat} {g cap : Nat} {l : List Int} (h : w.ownsRow base 3 1 (.slice (some ⟨g, 0, none⟩) n cap) n (I64s l)) {i : Nat} (hi : i < l.length) : w.cell? ⟨g, i, none⟩ = some (.int .i64 (at0 l i)) ∧ w.frozen? ⟨g, i, none⟩ = false ∧ g < w.heap.size ∧ base ≤ g := by
  have hl : l.length = n := by have := h.1; rw [I64s_length] at this; omega
  rcases h.2 with ⟨h1, _⟩ | ⟨g', cap', cur, h1, hb, hg, hn, hm, hs, ht⟩
  · cases h1
  · cases h1
    refine ⟨cell_at hg ?_, frozen_at hg i, lt_of_block hg, hb⟩
    have h5 : (cur.toList.take (n * 1))[i]? = (I64s l)[i]? := by rw [ht]
    rw [I64s_get hi, List.getElem?_take_of_lt (by omega)] at h5
    rw [← h5]; simp
theorem own_store {w : World} {base n : Nat} {g cap : Nat} {l : List Int} (h : w.ownsRow base 3 1 (.slice (some ⟨g, 0, none⟩) n cap) n (I64s l)) (i : Nat) (x : Int) : (w.setCell ⟨g, i, none⟩ (.int .i64 x)).ownsRow base 3 1 (.slice (some ⟨g, 0, none⟩) n cap) n (I64s (l.set i x)) := by
  refine ⟨by have := h.1; rw [I64s_length] at this ⊢; rw [List.length_set]; exact this, ?_⟩
  rcases h.2 with ⟨h1, _⟩ | ⟨g', cap', cur, h1, hb, hg, hn, hm, hs, ht⟩
  · cases h1
  · cases h1
    refine .inr ⟨g, cap, _, rfl, hb, set_cells hg i _ _ rfl, hn, hm, by simpa using hs, ?_⟩
    rw [Array.toList_setIfInBounds, List.take_set, ht]
    simp [I64s, List.map_set]
theorem ownL_of {w : World} {base n m : Nat} {g cap : Nat} {xs ys : List Value} (h : w.ownsRow base 3 1 (.slice (some ⟨g, 0, none⟩) m cap) (n + 1) xs) (e : ys = xs) : OwnL w base 3 1 (.slice (some ⟨g, 0, none⟩) m cap) (n + 1) ys := ⟨by rw [e]; exact h, ⟨fun h => (by cases h), fun h => absurd h (by omega)⟩⟩
theorem own_below {w w' : World} {base e size n : Nat} {v : Value} {xs : List Value} (h : w.ownsRow base e size v n xs) (hb : Below w.heap.size w w') : w'.ownsRow base e size v n xs := ownsRow_below h hb
end Go.Proofs.YtcmhompbdanpdaaGreatDoor
namespace Go.Proofs.YtcmhompbdanpdaaGreatDoor
open Go.RowKit

def vrE (l : List Int) : Int := if ckSr l = 0 then (if l.length = 1 then 14 else 0) else ckSr l
def medS (l : List Int) : Rat := Rat.divInt (at0 (sortL l) ((l.length - 1) / 2) + at0 (sortL l) (l.length / 2)) 2
theorem Srs.med {l : List Int} (h : Srs l) {k : Nat} (hk : k < l.length) : -1048576 ≤ at0 (sortL l) k ∧ at0 (sortL l) k ≤ 1048576 := by
  have hk' : k < (sortL l).length := by rw [sortL_length]; exact hk
  rw [at0_get hk']
  have hm := (sortL_perm l).mem_iff.1 (List.getElem_mem hk')
  exact ⟨h.lo _ hm, h.hi _ hm⟩
set_option maxHeartbeats 1000000 in
theorem zvariance_any (ao : Option Addr) (l : List Int) (c : Nat) (w : World) (R : Ending → World → Prop) (hl : l.length ≤ 1000000000) (hc : CellsAt w ao (I64s l)) (hE : Env w) (hR : ∀ r w', Below w.heap.size w w' → (vrE l = 0 → TxR r (varS l)) → (vrE l ≠ 0 → r = ⟨#[]⟩) → R (.returned (.tuple #[.string r, .int .i64 (vrE l)])) w') :
    Calls Tryz.prog 59 #[.slice ao l.length c] w R := by
  have HR := Lib.hid hR
  have HC := Lib.hid hc
  have HL := Lib.hid hl
  have HV : Hid (vrE l = if ckSr l = 0 then (if l.length = 1 then 14 else 0) else ckSr l) := rfl
  have HE := Lib.hid hE
  clear hE
  clear hR hc hl
  go_enter Tryz.func59, Tryz.ntmps59
  go_wp2_with fail
  refine zcheck_any ao l c _ _ HL.out HC.out ?_
  obtain ⟨e, he⟩ : ∃ e, ckSr l = e := ⟨_, rfl⟩
  rw [he]
  rw [he] at HV
  by_cases h0 : e = 0
  · subst h0
    have HS := Lib.hid (Srs.of he)
    by_cases h1 : l.length = 1
    · have K1 : ((l.length : Int) == 1) = true := by simp [h1]
      have e2 : Hid (vrE l = 14) := by unfold Hid; rw [HV.out, if_pos rfl, if_pos h1]
      rw [e2.out] at HR
      clear he h1
      go_wp2_with fail
      exact HR.out _ _ (Below.refl _ _) (fun h => absurd h (by decide)) (fun _ => rfl)
    · have K1 : ((l.length : Int) == 1) = false := by simpa using (by omega : ¬ (l.length : Int) = 1)
      have e2 : Hid (vrE l = 0) := by unfold Hid; rw [HV.out, if_pos rfl, if_neg h1]
      have h2 : Hid (2 ≤ l.length) := by have := HS.out.pos; unfold Hid; omega
      rw [e2.out] at HR
      clear he h1
      go_wp2_with fail
      refine zvar0_any ao l c _ _ HS.out h2.out HC.out HE.out fun r w1 HB HT => ?_
      have HB1 := Lib.hid HB
      have HT1 := Lib.hid HT
      clear HB HT
      go_wp2_with fail
      exact HR.out _ _ HB1.out (fun _ => HT1.out) (fun h => absurd rfl h)
  · have K : (e != 0) = true := by simpa using h0
    have e2 : Hid (vrE l = e) := by unfold Hid; rw [HV.out, if_neg h0]
    rw [e2.out] at HR
    have H0 := Lib.hid h0
    clear he h0
    go_wp2_with fail
    exact HR.out _ _ (Below.refl _ _) (fun h => absurd h H0.out) (fun _ => rfl)
set_option maxRecDepth 100000 in
set_option maxHeartbeats 2000000 in
theorem zmedian_any (ao : Option Addr) (l : List Int) (c : Nat) (w : World) (R : Ending → World → Prop) (hl : l.length ≤ 1000000000) (hc : CellsAt w ao (I64s l)) (hE : Env w) (hR : ∀ r w', Below w.heap.size w w' → (ckSr l = 0 → TxR r (medS l)) → (ckSr l ≠ 0 → r = ⟨#[]⟩) → R (.returned (.tuple #[.string r, .int .i64 (ckSr l)])) w') :
    Calls Tryz.prog 70 #[.slice ao l.length c] w R := by
  have HR := Lib.hid hR
  have HC := Lib.hid hc
  have HL := Lib.hid hl
  have HE := Lib.hid hE
  clear hE
  clear hR hc hl
  go_enter Tryz.func70, Tryz.ntmps70
  go_wp2_with fail
  refine zcheck_any ao l c _ _ HL.out HC.out ?_
  obtain ⟨e, he⟩ : ∃ e, ckSr l = e := ⟨_, rfl⟩
  rw [he]
  rw [he] at HR
  by_cases h0 : e = 0
  · subst h0
    have HS := Lib.hid (Srs.of he)
    have hp : Hid (0 < l.length) := HS.out.pos
    have hq : Hid (l.length ≤ 4096) := HS.out.few
    clear he
    go_wp2_with fail
    refine ivalues_any ao l.length c _ _ ?_
    have hb0 : Below w.heap.size w (w.alloc (.cells #[.slice ao l.length c] 23)) := (Below.refl _ _).alloc (Nat.le_refl _) _
    obtain ⟨W0, hW0⟩ : ∃ W0, w.alloc (.cells #[.slice ao l.length c] 23) = W0 := ⟨_, rfl⟩
    have hs0 : W0.heap.size = w.heap.size + 1 := by rw [← hW0]; simp
    have cB : W0.cell? ⟨w.heap.size, 0, none⟩ = some (.slice ao l.length c) := by rw [← hW0]; simp
    rw [hW0] at hb0 ⊢
    have HB0 := Lib.hid hb0
    have HS0 := Lib.hid hs0
    have HC0 := Lib.hid (HC.out.below hb0)
    have CB := Lib.hid cB
    clear hW0 hb0 hs0 cB
    go_wp2_with fail
    refine isortedV_any w.heap.size ao l l.length c _ _ rfl (by have := hq.out; omega) CB.out (by have := HS0.out; omega) HC0.out hp.out fun a c' w1 HB hs => ?_
    have HB1 := Lib.hid (bstep HB0.out HB)
    have HS1 := Lib.hid hs
    clear HB hs
    have HE1 := Lib.hid (HE.out.below HB1.out)
    obtain ⟨g, o, rfl, hgb, hdc⟩ := HS1.out.ints (by rw [sortL_length]; exact hp.out)
    obtain ⟨n, hn⟩ : ∃ n, l.length = n := ⟨_, rfl⟩
    obtain ⟨i1, hi1⟩ : ∃ i, (n - 1) / 2 = i := ⟨_, rfl⟩
    obtain ⟨i2, hi2⟩ : ∃ i, n / 2 = i := ⟨_, rfl⟩
    have lt1 : i1 < n := by have := hp.out; omega
    have lt2 : i2 < n := by have := hp.out; omega
    have s1 := hdc i1 (by rw [sortL_length, hn]; exact lt1)
    have s2 := hdc i2 (by rw [sortL_length, hn]; exact lt2)
    have b1 := HS.out.med (k := i1) (by rw [hn]; exact lt1)
    have b2 := HS.out.med (k := i2) (by rw [hn]; exact lt2)
    have hm : Hid (medS l = Rat.divInt (at0 (sortL l) i1 + at0 (sortL l) i2) 2) := by unfold Hid medS; rw [hn, hi1, hi2]
    obtain ⟨x1, hx1⟩ : ∃ x, at0 (sortL l) i1 = x := ⟨_, rfl⟩
    obtain ⟨x2, hx2⟩ : ∃ x, at0 (sortL l) i2 = x := ⟨_, rfl⟩
    rw [hx1] at s1 b1 hm
    rw [hx2] at s2 b2 hm
    obtain ⟨b11, b12⟩ := b1
    obtain ⟨b21, b22⟩ := b2
    have hn1 : 1 ≤ n ∧ n ≤ 4096 := by rw [← hn]; exact ⟨hp.out, hq.out⟩
    obtain ⟨hn1, hn2⟩ := hn1
    have K1 : IntKind.i64.wrap ((n : Int) - 1) = (n : Int) - 1 := by rw [IntKind.wrap_i64] <;> omega
    have K2 : ((n : Int) - 1).tdiv 2 = (i1 : Int) := by rw [Int.tdiv_eq_ediv_of_nonneg (by omega)]; omega
    have K3 : (n : Int).tdiv 2 = (i2 : Int) := by rw [Int.tdiv_eq_ediv_of_nonneg (by omega)]; omega
    have K4 : IntKind.i64.wrap (i1 : Int) = (i1 : Int) := by rw [IntKind.wrap_i64] <;> omega
    have K5 : IntKind.i64.wrap (i2 : Int) = (i2 : Int) := by rw [IntKind.wrap_i64] <;> omega
    have K6 : ((i1 : Int) < (n : Int)) = True := eq_true (by omega)
    have K7 : ((i2 : Int) < (n : Int)) = True := eq_true (by omega)
    have K8 : Hid (IntKind.i64.wrap (x1 + x2) = x1 + x2) := by unfold Hid; rw [IntKind.wrap_i64] <;> omega
    have Hgb := Lib.hid hgb
    rw [hn]
    clear hdc hi1 hi2 lt1 lt2 hx1 hx2 hn hgb
    go_wp2_with fail
    have HED := Lib.hid HE1.out.drew
    refine regionL [0, 1, 2, 3, 4, 5, 6, 7, 8, 9, 10, 11] (fun w' => w'.cell? ⟨g, o + i1, none⟩ = some (.int .i64 x1) ∧ w'.cell? ⟨g, o + i2, none⟩ = some (.int .i64 x2)) (by kernel_rfl) (⟨s1, s2⟩) (fun Qn hPQ hQn hS0 => ?_)
    iterate 12 (refine takeL (v := ?_) rfl rfl (by kernel_rfl) (by kernel_rfl) (by kernel_rfl) hPQ hS0 (by kernel_rfl) ?_ ?_; rotate_left; (focus (intro w hSw; (try dsimp only at hSw); obtain ⟨k0, k1⟩ := hSw; go_simp; (try with_reducible rfl))); (try simp only [Act.put, List.setIfInBounds_toArray, List.set_cons_zero, List.set_cons_succ]))
    refine ofL (wpAnyH_ready (rs := [12]) (by kernel_rfl) (by simp) ?_)
    refine AllReadyH.cons (o := _) rfl (fun K hK => ?_) AllReadyH.nil
    go_simp
    rw [K8.out]
    with_reducible refine rof_any (x1 + x2) 2 _ _ (by omega) (by omega) (by omega) (by omega) (by omega) HED.out fun r w2 hb2 hr => ?_
    have d1 := cellB hb2 hS0.1 (lt_of_cell' hS0.1)
    have d2 := cellB hb2 hS0.2 (lt_of_cell' hS0.2)
    have B2 := Lib.hid (bstep HB1.out.drew hb2)
    have T2 : Hid (TxR r (medS l)) := by rw [hm.out]; exact hr
    clear hb2 hr
    refine hK.out _ _ (⟨d1, d2⟩) (fun hS1 => toL [13, 14, 15, 16] ?_)
    clear hK K hS0
    (try simp only [Act.put, List.setIfInBounds_toArray, List.set_cons_zero, List.set_cons_succ])
    iterate 4 (refine takeL (v := ?_) rfl rfl (by kernel_rfl) (by kernel_rfl) (by kernel_rfl) hPQ hS1 (by kernel_rfl) ?_ ?_; rotate_left; (focus (intro w hSw; (try dsimp only at hSw); obtain ⟨k0, k1⟩ := hSw; go_simp; (try with_reducible rfl))); (try simp only [Act.put, List.setIfInBounds_toArray, List.set_cons_zero, List.set_cons_succ]))
    refine ofL (wpAnyH_done (by kernel_rfl) (hQn.out _ _ ?_) _)
    clear hS1 hPQ hQn Qn
    go_wp2_with fail
    exact HR.out _ _ B2.out (fun _ => T2.out) (fun h => absurd rfl h)
  · have K : (e != 0) = true := by simpa using h0
    have H0 := Lib.hid h0
    clear he h0
    go_wp2_with fail
    exact HR.out _ _ (Below.refl _ _) (fun h => absurd h H0.out) (fun _ => rfl)
end Go.Proofs.YtcmhompbdanpdaaGreatDoor
namespace Go.Proofs.YtcmhompbdanpdaaGreatDoor
open Go.RowKit

def viS (l : List Int) (lo hi : Int) : Int := if gvS l lo hi = 0 then (if vrE l = 0 then (if varS l = 0 then 10 else 0) else vrE l) else gvS l lo hi
theorem gvS_ok {l : List Int} {lo hi : Int} (h : gvS l lo hi = 0) : ckSr l = 0 ∧ (-1048576 ≤ lo ∧ lo ≤ 1048576) ∧ (-1048576 ≤ hi ∧ hi ≤ 1048576) ∧ lo ≤ hi := by
  unfold gvS at h
  by_cases h0 : ckSr l = 0
  · rw [if_pos h0] at h
    by_cases h1 : (!inT lo || !inT hi) = true
    · rw [if_pos h1] at h; exact absurd h (by decide)
    · rw [if_neg h1] at h
      by_cases h2 : hi < lo
      · rw [if_pos h2] at h; exact absurd h (by decide)
      · cases e1 : inT lo with
        | false => rw [e1] at h1; exact absurd rfl h1
        | true =>
          cases e2 : inT hi with
          | false => rw [e1, e2] at h1; exact absurd rfl h1
          | true => exact ⟨h0, inT_iff.1 e1, inT_iff.1 e2, by omega⟩
  · rw [if_neg h0] at h; exact absurd h h0
theorem viS_ok {l : List Int} {lo hi : Int} (h : viS l lo hi = 0) : gvS l lo hi = 0 ∧ vrE l = 0 ∧ varS l ≠ 0 := by
  unfold viS at h
  by_cases h0 : gvS l lo hi = 0
  · rw [if_pos h0] at h
    by_cases h1 : vrE l = 0
    · rw [if_pos h1] at h
      by_cases h2 : varS l = 0
      · rw [if_pos h2] at h; exact absurd h (by decide)
      · exact ⟨h0, h1, h2⟩
    · rw [if_neg h1] at h; exact absurd h h1
  · rw [if_neg h0] at h; exact absurd h h0
theorem vrE_ok {l : List Int} (h : vrE l = 0) : ckSr l = 0 ∧ 2 ≤ l.length := by
  unfold vrE at h
  by_cases h0 : ckSr l = 0
  · rw [if_pos h0] at h
    by_cases h1 : l.length = 1
    · rw [if_pos h1] at h; exact absurd h (by decide)
    · exact ⟨h0, by have := (Srs.of h0).pos; omega⟩
  · rw [if_neg h0] at h; exact absurd h h0
theorem SmR.mul {j k : Nat} {p q : Rat} (hp : SmR j p) (hq : SmR k q) : SmR (j + k) (p * q) := by
  rw [← rat_mul p q]
  refine SmR.ofDiv ?_ ?_ ?_
  · have h1 := p.den_pos
    have h2 := q.den_pos
    exact Int.mul_ne_zero (by omega) (by omega)
  · rw [Int.natAbs_mul, Nat.pow_add]; exact Nat.mul_lt_mul'' hp.1 hq.1
  · rw [Int.natAbs_mul, Nat.pow_add, Int.natAbs_natCast, Int.natAbs_natCast]; exact Nat.mul_lt_mul'' hp.2 hq.2
theorem fit_mul {m n : Int} {j k : Nat} (hm : m.natAbs < 10 ^ j) (hn : n.natAbs < 10 ^ k) (h : j + k ≤ 1000 := by decide) (h0 : 0 < j + k := by decide) : lenI (m * n) ≤ 1024 := by
  refine Nat.le_trans ((lenI_le (k := j + k) h0).2 ?_) (Nat.le_trans h (by decide))
  rw [Int.natAbs_mul, Nat.pow_add]; exact Nat.mul_lt_mul'' hm hn
theorem fit_nn {j k : Nat} {p q : Rat} (hp : SmR j p) (hq : SmR k q) (h : j + k ≤ 1000 := by decide) (h0 : 0 < j + k := by decide) : lenI (p.num * q.num) ≤ 1024 := fit_mul hp.1 hq.1 h h0
theorem fit_nd {j k : Nat} {p q : Rat} (hp : SmR j p) (hq : SmR k q) (h : j + k ≤ 1000 := by decide) (h0 : 0 < j + k := by decide) : lenI (p.num * (q.den : Int)) ≤ 1024 := fit_mul hp.1 (by rw [Int.natAbs_natCast]; exact hq.2) h h0
theorem fit_dn {j k : Nat} {p q : Rat} (hp : SmR j p) (hq : SmR k q) (h : j + k ≤ 1000 := by decide) (h0 : 0 < j + k := by decide) : lenI ((p.den : Int) * q.num) ≤ 1024 := fit_mul (by rw [Int.natAbs_natCast]; exact hp.2) hq.1 h h0
theorem fit_dd {j k : Nat} {p q : Rat} (hp : SmR j p) (hq : SmR k q) (h : j + k ≤ 1000 := by decide) (h0 : 0 < j + k := by decide) : lenI ((p.den : Int) * (q.den : Int)) ≤ 1024 := fit_mul (by rw [Int.natAbs_natCast]; exact hp.2) (by rw [Int.natAbs_natCast]; exact hq.2) h h0
theorem dec_two {n : Nat} (h : 10 ≤ n) (h2 : n < 100) : Lib.decDigits n = [UInt8.ofNat (48 + n / 10), UInt8.ofNat (48 + n % 10)] := by
  rw [dec_big (by omega), dec_small (by omega)]; rfl
theorem txR_36 : TxR ⟨#[51, 54]⟩ ((36 : Int) : Rat) := by
  unfold TxR; rw [rat_int, itoa_pos (by decide)]
  show _ = Lib.decDigits 36
  rw [dec_two (by decide) (by decide)]; rfl
theorem txR_9 : TxR ⟨#[57]⟩ ((9 : Int) : Rat) := by
  unfold TxR; rw [rat_int, itoa_pos (by decide)]
  show _ = Lib.decDigits 9
  rw [dec_small (by decide)]; rfl
set_option maxHeartbeats 2000000 in
theorem zboth_any (ao : Option Addr) (l : List Int) (c : Nat) (lo hi : Int) (w : World) (R : Ending → World → Prop) (hl : l.length ≤ 1000000000) (hc : CellsAt w ao (I64s l)) (hR : ∀ w', Below w.heap.size w w' → R (.returned (.int .i64 (gvS l lo hi))) w') :
    Calls Tryz.prog 179 #[.slice ao l.length c, .agg #[.int .i64 lo, .int .i64 hi]] w R := by
  have HR := Lib.hid hR
  have HC := Lib.hid hc
  have HL := Lib.hid hl
  have HV : Hid (gvS l lo hi = if ckSr l = 0 then (if (!inT lo || !inT hi) = true then 2 else if hi < lo then 9 else 0) else ckSr l) := rfl
  obtain ⟨w1, E1, HB1, s1, b0, b1⟩ := box2 w (.int .i64 lo) (.int .i64 hi) 25
  have HC1 := Lib.hid (HC.out.below HB1.out)
  clear hR hc hl
  go_enter Tryz.func179, Tryz.ntmps179
  go_wp2_with (rw [E1.out])
  refine zcheck_any ao l c _ _ HL.out HC1.out ?_
  obtain ⟨e, he⟩ : ∃ e, ckSr l = e := ⟨_, rfl⟩
  rw [he]
  rw [he] at HV
  by_cases h0 : e = 0
  · subst h0
    have HV2 : Hid (gvS l lo hi = if (!inT lo || !inT hi) = true then 2 else if hi < lo then 9 else 0) := by unfold Hid; rw [HV.out, if_pos rfl]
    clear he HV
    go_wp2_with fail
    with_reducible refine zin_any lo _ _ ?_
    cases i1 : inT lo with
    | false =>
      have e2 : Hid (gvS l lo hi = 2) := by unfold Hid; rw [HV2.out, if_pos (by rw [i1]; rfl)]
      clear i1
      go_wp2_with fail
      exact ret_i (HR.out _ HB1.out) rfl e2.out
    | true =>
      have I1 := Lib.hid i1
      clear i1
      go_wp2_with fail
      with_reducible refine zin_any hi _ _ ?_
      cases i2 : inT hi with
      | false =>
        have e2 : Hid (gvS l lo hi = 2) := by unfold Hid; rw [HV2.out, if_pos (by rw [i2, I1.out]; rfl)]
        clear i2
        go_wp2_with fail
        exact ret_i (HR.out _ HB1.out) rfl e2.out
      | true =>
        have e1 : Hid (gvS l lo hi = if hi < lo then 9 else 0) := by unfold Hid; rw [HV2.out, if_neg (by rw [i2, I1.out]; decide)]
        clear i2
        by_cases hh : hi < lo
        · have K2 : (hi < lo) = True := eq_true hh
          have e2 : Hid (gvS l lo hi = 9) := by unfold Hid; rw [e1.out, if_pos hh]
          clear hh
          go_wp2_with fail
          exact ret_i (HR.out _ HB1.out) rfl e2.out
        · have K2 : (hi < lo) = False := eq_false hh
          have e2 : Hid (gvS l lo hi = 0) := by unfold Hid; rw [e1.out, if_neg hh]
          clear hh
          go_wp2_with fail
          exact ret_i (HR.out _ HB1.out) rfl e2.out
  · have K : (e != 0) = true := by simpa using h0
    have e2 : Hid (gvS l lo hi = e) := by unfold Hid; rw [HV.out, if_neg h0]
    clear he h0
    go_wp2_with fail
    exact ret_i (HR.out _ HB1.out) rfl e2.out
set_option maxHeartbeats 2000000 in
theorem zvaried_any (ao : Option Addr) (l : List Int) (c : Nat) (lo hi : Int) (w : World) (R : Ending → World → Prop) (hl : l.length ≤ 1000000000) (hc : CellsAt w ao (I64s l)) (hE : Env w) (hR : ∀ r w', Below w.heap.size w w' → (viS l lo hi = 0 → TxR r (varS l)) → (viS l lo hi ≠ 0 → r = ⟨#[]⟩) → R (.returned (.tuple #[.string r, .int .i64 (viS l lo hi)])) w') :
    Calls Tryz.prog 122 #[.slice ao l.length c, .agg #[.int .i64 lo, .int .i64 hi]] w R := by
  have HR := Lib.hid hR
  have HC := Lib.hid hc
  have HL := Lib.hid hl
  have HV : Hid (viS l lo hi = if gvS l lo hi = 0 then (if vrE l = 0 then (if varS l = 0 then 10 else 0) else vrE l) else gvS l lo hi) := rfl
  obtain ⟨w1, E1, HB1, s1, b0, b1⟩ := box2 w (.int .i64 lo) (.int .i64 hi) 25
  have HC1 := Lib.hid (HC.out.below HB1.out)
  have HE1 := Lib.hid (hE.below HB1.out)
  clear hR hc hl hE
  go_enter Tryz.func122, Tryz.ntmps122
  go_wp2_with (rw [E1.out])
  refine zboth_any ao l c lo hi _ _ HL.out HC1.out fun w2 HB => ?_
  have HB2 := Lib.hid (HB1.out.trans (HB.mono HB1.out.size))
  have HC2 := Lib.hid (HC1.out.below HB)
  have HE2 := Lib.hid (HE1.out.below HB)
  clear HB
  obtain ⟨e, he⟩ : ∃ e, gvS l lo hi = e := ⟨_, rfl⟩
  rw [he]
  rw [he] at HV
  by_cases h0 : e = 0
  · subst h0
    have HV2 : Hid (viS l lo hi = if vrE l = 0 then (if varS l = 0 then 10 else 0) else vrE l) := by unfold Hid; rw [HV.out, if_pos rfl]
    clear he HV
    go_wp2_with fail
    refine zvariance_any ao l c _ _ HL.out HC2.out HE2.out fun r w3 HB hr1 hr2 => ?_
    have HB3 := Lib.hid (HB2.out.trans (HB.mono HB2.out.size))
    clear HB
    obtain ⟨v, hv⟩ : ∃ v, vrE l = v := ⟨_, rfl⟩
    rw [hv] at hr1 hr2 HV2 ⊢
    have Hr1 := Lib.hid hr1
    have Hr2 := Lib.hid hr2
    clear hr1 hr2
    by_cases v0 : v = 0
    · subst v0
      have hT := Hr1.out rfl
      have hq := hT.beqL 0 (c := [48]) rtL_0
      by_cases q0 : varS l = 0
      · rw [decide_eq_true q0] at hq
        have e2 : Hid (viS l lo hi = 10) := by unfold Hid; rw [HV2.out, if_pos rfl, if_pos q0]
        rw [e2.out] at HR
        clear hv hT q0
        go_wp2_with fail
        exact HR.out _ _ HB3.out (fun h => absurd h (by decide)) (fun _ => rfl)
      · rw [decide_eq_false q0] at hq
        have e2 : Hid (viS l lo hi = 0) := by unfold Hid; rw [HV2.out, if_pos rfl, if_neg q0]
        rw [e2.out] at HR
        have HT := Lib.hid hT
        clear hv hT q0
        go_wp2_with fail
        exact HR.out _ _ HB3.out (fun _ => HT.out) (fun h => absurd rfl h)
    · have K : (v != 0) = true := by simpa using v0
      have K2 : (v == 0) = false := by simpa using v0
      have e2 : Hid (viS l lo hi = v) := by unfold Hid; rw [HV2.out, if_neg v0]
      rw [e2.out] at HR
      have V0 := Lib.hid v0
      clear hv v0
      go_wp2_with fail
      exact HR.out _ _ HB3.out (fun h => absurd h V0.out) (fun _ => rfl)
  · have K : (e != 0) = true := by simpa using h0
    have e2 : Hid (viS l lo hi = e) := by unfold Hid; rw [HV.out, if_neg h0]
    rw [e2.out] at HR
    have H0 := Lib.hid h0
    clear he h0
    go_wp2_with fail
    exact HR.out _ _ HB2.out (fun h => absurd h H0.out) (fun _ => rfl)
set_option maxHeartbeats 2000000 in
theorem zindex57_any (a b : ByteArray) (p q : Rat) (f : Int) (hf : 0 < f ∧ f ≤ 36) (ha : TxR a p) (hb : TxR b q) (hp : SmR 40 p) (hq : SmR 30 q) (h0 : q ≠ 0) (w : World) (R : Ending → World → Prop) (hE : Env w)
   (hR : ∀ r w', Below w.heap.size w w' → TxR r (p * p / ((f : Rat) * q)) → R (.returned (.tuple #[.string r, .int .i64 0])) w') :
    Calls Tryz.prog 125 #[.string a, .int .i64 f, .string b] w R := by
  have HR := Lib.hid hR
  have HE := Lib.hid hE
  have HA := Lib.hid ha
  have HB := Lib.hid hb
  have Hf := Lib.hid hf
  have hfs : SmR 10 (f : Rat) := SmR.int (Nat.lt_of_le_of_lt (show f.natAbs ≤ 36 by omega) (by decide)) (by decide)
  have Sp : Hid (OkR p) := (hp.mono (by decide)).ok
  have Sq : Hid (OkR q) := (hq.mono (by decide)).ok
  have Sf : Hid (OkR (f : Rat)) := (hfs.mono (by decide)).ok
  have Spp : Hid (OkR (p * p)) := ((hp.mul hp).mono (by decide)).ok
  have Sfq : Hid (OkR ((f : Rat) * q)) := ((hfs.mul hq).mono (by decide)).ok
  have L1 := Lib.hid (fit_nn hp hp)
  have L2 := Lib.hid (fit_dd hp hp)
  have L3 := Lib.hid (fit_nn hfs hq)
  have L4 := Lib.hid (fit_dd hfs hq)
  have L5 := Lib.hid (fit_nd (hp.mul hp) (hfs.mul hq))
  have L6 := Lib.hid (fit_dn (hp.mul hp) (hfs.mul hq))
  have N0 : Hid ((f : Rat) * q ≠ 0) := fun e => by
    rcases Rat.mul_eq_zero.1 e with e | e
    · have := Rat.intCast_inj.1 (show (f : Rat) = ((0 : Int) : Rat) from e)
      omega
    · exact h0 e
  clear hR hE ha hb hp hq h0 hf hfs
  go_enter Tryz.func125, Tryz.ntmps125
  go_wp2_with fail
  with_reducible refine rmul_any a a p p HA.out HA.out Sp.out Sp.out L1.out L2.out _ _ HE.out fun r1 w1 hb hr => ?_
  have B1 := Lib.hid hb
  have T1 := Lib.hid hr
  have HE1 := Lib.hid (HE.out.below hb)
  clear hb hr
  go_wp2_with fail
  with_reducible refine rwhole_any f _ _ (by have := Hf.out; omega) (by have := Hf.out; omega) HE1.out fun r2 w2 hb hr => ?_
  have B2 := Lib.hid (bstep B1.out hb)
  have T2 := Lib.hid hr
  have HE2 := Lib.hid (HE1.out.below hb)
  clear hb hr
  go_wp2_with fail
  with_reducible refine rmul_any r2 b _ q T2.out HB.out Sf.out Sq.out L3.out L4.out _ _ HE2.out fun r3 w3 hb hr => ?_
  have B3 := Lib.hid (bstep B2.out hb)
  have T3 := Lib.hid hr
  have HE3 := Lib.hid (HE2.out.below hb)
  clear hb hr
  go_wp2_with fail
  with_reducible refine rdiv_any r1 r3 _ _ T1.out T3.out Spp.out Sfq.out N0.out L5.out L6.out _ _ HE3.out fun r4 w4 hb hr => ?_
  have B4 := Lib.hid (bstep B3.out hb)
  have T4 := Lib.hid hr
  clear hb hr
  go_wp2_with fail
  exact HR.out _ _ B4.out T4.out
set_option maxHeartbeats 2000000 in
theorem zcap_any (ao : Option Addr) (l : List Int) (c : Nat) (lo hi : Int) (w : World) (R : Ending → World → Prop) (hl : l.length ≤ 1000000000) (hc : CellsAt w ao (I64s l)) (hE : Env w) (hR : ∀ r w', Below w.heap.size w w' → (viS l lo hi = 0 → TxR r (capS l lo hi)) → (viS l lo hi ≠ 0 → r = ⟨#[]⟩) → R (.returned (.tuple #[.string r, .int .i64 (viS l lo hi)])) w') :
    Calls Tryz.prog 57 #[.slice ao l.length c, .agg #[.int .i64 lo, .int .i64 hi]] w R := by
  have HR := Lib.hid hR
  have HC := Lib.hid hc
  have HL := Lib.hid hl
  obtain ⟨w1, E1, HB1, s1, b0, b1⟩ := box2 w (.int .i64 lo) (.int .i64 hi) 25
  have HC1 := Lib.hid (HC.out.below HB1.out)
  have HE1 := Lib.hid (hE.below HB1.out)
  clear hR hc hl hE
  go_enter Tryz.func57, Tryz.ntmps57
  go_wp2_with (rw [E1.out])
  refine zvaried_any ao l c lo hi _ _ HL.out HC1.out HE1.out fun r w2 hb hr1 hr2 => ?_
  have HB2 := Lib.hid (HB1.out.trans (hb.mono HB1.out.size))
  have HE2 := Lib.hid (HE1.out.below hb)
  have d0 := cellB hb b0 (lt_of_cell' b0)
  have d1 := cellB hb b1 (lt_of_cell' b1)
  obtain ⟨e, he⟩ : ∃ e, viS l lo hi = e := ⟨_, rfl⟩
  rw [he] at hr1 hr2 HR ⊢
  clear hb b0 b1
  by_cases h0 : e = 0
  · subst h0
    obtain ⟨h1, h2, h3⟩ := viS_ok he
    obtain ⟨_, h4, h5, h6⟩ := gvS_ok h1
    obtain ⟨h7, h8⟩ := vrE_ok h2
    have hv : SmR 30 (varS l) := varS_small (Srs.of h7) h8
    have HV := Lib.hid hv
    have HN := Lib.hid h3
    have HT := Lib.hid (hr1 rfl)
    have H4 := Lib.hid h4
    have H5 := Lib.hid h5
    have K1 : IntKind.i64.wrap (hi - lo) = hi - lo := by rw [IntKind.wrap_i64] <;> omega
    have S1 : Hid (SmR 40 ((hi - lo : Int) : Rat)) := SmR.int (Nat.lt_of_le_of_lt (show (hi - lo).natAbs ≤ 4194304 by omega) (by decide)) (by decide)
    have h41 := h4.1
    have h42 := h4.2
    have h51 := h5.1
    have h52 := h5.2
    clear he h1 h2 h3 h7 h8 hv hr1 hr2 h4 h5
    go_wp2_with fail
    (try rw [K1])
    with_reducible refine rwhole_any (hi - lo) _ _ (by omega) (by omega) HE2.out fun r3 w3 hb hr => ?_
    have B3 := Lib.hid (HB2.out.trans (hb.mono HB2.out.size))
    have T3 := Lib.hid hr
    have HE3 := Lib.hid (HE2.out.below hb)
    clear hb hr
    go_wp2_with fail
    with_reducible refine zindex57_any r3 r _ _ 36 (by decide) T3.out HT.out S1.out HV.out HN.out _ _ HE3.out fun r4 w4 hb hr => ?_
    have B4 := Lib.hid (bstep B3.out hb)
    have T4 : Hid (TxR r4 (capS l lo hi)) := hr
    clear hb hr
    go_wp2_with fail
    exact HR.out _ _ B4.out (fun _ => T4.out) (fun h => absurd rfl h)
  · have K : (e != 0) = true := by simpa using h0
    have H0 := Lib.hid h0
    clear he h0 hr1 hr2
    go_wp2_with fail
    exact HR.out _ _ HB2.out (fun h => absurd h H0.out) (fun _ => rfl)
end Go.Proofs.YtcmhompbdanpdaaGreatDoor
namespace Go.Proofs.YtcmhompbdanpdaaGreatDoor
open Go.RowKit

theorem compareInt_eq (x y : Int) : Lib.compareInt x y = cmpI x y := by
  unfold Lib.compareInt cmpI; rfl
theorem farS_sign {l : List Int} (h : 0 < l.length) (lo hi : Int) : cmpI (farS l lo hi).num 0 = cmpI (farI l lo hi) 0 := by
  have hp : (0 : Int) < (l.length : Int) := by omega
  have h1 : 0 ≤ (farS l lo hi).num ↔ 0 ≤ farI l lo hi := by
    rw [Rat.num_nonneg]; unfold farS; exact Rat.divInt_nonneg_iff_of_pos_right hp
  have h2 : 0 ≤ -(farS l lo hi).num ↔ 0 ≤ -farI l lo hi := by
    have e : -farS l lo hi = Rat.divInt (-farI l lo hi) l.length := by
      unfold farS
      rw [Rat.divInt_eq_div, Rat.divInt_eq_div, Rat.intCast_neg]; grind
    rw [← Rat.neg_num, Rat.num_nonneg, e]; exact Rat.divInt_nonneg_iff_of_pos_right hp
  unfold cmpI
  by_cases a : farI l lo hi < 0
  · rw [if_pos a, if_pos (by omega)]
  · rw [if_neg a, if_neg (by omega)]
    by_cases b : 0 < farI l lo hi
    · rw [if_pos b, if_pos (by omega)]
    · rw [if_neg b, if_neg (by omega)]
theorem SmR.neg {k : Nat} {q : Rat} (h : SmR k q) : SmR k (-q) := ⟨by rw [Rat.neg_num, Int.natAbs_neg]; exact h.1, by rw [Rat.neg_den]; exact h.2⟩
theorem Srs.far {l : List Int} (h : Srs l) {lo hi : Int} (h1 : -1048576 ≤ lo ∧ lo ≤ 1048576) (h2 : -1048576 ≤ hi ∧ hi ≤ 1048576) :
    (-4294967296 ≤ (l.length : Int) * hi ∧ (l.length : Int) * hi ≤ 4294967296) ∧ (-4294967296 ≤ (l.length : Int) * lo ∧ (l.length : Int) * lo ≤ 4294967296) ∧ SmR 20 (farS l lo hi) := by
  have hn : (l.length : Int).natAbs ≤ 4096 := by have := h.few; omega
  have a := mul_abs_le hn (show hi.natAbs ≤ 1048576 by omega)
  have b := mul_abs_le hn (show lo.natAbs ≤ 1048576 by omega)
  have s := h.sum.1
  refine ⟨by omega, by omega, ?_⟩
  unfold farS
  refine SmR.ofDiv (by have := h.pos; omega) ?_ (Nat.lt_of_le_of_lt hn (by decide))
  unfold farI
  exact Nat.lt_of_le_of_lt (show _ ≤ 8589934592 by omega) (by decide)
theorem min_of_lt {p q : Rat} (h : p < q) : p = min p q := (if_pos (Rat.le_of_lt h)).symm
theorem min_of_nlt {p q : Rat} (h : ¬ p < q) : q = min p q := by
  by_cases hp : p ≤ q
  · have e : p = q := Rat.le_antisymm hp (Rat.not_lt.1 h)
    rw [e]; exact (if_pos Rat.le_refl).symm
  · exact (if_neg hp).symm
theorem cmpR_neg {p q : Rat} : cmpR p q < 0 ↔ p < q := by
  unfold cmpR
  by_cases h : p < q
  · rw [if_pos h]; exact ⟨fun _ => h, fun _ => by decide⟩
  · rw [if_neg h]
    by_cases h2 : q < p
    · rw [if_pos h2]; exact ⟨fun h3 => absurd h3 (by decide), fun h3 => absurd h3 h⟩
    · rw [if_neg h2]; exact ⟨fun h3 => absurd h3 (by decide), fun h3 => absurd h3 h⟩
theorem zcompare_any (x y : Int) (w : World) (R : Ending → World → Prop) (hR : R (.returned (.int .i64 (cmpI x y))) w) :
    Calls Tryz.prog 126 #[.int .i64 x, .int .i64 y] w R := by
  refine (Tryz.cmp_Compare_int x y w).mono ?_
  rintro e w' ⟨rfl, rfl⟩
  rw [compareInt_eq]; exact hR
set_option maxRecDepth 100000 in
set_option maxHeartbeats 4000000 in
theorem zcentered_any (ao : Option Addr) (l : List Int) (c : Nat) (lo hi : Int) (w : World) (R : Ending → World → Prop) (hl : l.length ≤ 1000000000) (hc : CellsAt w ao (I64s l)) (hE : Env w)
   (hR : ∀ r s w', Below w.heap.size w w' → (viS l lo hi = 0 → TxR r (cenS l lo hi) ∧ s = cmpI (farI l lo hi) 0) → (viS l lo hi ≠ 0 → r = ⟨#[]⟩ ∧ s = 0) → R (.returned (.tuple #[.string r, .int .i64 s, .int .i64 (viS l lo hi)])) w') :
    Calls Tryz.prog 56 #[.slice ao l.length c, .agg #[.int .i64 lo, .int .i64 hi]] w R := by
  have HR := Lib.hid hR
  have HC := Lib.hid hc
  have HL := Lib.hid hl
  obtain ⟨w1, E1, HB1, s1, b0, b1⟩ := box2 w (.int .i64 lo) (.int .i64 hi) 25
  have HC1 := Lib.hid (HC.out.below HB1.out)
  have HE1 := Lib.hid (hE.below HB1.out)
  clear hR hc hl hE
  go_enter Tryz.func56, Tryz.ntmps56
  go_wp2_with (rw [E1.out])
  refine zvaried_any ao l c lo hi _ _ HL.out HC1.out HE1.out fun r w2 hb hr1 hr2 => ?_
  have HB2 := Lib.hid (HB1.out.trans (hb.mono HB1.out.size))
  have HE2 := Lib.hid (HE1.out.below hb)
  have HC2 := Lib.hid (HC1.out.below hb)
  have d0 := cellB hb b0 (lt_of_cell' b0)
  have d1 := cellB hb b1 (lt_of_cell' b1)
  obtain ⟨e, he⟩ : ∃ e, viS l lo hi = e := ⟨_, rfl⟩
  rw [he] at hr1 hr2 HR ⊢
  clear hb b0 b1
  by_cases h0 : e = 0
  · subst h0
    obtain ⟨h1, h2, h3⟩ := viS_ok he
    obtain ⟨_, h4, h5, h6⟩ := gvS_ok h1
    obtain ⟨h7, h8⟩ := vrE_ok h2
    have HS := Lib.hid (Srs.of h7)
    have HV : Hid (SmR 30 (varS l)) := varS_small (Srs.of h7) h8
    have HN := Lib.hid h3
    have HT := Lib.hid (hr1 rfl)
    obtain ⟨f1, f2, f3⟩ := HS.out.far h4 h5
    have HF : Hid (SmR 40 (farS l lo hi)) := f3.mono (by decide)
    have hfar : Hid (farI l lo hi = min ((l.length : Int) * hi - sumI l) (sumI l - (l.length : Int) * lo)) := rfl
    have hfs : Hid (farS l lo hi = Rat.divInt (farI l lo hi) l.length) := rfl
    have hss := HS.out.sumA
    have hpos := HS.out.pos
    have hfew := HS.out.few
    obtain ⟨S, hS⟩ : ∃ S, sumI l = S := ⟨_, rfl⟩
    obtain ⟨y1, hy1⟩ : ∃ y, (l.length : Int) * hi = y := ⟨_, rfl⟩
    obtain ⟨y2, hy2⟩ : ∃ y, (l.length : Int) * lo = y := ⟨_, rfl⟩
    rw [hS, hy1, hy2] at hfar
    rw [hy1] at f1
    rw [hy2] at f2
    rw [hS] at hss
    have HSm := Lib.hid hS
    have HY1 := Lib.hid hy1
    have HY2 := Lib.hid hy2
    obtain ⟨f11, f12⟩ := f1
    obtain ⟨f21, f22⟩ := f2
    obtain ⟨s11, s12⟩ := hss
    have K1 : IntKind.i64.wrap y1 = y1 := by rw [IntKind.wrap_i64] <;> omega
    have K2 : IntKind.i64.wrap y2 = y2 := by rw [IntKind.wrap_i64] <;> omega
    have K3 : IntKind.i64.wrap (y1 - S) = y1 - S := by rw [IntKind.wrap_i64] <;> omega
    have K4 : IntKind.i64.wrap (S - y2) = S - y2 := by rw [IntKind.wrap_i64] <;> omega
    have hfb : Hid (-9000000000 ≤ farI l lo hi ∧ farI l lo hi ≤ 9000000000) := by unfold Hid; rw [hfar.out]; omega
    clear he h1 h2 h3 h7 h8 hr1 hr2 h4 h5 f3 hS hy1 hy2
    go_wp2_with fail
    have HCd := Lib.hid (HC2.out.below (Below.refl _ _).drew)
    refine regionL [0, 1, 2, 3, 4, 7, 9, 10, 11, 12] (fun w' => w'.cell? ⟨w.heap.size, 0, none⟩ = some (.int .i64 lo) ∧ w'.cell? ⟨w.heap.size, 1, none⟩ = some (.int .i64 hi)) (by kernel_rfl) (⟨d0, d1⟩) (fun Qn hPQ hQn hS0 => ?_)
    iterate 10 (refine takeL (v := ?_) rfl rfl (by kernel_rfl) (by kernel_rfl) (by kernel_rfl) hPQ hS0 (by kernel_rfl) ?_ ?_; rotate_left; (focus (intro w hSw; (try dsimp only at hSw); obtain ⟨k0, k1⟩ := hSw; go_simp; (try with_reducible rfl))); (try simp only [Act.put, List.setIfInBounds_toArray, List.set_cons_zero, List.set_cons_succ]))
    refine ofL (wpAnyH_ready (rs := [5]) (by kernel_rfl) (by simp) ?_)
    refine AllReadyH.cons (o := _) rfl (fun K hK => ?_) AllReadyH.nil
    go_simp
    refine zsum_any ao l c _ _ HS.out HCd.out ?_
    rw [HSm.out]
    refine hK.out _ _ (hS0) (fun hS1 => toL [6] ?_)
    clear hK K hS0
    (try simp only [Act.put, List.setIfInBounds_toArray, List.set_cons_zero, List.set_cons_succ])
    iterate 1 (refine takeL (v := ?_) rfl rfl (by kernel_rfl) (by kernel_rfl) (by kernel_rfl) hPQ hS1 (by kernel_rfl) ?_ ?_; rotate_left; (focus (intro w hSw; (try dsimp only at hSw); obtain ⟨k0, k1⟩ := hSw; go_simp; (try with_reducible rfl))); (try simp only [Act.put, List.setIfInBounds_toArray, List.set_cons_zero, List.set_cons_succ]))
    refine ofL (wpAnyH_ready (rs := [8]) (by kernel_rfl) (by simp) ?_)
    refine AllReadyH.cons (o := _) rfl (fun K hK => ?_) AllReadyH.nil
    go_simp
    refine zsum_any ao l c _ _ HS.out HCd.out ?_
    rw [HSm.out]
    refine hK.out _ _ (hS1) (fun hS2 => toL [13, 14, 15] ?_)
    clear hK K hS1
    (try simp only [Act.put, List.setIfInBounds_toArray, List.set_cons_zero, List.set_cons_succ])
    iterate 3 (refine takeL (v := ?_) rfl rfl (by kernel_rfl) (by kernel_rfl) (by kernel_rfl) hPQ hS2 (by kernel_rfl) ?_ ?_; rotate_left; (focus (intro w hSw; (try dsimp only at hSw); obtain ⟨k0, k1⟩ := hSw; go_simp; (try with_reducible rfl))); (try simp only [Act.put, List.setIfInBounds_toArray, List.set_cons_zero, List.set_cons_succ]))
    refine ofL (wpAnyH_done (by kernel_rfl) (hQn.out _ _ ?_) _)
    clear hS2 hPQ hQn Qn
    simp only [HY1.out, HY2.out, K1, K2, K3, K4, ← hfar.out]
    have HB5 : Hid (Below w.heap.size w w2.drew) := HB2.out.drew
    have HE5 : Hid (Env w2.drew) := HE2.out.drew
    go_wp2_with fail
    with_reducible refine rof_any (farI l lo hi) (l.length : Int) _ _ (by have := hfb.out; omega) (by have := hfb.out; omega) (by omega) (by omega) (by omega) HE5.out fun r6 w6 hb hr => ?_
    have B6 := Lib.hid (bstep HB5.out hb)
    have T6 : Hid (TxR r6 (farS l lo hi)) := hr
    have HE6 := Lib.hid (HE5.out.below hb)
    clear hb hr
    go_wp2_with fail
    with_reducible refine zindex57_any r6 r _ _ 9 (by decide) T6.out HT.out HF.out HV.out HN.out _ _ HE6.out fun r7 w7 hb hr => ?_
    have B7 := Lib.hid (bstep B6.out hb)
    have T7 : Hid (TxR r7 (cenS l lo hi)) := hr
    clear hb hr
    go_wp2_with fail
    with_reducible refine zcompare_any (farI l lo hi) 0 _ _ ?_
    go_wp2_with fail
    go_ret3
    exact HR.out _ _ _ B7.out (fun _ => ⟨T7.out, rfl⟩) (fun h => absurd rfl h)
  · have K : (e != 0) = true := by simpa using h0
    have H0 := Lib.hid h0
    clear he h0 hr1 hr2
    go_wp2_with fail
    go_ret3
    exact HR.out _ 0 _ HB2.out (fun h => absurd h H0.out) (fun _ => ⟨rfl, rfl⟩)
end Go.Proofs.YtcmhompbdanpdaaGreatDoor
namespace Go.Proofs.YtcmhompbdanpdaaGreatDoor
open Go.RowKit

theorem wV_get {l : List Nat} {i : Nat} (h : i < l.length) : (l.map wV).getD i undef = .int .i64 ((l.getD i 0 : Nat) : Int) := by
  simp [List.getD, h, wV]
theorem results_tmp4 {fn : Func} {t u v x : Tmp} (h : fn.results = #[.tmp t, .tmp u, .tmp v, .tmp x]) (tmps : Array Value) (P : Program) (w : World) :
    (results fn tmps).run P w = .ok (.tuple #[tmps.getD t undef, tmps.getD u undef, tmps.getD v undef, tmps.getD x undef]) w := by
  simp [results, h]
theorem hs_cells {w : World} {b : Nat} {low width : Int} {bins : Nat} {l : List Int} (h : IB w b (hcL low width bins l)) (hb : b < w.heap.size) : CellsAt w (some ⟨b, 1, none⟩) ((hsL low width bins l).map wV) := by
  intro _
  refine ⟨b, 1, rfl, hb, fun j hj => ?_⟩
  have hj2 : j < bins := by simpa [hsL] using hj
  rw [wV_get (by rw [hsL_length]; exact hj2), h.cell (by rw [hcL_length]; omega), hcL_mid low width bins l j hj2]
theorem ib_cells {w : World} {b : Nat} {l : List Nat} (h : IB w b l) (hb : b < w.heap.size) : CellsAt w (some ⟨b, 0, none⟩) (l.map wV) := by
  intro _
  refine ⟨b, 0, rfl, hb, fun j hj => ?_⟩
  have hj2 : j < l.length := by simpa using hj
  rw [wV_get hj2, Nat.zero_add, h.cell hj2]
set_option maxRecDepth 100000 in
set_option maxHeartbeats 4000000 in
theorem zhist_any (ao : Option Addr) (l : List Int) (c : Nat) (low width bins : Int) (w : World) (R : Ending → World → Prop) (hl : l.length ≤ 1000000000) (hc : CellsAt w ao (I64s l))
   (hR : ∀ a n c' s m w', Below w.heap.size w w' → (hsE l low width bins = 0 → n = bins.toNat ∧ CellsAt w' a ((hsL low width bins.toNat l).map wV) ∧ s = ((hcN low width bins.toNat l 0 : Nat) : Int) ∧ m = ((hcN low width bins.toNat l (bins.toNat + 1) : Nat) : Int)) → (hsE l low width bins ≠ 0 → n = 0 ∧ s = 0 ∧ m = 0) → R (.returned (.tuple #[.slice a n c', .int .i64 s, .int .i64 m, .int .i64 (hsE l low width bins)])) w') :
    Calls Tryz.prog 69 #[.slice ao l.length c, .int .i64 low, .int .i64 width, .int .i64 bins] w R := by
  have HR := Lib.hid hR
  have HC := Lib.hid hc
  have HL := Lib.hid hl
  clear hR hc hl
  go_enter Tryz.func69, Tryz.ntmps69
  go_wp2_with fail
  refine zcheck_any ao l c _ _ HL.out HC.out ?_
  obtain ⟨e, he⟩ : ∃ e, ckSr l = e := ⟨_, rfl⟩
  rw [he]
  by_cases h0 : e = 0
  · subst h0
    have HS := Lib.hid (Srs.of he)
    have HV : Hid (hsE l low width bins = if inT low = true ∧ 1 ≤ width ∧ width ≤ 1048576 ∧ 1 ≤ bins ∧ bins ≤ 256 then 0 else 2) := by unfold Hid hsE; rw [if_pos he]
    clear he
    go_wp2_with fail
    with_reducible refine zin_any low _ _ ?_
    cases i1 : inT low with
    | false =>
      have e2 : Hid (hsE l low width bins = 2) := by unfold Hid; rw [HV.out, if_neg (by rintro ⟨h, _⟩; rw [i1] at h; cases h)]
      rw [e2.out] at HR
      clear i1
      go_wp2_with fail
      (try simp only [Exit.inBlock, Exit.then])
      refine bodyPost_ret (results_tmp4 rfl _ _ _) rfl ?_
      exact HR.out none 0 0 0 0 _ (Below.refl _ _) (fun h => absurd h (by decide)) (fun _ => ⟨rfl, rfl, rfl⟩)
    | true =>
      have I1 := Lib.hid i1
      have HI := Lib.hid (inT_iff.1 i1)
      clear i1
      by_cases a1 : width < 1
      · have K1 : (width < 1) = True := eq_true a1
        have e2 : Hid (hsE l low width bins = 2) := by unfold Hid; rw [HV.out, if_neg (by omega)]
        rw [e2.out] at HR
        clear a1
        go_wp2_with fail
        (try simp only [Exit.inBlock, Exit.then])
        refine bodyPost_ret (results_tmp4 rfl _ _ _) rfl ?_
        exact HR.out none 0 0 0 0 _ (Below.refl _ _) (fun h => absurd h (by decide)) (fun _ => ⟨rfl, rfl, rfl⟩)
      · have K1 : (width < 1) = False := eq_false a1
        by_cases a2 : 1048576 < width
        · have K2 : (1048576 < width) = True := eq_true a2
          have e2 : Hid (hsE l low width bins = 2) := by unfold Hid; rw [HV.out, if_neg (by omega)]
          rw [e2.out] at HR
          clear a1 a2
          go_wp2_with fail
          (try simp only [Exit.inBlock, Exit.then])
          refine bodyPost_ret (results_tmp4 rfl _ _ _) rfl ?_
          exact HR.out none 0 0 0 0 _ (Below.refl _ _) (fun h => absurd h (by decide)) (fun _ => ⟨rfl, rfl, rfl⟩)
        · have K2 : (1048576 < width) = False := eq_false a2
          by_cases a3 : bins < 1
          · have K3 : (bins < 1) = True := eq_true a3
            have e2 : Hid (hsE l low width bins = 2) := by unfold Hid; rw [HV.out, if_neg (by omega)]
            rw [e2.out] at HR
            clear a1 a2 a3
            go_wp2_with fail
            (try simp only [Exit.inBlock, Exit.then])
            refine bodyPost_ret (results_tmp4 rfl _ _ _) rfl ?_
            exact HR.out none 0 0 0 0 _ (Below.refl _ _) (fun h => absurd h (by decide)) (fun _ => ⟨rfl, rfl, rfl⟩)
          · have K3 : (bins < 1) = False := eq_false a3
            by_cases a4 : 256 < bins
            · have K4 : (256 < bins) = True := eq_true a4
              have e2 : Hid (hsE l low width bins = 2) := by unfold Hid; rw [HV.out, if_neg (by omega)]
              rw [e2.out] at HR
              clear a1 a2 a3 a4
              go_wp2_with fail
              (try simp only [Exit.inBlock, Exit.then])
              refine bodyPost_ret (results_tmp4 rfl _ _ _) rfl ?_
              exact HR.out none 0 0 0 0 _ (Below.refl _ _) (fun h => absurd h (by decide)) (fun _ => ⟨rfl, rfl, rfl⟩)
            · have K4 : (256 < bins) = False := eq_false a4
              obtain ⟨B, rfl⟩ : ∃ B : Nat, bins = (B : Int) := ⟨bins.toNat, by omega⟩
              have e2 : Hid (hsE l low width B = 0) := by unfold Hid; rw [HV.out, if_pos ⟨I1.out, by omega, by omega, by omega, by omega⟩]
              rw [e2.out] at HR
              simp only [Int.toNat_natCast] at HR
              have hB1 : 1 ≤ B := by omega
              have hB2 : B ≤ 256 := by omega
              have hw1 : 1 ≤ width := by omega
              have hw2 : width ≤ 1048576 := by omega
              obtain ⟨n, hn⟩ : ∃ n, B + 2 = n := ⟨_, rfl⟩
              have hn3 : n ≤ 300 := by omega
              have hn2 : (B : Int) + 2 = (n : Int) := by omega
              have hmk := make_ints n (by omega) w
              obtain ⟨bc, hbc⟩ : ∃ z, w.heap.size = z := ⟨_, rfl⟩
              obtain ⟨w1, E1, HB1, s1, X1⟩ := box_ex w ((List.replicate n 0).map wV).toArray 3
              rw [E1] at hmk
              rw [hbc] at hmk HB1 X1 HR
              have S1 : Hid (bc < w1.heap.size) := by rw [← hbc]; exact s1
              have X0 : Hid (IB w1 bc (hcL low width B (l.take 0))) := by
                unfold Hid; rw [List.take_zero, hcL_nil, hn]; exact X1
              have HBC := Lib.hid hbc
              have HI1 := HI.out.1
              have HI2 := HI.out.2
              clear a1 a2 a3 a4 E1 X1 s1 e2 HI I1
              go_wp2_with fail
              clear hmk hbc hn2
              go_loopw [46] (fun j wr => ∃ i : Nat, i ≤ l.length ∧ j = .int .i64 i ∧ Hid (Below bc w wr) ∧ Hid (IB wr bc (hcL low width B (l.take i))) ∧ Hid (bc < wr.heap.size)) (fun j _ => l.length - (intOf j).toNat)
              case atStart => exact ⟨0, Nat.zero_le _, rfl, HB1, X0, S1⟩
              case round =>
                obtain ⟨i, hi, rfl, HBr, HX, HSz⟩ := hrel
                by_cases hlt : i < l.length
                · have K5 : ((i : Int) < (l.length : Int)) = True := eq_true (by omega)
                  have hfew := HS.out.few
                  obtain ⟨bd, od, rfl, hbd, hdc⟩ := HC.out.ints (by have := HL.out; omega)
                  have g0 := hdc i hlt
                  have hbd2 : bd < bc := by rw [← HBC.out]; exact hbd
                  have g1 := (HBr.out.cell (p := ⟨bd, od + i, none⟩) hbd2).trans g0
                  have hx := HS.out.at hlt
                  obtain ⟨x, hx0⟩ : ∃ x, at0 l i = x := ⟨_, rfl⟩
                  rw [hx0] at g1 hx
                  obtain ⟨hx1, hx2⟩ := hx
                  have HX0 := Lib.hid hx0
                  clear hdc hbd g0 hbd2 hx0
                  by_cases hlo : x < low
                  · have K6 : (low ≤ x) = False := eq_false (by omega)
                    have hp : binO low width B (at0 l i) = 0 := by rw [HX0.out]; exact binO_lo hlo
                    have HST := Lib.hid (hcL_take low width B hlt hp)
                    have Kn : ((0 : Int) < (n : Int)) = True := eq_true (by omega)
                    clear hlo hp
                    obtain ⟨v, hv⟩ : ∃ v, (hcL low width B (l.take i)).getD 0 0 = v := ⟨_, rfl⟩
                    have hvb : v ≤ 4096 := by rw [← hv]; exact Nat.le_trans (hcL_le (by omega) i) hfew
                    have c0 := HX.out.cell (i := 0) (by rw [hcL_length]; omega)
                    have fz := HX.out.frozen 0
                    rw [hv] at c0 HST
                    have hv2 : (v : Int) + 1 = ((v + 1 : Nat) : Int) := by push_cast; rfl
                    obtain ⟨w5, E5⟩ : ∃ z, wr.setCell ⟨bc, 0, none⟩ (.int .i64 ((v : Int) + 1)) = z := ⟨_, rfl⟩
                    have E6 := Lib.hid E5
                    have X5 : Hid (IB w5 bc (hcL low width B (l.take (i + 1)))) := by unfold Hid; rw [HST.out, ← E5, hv2]; exact HX.out.store 0 (v + 1)
                    have C5 : Hid (Chg bc wr w5) := by rw [← E5]; exact (Chg.refl _ _).setCell _ _
                    have B5 : Hid (Below bc w w5) := HBr.out.trans C5.out.1
                    have S5 : Hid (bc < w5.heap.size) := by unfold Hid; rw [C5.out.2.1]; exact HSz.out
                    have KV : IntKind.i64.wrap ((v : Int) + 1) = (v : Int) + 1 := by rw [IntKind.wrap_i64]; omega
                    clear hv E5 hv2
                    go_wp2_with fail
                    (try rw [E6.out])
                    refine ⟨⟨i + 1, by omega, by go_num, B5, X5, S5⟩, by simp [intOf]; omega⟩
                  · have K6 : (low ≤ x) = True := eq_true (by omega)
                    obtain ⟨q, hq, hp, hql⟩ := binO_hi (bins := B) (show low ≤ x by omega) hw1
                    rw [← HX0.out] at hp
                    obtain ⟨p, hpm⟩ : ∃ p, min q B = p := ⟨_, rfl⟩
                    rw [hpm] at hp
                    have hpB : p ≤ B := by omega
                    have HST := Lib.hid (hcL_take low width B hlt hp)
                    have Kp : (((p + 1 : Nat) : Int) < (n : Int)) = True := eq_true (by omega)
                    have KD : IntKind.i64.wrap (x - low) = x - low := by rw [IntKind.wrap_i64] <;> omega
                    have KQ : (x - low).tdiv width = (q : Int) := hq
                    have KQ2 : IntKind.i64.wrap (q : Int) = (q : Int) := by rw [IntKind.wrap_i64] <;> omega
                    have KM : min (q : Int) (B : Int) = (p : Int) := by omega
                    have KM2 : IntKind.i64.wrap ((p : Int) + 1) = ((p + 1 : Nat) : Int) := by rw [IntKind.wrap_i64] <;> omega
                    have KW : (width == 0) = false := by simp; omega
                    clear hlo hp hq hpm
                    obtain ⟨v, hv⟩ : ∃ v, (hcL low width B (l.take i)).getD (p + 1) 0 = v := ⟨_, rfl⟩
                    have hvb : v ≤ 4096 := by rw [← hv]; exact Nat.le_trans (hcL_le (by omega) i) hfew
                    have c0 := HX.out.cell (i := (p + 1)) (by rw [hcL_length]; omega)
                    have fz := HX.out.frozen (p + 1)
                    rw [hv] at c0 HST
                    have hv2 : (v : Int) + 1 = ((v + 1 : Nat) : Int) := by push_cast; rfl
                    obtain ⟨w5, E5⟩ : ∃ z, wr.setCell ⟨bc, (p + 1), none⟩ (.int .i64 ((v : Int) + 1)) = z := ⟨_, rfl⟩
                    have E6 := Lib.hid E5
                    have X5 : Hid (IB w5 bc (hcL low width B (l.take (i + 1)))) := by unfold Hid; rw [HST.out, ← E5, hv2]; exact HX.out.store (p + 1) (v + 1)
                    have C5 : Hid (Chg bc wr w5) := by rw [← E5]; exact (Chg.refl _ _).setCell _ _
                    have B5 : Hid (Below bc w w5) := HBr.out.trans C5.out.1
                    have S5 : Hid (bc < w5.heap.size) := by unfold Hid; rw [C5.out.2.1]; exact HSz.out
                    have KV : IntKind.i64.wrap ((v : Int) + 1) = (v : Int) + 1 := by rw [IntKind.wrap_i64]; omega
                    clear hv E5 hv2
                    go_wp2_with fail
                    (try rw [E6.out])
                    refine ⟨⟨i + 1, by omega, by go_num, B5, X5, S5⟩, by simp [intOf]; omega⟩
                · have K5 : ((i : Int) < (l.length : Int)) = False := eq_false (by omega)
                  obtain rfl : i = l.length := by omega
                  have HX2 : Hid (IB wr bc (hcL low width B l)) := by have := HX.out; rwa [List.take_length] at this
                  have c0 := HX2.out.cell (i := 0) (by rw [hcL_length]; omega)
                  have c1 := HX2.out.cell (i := B + 1) (by rw [hcL_length]; omega)
                  rw [hcL_get (by omega)] at c0 c1
                  have HCS : Hid (CellsAt wr (some ⟨bc, 1, none⟩) ((hsL low width B l).map wV)) := hs_cells HX2.out HSz.out
                  obtain ⟨s, hs⟩ : ∃ s, hcN low width B l 0 = s := ⟨_, rfl⟩
                  obtain ⟨m, hm⟩ : ∃ m, hcN low width B l (B + 1) = m := ⟨_, rfl⟩
                  rw [hs] at c0
                  rw [hm] at c1
                  have Hs := Lib.hid hs
                  have Hm := Lib.hid hm
                  have KB : IntKind.i64.wrap ((B : Int) + 1) = ((B + 1 : Nat) : Int) := by rw [IntKind.wrap_i64] <;> omega
                  have N1 : (0 ≤ (B : Int) + 1) = True := eq_true (by omega)
                  have N2 : ((B : Int) + 1 ≤ (n : Int)) = True := eq_true (by omega)
                  have N3 : (1 ≤ (B : Int) + 1) = True := eq_true (by omega)
                  have N4 : (n = 1) = False := eq_false (by omega)
                  have N5 : ((B : Int) + 1 < (n : Int)) = True := eq_true (by omega)
                  have N6 : (0 < n) = True := eq_true (by omega)
                  have N7 : (B + 1 < n) = True := eq_true (by omega)
                  clear hs hm
                  go_wp2_with fail
                  refine regionL [0, 1, 2, 3, 4, 5, 6, 7, 8, 9, 10, 11, 12, 13, 14, 15] (fun w' => w'.cell? ⟨bc, 0, none⟩ = some (.int .i64 (s : Nat)) ∧ w'.cell? ⟨bc, B + 1, none⟩ = some (.int .i64 (m : Nat))) (by kernel_rfl) (⟨c0, c1⟩) (fun Qn hPQ hQn hS0 => ?_)
                  iterate 16 (refine takeL (v := ?_) rfl rfl (by kernel_rfl) (by kernel_rfl) (by kernel_rfl) hPQ hS0 (by kernel_rfl) ?_ ?_; rotate_left; (focus (intro w hSw; (try dsimp only at hSw); obtain ⟨k0, k1⟩ := hSw; go_simp; (try with_reducible rfl))); (try simp only [Act.put, List.setIfInBounds_toArray, List.set_cons_zero, List.set_cons_succ]))
                  refine ofL (wpAnyH_done (by kernel_rfl) (hQn.out _ _ ?_) _)
                  clear hS0 hPQ hQn Qn
                  go_wp2_with fail
                  (try simp only [Exit.inBlock, Exit.then])
                  refine bodyPost_ret (results_tmp4 rfl _ _ _) rfl ?_
                  exact HR.out _ _ _ _ _ _ HBr.out.drew (fun _ => ⟨by omega, HCS.out.below (Below.refl _ _).drew, by rw [Hs.out], by rw [Hm.out]⟩) (fun h => absurd rfl h)
  · have K : (e != 0) = true := by simpa using h0
    have e2 : Hid (hsE l low width bins = e) := by unfold Hid hsE; rw [he, if_neg h0]
    rw [e2.out] at HR
    have H0 := Lib.hid h0
    clear he h0
    go_wp2_with fail
    (try simp only [Exit.inBlock, Exit.then])
    refine bodyPost_ret (results_tmp4 rfl _ _ _) rfl ?_
    exact HR.out none 0 0 0 0 _ (Below.refl _ _) (fun h => absurd h H0.out) (fun _ => ⟨rfl, rfl, rfl⟩)
end Go.Proofs.YtcmhompbdanpdaaGreatDoor
namespace Go.Proofs.YtcmhompbdanpdaaGreatDoor
open Go.RowKit Go.Shelf Go.Sort Go.Maps
attribute [local go_sem] Oper.semAt_some

set_option maxRecDepth 100000 in
set_option maxHeartbeats 4000000 in
theorem iappendSeqG_any (gf : Nat) (lb : Array Value) (bs : List Nat) (ks : List Int) (m : Nat) (w : World) (R : Ending → World → Prop) (hm : ks.length = m) (hl : m ≤ 100000) (eg : ∀ args w, (callFunc gf args).run Tryz.prog w = .ok (.enter gf args) w) (hbs : ∀ k ∈ bs, k < w.heap.size) (hseq : ∀ W0, Below w.heap.size w W0 → GivesE Fence.wide 5 Tryz.prog gf lb (inEnc ks) bs (List.range m) W0)
   (hR : ∀ v w', Below w.heap.size w w' → w'.ownsRow w.heap.size 3 1 v m (I64s ks) → R (.returned v) w') :
    Calls Tryz.prog 230 #[.slice none 0 0, .func (.func gf) #[] lb] w R := by
  have HR := Lib.hid hR
  have HQ := Lib.hid hseq
  have Hm := Lib.hid hm
  clear hR hseq hm
  have h1 : 1 ≤ 6 := by omega
  refine (callsIn_wide (n := 6)).1 ?_
  refine callsIn_of_wp_marks Tryz.func230 rfl trivial ?_ rfl
  simp only [Tryz.ntmps230, List.size_toArray, List.length_cons, List.length_nil, Nat.reduceAdd, Nat.reduceSub, Array.replicate_succ, Array.replicate_zero, List.push_toArray, List.append_toArray, List.nil_append, List.cons_append]
  gi_wp2
  have q1 : Boxed (w.alloc (.cells #[.slice none 0 0] 23)) w.heap.size 23 (.slice none 0 0) := Boxed.new w _ _
  have hb0 : Below w.heap.size w (w.alloc (.cells #[.slice none 0 0] 23)) := (Below.refl _ _).alloc (Nat.le_refl _) _
  obtain ⟨W0, hW0⟩ : ∃ W0, w.alloc (.cells #[.slice none 0 0] 23) = W0 := ⟨_, rfl⟩
  have hs0 : W0.heap.size = w.heap.size + 1 := by rw [← hW0]; simp
  rw [hW0] at q1 hb0 ⊢
  clear hW0
  have HB0 := Lib.hid hb0
  have Hbs := Lib.hid hbs
  refine wpIn_rangeFunc_e (xs := List.range m) (bs := bs) rfl h1 (gf := gf) (lb := lb) rfl trivial eg
    (HQ.out W0 hb0) (Below.refl _ _) (fun _ => rfl)
    (fun k hk => by have := hbs k hk; omega)
    (fun pre V => ∃ v, Boxed V w.heap.size 23 v ∧ V.ownsRow (w.heap.size + 1) 3 1 v pre.length (I64s (ks.take pre.length)) ∧ Below w.heap.size w V)
    ?stable ?put ⟨_, q1, by have h := World.ownsRow_nil W0 (w.heap.size + 1) 3 1; simpa [I64s] using h, hb0⟩
    (fun x a' V => a' = { tmps := #[.slice none 0 0, .func (.func gf) #[] lb, .pointer (some ⟨w.heap.size, 0, none⟩), undef, .slice none 0 0, .int .i64 (at0 ks x), .func (.func gf) #[] lb, .int .i64 (at0 ks x), undef, undef, undef, undef, undef], defers := [] })
    (by rintro x a' V l' r o _ h; exact h) ?assign ?body ?done
  case stable =>
    rintro s A B ⟨v, h1, h2, h3⟩ hAB
    exact ⟨v, (hAB.block _ h1.lt).trans h1, ownsRow_below h2 hAB, h3.trans (hAB.mono h3.size)⟩
  case put =>
    rintro s A L r o hge hL ⟨v, h1, h2, h3⟩
    have hne : w.heap.size ≠ L := by rintro rfl; rw [h1] at hL; cases hL
    exact ⟨v, (World.putObj_heap_other hne).trans h1, irow_not_obj h2 (fun cs t f e => by rw [hL] at e; cases e) o, h3.trans ⟨rfl, rfl, rfl, by simp, fun k hk => World.putObj_heap_other (by omega)⟩⟩
  case assign =>
    rintro l' pre x V K hi hsz hpre hK
    unfold inEnc
    gi_wp2
    exact hK _ _ (Below.refl _ _) rfl
  case done =>
    rintro D V hD ⟨v, h1, h2, h3⟩ hK
    rw [List.length_range, List.take_of_length_le (by rw [Hm.out]; exact Nat.le_refl _)] at h2
    have hcl := h1.cell
    have H2 := Lib.hid h2
    have H3 := Lib.hid h3
    clear h1 h2 h3
    gi_wp2
    refine endM (v := v) hK (res1 (t := 4) rfl rfl) (fun hp => HR.out v _ (H3.out.trans (hp.mono (by omega))) (irow_not_obj (ownsRow_mono H2.out (by omega)) (fun cs t f e => by rw [hK] at e; cases e) _))
  case body =>
    rintro l' pre x a' V ⟨v, hb, ho, hB3⟩ rfl hsz hpre
    obtain ⟨hlt, _, hxe⟩ := range_pre hpre
    subst hxe
    obtain ⟨k, hk⟩ : ∃ k, pre.length = k := ⟨_, rfl⟩
    have hpl : Hid ((pre ++ [pre.length]).length = k + 1) := by unfold Hid; rw [List.length_append, hk]; rfl
    rw [hk] at ho hlt
    rw [hk] at hpl ⊢
    have htk : Hid (I64s (ks.take (k + 1)) = I64s (ks.take k) ++ [.int .i64 (at0 ks k)]) := by
      have hk' : k < ks.length := by rw [Hm.out]; exact hlt
      unfold Hid
      rw [List.take_succ_eq_append_getElem hk', I64s_append]
      congr 1
      unfold at0
      rw [List.getD_eq_getElem?_getD, List.getElem?_eq_getElem hk']; rfl
    obtain ⟨nm, hnm⟩ : ∃ nm, at0 ks k = nm := ⟨_, rfl⟩
    obtain ⟨L, hL⟩ : ∃ L, I64s (ks.take k) = L := ⟨_, rfl⟩
    rw [hnm, hL] at htk
    rw [hL] at ho
    rw [hnm]
    have hcl := hb.cell
    have hfr := hb.frozen
    have hbl := hb.lt
    have HOa : Hid ((V.alloc (.cells #[.int .i64 nm] 3)).ownsRow (w.heap.size + 1) 3 1 v k L) := ownsRow_below ho ((Below.refl _ _).alloc (Nat.le_refl _) _)
    have HBa := Lib.hid (hb.alloc (.cells #[.int .i64 nm] 3))
    have Hb := Lib.hid hb
    have Ho := Lib.hid ho
    have H3 := Lib.hid hB3
    have hs3 := hB3.size
    clear hb ho hB3 hk hnm hL hpre
    gi_wp2_with (gi_at_builtin; refine wpIn_appendT rfl (.tmp 8) (.tmp 10) 23 rfl (w.heap.size + 1) 3 Tryz.underlying23 Tryz.infoInts rfl (by decide) v k L rfl HOa.out ⟨V.heap.size, 0, none⟩ 1 1 [.int .i64 nm] rfl rfl (by have h := cells_one V (.int .i64 nm) 3; simpa using h) (one1 _ rfl) (by omega) (by omega) (by simp; omega) ?_; intro v5 w5 hown hgrow _; obtain ⟨a5, c5, rfl, _, _⟩ := ownsRow_read hown; have O5 := Lib.hid hown; have G5 := Lib.hid hgrow; have B5 := Lib.hid (HBa.out.kept hgrow (Boxed.not_row HBa.out (by decide) HOa.out)); have b5c := B5.out.cell; have b5f := B5.out.frozen; clear hown hgrow)
    have hown : ∀ g, v.ownBlock = some g → w.heap.size + 1 ≤ g := fun g e => by
      rcases Ho.out.2 with ⟨rfl, _⟩ | ⟨g', cap, cur, rfl, h2, _⟩
      · simp [Value.ownBlock] at e
      · simp [Value.ownBlock] at e; omega
    have hkeep : ∀ q, q < V.heap.size → q ≠ w.heap.size → (∀ g, v.ownBlock = some g → q ≠ g) → (w5.setCell ⟨w.heap.size, 0, none⟩ (.slice a5 (k + 1) c5)).heap[q]? = V.heap[q]? := fun q hq hne hng => by
      rw [Below.heap_setCell _ _ _ _ hne, G5.out.block q (by simp; omega) (fun e => hng q e.symm rfl)]
      exact Below.heap_alloc _ _ _ hq
    refine ⟨⟨?_, fun q hq => ?_⟩, fun q hq => ?_, _, B5.out.set _, ?_, ?_⟩
    · have h := G5.out.size
      have h2 := (Below.setCell (Below.refl w.heap.size w5) (p := ⟨w.heap.size, 0, none⟩) (Nat.le_refl _) (.slice a5 (k + 1) c5)).size
      simp at h
      omega
    · have hql : q < V.heap.size := by
        rcases hq with ⟨_, h⟩ | ⟨_, h⟩ <;> exact lt_of_block h
      refine hkeep q hql ?_ ?_
      · rintro rfl
        have h2 : V.heap[w.heap.size]? = _ := Hb.out
        rcases hq with ⟨_, h⟩ | ⟨_, h⟩ <;> (rw [h2] at h; cases h)
      · intro g e hqg
        subst hqg
        rcases Ho.out.2 with ⟨rfl, _⟩ | ⟨g', cap, cur, rfl, h2, h3, _⟩
        · simp [Value.ownBlock] at e
        · simp [Value.ownBlock] at e
          subst e
          rcases hq with ⟨_, h⟩ | ⟨_, h⟩ <;> (rw [h3] at h; cases h)
    · have h := Hbs.out q hq
      exact hkeep q (by omega) (by omega) (fun g e => by have := hown g e; omega)
    · rw [hpl.out, htk.out]
      refine ⟨O5.out.1, ?_⟩
      rcases O5.out.2 with h | ⟨g, cap, cur, h1, h2, h3, h4⟩
      · exact .inl h
      · exact .inr ⟨g, cap, cur, h1, h2, (Below.heap_setCell _ _ _ _ (show g ≠ w.heap.size by omega)).trans h3, h4⟩
    · have hA : Below w.heap.size w (V.alloc (.cells #[.int .i64 nm] 3)) := H3.out.alloc hs3 _
      exact (hA.grown G5.out (by simp; omega) (fun j e => by have := hown j e; omega)).setCell (p := ⟨w.heap.size, 0, none⟩) (Nat.le_refl _) _

set_option maxRecDepth 100000 in
set_option maxHeartbeats 2000000 in
theorem icollectG_any (gf : Nat) (lb : Array Value) (bs : List Nat) (ks : List Int) (m : Nat) (w : World) (R : Ending → World → Prop) (hm : ks.length = m) (hl : m ≤ 100000) (eg : ∀ args w, (callFunc gf args).run Tryz.prog w = .ok (.enter gf args) w) (hbs : ∀ k ∈ bs, k < w.heap.size) (hseq : ∀ W0, Below w.heap.size w W0 → GivesE Fence.wide 5 Tryz.prog gf lb (inEnc ks) bs (List.range m) W0)
   (hR : ∀ v w', Below w.heap.size w w' → w'.ownsRow w.heap.size 3 1 v m (I64s ks) → R (.returned v) w') :
    Calls Tryz.prog 199 #[.func (.func gf) #[] lb] w R := by
  have HR := Lib.hid hR
  have HQ := Lib.hid hseq
  clear hR hseq
  go_enter Tryz.func199, Tryz.ntmps199
  go_wp2_with fail
  refine iappendSeqG_any gf lb bs ks m _ _ hm hl eg hbs HQ.out ?_
  intro v w1 hb ho
  have B1 := Lib.hid hb
  have O1 := Lib.hid ho
  clear hb ho
  go_wp2_with fail
  exact HR.out _ _ B1.out O1.out

/-! ### what a step of runs does (plain) -/
theorem rn_on (lo hi : Int) {l : List Int} {k : Nat} (hk : k < l.length) (h : 0 < sdI lo hi (at0 l k) * (rnP lo hi (l.take k)).2) : (rnP lo hi (l.take (k + 1))).1 = (rnP lo hi (l.take k)).1 ∧ (rnP lo hi (l.take (k + 1))).2 = (rnP lo hi (l.take k)).2 + sdI lo hi (at0 l k) := by
  rw [rn_take lo hi hk]; unfold rnFc; rw [if_pos h]; exact ⟨rfl, rfl⟩
theorem rn_cut (lo hi : Int) {l : List Int} {k : Nat} (hk : k < l.length) (h : ¬ 0 < sdI lo hi (at0 l k) * (rnP lo hi (l.take k)).2) (h0 : (rnP lo hi (l.take k)).2 ≠ 0) :
    (rnP lo hi (l.take (k + 1))).2 = sdI lo hi (at0 l k) ∧ (rnP lo hi (l.take (k + 1))).1.length = (rnP lo hi (l.take k)).1.length + 1 ∧ (rnP lo hi (l.take k)).1.length < (rnL lo hi l).length ∧ at0 (rnL lo hi l) (rnP lo hi (l.take k)).1.length = (rnP lo hi (l.take k)).2 := by
  have e : rnP lo hi (l.take (k + 1)) = ((rnP lo hi (l.take k)).1 ++ [(rnP lo hi (l.take k)).2], sdI lo hi (at0 l k)) := by
    rw [rn_take lo hi hk]; unfold rnFc; rw [if_neg h, if_pos h0]
  obtain ⟨t, ht⟩ := rn_pre lo hi l (k + 1)
  rw [e] at ht ⊢
  refine ⟨rfl, by simp, ?_, ?_⟩
  · rw [← ht]; simp
  · rw [← ht]; simp [at0, List.getD]
theorem rn_skip (lo hi : Int) {l : List Int} {k : Nat} (hk : k < l.length) (h0 : (rnP lo hi (l.take k)).2 = 0) : (rnP lo hi (l.take (k + 1))).1 = (rnP lo hi (l.take k)).1 ∧ (rnP lo hi (l.take (k + 1))).2 = sdI lo hi (at0 l k) := by
  rw [rn_take lo hi hk]; unfold rnFc; rw [h0, if_neg (by simp), if_neg (by simp)]; exact ⟨rfl, rfl⟩
theorem rn_last (lo hi : Int) (l : List Int) : ((rnP lo hi l).2 = 0 → (rnL lo hi l).length = (rnP lo hi l).1.length) ∧ ((rnP lo hi l).2 ≠ 0 → (rnL lo hi l).length = (rnP lo hi l).1.length + 1 ∧ at0 (rnL lo hi l) (rnP lo hi l).1.length = (rnP lo hi l).2) := by
  unfold rnL rnEc
  constructor
  · intro h; rw [if_neg (by simp [h])]
  · intro h; rw [if_pos h]; simp [at0, List.getD]
theorem cmpI_sd (lo hi x : Int) : cmpI (2 * x) (lo + hi) = sdI lo hi x := rfl
theorem range_pre' {k m : Nat} (h : k < m) : (List.range k ++ [k]) <+: List.range m := by
  rw [← List.range_succ]
  refine List.prefix_iff_eq_take.2 ?_
  rw [List.length_range, List.take_range, Nat.min_eq_left (by omega)]
end Go.Proofs.YtcmhompbdanpdaaGreatDoor
