/- slices.Values, AppendSeq, Collect and Sorted at ints. (Printed by gen_sorti.py.) Sorted of reference 57: insertion. (Printed by gen_rsort.py.) Variance and Median of capability and of reference 57. (Printed by gen_median.py.) -/
import Derived.Sort.OwnSortedInts
import Derived.OwnWalkIn
import Derived.Test.YtcoombhcdcniiaaGreatDoorRm
import Derived.Test.YtcoombhcdcniiaaGreatDoorRj
import Derived.Test.YtcoombhcdcniiaaGreatDoorMwzz
import Derived.Test.YtcoombhcdcniiaaGreatDoorShelf
namespace Go.Proofs.YtcoombhcdcniiaaGreatDoor
open Go.RowKit Go.Shelf Go.Sort Go.Maps
attribute [local go_sem] Oper.semAt_some

theorem Tryz.infoInts : (Tryz.prog.info? 3).map (fun i => (i.zero, i.size, i.bytes)) = some (some (.int .i64 0), 1, 8) := by kernel_rfl
theorem I64s_append (a b : List Int) : I64s (a ++ b) = I64s a ++ I64s b := by simp [I64s]
theorem I64s_get {ks : List Int} {k : Nat} (h : k < ks.length) : (I64s ks)[k]? = some (.int .i64 (at0 ks k)) := by simp [I64s, at0, h]
def sortL (l : List Int) : List Int := l.mergeSort fun x y => decide (x ≤ y)
theorem sortL_length (l : List Int) : (sortL l).length = l.length := by simp [sortL]
theorem cells_one (w : World) (x : Value) (e : TypeId) : CellsAt (w.alloc (.cells #[x] e)) (some ⟨w.heap.size, 0, none⟩) [x] := by
  intro _
  refine ⟨_, 0, rfl, by simp, fun j hj => ?_⟩
  rw [Nat.zero_add, World.cell?_alloc_new]
  match j, hj with
  | 0, _ => rfl
theorem sort_own (base : Nat) (g cap : Nat) (l : List Int) (w : World) (hown : w.ownsRow base 3 1 (.slice (some ⟨g, 0, none⟩) l.length cap) l.length (I64s l)) (hl : l.length ≤ 1000000) (R : Ending → World → Prop)
    (hR : ∀ w', w.grownBy w' (some g) → w'.ownsRow base 3 1 (.slice (some ⟨g, 0, none⟩) l.length cap) l.length (I64s (sortL l)) → R (.returned (.tuple #[])) w') :
    Calls Tryz.prog 67 #[.slice (some ⟨g, 0, none⟩) l.length cap] w R := by
  rcases hown.2 with ⟨h, _⟩ | ⟨g', cap', cur, hv, hb, hg, hn, hm, hs, ht⟩
  · cases h
  · cases hv
    refine (Tryz.slices_Sort_int g 0 cap l w (holds_of_blockI hg (by rw [Nat.mul_one] at ht; exact ht)) (lt_of_block hg) (by omega)).mono ?_
    rintro e w' ⟨rfl, n, os, rfl⟩
    exact hR _ (grownBy_sortedI _) (ownsRow_sortedI (ss := l) (ts := sortL l) (sortL_length l) hb hg hn hm hs)

theorem wpIn_appendT {F : Fence} {nf : Nat} {P : Program} {w : World} {ops : Array Oper} {rest : List Oper} {o : Oper} {a : Act} {Q : Exit → Act → World → Prop} (hgd : o.guard = none) (s x : Operand) (t : TypeId)
    (ho : o.op = .call { callee := .builtin .append, args := #[s, x], argTypes := #[t, t] })
    (base : Nat) (e : TypeId) {z : Value} {size bytes : Nat} (ht : P.underlying t = some (.slice e)) (hi : (P.info? e).map (fun i => (i.zero, i.size, i.bytes)) = some (some z, size, bytes))
    (hzs : z.cells.size = size) (hsz : 0 < size)
    (v : Value) (n : Nat) (xs : List Value) (hs : a.eval s = v) (hown : w.ownsRow base e size v n xs)
    (ad : Addr) (m c : Nat) (news : List Value) (hm : news.length = m * size) (hx : a.eval x = .slice (some ad) m c) (hc : CellsAt w (some ad) news) (h1 : ∀ u ∈ news, u.oneCell' = true)
    (hn : n + m ≤ 9223372036854775807) (hbytes : (n + m) * bytes ≤ 140737488355328) (hbase : base ≤ w.heap.size)
    (h : ∀ v' w', w'.ownsRow base e size v' (n + m) (xs ++ news) → w.grownBy w' v.ownBlock → (v' = .slice none 0 0 ↔ v = .slice none 0 0 ∧ m = 0) → wpListIn F nf P ops Q rest (a.put o.dst v') w') : wpListIn F nf P ops Q (o :: rest) a w := by
  obtain ⟨i0, q1, q2, q3, q4⟩ := info_parts hi
  refine wpListIn_append_own w hgd s x t ho base e i0 z size bytes ht q1 q2 q3 q4 hzs hsz v n xs hs hown ad m c news hx hm ?_ h1 (by unfold maxLen; omega) hbytes hbase h
  intro j u hj
  obtain ⟨hlt, _⟩ := List.getElem?_eq_some_iff.1 hj
  obtain ⟨b, o, e, _, _⟩ := hc (by omega)
  cases e
  have : (⟨b, o, none⟩ : Addr).add j = ⟨b, o + j, none⟩ := by unfold Addr.add; split <;> simp_all
  rw [this]; exact hc.get rfl hj
/-- What an iterator does that makes no memory: xs come, in this order. -/
def GivesE {α : Type} (F : Fence) (n : Nat) (P : Program) (g : Nat) (lb : Array Value) (encs : α → Array Value) (bs : List Nat) (xs : List α) (w0 : World) : Prop :=
  ∀ (l : Nat) (J : List α → World → Prop) (W : World), Below w0.heap.size w0 W →
    (∀ pre x W1, J pre W1 → (pre ++ [x]) <+: xs → YieldAt F (n - 1) P l (encs x) W1 fun e W' => e = .returned (.bool true) ∧ J (pre ++ [x]) W' ∧ KeepsBs bs W1 W') →
    J [] W → CallsIn F n P g (#[.func (.yield l) #[] #[]] ++ lb) W fun e W' => (∃ v, e = .returned v) ∧ J xs W'
/-- Loops and what is deferred stay. -/
def KeepsLD (W W' : World) : Prop := W.heap.size ≤ W'.heap.size ∧ ∀ k : Nat, ((∃ r, W.heap[k]? = some (Obj.loop r)) ∨ ∃ d, W.heap[k]? = some (Obj.deferred d)) → W'.heap[k]? = W.heap[k]?
def postE {α : Type} (bs : List Nat) (I : List α → World → Prop) (xs : List α) (W : World) : Exit → Act → World → Prop
  | .normal, _, W' => KeepsLD W W' ∧ KeepsBs bs W W' ∧ I xs W'
  | _, _, _ => False
theorem wpIn_rangeFunc_e {F : Fence} {n : Nat} {P : Program} {α : Type} {g : Operand} {ps : Array Tmp} {assign body : Code} {Q : Exit → Act → World → Prop} {a : Act} {w : World}
    (hro : F.round = none) (h1 : 1 ≤ n) {gf : Nat} {lb : Array Value} (hg : a.eval g = .func (.func gf) #[] lb) (hFg : F.fn gf) (eg : ∀ args w, (callFunc gf args).run P w = .ok (.enter gf args) w)
    {encs : α → Array Value} {bs : List Nat} {xs : List α} {w0 : World} (hseq : GivesE F (n - 1) P gf lb encs bs xs w0) (hb0 : Below w0.heap.size w0 w) (hps : ∀ x, (encs x).size = ps.size) (hbs : ∀ k ∈ bs, k < w.heap.size)
    (I : List α → World → Prop) (hI2 : ∀ s A B, I s A → Below A.heap.size A B → I s B) (hI3 : ∀ s A L r o, w.heap.size ≤ L → A.heap[L]? = some (.loop r) → I s A → I s (A.putObj L o))
    (h0 : I [] w) (Ax : α → Act → World → Prop) (hAx : ∀ x a' W l r o, W.heap[l]? = some (.loop r) → Ax x a' W → Ax x a' (W.putObj l o))
    (hassign : ∀ (l : Nat) (pre : List α) (x : α) (W : World) (K : Act → World → Prop), I pre W → w.heap.size ≤ W.heap.size → (pre ++ [x]) <+: xs → (∀ a' W', Below W.heap.size W W' → Ax x a' W' → K a' W') →
      assign.wpIn (F.inRound l) (n - 1 - 1) P (Exit.then K (fun _ _ _ => False)) { tmps := (ps.zip (encs x)).foldl (fun t (p, v) => t.setIfInBounds p v) a.tmps, defers := [] } W)
    (hbody : ∀ (l : Nat) (pre : List α) (x : α) (a' : Act) (W : World), I pre W → Ax x a' W → w.heap.size ≤ W.heap.size → (pre ++ [x]) <+: xs → body.wpIn (F.inRound l) (n - 1 - 1) P (postE bs I (pre ++ [x]) W) a' W)
    (hdone : ∀ (D : Nat) (W : World), w.heap.size ≤ D → I xs W → W.heap[D]? = some (.deferred (some [])) → Q .normal { a with defers := { target := .collected D, args := #[] } :: a.defers } W) :
    (Code.rangeFunc g ps assign body).wpIn F n P Q a w := by
  refine wpIn_rangeFunc ?_
  intro fn hfn
  rw [hro]
  obtain ⟨W0, hW0⟩ : ∃ W0, ((w.alloc (.deferred (some []))).alloc (.loop { state := .ready, pending := none, fn, tmps := a.tmps, params := ps, assign, body, defers := w.heap.size })) = W0 := ⟨_, rfl⟩
  have hB : w.heap.size + 2 = W0.heap.size := by rw [← hW0]; simp
  have hL : W0.heap[w.heap.size + 1]? = some (.loop { state := .ready, pending := none, fn, tmps := a.tmps, params := ps, assign, body, defers := w.heap.size }) := by
    rw [← hW0]
    have := World.alloc_heap_new (w.alloc (.deferred (some []))) (.loop { state := .ready, pending := none, fn, tmps := a.tmps, params := ps, assign, body, defers := w.heap.size }); rwa [World.size_alloc] at this
  have hK : W0.heap[w.heap.size]? = some (.deferred (some [])) := by
    rw [← hW0]; exact (Below.heap_alloc _ _ _ (by simp)).trans (World.alloc_heap_new w _)
  have hbl : Below w.heap.size w W0 := by
    rw [← hW0]; exact ((Below.refl _ w).alloc (Nat.le_refl _) _).alloc (by simp) _
  refine ⟨w.heap.size + 1, [{ target := .collected w.heap.size, args := #[] }], W0, { target := .fn (.func gf) lb, args := #[.func (.yield (w.heap.size + 1)) #[] #[]] }, W0, gf,
    #[.func (.yield (w.heap.size + 1)) #[] #[]] ++ lb, W0, ?_, ?_, ?_, ?_, fun _ => h1, ?_⟩
  · rw [← hW0]; exact run_enterLoop_outer _ _ _ _ _
  · simp only [resolve, hg]
    simp [go_sem]
  · intro f' hf'; simp [Target.leads] at hf'; subst hf'; exact hFg
  · simp [invoke, go_sem, eg]
  · clear hW0
    refine (hseq (w.heap.size + 1)
      (fun pre W => I pre W ∧ W.heap[w.heap.size + 1]? = some (.loop { state := .ready, pending := none, fn, tmps := a.tmps, params := ps, assign, body, defers := w.heap.size }) ∧ W.heap[w.heap.size]? = some (.deferred (some [])))
      W0 (hb0.trans (hbl.mono hb0.size))
      ?_ ⟨hI2 _ _ _ h0 hbl, hL, hK⟩).mono ?_
    · rintro pre x W ⟨hi, hl, hk⟩ hpre
      have hlt : w.heap.size + 1 < W.heap.size := (Array.getElem?_eq_some_iff.1 hl).1
      refine ⟨fn, _, assign, body, run_yield (P := P) (args := encs x) hl (hps x), roundIn_of_wpIn hfn (hassign _ pre x W _ hi (by omega) hpre ?_)⟩
      intro a' Wa hba hax
      have hla := (hba.block _ hlt).trans hl
      have hka := (hba.block w.heap.size (by omega)).trans hk
      have hia := hI2 _ _ _ hi hba
      have hsa := hba.size
      refine ⟨_, run_beginRound hla rfl, ?_⟩
      refine wpIn_mono (hbody _ pre x a' _ (hI3 _ _ _ _ _ (by omega) hla hia) (hAx _ _ _ _ _ _ hla hax) (by simp; omega) hpre) ?_
      rintro e a3 W3 hpost
      cases e with
      | normal =>
        obtain ⟨k1, k2, k3⟩ := hpost
        have hl3 := (k1.2 (w.heap.size + 1) (.inl ⟨_, World.putObj_heap_same (by omega)⟩)).trans (World.putObj_heap_same (by omega))
        have hkp : ∀ o, (Wa.putObj (w.heap.size + 1) o).heap[w.heap.size]? = some (.deferred (some [])) := fun o => (World.putObj_heap_other (by omega)).trans hka
        have hk3 := (k1.2 w.heap.size (.inr ⟨_, hkp _⟩)).trans (hkp _)
        refine ⟨_, _, run_endRound (P := P) none hl3, rfl, ⟨hI3 _ _ _ _ _ (by omega) hl3 k3, World.putObj_heap_same (Array.getElem?_eq_some_iff.1 hl3).1, (World.putObj_heap_other (by omega)).trans hk3⟩, ?_⟩
        intro k hk'
        have h2 := hbs k hk'
        exact ((World.putObj_heap_other (by omega)).trans (k2 k hk')).trans ((World.putObj_heap_other (by omega)).trans (hba.block k (by omega)))
      | ret => exact hpost.elim
      | exit id => exact hpost.elim
      | goto t => exact hpost.elim
      | panic ch => exact hpost.elim
      | outgrown => exact hpost.elim
    · rintro e W2 ⟨⟨v, rfl⟩, hi, hl, hk⟩
      have hlt : w.heap.size + 1 < W2.heap.size := (Array.getElem?_eq_some_iff.1 hl).1
      exact ⟨none, _, run_endLoop (P := P) hl (by simp), hdone _ _ (Nat.le_refl _) (hI3 _ _ _ _ _ (by omega) hl hi) ((World.putObj_heap_other (by omega)).trans hk)⟩
def inEnc (ks : List Int) (i : Nat) : Array Value := #[.int .i64 (at0 ks i)]
theorem range_pre {n : Nat} {pre : List Nat} {x : Nat} (h : (pre ++ [x]) <+: List.range n) : pre.length < n ∧ pre = List.range pre.length ∧ x = pre.length := by
  have hl := h.length_le
  simp at hl
  have h2 : List.range (pre.length + 1) <+: List.range n := by
    refine List.prefix_iff_eq_take.2 ?_
    rw [List.length_range, List.take_range, Nat.min_eq_left (by omega)]
  have h3 : (pre ++ [x]) = List.range (pre.length + 1) := by
    have e1 := List.prefix_iff_eq_take.1 h
    have e2 := List.prefix_iff_eq_take.1 h2
    rw [e2, List.length_range, e1]; simp
  rw [List.range_succ] at h3
  have h4 := List.append_inj h3 (by simp)
  exact ⟨by omega, h4.1, by simpa using h4.2⟩
theorem ivalues_any (ao : Option Addr) (m c : Nat) (w : World) (R : Ending → World → Prop) (hR : R (.returned (.func (.func 68) #[] #[.pointer (some ⟨w.heap.size, 0, none⟩)])) (w.alloc (.cells #[.slice ao m c] 22))) :
    Calls Tryz.prog 34 #[.slice ao m c] w R := by
  have HR := Lib.hid hR
  clear hR
  go_enter Tryz.func34, Tryz.ntmps34
  go_wp2_with fail
  exact HR.out
set_option maxHeartbeats 1000000 in
theorem ivalues1_gives (F : Fence) (n : Nat) (h84 : F.fn 68) (hro : F.round = none) (_hn : 1 ≤ n) (Bn : Nat) (bs : List Nat) (ao : Option Addr) (ks : List Int) (m c : Nat) (w0 : World)
    (hm : ks.length = m) (hl : m ≤ 1000000) (hB : w0.cell? ⟨Bn, 0, none⟩ = some (.slice ao m c)) (hBl : Bn < w0.heap.size) (hBm : Bn ∈ bs) (hc : CellsAt w0 ao (I64s ks)) (hbm : 0 < m → ∀ b o, ao = some ⟨b, o, none⟩ → b ∈ bs) :
    GivesE F n Tryz.prog 68 #[.pointer (some ⟨Bn, 0, none⟩)] (inEnc ks) bs (List.range m) w0 := by
  intro l J W hW hY hJ0
  have HY := Lib.hid hY
  have HC := Lib.hid hc
  have HW := Lib.hid hW
  have HBm := Lib.hid hBm
  have Hbm := Lib.hid hbm
  have HBc := Lib.hid ((hW.cell (p := ⟨Bn, 0, none⟩) hBl).trans hB)
  have Hm := Lib.hid hm
  clear hY hc hW hB hBm hbm hm
  refine callsIn_of_wp Tryz.func68 rfl h84 ?_ hro
  simp only [Tryz.ntmps68, List.size_toArray, List.length_cons, List.length_nil, Nat.reduceAdd, Nat.reduceSub, Array.replicate_succ, Array.replicate_zero, List.push_toArray, List.append_toArray, List.nil_append, List.cons_append]
  have hb0 := HBc.out
  gi_wp2
  gi_loopw [7] (fun p wr => ∃ k : Nat, k ≤ m ∧ p = .int .i64 k ∧ J (List.range k) wr ∧ KeepsBs bs W wr) (fun p _ => m - (intOf p).toNat)
  case atStart => exact ⟨0, Nat.zero_le _, rfl, hJ0, fun _ _ => rfl⟩
  case round =>
    obtain ⟨k, hk, rfl, hJ, hK⟩ := hrel
    by_cases hlt : k < m
    · obtain ⟨b, o, rfl, hbb, _⟩ := HC.out (by rw [I64s_length, Hm.out]; omega)
      have a0 := HC.out.get rfl (I64s_get (show k < ks.length by rw [Hm.out]; exact hlt))
      have hbk : wr.heap[b]? = w0.heap[b]? := (hK b (Hbm.out (by omega) b o rfl)).trans (HW.out.block b hbb)
      have d0 := (World.cell?_of_block (a := ⟨b, o + k, none⟩) hbk).trans a0
      have hb1 := (World.cell?_of_block (a := ⟨Bn, 0, none⟩) (hK Bn HBm.out)).trans HBc.out
      have hpre : (List.range k ++ [k]) <+: List.range m := by
        rw [← List.range_succ]
        refine List.prefix_iff_eq_take.2 ?_
        rw [List.length_range, List.take_range, Nat.min_eq_left (by omega)]
      obtain ⟨fn, tmps, assign, body, hy, hR⟩ := HY.out (List.range k) k wr hJ hpre
      unfold inEnc at hy
      have HK := Lib.hid hK
      clear hK hJ hb0 hbk a0 hpre
      gi_wp2
      refine hR.mono ?_
      rintro e W3 ⟨rfl, hJ3, hb3⟩
      have HB3 := Lib.hid hb3
      have HI3 : Hid (J (List.range (k + 1)) W3) := by unfold Hid; rw [List.range_succ]; exact hJ3
      clear hJ3 hb3 d0 hb1
      gi_wp2
      go_roundw
      case rel => exact ⟨k + 1, by omega, by go_num, HI3.out, fun x hx => (HB3.out x hx).trans (HK.out x hx)⟩
      case measure => simp [intOf] <;> omega
    · obtain rfl : k = m := by omega
      gi_wp2
      go_end0
      exact ⟨⟨_, rfl⟩, hJ⟩
def inBs (m : Nat) (ao : Option Addr) : List Nat := if m = 0 then [] else match ao with | some a => [a.block] | none => []
theorem irow_not_obj {W : World} {base n : Nat} {v : Value} {xs : List Value} {L : Nat} (h : W.ownsRow base 3 1 v n xs) (hL : ∀ cs t f, W.heap[L]? ≠ some (.cells cs t f)) (o : Obj) : (W.putObj L o).ownsRow base 3 1 v n xs := by
  refine ⟨h.1, ?_⟩
  rcases h.2 with h1 | ⟨g, cap, cur, h1, h2, h3, h4⟩
  · exact .inl h1
  · refine .inr ⟨g, cap, cur, h1, h2, (World.putObj_heap_other ?_).trans h3, h4⟩
    rintro rfl; exact hL _ _ _ h3
set_option maxRecDepth 100000 in
set_option maxHeartbeats 4000000 in
theorem iappendSeq_any (Bn : Nat) (ao : Option Addr) (ks : List Int) (m c : Nat) (w : World) (R : Ending → World → Prop) (hm : ks.length = m) (hl : m ≤ 100000) (hB : w.cell? ⟨Bn, 0, none⟩ = some (.slice ao m c)) (hBl : Bn < w.heap.size) (hc : CellsAt w ao (I64s ks))
   (hR : ∀ v w', Below w.heap.size w w' → w'.ownsRow w.heap.size 3 1 v m (I64s ks) → R (.returned v) w') :
    Calls Tryz.prog 95 #[.slice none 0 0, .func (.func 68) #[] #[.pointer (some ⟨Bn, 0, none⟩)]] w R := by
  have HR := Lib.hid hR
  have HC := Lib.hid hc
  have HB := Lib.hid hB
  have Hm := Lib.hid hm
  clear hR hc hB hm
  have h1 : 1 ≤ 6 := by omega
  refine (callsIn_wide (n := 6)).1 ?_
  refine callsIn_of_wp_marks Tryz.func95 rfl trivial ?_ rfl
  simp only [Tryz.ntmps95, List.size_toArray, List.length_cons, List.length_nil, Nat.reduceAdd, Nat.reduceSub, Array.replicate_succ, Array.replicate_zero, List.push_toArray, List.append_toArray, List.nil_append, List.cons_append]
  gi_wp2
  have q1 : Boxed (w.alloc (.cells #[.slice none 0 0] 22)) w.heap.size 22 (.slice none 0 0) := Boxed.new w _ _
  have hb0 : Below w.heap.size w (w.alloc (.cells #[.slice none 0 0] 22)) := (Below.refl _ _).alloc (Nat.le_refl _) _
  obtain ⟨W0, hW0⟩ : ∃ W0, w.alloc (.cells #[.slice none 0 0] 22) = W0 := ⟨_, rfl⟩
  have hs0 : W0.heap.size = w.heap.size + 1 := by rw [← hW0]; simp
  rw [hW0] at q1 hb0 ⊢
  clear hW0
  have HB0 := Lib.hid hb0
  have HC0 := Lib.hid (HC.out.below hb0)
  have hbm : 0 < m → ∀ b o, ao = some ⟨b, o, none⟩ → b ∈ Bn :: inBs m ao := fun h b o e => by
    unfold inBs; rw [if_neg (by omega), e]; simp
  have hbs : ∀ k ∈ Bn :: inBs m ao, k < w.heap.size := fun k hk => by
    rcases List.mem_cons.1 hk with rfl | hk
    · exact hBl
    · unfold inBs at hk
      by_cases h0 : m = 0
      · rw [if_pos h0] at hk; cases hk
      · obtain ⟨b, o, rfl, hb, _⟩ := HC.out (by rw [I64s_length, Hm.out]; omega)
        rw [if_neg h0] at hk
        rw [List.mem_singleton.1 hk]; exact hb
  have Hbs := Lib.hid hbs
  refine wpIn_rangeFunc_e (xs := List.range m) (bs := Bn :: inBs m ao) rfl h1 (gf := 68) (lb := #[.pointer (some ⟨Bn, 0, none⟩)]) rfl trivial (enters_of Tryz.func68 (by kernel_rfl) rfl)
    (ivalues1_gives Fence.wide 5 trivial rfl (by omega) Bn _ ao ks m c W0 Hm.out (by omega) ((hb0.cell (p := ⟨Bn, 0, none⟩) hBl).trans HB.out) (by omega) (by simp) HC0.out hbm) (Below.refl _ _) (fun _ => rfl)
    (fun k hk => by have := hbs k hk; omega)
    (fun pre V => ∃ v, Boxed V w.heap.size 22 v ∧ V.ownsRow (w.heap.size + 1) 3 1 v pre.length (I64s (ks.take pre.length)) ∧ Below w.heap.size w V)
    ?stable ?put ⟨_, q1, by have h := World.ownsRow_nil W0 (w.heap.size + 1) 3 1; simpa [I64s] using h, hb0⟩
    (fun x a' V => a' = { tmps := #[.slice none 0 0, .func (.func 68) #[] #[.pointer (some ⟨Bn, 0, none⟩)], .pointer (some ⟨w.heap.size, 0, none⟩), undef, .slice none 0 0, .int .i64 (at0 ks x), .func (.func 68) #[] #[.pointer (some ⟨Bn, 0, none⟩)], .int .i64 (at0 ks x), undef, undef, undef, undef, undef], defers := [] })
    (by rintro x a' V l' r o _ h; exact h) ?assign ?body ?done
  case stable =>
    rintro s A B ⟨v, h1, h2, h3⟩ hAB
    exact ⟨v, (hAB.block _ h1.lt).trans h1, ownsRow_below h2 hAB, h3.trans (hAB.mono h3.size)⟩
  case put =>
    rintro s A L r o hge hL ⟨v, h1, h2, h3⟩
    have hne : w.heap.size ≠ L := by rintro rfl; rw [h1] at hL; cases hL
    exact ⟨v, (World.putObj_heap_other hne).trans h1, irow_not_obj h2 (fun cs t f e => by rw [hL] at e; cases e) o, h3.trans ⟨rfl, rfl, rfl, by simp, fun k hk => World.putObj_heap_other (by omega)⟩⟩
  case assign =>
    rintro l' pre x V K hi hsz hpre hK
    unfold inEnc
    gi_wp2
    exact hK _ _ (Below.refl _ _) rfl
  case done =>
    rintro D V hD ⟨v, h1, h2, h3⟩ hK
    rw [List.length_range, List.take_of_length_le (by rw [Hm.out]; exact Nat.le_refl _)] at h2
    have hcl := h1.cell
    have H2 := Lib.hid h2
    have H3 := Lib.hid h3
    clear h1 h2 h3
    gi_wp2
    refine endM (v := v) hK (res1 (t := 4) rfl rfl) (fun hp => HR.out v _ (H3.out.trans (hp.mono (by omega))) (irow_not_obj (ownsRow_mono H2.out (by omega)) (fun cs t f e => by rw [hK] at e; cases e) _))
  case body =>
    rintro l' pre x a' V ⟨v, hb, ho, hB3⟩ rfl hsz hpre
    obtain ⟨hlt, _, hxe⟩ := range_pre hpre
    subst hxe
    obtain ⟨k, hk⟩ : ∃ k, pre.length = k := ⟨_, rfl⟩
    have hpl : Hid ((pre ++ [pre.length]).length = k + 1) := by unfold Hid; rw [List.length_append, hk]; rfl
    rw [hk] at ho hlt
    rw [hk] at hpl ⊢
    have htk : Hid (I64s (ks.take (k + 1)) = I64s (ks.take k) ++ [.int .i64 (at0 ks k)]) := by
      have hk' : k < ks.length := by rw [Hm.out]; exact hlt
      unfold Hid
      rw [List.take_succ_eq_append_getElem hk', I64s_append]
      congr 1
      unfold at0
      rw [List.getD_eq_getElem?_getD, List.getElem?_eq_getElem hk']; rfl
    obtain ⟨nm, hnm⟩ : ∃ nm, at0 ks k = nm := ⟨_, rfl⟩
    obtain ⟨L, hL⟩ : ∃ L, I64s (ks.take k) = L := ⟨_, rfl⟩
    rw [hnm, hL] at htk
    rw [hL] at ho
    rw [hnm]
    have hcl := hb.cell
    have hfr := hb.frozen
    have hbl := hb.lt
    have HOa : Hid ((V.alloc (.cells #[.int .i64 nm] 3)).ownsRow (w.heap.size + 1) 3 1 v k L) := ownsRow_below ho ((Below.refl _ _).alloc (Nat.le_refl _) _)
    have HBa := Lib.hid (hb.alloc (.cells #[.int .i64 nm] 3))
    have Hb := Lib.hid hb
    have Ho := Lib.hid ho
    have H3 := Lib.hid hB3
    have hs3 := hB3.size
    clear hb ho hB3 hk hnm hL hpre
    gi_wp2_with (gi_at_builtin; refine wpIn_appendT rfl (.tmp 8) (.tmp 10) 22 rfl (w.heap.size + 1) 3 Tryz.underlying22 Tryz.infoInts rfl (by decide) v k L rfl HOa.out ⟨V.heap.size, 0, none⟩ 1 1 [.int .i64 nm] rfl rfl (by have h := cells_one V (.int .i64 nm) 3; simpa using h) (one1 _ rfl) (by omega) (by omega) (by simp; omega) ?_; intro v5 w5 hown hgrow _; obtain ⟨a5, c5, rfl, _, _⟩ := ownsRow_read hown; have O5 := Lib.hid hown; have G5 := Lib.hid hgrow; have B5 := Lib.hid (HBa.out.kept hgrow (Boxed.not_row HBa.out (by decide) HOa.out)); have b5c := B5.out.cell; have b5f := B5.out.frozen; clear hown hgrow)
    have hown : ∀ g, v.ownBlock = some g → w.heap.size + 1 ≤ g := fun g e => by
      rcases Ho.out.2 with ⟨rfl, _⟩ | ⟨g', cap, cur, rfl, h2, _⟩
      · simp [Value.ownBlock] at e
      · simp [Value.ownBlock] at e; omega
    have hkeep : ∀ q, q < V.heap.size → q ≠ w.heap.size → (∀ g, v.ownBlock = some g → q ≠ g) → (w5.setCell ⟨w.heap.size, 0, none⟩ (.slice a5 (k + 1) c5)).heap[q]? = V.heap[q]? := fun q hq hne hng => by
      rw [Below.heap_setCell _ _ _ _ hne, G5.out.block q (by simp; omega) (fun e => hng q e.symm rfl)]
      exact Below.heap_alloc _ _ _ hq
    refine ⟨⟨?_, fun q hq => ?_⟩, fun q hq => ?_, _, B5.out.set _, ?_, ?_⟩
    · have h := G5.out.size
      have h2 := (Below.setCell (Below.refl w.heap.size w5) (p := ⟨w.heap.size, 0, none⟩) (Nat.le_refl _) (.slice a5 (k + 1) c5)).size
      simp at h
      omega
    · have hql : q < V.heap.size := by
        rcases hq with ⟨_, h⟩ | ⟨_, h⟩ <;> exact lt_of_block h
      refine hkeep q hql ?_ ?_
      · rintro rfl
        have h2 : V.heap[w.heap.size]? = _ := Hb.out
        rcases hq with ⟨_, h⟩ | ⟨_, h⟩ <;> (rw [h2] at h; cases h)
      · intro g e hqg
        subst hqg
        rcases Ho.out.2 with ⟨rfl, _⟩ | ⟨g', cap, cur, rfl, h2, h3, _⟩
        · simp [Value.ownBlock] at e
        · simp [Value.ownBlock] at e
          subst e
          rcases hq with ⟨_, h⟩ | ⟨_, h⟩ <;> (rw [h3] at h; cases h)
    · have h := Hbs.out q hq
      exact hkeep q (by omega) (by omega) (fun g e => by have := hown g e; omega)
    · rw [hpl.out, htk.out]
      refine ⟨O5.out.1, ?_⟩
      rcases O5.out.2 with h | ⟨g, cap, cur, h1, h2, h3, h4⟩
      · exact .inl h
      · exact .inr ⟨g, cap, cur, h1, h2, (Below.heap_setCell _ _ _ _ (show g ≠ w.heap.size by omega)).trans h3, h4⟩
    · have hA : Below w.heap.size w (V.alloc (.cells #[.int .i64 nm] 3)) := H3.out.alloc hs3 _
      exact (hA.grown G5.out (by simp; omega) (fun j e => by have := hown j e; omega)).setCell (p := ⟨w.heap.size, 0, none⟩) (Nat.le_refl _) _

set_option maxRecDepth 100000 in
set_option maxHeartbeats 2000000 in
theorem icollect_any (Bn : Nat) (ao : Option Addr) (ks : List Int) (m c : Nat) (w : World) (R : Ending → World → Prop) (hm : ks.length = m) (hl : m ≤ 100000) (hB : w.cell? ⟨Bn, 0, none⟩ = some (.slice ao m c)) (hBl : Bn < w.heap.size) (hc : CellsAt w ao (I64s ks))
   (hR : ∀ v w', Below w.heap.size w w' → w'.ownsRow w.heap.size 3 1 v m (I64s ks) → R (.returned v) w') :
    Calls Tryz.prog 62 #[.func (.func 68) #[] #[.pointer (some ⟨Bn, 0, none⟩)]] w R := by
  have HR := Lib.hid hR
  have HC := Lib.hid hc
  have HB := Lib.hid hB
  clear hR hc hB
  go_enter Tryz.func62, Tryz.ntmps62
  go_wp2_with fail
  refine iappendSeq_any Bn ao ks m c _ _ hm hl HB.out hBl HC.out ?_
  intro v w1 hb ho
  have B1 := Lib.hid hb
  have O1 := Lib.hid ho
  clear hb ho
  go_wp2_with fail
  exact HR.out _ _ B1.out O1.out
set_option maxRecDepth 100000 in
set_option maxHeartbeats 2000000 in
theorem isortedV_any (Bn : Nat) (ao : Option Addr) (ks : List Int) (m c : Nat) (w : World) (R : Ending → World → Prop) (hm : ks.length = m) (hl : m ≤ 100000) (hB : w.cell? ⟨Bn, 0, none⟩ = some (.slice ao m c)) (hBl : Bn < w.heap.size) (hc : CellsAt w ao (I64s ks)) (h0 : 0 < m)
   (hR : ∀ a c' w', Below w.heap.size w w' → CellsAt w' a (I64s (sortL ks)) → R (.returned (.slice a m c')) w') :
    Calls Tryz.prog 33 #[.func (.func 68) #[] #[.pointer (some ⟨Bn, 0, none⟩)]] w R := by
  subst hm
  have HR := Lib.hid hR
  have HC := Lib.hid hc
  have HB := Lib.hid hB
  clear hR hc hB
  go_enter Tryz.func33, Tryz.ntmps33
  go_wp2_with fail
  refine icollect_any Bn ao ks _ c _ _ rfl hl HB.out hBl HC.out ?_
  intro v w1 hb ho
  have B1 := Lib.hid hb
  have O1 := Lib.hid ho
  obtain ⟨g, cap, rfl⟩ : ∃ g cap, v = .slice (some ⟨g, 0, none⟩) ks.length cap := by
    rcases ho.2 with ⟨_, h⟩ | ⟨g, cap, cur, h, _⟩
    · exact absurd h (by omega)
    · exact ⟨g, cap, h⟩
  clear hb ho
  go_wp2_with fail
  refine sort_own w.heap.size g cap ks _ O1.out (by omega) _ ?_
  intro w2 hg ho
  have B2 := Lib.hid (B1.out.grown hg B1.out.size (fun j e => (O1.out.lt j (by cases e; rfl)).1))
  obtain ⟨a2, c2, e2, h2, _⟩ := ownsRow_read ho
  have H2 := Lib.hid h2
  cases e2
  clear hg ho h2
  go_wp2_with fail
  exact HR.out _ _ _ B2.out H2.out
end Go.Proofs.YtcoombhcdcniiaaGreatDoor
namespace Go.Proofs.YtcoombhcdcniiaaGreatDoor
open Go.RowKit

theorem sortL_unique {l m : List Int} (hs : m.Pairwise fun a b => a ≤ b) (hp : m.Perm l) : sortL l = m := by
  refine List.Perm.eq_of_pairwise (le := fun a b : Int => a ≤ b) (fun a b _ _ h1 h2 => Int.le_antisymm h1 h2) ?_ hs ((List.mergeSort_perm l _).trans hp.symm)
  have := List.pairwise_mergeSort (le := fun x y : Int => decide (x ≤ y)) (fun a b c h1 h2 => by simp at *; omega) (fun a b => by simp; omega) l
  exact this.imp (fun h => by simpa using h)
theorem sortL_up (l : List Int) : (sortL l).Pairwise fun a b => a ≤ b := by
  have := List.pairwise_mergeSort (le := fun x y : Int => decide (x ≤ y)) (fun a b c h1 h2 => by simp at *; omega) (fun a b => by simp; omega) l
  exact this.imp (fun h => by simpa using h)
theorem sortL_perm (l : List Int) : (sortL l).Perm l := List.mergeSort_perm l _
/-- A value put in its place. -/
theorem sortL_put {l A B : List Int} {k : Nat} {x : Int} (hk : k < l.length) (hx : at0 l k = x) (hS : A ++ B = sortL (l.take k)) (hB : ∀ y ∈ B, x < y) (hA : ∀ A' y, A = A' ++ [y] → y ≤ x) : sortL (l.take (k + 1)) = A ++ x :: B := by
  have hu := sortL_up (l.take k)
  rw [← hS, List.pairwise_append] at hu
  obtain ⟨h1, h2, h3⟩ := hu
  have hAx : ∀ a ∈ A, a ≤ x := by
    intro a ha
    rcases List.eq_nil_or_concat A with e | ⟨A', y, e⟩
    · rw [e] at ha; cases ha
    · have hy := hA A' y (by rw [e]; simp)
      rw [e] at ha h1
      simp only [List.concat_eq_append, List.mem_append, List.mem_singleton] at ha
      rcases ha with ha | rfl
      · simp only [List.concat_eq_append, List.pairwise_append] at h1
        exact Int.le_trans (h1.2.2 a ha y (by simp)) hy
      · exact hy
  refine sortL_unique ?_ ?_
  · rw [List.pairwise_append]
    refine ⟨h1, List.pairwise_cons.2 ⟨fun y hy => Int.le_of_lt (hB y hy), h2⟩, fun a ha b hb => ?_⟩
    rcases List.mem_cons.1 hb with rfl | hb
    · exact hAx a ha
    · exact h3 a ha b hb
  · rw [List.take_succ_eq_append_getElem hk, ← at0_get hk, hx]
    refine List.perm_middle.trans ?_
    rw [hS]
    exact ((sortL_perm (l.take k)).cons x).trans (List.perm_append_singleton x _).symm
theorem swap_set (A B : List Int) (x y : Int) : ((A ++ y :: x :: B).set (A.length + 1) y).set A.length x = A ++ x :: y :: B := by simp
theorem at_mid (A B : List Int) (x : Int) : at0 (A ++ x :: B) A.length = x := by simp [at0, List.getD]
theorem at_mid2 (A B : List Int) (x y : Int) : at0 (A ++ y :: x :: B) (A.length + 1) = x := by
  have := at_mid (A ++ [y]) B x
  simpa using this
theorem own_get {w : World} {base n : Nat} {g cap : Nat} {l : List Int} (h : w.ownsRow base 3 1 (.slice (some ⟨g, 0, none⟩) n cap) n (I64s l)) {i : Nat} (hi : i < l.length) : w.cell? ⟨g, i, none⟩ = some (.int .i64 (at0 l i)) ∧ w.frozen? ⟨g, i, none⟩ = false ∧ g < w.heap.size ∧ base ≤ g := by
  have hl : l.length = n := by have := h.1; rw [I64s_length] at this; omega
  rcases h.2 with ⟨h1, _⟩ | ⟨g', cap', cur, h1, hb, hg, hn, hm, hs, ht⟩
  · cases h1
  · cases h1
    refine ⟨cell_at hg ?_, frozen_at hg i, lt_of_block hg, hb⟩
    have h5 : (cur.toList.take (n * 1))[i]? = (I64s l)[i]? := by rw [ht]
    rw [I64s_get hi, List.getElem?_take_of_lt (by omega)] at h5
    rw [← h5]; simp
theorem own_store {w : World} {base n : Nat} {g cap : Nat} {l : List Int} (h : w.ownsRow base 3 1 (.slice (some ⟨g, 0, none⟩) n cap) n (I64s l)) (i : Nat) (x : Int) : (w.setCell ⟨g, i, none⟩ (.int .i64 x)).ownsRow base 3 1 (.slice (some ⟨g, 0, none⟩) n cap) n (I64s (l.set i x)) := by
  refine ⟨by have := h.1; rw [I64s_length] at this ⊢; rw [List.length_set]; exact this, ?_⟩
  rcases h.2 with ⟨h1, _⟩ | ⟨g', cap', cur, h1, hb, hg, hn, hm, hs, ht⟩
  · cases h1
  · cases h1
    refine .inr ⟨g, cap, _, rfl, hb, set_cells hg i _ _ rfl, hn, hm, by simpa using hs, ?_⟩
    rw [Array.toList_setIfInBounds, List.take_set, ht]
    simp [I64s, List.map_set]
theorem ownL_of {w : World} {base n m : Nat} {g cap : Nat} {xs ys : List Value} (h : w.ownsRow base 3 1 (.slice (some ⟨g, 0, none⟩) m cap) (n + 1) xs) (e : ys = xs) : OwnL w base 3 1 (.slice (some ⟨g, 0, none⟩) m cap) (n + 1) ys := ⟨by rw [e]; exact h, ⟨fun h => (by cases h), fun h => absurd h (by omega)⟩⟩
theorem own_below {w w' : World} {base e size n : Nat} {v : Value} {xs : List Value} (h : w.ownsRow base e size v n xs) (hb : Below w.heap.size w w') : w'.ownsRow base e size v n xs := ownsRow_below h hb
set_option maxRecDepth 100000 in
set_option maxHeartbeats 4000000 in
theorem zrsorted_any (ao : Option Addr) (l : List Int) (c : Nat) (w : World) (R : Ending → World → Prop) (hl : l.length ≤ 100000) (h0 : 0 < l.length) (hc : CellsAt w ao (I64s l))
   (hR : ∀ a c' w', Below w.heap.size w w' → CellsAt w' a (I64s (sortL l)) → R (.returned (.slice a l.length c')) w') :
    Calls Tryz.prog 46 #[.slice ao l.length c] w R := by
  have HR := Lib.hid hR
  have HC := Lib.hid hc
  have HL := Lib.hid hl
  have H0 := Lib.hid h0
  clear hR hc hl h0
  go_enter Tryz.func46, Tryz.ntmps46
  go_wp2_with fail
  go_loopw [4, 3] (fun j s wr => ∃ i : Nat, i ≤ l.length ∧ j = .int .i64 i ∧ Hid (Below w.heap.size w wr) ∧ Hid (OwnL wr w.heap.size 3 1 s i (I64s (sortL (l.take i))))) (fun j _ _ => l.length - (intOf j).toNat)
  case atStart =>
    refine ⟨0, Nat.zero_le _, rfl, Below.refl _ _, ?_⟩
    have h : OwnL w w.heap.size 3 1 (.slice none 0 0) 0 [] := OwnL.nil _ _ _ _
    unfold Hid
    simpa [I64s, sortL] using h
  case round =>
    obtain ⟨i, hi, rfl, HW, HO⟩ := hrel
    by_cases hlt : i < l.length
    · have K2 : ((i : Int) < (l.length : Int)) = True := eq_true (by omega)
      have hcr := HC.out.below HW.out
      obtain ⟨bd, od, rfl, hbd, hdc⟩ := hcr.ints (by omega)
      have g0 := hdc i hlt
      obtain ⟨x, hx0⟩ : ∃ x, at0 l i = x := ⟨_, rfl⟩
      rw [hx0] at g0
      have HX := Lib.hid hx0
      obtain ⟨S, hS⟩ : ∃ S, sortL (l.take i) = S := ⟨_, rfl⟩
      have HS := Lib.hid hS
      rw [hS] at HO
      have hSl : Hid (S.length = i) := by unfold Hid; rw [← hS, sortL_length, List.length_take]; omega
      have hl2 := HL.out
      clear hdc hx0 hcr hS
      go_wp2_with (at_builtin; refine wp_append1 rfl (.tmp 12) (.tmp 17) 22 rfl w.heap.size 3 Tryz.underlying22 Tryz.infoInts rfl (by decide) (by decide) _ i (I64s S) rfl (HO.out.alloc _) wr.heap.size [.int .i64 x] rfl rfl (new1 _ _ _) (one1 _ rfl) (by omega) (by have := HW.out.size; simp; omega) ?_; intro v1 w1 hown1 hb1; obtain ⟨g, cap, rfl⟩ : ∃ g cap, v1 = .slice (some ⟨g, 0, none⟩) (i + 1) cap := (by rcases hown1.1.2 with ⟨_, h⟩ | ⟨g, cap, cur, h, _⟩; (exact absurd h (by omega)); exact ⟨g, cap, h⟩); have H1 : Hid (w1.ownsRow w.heap.size 3 1 (.slice (some ⟨g, 0, none⟩) (i + 1) cap) (i + 1) (I64s (S ++ x :: []))) := (by unfold Hid; rw [I64s_append]; exact hown1.1); have Hb1 := Lib.hid (((HW.out.alloc HW.out.size _).trans hb1)); clear hown1 hb1)
      go_loopw [5] (fun kk wq => ∃ (A B : List Int), kk = .int .i64 (A.length : Nat) ∧ Hid (A ++ B = S) ∧ Hid (∀ y ∈ B, x < y) ∧ Hid (Below w.heap.size w wq) ∧ Hid (wq.ownsRow w.heap.size 3 1 (.slice (some ⟨g, 0, none⟩) (i + 1) cap) (i + 1) (I64s (A ++ x :: B)))) (fun kk _ => (intOf kk).toNat)
      case atStart => exact ⟨S, [], by rw [hSl.out], List.append_nil S, fun y hy => (by cases hy), Hb1, H1⟩
      case round =>
        obtain ⟨A, B, rfl, HAB, HBx, HBq, HOq⟩ := hrel
        have hAl : A.length ≤ i := by
          have h := hSl.out
          rw [← HAB.out, List.length_append] at h; omega
        rcases List.eq_nil_or_concat A with e | ⟨A', y, e⟩
        · subst e
          have eA : (([] : List Int).length : Int) = 0 := rfl
          have eS : Hid (sortL (l.take (i + 1)) = x :: B) := sortL_put (A := []) hlt HX.out (by rw [HS.out]; exact HAB.out) HBx.out (fun A' y e => absurd e (by simp))
          have HOn := Lib.hid (ownL_of (own_below HOq.out (Below.refl _ _).drew) (congrArg I64s eS.out))
          have HBd := Lib.hid HBq.out.drew
          clear hAl
          go_wp2_with fail
          refine regionL [0, 1, 2, 3, 4, 5, 6, 7, 8, 9, 10, 11, 12, 13] (fun _ => True) (by kernel_rfl) (trivial) (fun Qn hPQ hQn hS0 => ?_)
          iterate 3 (refine takeL (v := ?_) rfl rfl (by kernel_rfl) (by kernel_rfl) (by kernel_rfl) hPQ hS0 (by kernel_rfl) ?_ ?_; rotate_left; (focus (intro w hSw; (try dsimp only at hSw); go_simp; (try with_reducible rfl))); (try simp only [Act.put, List.setIfInBounds_toArray, List.set_cons_zero, List.set_cons_succ]))
          iterate 10 ((first | refine skipL rfl rfl (by kernel_rfl) (by kernel_rfl) (by kernel_rfl) hPQ hS0 (by kernel_rfl) ?_ | refine skipN rfl rfl (by kernel_rfl) (by kernel_rfl) (by kernel_rfl) hPQ hS0 (by kernel_rfl) ?_); (try simp only [Act.put, List.setIfInBounds_toArray, List.set_cons_zero, List.set_cons_succ]))
          iterate 1 (refine takeL (v := ?_) rfl rfl (by kernel_rfl) (by kernel_rfl) (by kernel_rfl) hPQ hS0 (by kernel_rfl) ?_ ?_; rotate_left; (focus (intro w hSw; (try dsimp only at hSw); go_simp; (try with_reducible rfl))); (try simp only [Act.put, List.setIfInBounds_toArray, List.set_cons_zero, List.set_cons_succ]))
          refine ofL (wpAnyH_done (by kernel_rfl) (hQn.out _ _ ?_) _)
          clear hS0 hPQ hQn Qn
          go_wp2_with fail
          exact ⟨⟨i + 1, by omega, by go_num, HBd, HOn⟩, by simp [intOf]; omega⟩
        · rw [List.concat_eq_append] at e
          subst e
          obtain ⟨q, hq⟩ : ∃ q, A'.length = q := ⟨_, rfl⟩
          have hL : A' ++ [y] ++ x :: B = A' ++ y :: x :: B := by simp
          rw [hL] at HOq
          have hlen : (A' ++ [y]).length = q + 1 := by rw [List.length_append, hq]; rfl
          rw [hlen] at hAl ⊢
          have o1 := own_get HOq.out (i := q) (by rw [← hq]; simp)
          have o2 := own_get HOq.out (i := q + 1) (by rw [← hq]; simp)
          have m1 : at0 (A' ++ y :: x :: B) q = y := by rw [← hq]; exact at_mid A' (x :: B) y
          have m2 : at0 (A' ++ y :: x :: B) (q + 1) = x := by rw [← hq]; exact at_mid2 A' B x y
          rw [m1] at o1
          rw [m2] at o2
          obtain ⟨c1, f1, _, hgb⟩ := o1
          obtain ⟨c2, f2, _, _⟩ := o2
          obtain ⟨z, hz⟩ : ∃ z : Int, ((q + 1 : Nat) : Int) = z := ⟨_, rfl⟩
          have Hz := Lib.hid hz
          rw [hz]
          have Z0 : (0 < z) = True := eq_true (by omega)
          have Z1 : IntKind.i64.wrap (z - 1) = (q : Int) := by rw [IntKind.wrap_i64] <;> omega
          have Z2 : z.toNat = q + 1 := by omega
          have Z3 : (0 ≤ z) = True := eq_true (by omega)
          have Z4 : (z < ((i + 1 : Nat) : Int)) = True := eq_true (by omega)
          have Z5 : ((q : Int) < ((i + 1 : Nat) : Int)) = True := eq_true (by omega)
          have Z6 : (z < (i : Int) + 1) = True := eq_true (by omega)
          have Z7 : ((q : Int) < (i : Int) + 1) = True := eq_true (by omega)
          have HQ := Lib.hid hq
          have Hgb := Lib.hid hgb
          clear hz hAl hL hlen m1 m2 hq hgb
          by_cases hxy : x < y
          · have X1 : (x < y) = True := eq_true hxy
            have HXY := Lib.hid hxy
            have hset : Hid (((A' ++ y :: x :: B).set (q + 1) y).set q x = A' ++ x :: y :: B) := by unfold Hid; rw [← HQ.out]; exact swap_set A' B x y
            have HO2 := Lib.hid (own_store (own_store HOq.out (q + 1) y) q x)
            rw [hset.out] at HO2
            have HBn : Hid (∀ u ∈ y :: B, x < u) := fun u hu => by
              rcases List.mem_cons.1 hu with rfl | hu
              · exact HXY.out
              · exact HBx.out u hu
            have HABn : Hid (A' ++ y :: B = S) := by unfold Hid; rw [← HAB.out]; simp
            clear hxy
            go_wp2_with fail
            refine regionL [0, 1, 2, 3, 4, 5, 6, 7, 8, 9, 10, 11, 12, 13] (fun w' => w'.cell? ⟨g, q + 1, none⟩ = some (.int .i64 x) ∧ w'.cell? ⟨g, q, none⟩ = some (.int .i64 y)) (by kernel_rfl) (⟨c2, c1⟩) (fun Qn hPQ hQn hS0 => ?_)
            iterate 14 (refine takeL (v := ?_) rfl rfl (by kernel_rfl) (by kernel_rfl) (by kernel_rfl) hPQ hS0 (by kernel_rfl) ?_ ?_; rotate_left; (focus (intro w hSw; (try dsimp only at hSw); obtain ⟨k0, k1⟩ := hSw; go_simp; (try with_reducible rfl))); (try simp only [Act.put, List.setIfInBounds_toArray, List.set_cons_zero, List.set_cons_succ]))
            refine ofL (wpAnyH_done (by kernel_rfl) (hQn.out _ _ ?_) _)
            clear hS0 hPQ hQn Qn
            go_wp2_with fail
            refine regionL [0, 1, 2, 3, 4, 5, 6, 7, 8, 10, 11, 12] (fun _ => True) (by kernel_rfl) trivial (fun Qn hPQ hQn hS0 => ?_)
            iterate 12 (refine takeL (v := ?_) rfl rfl (by kernel_rfl) (by kernel_rfl) (by kernel_rfl) hPQ hS0 (by kernel_rfl) ?_ ?_; rotate_left; (focus (intro w hSw; (try dsimp only at hSw); go_simp; (try with_reducible rfl))); (try simp only [Act.put, List.setIfInBounds_toArray, List.set_cons_zero, List.set_cons_succ]))
            refine ofL (wpAnyH_ready (rs := [9, 13]) (by kernel_rfl) (by simp) ?_)
            refine AllReadyH.cons (o := _) rfl (fun K hK => ?_) (AllReadyH.cons (o := _) rfl (fun K hK => ?_) AllReadyH.nil)
            · go_simp
              refine hK.out _ _ trivial (fun hS1 => toL [] ?_)
              clear hK K hS0
              (try simp only [Act.put, List.setIfInBounds_toArray, List.set_cons_zero, List.set_cons_succ])
              refine ofL (wpAnyH_ready (rs := [13]) (by kernel_rfl) (by simp) ?_)
              refine AllReadyH.cons (o := _) rfl (fun K hK => ?_) AllReadyH.nil
              go_simp
              refine hK.out _ _ trivial (fun hS2 => toL [14] ?_)
              clear hK K hS1
              (try simp only [Act.put, List.setIfInBounds_toArray, List.set_cons_zero, List.set_cons_succ])
              iterate 1 (refine takeL (v := ?_) rfl rfl (by kernel_rfl) (by kernel_rfl) (by kernel_rfl) hPQ hS2 (by kernel_rfl) ?_ ?_; rotate_left; (focus (intro w hSw; (try dsimp only at hSw); go_simp; (try with_reducible rfl))); (try simp only [Act.put, List.setIfInBounds_toArray, List.set_cons_zero, List.set_cons_succ]))
              refine ofL (wpAnyH_ready (rs := [15]) (by kernel_rfl) (by simp) ?_)
              refine AllReadyH.cons (o := _) rfl (fun K hK => ?_) AllReadyH.nil
              go_simp
              refine hK.out _ _ trivial (fun hS3 => toL [16] ?_)
              clear hK K hS2
              (try simp only [Act.put, List.setIfInBounds_toArray, List.set_cons_zero, List.set_cons_succ])
              iterate 1 (refine takeL (v := ?_) rfl rfl (by kernel_rfl) (by kernel_rfl) (by kernel_rfl) hPQ hS3 (by kernel_rfl) ?_ ?_; rotate_left; (focus (intro w hSw; (try dsimp only at hSw); go_simp; (try with_reducible rfl))); (try simp only [Act.put, List.setIfInBounds_toArray, List.set_cons_zero, List.set_cons_succ]))
              refine ofL (wpAnyH_ready (rs := [17]) (by kernel_rfl) (by simp) ?_)
              refine AllReadyH.cons (o := _) rfl (fun K hK => ?_) AllReadyH.nil
              go_simp
              refine hK.out _ _ trivial (fun hS4 => toL [] ?_)
              clear hK K hS3
              (try simp only [Act.put, List.setIfInBounds_toArray, List.set_cons_zero, List.set_cons_succ])
              refine ofL (wpAnyH_done (by kernel_rfl) (hQn.out _ _ ?_) _)
              clear hS4 hPQ hQn Qn
              go_wp2_with fail
              exact ⟨⟨A', y :: B, by rw [HQ.out], HABn, HBn, ((HBq.out.setCell (p := ⟨g, q + 1, none⟩) Hgb.out _).setCell (p := ⟨g, q, none⟩) Hgb.out _).drew.drew, own_below HO2.out ((Below.refl _ _).drew.drew)⟩, by have := Hz.out; simp [intOf]; omega⟩
            · go_simp
              refine hK.out _ _ trivial (fun hS1 => toL [] ?_)
              clear hK K hS0
              (try simp only [Act.put, List.setIfInBounds_toArray, List.set_cons_zero, List.set_cons_succ])
              refine ofL (wpAnyH_ready (rs := [9]) (by kernel_rfl) (by simp) ?_)
              refine AllReadyH.cons (o := _) rfl (fun K hK => ?_) AllReadyH.nil
              go_simp
              refine hK.out _ _ trivial (fun hS2 => toL [14] ?_)
              clear hK K hS1
              (try simp only [Act.put, List.setIfInBounds_toArray, List.set_cons_zero, List.set_cons_succ])
              iterate 1 (refine takeL (v := ?_) rfl rfl (by kernel_rfl) (by kernel_rfl) (by kernel_rfl) hPQ hS2 (by kernel_rfl) ?_ ?_; rotate_left; (focus (intro w hSw; (try dsimp only at hSw); go_simp; (try with_reducible rfl))); (try simp only [Act.put, List.setIfInBounds_toArray, List.set_cons_zero, List.set_cons_succ]))
              refine ofL (wpAnyH_ready (rs := [15]) (by kernel_rfl) (by simp) ?_)
              refine AllReadyH.cons (o := _) rfl (fun K hK => ?_) AllReadyH.nil
              go_simp
              refine hK.out _ _ trivial (fun hS3 => toL [16] ?_)
              clear hK K hS2
              (try simp only [Act.put, List.setIfInBounds_toArray, List.set_cons_zero, List.set_cons_succ])
              iterate 1 (refine takeL (v := ?_) rfl rfl (by kernel_rfl) (by kernel_rfl) (by kernel_rfl) hPQ hS3 (by kernel_rfl) ?_ ?_; rotate_left; (focus (intro w hSw; (try dsimp only at hSw); go_simp; (try with_reducible rfl))); (try simp only [Act.put, List.setIfInBounds_toArray, List.set_cons_zero, List.set_cons_succ]))
              refine ofL (wpAnyH_ready (rs := [17]) (by kernel_rfl) (by simp) ?_)
              refine AllReadyH.cons (o := _) rfl (fun K hK => ?_) AllReadyH.nil
              go_simp
              refine hK.out _ _ trivial (fun hS4 => toL [] ?_)
              clear hK K hS3
              (try simp only [Act.put, List.setIfInBounds_toArray, List.set_cons_zero, List.set_cons_succ])
              refine ofL (wpAnyH_done (by kernel_rfl) (hQn.out _ _ ?_) _)
              clear hS4 hPQ hQn Qn
              go_wp2_with fail
              exact ⟨⟨A', y :: B, by rw [HQ.out], HABn, HBn, ((HBq.out.setCell (p := ⟨g, q + 1, none⟩) Hgb.out _).setCell (p := ⟨g, q, none⟩) Hgb.out _).drew.drew, own_below HO2.out ((Below.refl _ _).drew.drew)⟩, by have := Hz.out; simp [intOf]; omega⟩
          · have X1 : (x < y) = False := eq_false hxy
            have eS : Hid (sortL (l.take (i + 1)) = A' ++ y :: x :: B) := by
              have h := sortL_put (A := A' ++ [y]) hlt HX.out (by rw [HS.out]; exact HAB.out) HBx.out (fun A2 y2 e => by have := (List.append_inj' e rfl).2; cases this; omega)
              unfold Hid; rw [h]; simp
            have HOn := Lib.hid (ownL_of (own_below HOq.out (Below.refl _ _).drew) (congrArg I64s eS.out))
            have HBd := Lib.hid HBq.out.drew
            clear hxy
            go_wp2_with fail
            refine regionL [0, 1, 2, 3, 4, 5, 6, 7, 8, 9, 10, 11, 12, 13] (fun w' => w'.cell? ⟨g, q + 1, none⟩ = some (.int .i64 x) ∧ w'.cell? ⟨g, q, none⟩ = some (.int .i64 y)) (by kernel_rfl) (⟨c2, c1⟩) (fun Qn hPQ hQn hS0 => ?_)
            iterate 14 (refine takeL (v := ?_) rfl rfl (by kernel_rfl) (by kernel_rfl) (by kernel_rfl) hPQ hS0 (by kernel_rfl) ?_ ?_; rotate_left; (focus (intro w hSw; (try dsimp only at hSw); obtain ⟨k0, k1⟩ := hSw; go_simp; (try with_reducible rfl))); (try simp only [Act.put, List.setIfInBounds_toArray, List.set_cons_zero, List.set_cons_succ]))
            refine ofL (wpAnyH_done (by kernel_rfl) (hQn.out _ _ ?_) _)
            clear hS0 hPQ hQn Qn
            go_wp2_with fail
            exact ⟨⟨i + 1, by omega, by go_num, HBd, HOn⟩, by simp [intOf]; omega⟩
    · have K2 : ((i : Int) < (l.length : Int)) = False := eq_false (by omega)
      obtain rfl : i = l.length := by omega
      rw [List.take_length] at HO
      obtain ⟨g, cap, rfl⟩ : ∃ g cap, _ = Value.slice (some ⟨g, 0, none⟩) l.length cap := by
        rcases HO.out.1.2 with ⟨_, h⟩ | ⟨g, cap, cur, h, _⟩
        · exact absurd h (by have := H0.out; omega)
        · exact ⟨g, cap, h⟩
      obtain ⟨a2, c2, e2, h2, _⟩ := ownsRow_read HO.out.1
      cases e2
      have H2 := Lib.hid h2
      clear h2
      go_wp2_with fail
      exact HR.out _ _ _ HW.out H2.out
end Go.Proofs.YtcoombhcdcniiaaGreatDoor
namespace Go.Proofs.YtcoombhcdcniiaaGreatDoor
open Go.RowKit

def vrE (l : List Int) : Int := if ckSr l = 0 then (if l.length = 1 then 14 else 0) else ckSr l
def medS (l : List Int) : Rat := Rat.divInt (at0 (sortL l) ((l.length - 1) / 2) + at0 (sortL l) (l.length / 2)) 2
theorem Srs.med {l : List Int} (h : Srs l) {k : Nat} (hk : k < l.length) : -1048576 ≤ at0 (sortL l) k ∧ at0 (sortL l) k ≤ 1048576 := by
  have hk' : k < (sortL l).length := by rw [sortL_length]; exact hk
  rw [at0_get hk']
  have hm := (sortL_perm l).mem_iff.1 (List.getElem_mem hk')
  exact ⟨h.lo _ hm, h.hi _ hm⟩
set_option maxHeartbeats 1000000 in
theorem zvariance_any (ao : Option Addr) (l : List Int) (c : Nat) (w : World) (R : Ending → World → Prop) (hl : l.length ≤ 1000000000) (hc : CellsAt w ao (I64s l)) (hE : Env w) (hR : ∀ r w', Below w.heap.size w w' → (vrE l = 0 → TxR r (varS l)) → (vrE l ≠ 0 → r = ⟨#[]⟩) → R (.returned (.tuple #[.string r, .int .i64 (vrE l)])) w') :
    Calls Tryz.prog 14 #[.slice ao l.length c] w R := by
  have HR := Lib.hid hR
  have HC := Lib.hid hc
  have HL := Lib.hid hl
  have HV : Hid (vrE l = if ckSr l = 0 then (if l.length = 1 then 14 else 0) else ckSr l) := rfl
  have HE := Lib.hid hE
  clear hE
  clear hR hc hl
  go_enter Tryz.func14, Tryz.ntmps14
  go_wp2_with fail
  refine zcheck_any ao l c _ _ HL.out HC.out ?_
  obtain ⟨e, he⟩ : ∃ e, ckSr l = e := ⟨_, rfl⟩
  rw [he]
  rw [he] at HV
  by_cases h0 : e = 0
  · subst h0
    have HS := Lib.hid (Srs.of he)
    by_cases h1 : l.length = 1
    · have K1 : ((l.length : Int) == 1) = true := by simp [h1]
      have e2 : Hid (vrE l = 14) := by unfold Hid; rw [HV.out, if_pos rfl, if_pos h1]
      rw [e2.out] at HR
      clear he h1
      go_wp2_with fail
      exact HR.out _ _ (Below.refl _ _) (fun h => absurd h (by decide)) (fun _ => rfl)
    · have K1 : ((l.length : Int) == 1) = false := by simpa using (by omega : ¬ (l.length : Int) = 1)
      have e2 : Hid (vrE l = 0) := by unfold Hid; rw [HV.out, if_pos rfl, if_neg h1]
      have h2 : Hid (2 ≤ l.length) := by have := HS.out.pos; unfold Hid; omega
      rw [e2.out] at HR
      clear he h1
      go_wp2_with fail
      refine zvar0_any ao l c _ _ HS.out h2.out HC.out HE.out fun r w1 HB HT => ?_
      have HB1 := Lib.hid HB
      have HT1 := Lib.hid HT
      clear HB HT
      go_wp2_with fail
      exact HR.out _ _ HB1.out (fun _ => HT1.out) (fun h => absurd rfl h)
  · have K : (e != 0) = true := by simpa using h0
    have e2 : Hid (vrE l = e) := by unfold Hid; rw [HV.out, if_neg h0]
    rw [e2.out] at HR
    have H0 := Lib.hid h0
    clear he h0
    go_wp2_with fail
    exact HR.out _ _ (Below.refl _ _) (fun h => absurd h H0.out) (fun _ => rfl)
set_option maxHeartbeats 1000000 in
theorem zrvariance_any (ao : Option Addr) (l : List Int) (c : Nat) (w : World) (R : Ending → World → Prop) (hl : l.length ≤ 1000000000) (hc : CellsAt w ao (I64s l)) (hR : ∀ r w', Below w.heap.size w w' → (vrE l = 0 → TxR r (varS l)) → (vrE l ≠ 0 → r = ⟨#[]⟩) → R (.returned (.tuple #[.string r, .int .i64 (vrE l)])) w') :
    Calls Tryz.prog 15 #[.slice ao l.length c] w R := by
  have HR := Lib.hid hR
  have HC := Lib.hid hc
  have HL := Lib.hid hl
  have HV : Hid (vrE l = if ckSr l = 0 then (if l.length = 1 then 14 else 0) else ckSr l) := rfl
  clear hR hc hl
  go_enter Tryz.func15, Tryz.ntmps15
  go_wp2_with fail
  refine zrcheck_any ao l c _ _ HL.out HC.out ?_
  obtain ⟨e, he⟩ : ∃ e, ckSr l = e := ⟨_, rfl⟩
  rw [he]
  rw [he] at HV
  by_cases h0 : e = 0
  · subst h0
    have HS := Lib.hid (Srs.of he)
    by_cases h1 : l.length = 1
    · have K1 : ((l.length : Int) == 1) = true := by simp [h1]
      have e2 : Hid (vrE l = 14) := by unfold Hid; rw [HV.out, if_pos rfl, if_pos h1]
      rw [e2.out] at HR
      clear he h1
      go_wp2_with fail
      exact HR.out _ _ (Below.refl _ _) (fun h => absurd h (by decide)) (fun _ => rfl)
    · have K1 : ((l.length : Int) == 1) = false := by simpa using (by omega : ¬ (l.length : Int) = 1)
      have e2 : Hid (vrE l = 0) := by unfold Hid; rw [HV.out, if_pos rfl, if_neg h1]
      have h2 : Hid (2 ≤ l.length) := by have := HS.out.pos; unfold Hid; omega
      rw [e2.out] at HR
      clear he h1
      go_wp2_with fail
      refine zdev_any ao l c _ _ HS.out h2.out HC.out fun r w1 HB HT => ?_
      have HB1 := Lib.hid HB
      have HT1 := Lib.hid HT
      clear HB HT
      go_wp2_with fail
      exact HR.out _ _ HB1.out (fun _ => HT1.out) (fun h => absurd rfl h)
  · have K : (e != 0) = true := by simpa using h0
    have e2 : Hid (vrE l = e) := by unfold Hid; rw [HV.out, if_neg h0]
    rw [e2.out] at HR
    have H0 := Lib.hid h0
    clear he h0
    go_wp2_with fail
    exact HR.out _ _ (Below.refl _ _) (fun h => absurd h H0.out) (fun _ => rfl)
set_option maxRecDepth 100000 in
set_option maxHeartbeats 2000000 in
theorem zmedian_any (ao : Option Addr) (l : List Int) (c : Nat) (w : World) (R : Ending → World → Prop) (hl : l.length ≤ 1000000000) (hc : CellsAt w ao (I64s l)) (hE : Env w) (hR : ∀ r w', Below w.heap.size w w' → (ckSr l = 0 → TxR r (medS l)) → (ckSr l ≠ 0 → r = ⟨#[]⟩) → R (.returned (.tuple #[.string r, .int .i64 (ckSr l)])) w') :
    Calls Tryz.prog 16 #[.slice ao l.length c] w R := by
  have HR := Lib.hid hR
  have HC := Lib.hid hc
  have HL := Lib.hid hl
  have HE := Lib.hid hE
  clear hE
  clear hR hc hl
  go_enter Tryz.func16, Tryz.ntmps16
  go_wp2_with fail
  refine zcheck_any ao l c _ _ HL.out HC.out ?_
  obtain ⟨e, he⟩ : ∃ e, ckSr l = e := ⟨_, rfl⟩
  rw [he]
  rw [he] at HR
  by_cases h0 : e = 0
  · subst h0
    have HS := Lib.hid (Srs.of he)
    have hp : Hid (0 < l.length) := HS.out.pos
    have hq : Hid (l.length ≤ 4096) := HS.out.few
    clear he
    go_wp2_with fail
    refine ivalues_any ao l.length c _ _ ?_
    have hb0 : Below w.heap.size w (w.alloc (.cells #[.slice ao l.length c] 22)) := (Below.refl _ _).alloc (Nat.le_refl _) _
    obtain ⟨W0, hW0⟩ : ∃ W0, w.alloc (.cells #[.slice ao l.length c] 22) = W0 := ⟨_, rfl⟩
    have hs0 : W0.heap.size = w.heap.size + 1 := by rw [← hW0]; simp
    have cB : W0.cell? ⟨w.heap.size, 0, none⟩ = some (.slice ao l.length c) := by rw [← hW0]; simp
    rw [hW0] at hb0 ⊢
    have HB0 := Lib.hid hb0
    have HS0 := Lib.hid hs0
    have HC0 := Lib.hid (HC.out.below hb0)
    have CB := Lib.hid cB
    clear hW0 hb0 hs0 cB
    go_wp2_with fail
    refine isortedV_any w.heap.size ao l l.length c _ _ rfl (by have := hq.out; omega) CB.out (by have := HS0.out; omega) HC0.out hp.out fun a c' w1 HB hs => ?_
    have HB1 := Lib.hid (bstep HB0.out HB)
    have HS1 := Lib.hid hs
    clear HB hs
    have HE1 := Lib.hid (HE.out.below HB1.out)
    obtain ⟨g, o, rfl, hgb, hdc⟩ := HS1.out.ints (by rw [sortL_length]; exact hp.out)
    obtain ⟨n, hn⟩ : ∃ n, l.length = n := ⟨_, rfl⟩
    obtain ⟨i1, hi1⟩ : ∃ i, (n - 1) / 2 = i := ⟨_, rfl⟩
    obtain ⟨i2, hi2⟩ : ∃ i, n / 2 = i := ⟨_, rfl⟩
    have lt1 : i1 < n := by have := hp.out; omega
    have lt2 : i2 < n := by have := hp.out; omega
    have s1 := hdc i1 (by rw [sortL_length, hn]; exact lt1)
    have s2 := hdc i2 (by rw [sortL_length, hn]; exact lt2)
    have b1 := HS.out.med (k := i1) (by rw [hn]; exact lt1)
    have b2 := HS.out.med (k := i2) (by rw [hn]; exact lt2)
    have hm : Hid (medS l = Rat.divInt (at0 (sortL l) i1 + at0 (sortL l) i2) 2) := by unfold Hid medS; rw [hn, hi1, hi2]
    obtain ⟨x1, hx1⟩ : ∃ x, at0 (sortL l) i1 = x := ⟨_, rfl⟩
    obtain ⟨x2, hx2⟩ : ∃ x, at0 (sortL l) i2 = x := ⟨_, rfl⟩
    rw [hx1] at s1 b1 hm
    rw [hx2] at s2 b2 hm
    obtain ⟨b11, b12⟩ := b1
    obtain ⟨b21, b22⟩ := b2
    have hn1 : 1 ≤ n ∧ n ≤ 4096 := by rw [← hn]; exact ⟨hp.out, hq.out⟩
    obtain ⟨hn1, hn2⟩ := hn1
    have K1 : IntKind.i64.wrap ((n : Int) - 1) = (n : Int) - 1 := by rw [IntKind.wrap_i64] <;> omega
    have K2 : ((n : Int) - 1).tdiv 2 = (i1 : Int) := by rw [Int.tdiv_eq_ediv_of_nonneg (by omega)]; omega
    have K3 : (n : Int).tdiv 2 = (i2 : Int) := by rw [Int.tdiv_eq_ediv_of_nonneg (by omega)]; omega
    have K4 : IntKind.i64.wrap (i1 : Int) = (i1 : Int) := by rw [IntKind.wrap_i64] <;> omega
    have K5 : IntKind.i64.wrap (i2 : Int) = (i2 : Int) := by rw [IntKind.wrap_i64] <;> omega
    have K6 : ((i1 : Int) < (n : Int)) = True := eq_true (by omega)
    have K7 : ((i2 : Int) < (n : Int)) = True := eq_true (by omega)
    have K8 : Hid (IntKind.i64.wrap (x1 + x2) = x1 + x2) := by unfold Hid; rw [IntKind.wrap_i64] <;> omega
    have Hgb := Lib.hid hgb
    rw [hn]
    clear hdc hi1 hi2 lt1 lt2 hx1 hx2 hn hgb
    go_wp2_with fail
    have HED := Lib.hid HE1.out.drew
    refine regionL [0, 1, 2, 3, 4, 5, 6, 7, 8, 9, 10, 11] (fun w' => w'.cell? ⟨g, o + i1, none⟩ = some (.int .i64 x1) ∧ w'.cell? ⟨g, o + i2, none⟩ = some (.int .i64 x2)) (by kernel_rfl) (⟨s1, s2⟩) (fun Qn hPQ hQn hS0 => ?_)
    iterate 12 (refine takeL (v := ?_) rfl rfl (by kernel_rfl) (by kernel_rfl) (by kernel_rfl) hPQ hS0 (by kernel_rfl) ?_ ?_; rotate_left; (focus (intro w hSw; (try dsimp only at hSw); obtain ⟨k0, k1⟩ := hSw; go_simp; (try with_reducible rfl))); (try simp only [Act.put, List.setIfInBounds_toArray, List.set_cons_zero, List.set_cons_succ]))
    refine ofL (wpAnyH_ready (rs := [12]) (by kernel_rfl) (by simp) ?_)
    refine AllReadyH.cons (o := _) rfl (fun K hK => ?_) AllReadyH.nil
    go_simp
    rw [K8.out]
    with_reducible refine rof_any (x1 + x2) 2 _ _ (by omega) (by omega) (by omega) (by omega) (by omega) HED.out fun r w2 hb2 hr => ?_
    have d1 := cellB hb2 hS0.1 (lt_of_cell' hS0.1)
    have d2 := cellB hb2 hS0.2 (lt_of_cell' hS0.2)
    have B2 := Lib.hid (bstep HB1.out.drew hb2)
    have T2 : Hid (TxR r (medS l)) := by rw [hm.out]; exact hr
    clear hb2 hr
    refine hK.out _ _ (⟨d1, d2⟩) (fun hS1 => toL [13, 14, 15, 16] ?_)
    clear hK K hS0
    (try simp only [Act.put, List.setIfInBounds_toArray, List.set_cons_zero, List.set_cons_succ])
    iterate 4 (refine takeL (v := ?_) rfl rfl (by kernel_rfl) (by kernel_rfl) (by kernel_rfl) hPQ hS1 (by kernel_rfl) ?_ ?_; rotate_left; (focus (intro w hSw; (try dsimp only at hSw); obtain ⟨k0, k1⟩ := hSw; go_simp; (try with_reducible rfl))); (try simp only [Act.put, List.setIfInBounds_toArray, List.set_cons_zero, List.set_cons_succ]))
    refine ofL (wpAnyH_done (by kernel_rfl) (hQn.out _ _ ?_) _)
    clear hS1 hPQ hQn Qn
    go_wp2_with fail
    exact HR.out _ _ B2.out (fun _ => T2.out) (fun h => absurd rfl h)
  · have K : (e != 0) = true := by simpa using h0
    have H0 := Lib.hid h0
    clear he h0
    go_wp2_with fail
    exact HR.out _ _ (Below.refl _ _) (fun h => absurd h H0.out) (fun _ => rfl)
set_option maxRecDepth 100000 in
set_option maxHeartbeats 2000000 in
theorem zrmedian_any (ao : Option Addr) (l : List Int) (c : Nat) (w : World) (R : Ending → World → Prop) (hl : l.length ≤ 1000000000) (hc : CellsAt w ao (I64s l)) (hR : ∀ r w', Below w.heap.size w w' → (ckSr l = 0 → TxR r (medS l)) → (ckSr l ≠ 0 → r = ⟨#[]⟩) → R (.returned (.tuple #[.string r, .int .i64 (ckSr l)])) w') :
    Calls Tryz.prog 17 #[.slice ao l.length c] w R := by
  have HR := Lib.hid hR
  have HC := Lib.hid hc
  have HL := Lib.hid hl
  clear hR hc hl
  go_enter Tryz.func17, Tryz.ntmps17
  go_wp2_with fail
  refine zrcheck_any ao l c _ _ HL.out HC.out ?_
  obtain ⟨e, he⟩ : ∃ e, ckSr l = e := ⟨_, rfl⟩
  rw [he]
  rw [he] at HR
  by_cases h0 : e = 0
  · subst h0
    have HS := Lib.hid (Srs.of he)
    have hp : Hid (0 < l.length) := HS.out.pos
    have hq : Hid (l.length ≤ 4096) := HS.out.few
    clear he
    go_wp2_with fail
    refine zrsorted_any ao l c _ _ (by have := hq.out; omega) hp.out HC.out fun a c' w1 HB hs => ?_
    have HB1 := Lib.hid HB
    have HS1 := Lib.hid hs
    clear HB hs
    obtain ⟨g, o, rfl, hgb, hdc⟩ := HS1.out.ints (by rw [sortL_length]; exact hp.out)
    obtain ⟨n, hn⟩ : ∃ n, l.length = n := ⟨_, rfl⟩
    obtain ⟨i1, hi1⟩ : ∃ i, (n - 1) / 2 = i := ⟨_, rfl⟩
    obtain ⟨i2, hi2⟩ : ∃ i, n / 2 = i := ⟨_, rfl⟩
    have lt1 : i1 < n := by have := hp.out; omega
    have lt2 : i2 < n := by have := hp.out; omega
    have s1 := hdc i1 (by rw [sortL_length, hn]; exact lt1)
    have s2 := hdc i2 (by rw [sortL_length, hn]; exact lt2)
    have b1 := HS.out.med (k := i1) (by rw [hn]; exact lt1)
    have b2 := HS.out.med (k := i2) (by rw [hn]; exact lt2)
    have hm : Hid (medS l = Rat.divInt (at0 (sortL l) i1 + at0 (sortL l) i2) 2) := by unfold Hid medS; rw [hn, hi1, hi2]
    obtain ⟨x1, hx1⟩ : ∃ x, at0 (sortL l) i1 = x := ⟨_, rfl⟩
    obtain ⟨x2, hx2⟩ : ∃ x, at0 (sortL l) i2 = x := ⟨_, rfl⟩
    rw [hx1] at s1 b1 hm
    rw [hx2] at s2 b2 hm
    obtain ⟨b11, b12⟩ := b1
    obtain ⟨b21, b22⟩ := b2
    have hn1 : 1 ≤ n ∧ n ≤ 4096 := by rw [← hn]; exact ⟨hp.out, hq.out⟩
    obtain ⟨hn1, hn2⟩ := hn1
    have K1 : IntKind.i64.wrap ((n : Int) - 1) = (n : Int) - 1 := by rw [IntKind.wrap_i64] <;> omega
    have K2 : ((n : Int) - 1).tdiv 2 = (i1 : Int) := by rw [Int.tdiv_eq_ediv_of_nonneg (by omega)]; omega
    have K3 : (n : Int).tdiv 2 = (i2 : Int) := by rw [Int.tdiv_eq_ediv_of_nonneg (by omega)]; omega
    have K4 : IntKind.i64.wrap (i1 : Int) = (i1 : Int) := by rw [IntKind.wrap_i64] <;> omega
    have K5 : IntKind.i64.wrap (i2 : Int) = (i2 : Int) := by rw [IntKind.wrap_i64] <;> omega
    have K6 : ((i1 : Int) < (n : Int)) = True := eq_true (by omega)
    have K7 : ((i2 : Int) < (n : Int)) = True := eq_true (by omega)
    have K8 : Hid (IntKind.i64.wrap (x1 + x2) = x1 + x2) := by unfold Hid; rw [IntKind.wrap_i64] <;> omega
    have Hgb := Lib.hid hgb
    rw [hn]
    clear hdc hi1 hi2 lt1 lt2 hx1 hx2 hn hgb
    go_wp2_with fail
    refine regionL [0, 1, 2, 3, 4, 5, 6, 7, 8, 9, 10, 11, 12, 13] (fun w' => w'.cell? ⟨g, o + i1, none⟩ = some (.int .i64 x1) ∧ w'.cell? ⟨g, o + i2, none⟩ = some (.int .i64 x2)) (by kernel_rfl) (⟨s1, s2⟩) (fun Qn hPQ hQn hS0 => ?_)
    iterate 14 (refine takeL (v := ?_) rfl rfl (by kernel_rfl) (by kernel_rfl) (by kernel_rfl) hPQ hS0 (by kernel_rfl) ?_ ?_; rotate_left; (focus (intro w hSw; (try dsimp only at hSw); obtain ⟨k0, k1⟩ := hSw; go_simp; (try with_reducible rfl))); (try simp only [Act.put, List.setIfInBounds_toArray, List.set_cons_zero, List.set_cons_succ]))
    refine ofL (wpAnyH_ready (rs := [14]) (by kernel_rfl) (by simp) ?_)
    refine AllReadyH.cons (o := _) rfl (fun K hK => ?_) AllReadyH.nil
    go_simp
    rw [K8.out]
    with_reducible refine yover_any (x1 + x2) 2 (by omega) (by omega) (by omega) (by omega) (by omega) _ _ fun r w2 hb2 hr => ?_
    have d1 := cellB hb2 hS0.1 (lt_of_cell' hS0.1)
    have d2 := cellB hb2 hS0.2 (lt_of_cell' hS0.2)
    have B2 := Lib.hid (bstep HB1.out.drew hb2)
    have T2 : Hid (TxR r (medS l)) := by rw [hm.out]; exact hr
    clear hb2 hr
    refine hK.out _ _ (⟨d1, d2⟩) (fun hS1 => toL [15, 16] ?_)
    clear hK K hS0
    (try simp only [Act.put, List.setIfInBounds_toArray, List.set_cons_zero, List.set_cons_succ])
    iterate 2 (refine takeL (v := ?_) rfl rfl (by kernel_rfl) (by kernel_rfl) (by kernel_rfl) hPQ hS1 (by kernel_rfl) ?_ ?_; rotate_left; (focus (intro w hSw; (try dsimp only at hSw); obtain ⟨k0, k1⟩ := hSw; go_simp; (try with_reducible rfl))); (try simp only [Act.put, List.setIfInBounds_toArray, List.set_cons_zero, List.set_cons_succ]))
    refine ofL (wpAnyH_done (by kernel_rfl) (hQn.out _ _ ?_) _)
    clear hS1 hPQ hQn Qn
    go_wp2_with fail
    exact HR.out _ _ B2.out (fun _ => T2.out) (fun h => absurd rfl h)
  · have K : (e != 0) = true := by simpa using h0
    have H0 := Lib.hid h0
    clear he h0
    go_wp2_with fail
    exact HR.out _ _ (Below.refl _ _) (fun h => absurd h H0.out) (fun _ => rfl)
end Go.Proofs.YtcoombhcdcniiaaGreatDoor
