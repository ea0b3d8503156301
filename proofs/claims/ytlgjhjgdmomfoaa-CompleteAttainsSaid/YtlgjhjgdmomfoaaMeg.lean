/- slices.Concat of lists of names; slices.Sorted(slices.Values(..)). As many redundant dimensions as dimensions, less names, plus groups; the groups' names, sorted, are the names. No program in sight. The walks of slices.Collect, slices.Sorted and of the law CompleteCounts. (Printed by gen_countlaw.py.) -/
import Derived.Sort.OwnSorted
import Derived.Lib.AppendZerosOnto
import Derived.Deep.Upon
import Derived.Test.YtlgjhjgdmomfoaaCyc
import Derived.Test.YtlgjhjgdmomfoaaMdu
import Derived.Test.YtlgjhjgdmomfoaaMdl
import Derived.Test.YtlgjhjgdmomfoaaMee
import Derived.Test.YtlgjhjgdmomfoaaMdq
namespace Go.Proofs.Ytlgjhjgdmomfoaa
open Go.RowKit Go.Maps
attribute [local go_sem] Oper.semAt_some

theorem wp_append0 {P : Program} {w : World} {ops : Array Oper} {rest : List Oper} {o : Oper} {a : Act} {Q : Exit → Act → World → Prop} (hgd : o.guard = none) (s x : Operand) (t : TypeId)
    (ho : o.op = .call { callee := .builtin .append, args := #[s, x], argTypes := #[t, t] })
    (base : Nat) (e : TypeId) {z : Value} {size bytes : Nat} (ht : P.underlying t = some (.slice e)) (hi : (P.info? e).map (fun i => (i.zero, i.size, i.bytes)) = some (some z, size, bytes))
    (v : Value) (n : Nat) (xs : List Value) (hs : a.eval s = v) (hown : w.ownsRow base e size v n xs)
    (a2 : Option Addr) (c2 : Nat) (hx : a.eval x = .slice a2 0 c2) (h : wpList P ops Q rest (a.put o.dst v) w) : wpList P ops Q (o :: rest) a w := by
  obtain ⟨i0, q1, q2, q3, q4⟩ := info_parts hi
  refine wpList_plain hgd fun K hK => ?_
  have hsrc : Src P i0.size t (.slice a2 0 c2) 0 [] w := by
    cases a2 with
    | some ad => exact Src.ofSlice w ht ad 0 c2 [] (by simp) (by simp) (by simp)
    | none => exact Src.ofNil w ht c2
  have hrun : (Builtin.append_ #[t, t] o.type #[v, .slice a2 0 c2]).run P w = .ok v w := by
    rcases hown.2 with ⟨rfl, _⟩ | ⟨g, cap, cur, rfl, _, _, hnc, _⟩
    · exact run_append_nothing w t t o.type e i0 ht q1 none 0 0 (Nat.le_refl _) _ hsrc
    · exact run_append_nothing w t t o.type e i0 ht q1 (some ⟨g, 0, none⟩) n cap hnc _ hsrc
  unfold Oper.wp
  simp [execOp, ho, resolve, invoke, builtin, hs, hx, hrun, Result.andThen]
  exact hK _ _ h
/-- As wp_appendT, the source whatever it is where it is empty. -/
theorem wp_appendN {P : Program} {w : World} {ops : Array Oper} {rest : List Oper} {o : Oper} {a : Act} {Q : Exit → Act → World → Prop} (hgd : o.guard = none) (s x : Operand) (t : TypeId)
    (ho : o.op = .call { callee := .builtin .append, args := #[s, x], argTypes := #[t, t] })
    (base : Nat) (e : TypeId) {z : Value} {size bytes : Nat} (ht : P.underlying t = some (.slice e)) (hi : (P.info? e).map (fun i => (i.zero, i.size, i.bytes)) = some (some z, size, bytes))
    (hzs : z.cells.size = size) (hsz : 0 < size)
    (v : Value) (n : Nat) (xs : List Value) (hs : a.eval s = v) (hown : w.ownsRow base e size v n xs)
    (ad : Option Addr) (m c : Nat) (news : List Value) (hm : news.length = m * size) (hx : a.eval x = .slice ad m c) (hc : CellsAt w ad news) (h1 : ∀ u ∈ news, u.oneCell' = true)
    (hn : n + m ≤ 9223372036854775807) (hbytes : (n + m) * bytes ≤ 140737488355328) (hbase : base ≤ w.heap.size)
    (h : ∀ v' w', w'.ownsRow base e size v' (n + m) (xs ++ news) → Below base w w' → wpList P ops Q rest (a.put o.dst v') w') : wpList P ops Q (o :: rest) a w := by
  by_cases h0 : m = 0
  · subst h0
    obtain rfl : news = [] := List.length_eq_zero_iff.1 (by simpa using hm)
    exact wp_append0 hgd s x t ho base e ht hi v n xs hs hown ad c hx (h v w (by simpa using hown) (Below.refl _ _))
  · obtain ⟨b, o', e', _, _⟩ := hc (by rw [hm]; exact Nat.mul_pos (by omega) hsz)
    subst e'
    refine wp_appendT hgd s x t ho base e ht hi hzs hsz v n xs hs hown ⟨b, o', none⟩ m c news hm hx hc h1 hn hbytes hbase ?_
    intro v' w' h2 h3 _
    exact h v' w' h2 ((Below.refl _ _).grown h3 hbase fun k hk => (hown.lt k hk).1)
set_option maxRecDepth 100000 in
set_option maxHeartbeats 2000000 in
/-- slices.Grow of nil. -/
theorem growS_any (n : Nat) (w : World) (R : Ending → World → Prop) (hn : n ≤ 1000) (hR : ∀ v w', Below w.heap.size w w' → w'.ownsRow w.heap.size 9 1 v 0 [] → R (.returned v) w') :
    Calls Try.prog 70 #[.slice none 0 0, .int .i64 n] w R := by
  have HR := Lib.hid hR
  clear hR
  by_cases h0 : n = 0
  · subst h0
    go_enter Try.func70, Try.ntmps70
    go_wp2_with fail
    exact HR.out _ _ (Below.refl _ _) (World.ownsRow_nil _ _ _ _)
  · obtain ⟨i0, q1, q2, q3, q4⟩ := info_parts Try.infoStr53
    have hold : (Builtin.firstCells i0.size 0 (.slice none 0 0)).run Try.prog w.drew = .ok ([] : List Value).toArray w.drew := run_firstCells_none w.drew i0.size 0 0 0
    have hrz : ∀ ty, (Builtin.append_ #[60, 3] ty #[.slice none 0 0, .int .i64 n]).run Try.prog w = .ok (.slice (some ⟨w.heap.size, 0, none⟩) n (grownCap w n 0 9)) (w.drew.alloc (.cells (([] : List Value).toArray ++ Builtin.zeroCells (Value.string ⟨#[]⟩).cells n ++ Builtin.zeroCells (Value.string ⟨#[]⟩).cells (grownCap w n 0 9 - n)) 9)) := fun ty => by
      have h := Lib.run_append_grow_zeros w 60 3 ty 9 i0 (.string ⟨#[]⟩) .i64 .i64 Try.underlying60 Try.underlying3 q1 q2 none 0 0 [] hold n (by omega) (by omega) (by omega) (by omega) (by rw [q4]; omega) (growslice_fits (by omega) (by rw [q4]; omega))
      rw [Nat.zero_add] at h
      exact h
    have hGn : n ≤ grownCap w n 0 9 := grownCap_ge w _ _ _
    have hGm : grownCap w n 0 9 ≤ maxLen := grownCap_le_maxLen w n 0 9 (by unfold maxLen; omega)
    obtain ⟨G, hG⟩ : ∃ G, G = grownCap w n 0 9 := ⟨_, rfl⟩
    rw [← hG] at hrz hGn hGm
    obtain ⟨C, hC⟩ : ∃ C, C = (([] : List Value).toArray ++ Builtin.zeroCells (Value.string ⟨#[]⟩).cells n ++ Builtin.zeroCells (Value.string ⟨#[]⟩).cells (G - n)) := ⟨_, rfl⟩
    rw [← hC] at hrz
    have hCs : C.size = G := by rw [hC]; simp [Builtin.zeroCells, Value.cells]; omega
    have hGm' : G ≤ 9223372036854775807 := by unfold maxLen at hGm; omega
    have HCs := Lib.hid hCs
    have HGm := Lib.hid hGm
    clear hG hC hold hCs hGm
    go_enter Try.func70, Try.ntmps70
    go_wp2_with (at_builtin; refine Lib.wpList_append_run _ rfl _ _ _ _ rfl _ _ rfl rfl _ _ (hrz _) ?_)
    exact HR.out _ _ ((Below.refl w.heap.size w).drew.alloc (by show w.heap.size ≤ w.heap.size; omega) _) ⟨rfl, .inr ⟨w.heap.size, G, C, rfl, Nat.le_refl _, World.alloc_heap_new w.drew _, by omega, HGm.out, by rw [HCs.out, Nat.mul_one], by simp⟩⟩


def flT (rows : List (List ByteArray)) : Nat → List ByteArray
  | 0 => []
  | k + 1 => flT rows k ++ rAt rows k
set_option maxRecDepth 100000 in
set_option maxHeartbeats 4000000 in
/-- slices.Concat of lists of names. -/
theorem concatG_any (ao : Option Addr) (rows : List (List ByteArray)) (n c : Nat) (w : World) (R : Ending → World → Prop) (hn : rows.length = n) (hl : n ≤ 1000000) (hT : ∀ k, k ≤ n → (flT rows k).length ≤ 1000) (hc : NsC w ao rows)
   (hR : ∀ v w', Below w.heap.size w w' → w'.ownsRow w.heap.size 9 1 v (flT rows n).length (sC (flT rows n)) → R (.returned v) w') :
    Calls Try.prog 40 #[.slice ao n c] w R := by
  have HR := Lib.hid hR
  have HC := Lib.hid hc
  have HT := Lib.hid hT
  clear hR hc hT
  go_enter Try.func40, Try.ntmps40
  go_wp2_with fail
  go_loopw [11, 3] (fun i s wr => ∃ k : Nat, k ≤ n ∧ i = .int .i64 k ∧ s = .int .i64 ((flT rows k).length : Nat) ∧ Drew w wr) (fun i _ _ => n - (intOf i).toNat)
  case atStart => exact ⟨0, Nat.zero_le _, rfl, rfl, Drew.refl _⟩
  case round =>
    obtain ⟨k, hk, rfl, rfl, hd⟩ := hrel
    have hb : Below w.heap.size w wr := hd.below _
    by_cases hlt : k < n
    · obtain ⟨b, o, a, c', rfl, h1, _⟩ := HC.out.at (j := k) (by omega)
      have d1 := cellB (Lib.hid hb).out h1 (by
        have := h1
        exact Nat.lt_of_not_le fun h => by rw [World.cell?] at this; simp [Array.getElem?_eq_none h] at this)
      have t1 := HT.out (k + 1) (by omega)
      have e1 : (flT rows (k + 1)).length = (flT rows k).length + (rAt rows k).length := by rw [flT, List.length_append]
      have w1 : IntKind.i64.wrap (((flT rows k).length : Int) + ((rAt rows k).length : Int)) = ((flT rows (k + 1)).length : Int) := by rw [IntKind.wrap_i64, e1]; omega
      obtain ⟨N1, hN1⟩ : ∃ N1, (flT rows k).length = N1 := ⟨_, rfl⟩
      obtain ⟨N2, hN2⟩ : ∃ N2, (flT rows (k + 1)).length = N2 := ⟨_, rfl⟩
      obtain ⟨N3, hN3⟩ : ∃ N3, (rAt rows k).length = N3 := ⟨_, rfl⟩
      rw [hN1, hN2, hN3] at w1
      rw [hN3] at d1
      rw [hN1]
      have H2 := Lib.hid hN2
      have k1 := eq_false (show ¬ ((N2 : Int) < 0) by omega)
      clear h1 hb e1 t1 hN1 hN2 hN3
      go_wp2_with fail
      exact ⟨⟨k + 1, by omega, by go_num, by rw [H2.out], hd⟩, by simp [intOf]; omega⟩
    · obtain rfl : k = n := by omega
      have t1 := HT.out k (Nat.le_refl _)
      go_wp2_with fail
      refine growS_any (flT rows k).length _ _ t1 ?_
      intro v1 w1 hb1 ho1
      have B1 := Lib.hid ((hb.mono (Nat.le_refl _)).trans (hb1.mono hb.size))
      have O1 := Lib.hid (ownsRow_mono ho1 hb.size)
      clear hb hb1 ho1 hd t1
      have s1 := B1.out.size
      go_wp2_with fail
      go_loopw [27, 6] (fun i v wr => ∃ j : Nat, j ≤ k ∧ i = .int .i64 j ∧ Hid (Below w.heap.size w wr) ∧ Hid (wr.ownsRow w.heap.size 9 1 v (flT rows j).length (sC (flT rows j)))) (fun i _ _ => k - (intOf i).toNat)
      case atStart => exact ⟨0, Nat.zero_le _, rfl, B1, O1⟩
      case round =>
        clear B1 O1
        obtain ⟨j, hj, rfl, HB, HO⟩ := hrel
        have sB := HB.out.size
        by_cases hlj : j < k
        · obtain ⟨b, o, a, c', rfl, h1, h2⟩ := HC.out.at (j := j) (by omega)
          have d1 := cellB HB.out h1 (by
            have := h1
            exact Nat.lt_of_not_le fun h => by rw [World.cell?] at this; simp [Array.getElem?_eq_none h] at this)
          have H2 := Lib.hid (h2.below HB.out)
          have t1 := HT.out j (by omega)
          have t2 := HT.out (j + 1) (by omega)
          have e1 : Hid ((flT rows (j + 1)).length = (flT rows j).length + (rAt rows j).length) := by unfold Hid; rw [flT, List.length_append]
          have e2 : Hid (sC (flT rows (j + 1)) = sC (flT rows j) ++ sC (rAt rows j)) := by unfold Hid; rw [flT, sC_append]
          have t3 := e1.out
          clear h1 h2
          go_wp2_with (at_builtin; refine wp_appendN rfl (.tmp 31) (.tmp 32) 60 rfl w.heap.size 9 Try.underlying60 Try.infoStr53 rfl (by decide) u6 _ _ rfl HO.out a _ c' (sC (rAt rows j)) (by rw [sC_length, Nat.mul_one]) rfl H2.out (sC_oneC _) (by omega) (by omega) (by omega) ?_; intro v3 w3 hown hb3; have O3 := Lib.hid hown; have B3 := Lib.hid (HB.out.trans hb3); clear hown hb3)
          refine ⟨⟨j + 1, by omega, by go_num, B3, ?_⟩, by simp [intOf]; omega⟩
          rw [e1.out, e2.out]; exact O3.out
        · obtain rfl : j = k := by omega
          go_wp2_with fail
          exact HR.out _ _ HB.out HO.out
/-- slices.Values: the iterator. -/
theorem values_any (ao : Option Addr) (m c : Nat) (w : World) (R : Ending → World → Prop) (hR : R (.returned (.func (.func 69) #[] #[.pointer (some ⟨w.heap.size, 0, none⟩)])) (w.alloc (.cells #[.slice ao m c] 60))) :
    Calls Try.prog 39 #[.slice ao m c] w R := by
  have HR := Lib.hid hR
  clear hR
  go_enter Try.func39, Try.ntmps39
  go_wp2_with fail
  exact HR.out
/-- What an iterator does that makes no memory: xs come, in this order. -/
def GivesE {α : Type} (F : Fence) (n : Nat) (P : Program) (g : Nat) (lb : Array Value) (encs : α → Array Value) (bs : List Nat) (xs : List α) (w0 : World) : Prop :=
  ∀ (l : Nat) (J : List α → World → Prop) (W : World), Below w0.heap.size w0 W →
    (∀ pre x W1, J pre W1 → (pre ++ [x]) <+: xs → YieldAt F (n - 1) P l (encs x) W1 fun e W' => e = .returned (.bool true) ∧ J (pre ++ [x]) W' ∧ KeepsBs bs W1 W') →
    J [] W → CallsIn F n P g (#[.func (.yield l) #[] #[]] ++ lb) W fun e W' => (∃ v, e = .returned v) ∧ J xs W'
/-- Loops and what is deferred stay. -/
def KeepsLD (W W' : World) : Prop := W.heap.size ≤ W'.heap.size ∧ ∀ k : Nat, ((∃ r, W.heap[k]? = some (Obj.loop r)) ∨ ∃ d, W.heap[k]? = some (Obj.deferred d)) → W'.heap[k]? = W.heap[k]?
def postE {α : Type} (bs : List Nat) (I : List α → World → Prop) (xs : List α) (W : World) : Exit → Act → World → Prop
  | .normal, _, W' => KeepsLD W W' ∧ KeepsBs bs W W' ∧ I xs W'
  | _, _, _ => False
theorem wpIn_rangeFunc_e {F : Fence} {n : Nat} {P : Program} {α : Type} {g : Operand} {ps : Array Tmp} {assign body : Code} {Q : Exit → Act → World → Prop} {a : Act} {w : World}
    (hro : F.round = none) (h1 : 1 ≤ n) {gf : Nat} {lb : Array Value} (hg : a.eval g = .func (.func gf) #[] lb) (hFg : F.fn gf) (eg : ∀ args w, (callFunc gf args).run P w = .ok (.enter gf args) w)
    {encs : α → Array Value} {bs : List Nat} {xs : List α} {w0 : World} (hseq : GivesE F (n - 1) P gf lb encs bs xs w0) (hb0 : Below w0.heap.size w0 w) (hps : ∀ x, (encs x).size = ps.size) (hbs : ∀ k ∈ bs, k < w.heap.size)
    (I : List α → World → Prop) (hI2 : ∀ s A B, I s A → Below A.heap.size A B → I s B) (hI3 : ∀ s A L r o, w.heap.size ≤ L → A.heap[L]? = some (.loop r) → I s A → I s (A.putObj L o))
    (h0 : I [] w) (Ax : α → Act → World → Prop) (hAx : ∀ x a' W l r o, W.heap[l]? = some (.loop r) → Ax x a' W → Ax x a' (W.putObj l o))
    (hassign : ∀ (l : Nat) (pre : List α) (x : α) (W : World) (K : Act → World → Prop), I pre W → w.heap.size ≤ W.heap.size → (pre ++ [x]) <+: xs → (∀ a' W', Below W.heap.size W W' → Ax x a' W' → K a' W') →
      assign.wpIn (F.inRound l) (n - 1 - 1) P (Exit.then K (fun _ _ _ => False)) { tmps := (ps.zip (encs x)).foldl (fun t (p, v) => t.setIfInBounds p v) a.tmps, defers := [] } W)
    (hbody : ∀ (l : Nat) (pre : List α) (x : α) (a' : Act) (W : World), I pre W → Ax x a' W → w.heap.size ≤ W.heap.size → (pre ++ [x]) <+: xs → body.wpIn (F.inRound l) (n - 1 - 1) P (postE bs I (pre ++ [x]) W) a' W)
    (hdone : ∀ (D : Nat) (W : World), w.heap.size ≤ D → I xs W → W.heap[D]? = some (.deferred (some [])) → Q .normal { a with defers := { target := .collected D, args := #[] } :: a.defers } W) :
    (Code.rangeFunc g ps assign body).wpIn F n P Q a w := by
  refine wpIn_rangeFunc ?_
  intro fn hfn
  rw [hro]
  obtain ⟨W0, hW0⟩ : ∃ W0, ((w.alloc (.deferred (some []))).alloc (.loop { state := .ready, pending := none, fn, tmps := a.tmps, params := ps, assign, body, defers := w.heap.size })) = W0 := ⟨_, rfl⟩
  have hB : w.heap.size + 2 = W0.heap.size := by rw [← hW0]; simp
  have hL : W0.heap[w.heap.size + 1]? = some (.loop { state := .ready, pending := none, fn, tmps := a.tmps, params := ps, assign, body, defers := w.heap.size }) := by
    rw [← hW0]
    have := World.alloc_heap_new (w.alloc (.deferred (some []))) (.loop { state := .ready, pending := none, fn, tmps := a.tmps, params := ps, assign, body, defers := w.heap.size }); rwa [World.size_alloc] at this
  have hK : W0.heap[w.heap.size]? = some (.deferred (some [])) := by
    rw [← hW0]; exact (Below.heap_alloc _ _ _ (by simp)).trans (World.alloc_heap_new w _)
  have hbl : Below w.heap.size w W0 := by
    rw [← hW0]; exact ((Below.refl _ w).alloc (Nat.le_refl _) _).alloc (by simp) _
  refine ⟨w.heap.size + 1, [{ target := .collected w.heap.size, args := #[] }], W0, { target := .fn (.func gf) lb, args := #[.func (.yield (w.heap.size + 1)) #[] #[]] }, W0, gf,
    #[.func (.yield (w.heap.size + 1)) #[] #[]] ++ lb, W0, ?_, ?_, ?_, ?_, fun _ => h1, ?_⟩
  · rw [← hW0]; exact run_enterLoop_outer _ _ _ _ _
  · simp only [resolve, hg]
    simp [go_sem]
  · intro f' hf'; simp [Target.leads] at hf'; subst hf'; exact hFg
  · simp [invoke, go_sem, eg]
  · clear hW0
    refine (hseq (w.heap.size + 1)
      (fun pre W => I pre W ∧ W.heap[w.heap.size + 1]? = some (.loop { state := .ready, pending := none, fn, tmps := a.tmps, params := ps, assign, body, defers := w.heap.size }) ∧ W.heap[w.heap.size]? = some (.deferred (some [])))
      W0 (hb0.trans (hbl.mono hb0.size))
      ?_ ⟨hI2 _ _ _ h0 hbl, hL, hK⟩).mono ?_
    · rintro pre x W ⟨hi, hl, hk⟩ hpre
      have hlt : w.heap.size + 1 < W.heap.size := (Array.getElem?_eq_some_iff.1 hl).1
      refine ⟨fn, _, assign, body, run_yield (P := P) (args := encs x) hl (hps x), roundIn_of_wpIn hfn (hassign _ pre x W _ hi (by omega) hpre ?_)⟩
      intro a' Wa hba hax
      have hla := (hba.block _ hlt).trans hl
      have hka := (hba.block w.heap.size (by omega)).trans hk
      have hia := hI2 _ _ _ hi hba
      have hsa := hba.size
      refine ⟨_, run_beginRound hla rfl, ?_⟩
      refine wpIn_mono (hbody _ pre x a' _ (hI3 _ _ _ _ _ (by omega) hla hia) (hAx _ _ _ _ _ _ hla hax) (by simp; omega) hpre) ?_
      rintro e a3 W3 hpost
      cases e with
      | normal =>
        obtain ⟨k1, k2, k3⟩ := hpost
        have hl3 := (k1.2 (w.heap.size + 1) (.inl ⟨_, World.putObj_heap_same (by omega)⟩)).trans (World.putObj_heap_same (by omega))
        have hkp : ∀ o, (Wa.putObj (w.heap.size + 1) o).heap[w.heap.size]? = some (.deferred (some [])) := fun o => (World.putObj_heap_other (by omega)).trans hka
        have hk3 := (k1.2 w.heap.size (.inr ⟨_, hkp _⟩)).trans (hkp _)
        refine ⟨_, _, run_endRound (P := P) none hl3, rfl, ⟨hI3 _ _ _ _ _ (by omega) hl3 k3, World.putObj_heap_same (Array.getElem?_eq_some_iff.1 hl3).1, (World.putObj_heap_other (by omega)).trans hk3⟩, ?_⟩
        intro k hk'
        have h2 := hbs k hk'
        exact ((World.putObj_heap_other (by omega)).trans (k2 k hk')).trans ((World.putObj_heap_other (by omega)).trans (hba.block k (by omega)))
      | ret => exact hpost.elim
      | exit id => exact hpost.elim
      | goto t => exact hpost.elim
      | panic ch => exact hpost.elim
      | outgrown => exact hpost.elim
    · rintro e W2 ⟨⟨v, rfl⟩, hi, hl, hk⟩
      have hlt : w.heap.size + 1 < W2.heap.size := (Array.getElem?_eq_some_iff.1 hl).1
      exact ⟨none, _, run_endLoop (P := P) hl (by simp), hdone _ _ (Nat.le_refl _) (hI3 _ _ _ _ _ (by omega) hl hi) ((World.putObj_heap_other (by omega)).trans hk)⟩
def nmEnc (ks : List ByteArray) (i : Nat) : Array Value := #[.string (kAt ks i)]
theorem range_pre {n : Nat} {pre : List Nat} {x : Nat} (h : (pre ++ [x]) <+: List.range n) : pre.length < n ∧ pre = List.range pre.length ∧ x = pre.length := by
  have hl := h.length_le
  simp at hl
  have h2 : List.range (pre.length + 1) <+: List.range n := by
    refine List.prefix_iff_eq_take.2 ?_
    rw [List.length_range, List.take_range, Nat.min_eq_left (by omega)]
  have h3 : (pre ++ [x]) = List.range (pre.length + 1) := by
    have e1 := List.prefix_iff_eq_take.1 h
    have e2 := List.prefix_iff_eq_take.1 h2
    rw [e2, List.length_range, e1]; simp
  rw [List.range_succ] at h3
  have h4 := List.append_inj h3 (by simp)
  exact ⟨by omega, h4.1, by simpa using h4.2⟩
set_option maxHeartbeats 1000000 in
theorem values1_gives (F : Fence) (n : Nat) (h84 : F.fn 69) (hro : F.round = none) (_hn : 1 ≤ n) (Bn : Nat) (bs : List Nat) (ao : Option Addr) (ks : List ByteArray) (m c : Nat) (w0 : World)
    (hm : ks.length = m) (hl : m ≤ 1000000) (hB : w0.cell? ⟨Bn, 0, none⟩ = some (.slice ao m c)) (hBl : Bn < w0.heap.size) (hBm : Bn ∈ bs) (hc : CellsAt w0 ao (sC ks)) (hbm : 0 < m → ∀ b o, ao = some ⟨b, o, none⟩ → b ∈ bs) :
    GivesE F n Try.prog 69 #[.pointer (some ⟨Bn, 0, none⟩)] (nmEnc ks) bs (List.range m) w0 := by
  intro l J W hW hY hJ0
  have HY := Lib.hid hY
  have HC := Lib.hid hc
  have HW := Lib.hid hW
  have HBm := Lib.hid hBm
  have Hbm := Lib.hid hbm
  have HBc := Lib.hid ((hW.cell (p := ⟨Bn, 0, none⟩) hBl).trans hB)
  have Hm := Lib.hid hm
  clear hY hc hW hB hBm hbm hm
  refine callsIn_of_wp Try.func69 rfl h84 ?_ hro
  simp only [Try.ntmps69, List.size_toArray, List.length_cons, List.length_nil, Nat.reduceAdd, Nat.reduceSub, Array.replicate_succ, Array.replicate_zero, List.push_toArray, List.append_toArray, List.nil_append, List.cons_append]
  have hb0 := HBc.out
  gi_wp2
  gi_loopw [7] (fun p wr => ∃ k : Nat, k ≤ m ∧ p = .int .i64 k ∧ J (List.range k) wr ∧ KeepsBs bs W wr) (fun p _ => m - (intOf p).toNat)
  case atStart => exact ⟨0, Nat.zero_le _, rfl, hJ0, fun _ _ => rfl⟩
  case round =>
    obtain ⟨k, hk, rfl, hJ, hK⟩ := hrel
    by_cases hlt : k < m
    · obtain ⟨b, o, rfl, hbb, _⟩ := HC.out (by rw [sC_length, Hm.out]; omega)
      have a0 := HC.out.get rfl (sC_get (show k < ks.length by rw [Hm.out]; exact hlt))
      have hbk : wr.heap[b]? = w0.heap[b]? := (hK b (Hbm.out (by omega) b o rfl)).trans (HW.out.block b hbb)
      have d0 := (World.cell?_of_block (a := ⟨b, o + k, none⟩) hbk).trans a0
      have hb1 := (World.cell?_of_block (a := ⟨Bn, 0, none⟩) (hK Bn HBm.out)).trans HBc.out
      have hpre : (List.range k ++ [k]) <+: List.range m := by
        rw [← List.range_succ]
        refine List.prefix_iff_eq_take.2 ?_
        rw [List.length_range, List.take_range, Nat.min_eq_left (by omega)]
      obtain ⟨fn, tmps, assign, body, hy, hR⟩ := HY.out (List.range k) k wr hJ hpre
      unfold nmEnc at hy
      have HK := Lib.hid hK
      clear hK hJ hb0 hbk a0 hpre
      gi_wp2
      refine hR.mono ?_
      rintro e W3 ⟨rfl, hJ3, hb3⟩
      have HB3 := Lib.hid hb3
      have HI3 : Hid (J (List.range (k + 1)) W3) := by unfold Hid; rw [List.range_succ]; exact hJ3
      clear hJ3 hb3 d0 hb1
      gi_wp2
      go_roundw
      case rel => exact ⟨k + 1, by omega, by go_num, HI3.out, fun x hx => (HB3.out x hx).trans (HK.out x hx)⟩
      case measure => simp [intOf] <;> omega
    · obtain rfl : k = m := by omega
      gi_wp2
      go_end0
      exact ⟨⟨_, rfl⟩, hJ⟩
def nmBs (m : Nat) (ao : Option Addr) : List Nat := if m = 0 then [] else match ao with | some a => [a.block] | none => []
theorem row_not_obj {W : World} {base n : Nat} {v : Value} {xs : List Value} {L : Nat} (h : W.ownsRow base 9 1 v n xs) (hL : ∀ cs t f, W.heap[L]? ≠ some (.cells cs t f)) (o : Obj) : (W.putObj L o).ownsRow base 9 1 v n xs := by
  refine ⟨h.1, ?_⟩
  rcases h.2 with h1 | ⟨g, cap, cur, h1, h2, h3, h4⟩
  · exact .inl h1
  · refine .inr ⟨g, cap, cur, h1, h2, (World.putObj_heap_other ?_).trans h3, h4⟩
    rintro rfl; exact hL _ _ _ h3
set_option maxRecDepth 100000 in
set_option maxHeartbeats 4000000 in
theorem appendSeq_any (Bn : Nat) (ao : Option Addr) (ks : List ByteArray) (m c : Nat) (w : World) (R : Ending → World → Prop) (hm : ks.length = m) (hl : m ≤ 1000) (hB : w.cell? ⟨Bn, 0, none⟩ = some (.slice ao m c)) (hBl : Bn < w.heap.size) (hc : CellsAt w ao (sC ks))
   (hR : ∀ v w', Below w.heap.size w w' → w'.ownsRow w.heap.size 9 1 v m (sC ks) → R (.returned v) w') :
    Calls Try.prog 77 #[.slice none 0 0, .func (.func 69) #[] #[.pointer (some ⟨Bn, 0, none⟩)]] w R := by
  have HR := Lib.hid hR
  have HC := Lib.hid hc
  have HB := Lib.hid hB
  have Hm := Lib.hid hm
  clear hR hc hB hm
  have h1 : 1 ≤ 6 := by omega
  refine (callsIn_wide (n := 6)).1 ?_
  refine callsIn_of_wp_marks Try.func77 rfl trivial ?_ rfl
  simp only [Try.ntmps77, List.size_toArray, List.length_cons, List.length_nil, Nat.reduceAdd, Nat.reduceSub, Array.replicate_succ, Array.replicate_zero, List.push_toArray, List.append_toArray, List.nil_append, List.cons_append]
  gi_wp2
  have q1 : Boxed (w.alloc (.cells #[.slice none 0 0] 60)) w.heap.size 60 (.slice none 0 0) := Boxed.new w _ _
  have hb0 : Below w.heap.size w (w.alloc (.cells #[.slice none 0 0] 60)) := (Below.refl _ _).alloc (Nat.le_refl _) _
  obtain ⟨W0, hW0⟩ : ∃ W0, w.alloc (.cells #[.slice none 0 0] 60) = W0 := ⟨_, rfl⟩
  have hs0 : W0.heap.size = w.heap.size + 1 := by rw [← hW0]; simp
  rw [hW0] at q1 hb0 ⊢
  clear hW0
  have HB0 := Lib.hid hb0
  have HC0 := Lib.hid (HC.out.below hb0)
  have hbm : 0 < m → ∀ b o, ao = some ⟨b, o, none⟩ → b ∈ Bn :: nmBs m ao := fun h b o e => by
    unfold nmBs; rw [if_neg (by omega), e]; simp
  have hbs : ∀ k ∈ Bn :: nmBs m ao, k < w.heap.size := fun k hk => by
    rcases List.mem_cons.1 hk with rfl | hk
    · exact hBl
    · unfold nmBs at hk
      by_cases h0 : m = 0
      · rw [if_pos h0] at hk; cases hk
      · obtain ⟨b, o, rfl, hb, _⟩ := HC.out (by rw [sC_length, Hm.out]; omega)
        rw [if_neg h0] at hk
        rw [List.mem_singleton.1 hk]; exact hb
  have Hbs := Lib.hid hbs
  refine wpIn_rangeFunc_e (xs := List.range m) (bs := Bn :: nmBs m ao) rfl h1 (gf := 69) (lb := #[.pointer (some ⟨Bn, 0, none⟩)]) rfl trivial (enters_of Try.func69 (by kernel_rfl) rfl)
    (values1_gives Fence.wide 5 trivial rfl (by omega) Bn _ ao ks m c W0 Hm.out (by omega) ((hb0.cell (p := ⟨Bn, 0, none⟩) hBl).trans HB.out) (by omega) (by simp) HC0.out hbm) (Below.refl _ _) (fun _ => rfl)
    (fun k hk => by have := hbs k hk; omega)
    (fun pre V => ∃ v, Boxed V w.heap.size 60 v ∧ V.ownsRow (w.heap.size + 1) 9 1 v pre.length (sC (ks.take pre.length)) ∧ Below w.heap.size w V)
    ?stable ?put ⟨_, q1, by have h := World.ownsRow_nil W0 (w.heap.size + 1) 9 1; simpa [sC] using h, hb0⟩
    (fun x a' V => a' = { tmps := #[.slice none 0 0, .func (.func 69) #[] #[.pointer (some ⟨Bn, 0, none⟩)], .pointer (some ⟨w.heap.size, 0, none⟩), undef, .slice none 0 0, .string (kAt ks x), .func (.func 69) #[] #[.pointer (some ⟨Bn, 0, none⟩)], .string (kAt ks x), undef, undef, undef, undef, undef], defers := [] })
    (by rintro x a' V l' r o _ h; exact h) ?assign ?body ?done
  case stable =>
    rintro s A B ⟨v, h1, h2, h3⟩ hAB
    exact ⟨v, (hAB.block _ h1.lt).trans h1, ownsRow_below h2 hAB, h3.trans (hAB.mono h3.size)⟩
  case put =>
    rintro s A L r o hge hL ⟨v, h1, h2, h3⟩
    have hne : w.heap.size ≠ L := by rintro rfl; rw [h1] at hL; cases hL
    exact ⟨v, (World.putObj_heap_other hne).trans h1, row_not_obj h2 (fun cs t f e => by rw [hL] at e; cases e) o, h3.trans ⟨rfl, rfl, rfl, by simp, fun k hk => World.putObj_heap_other (by omega)⟩⟩
  case assign =>
    rintro l' pre x V K hi hsz hpre hK
    unfold nmEnc
    gi_wp2
    exact hK _ _ (Below.refl _ _) rfl
  case done =>
    rintro D V hD ⟨v, h1, h2, h3⟩ hK
    rw [List.length_range, List.take_of_length_le (by rw [Hm.out]; exact Nat.le_refl _)] at h2
    have hcl := h1.cell
    have H2 := Lib.hid h2
    have H3 := Lib.hid h3
    clear h1 h2 h3
    gi_wp2
    refine endM (v := v) hK (res1 (t := 4) rfl rfl) (fun hp => HR.out v _ (H3.out.trans (hp.mono (by omega))) (row_not_obj (ownsRow_mono H2.out (by omega)) (fun cs t f e => by rw [hK] at e; cases e) _))
  case body =>
    rintro l' pre x a' V ⟨v, hb, ho, hB3⟩ rfl hsz hpre
    obtain ⟨hlt, _, hxe⟩ := range_pre hpre
    subst hxe
    obtain ⟨k, hk⟩ : ∃ k, pre.length = k := ⟨_, rfl⟩
    have hpl : Hid ((pre ++ [pre.length]).length = k + 1) := by unfold Hid; rw [List.length_append, hk]; rfl
    rw [hk] at ho hlt
    rw [hk] at hpl ⊢
    have htk : Hid (sC (ks.take (k + 1)) = sC (ks.take k) ++ [.string (kAt ks k)]) := by
      have hk' : k < ks.length := by rw [Hm.out]; exact hlt
      unfold Hid
      rw [List.take_succ_eq_append_getElem hk', sC_append]
      congr 1
      unfold kAt
      rw [List.getD_eq_getElem?_getD, List.getElem?_eq_getElem hk']; rfl
    obtain ⟨nm, hnm⟩ : ∃ nm, kAt ks k = nm := ⟨_, rfl⟩
    obtain ⟨L, hL⟩ : ∃ L, sC (ks.take k) = L := ⟨_, rfl⟩
    rw [hnm, hL] at htk
    rw [hL] at ho
    rw [hnm]
    have hcl := hb.cell
    have hfr := hb.frozen
    have hbl := hb.lt
    have HOa : Hid ((V.alloc (.cells #[.string nm] 9)).ownsRow (w.heap.size + 1) 9 1 v k L) := ownsRow_below ho ((Below.refl _ _).alloc (Nat.le_refl _) _)
    have HBa := Lib.hid (hb.alloc (.cells #[.string nm] 9))
    have Hb := Lib.hid hb
    have Ho := Lib.hid ho
    have H3 := Lib.hid hB3
    have hs3 := hB3.size
    clear hb ho hB3 hk hnm hL hpre
    gi_wp2_with (gi_at_builtin; refine wpIn_appendT rfl (.tmp 8) (.tmp 10) 60 rfl (w.heap.size + 1) 9 Try.underlying60 Try.infoStr53 rfl (by decide) v k L rfl HOa.out ⟨V.heap.size, 0, none⟩ 1 1 [.string nm] rfl rfl (by have h := cells_one V (.string nm) 9; simpa using h) (one1 _ rfl) (by omega) (by omega) (by simp; omega) ?_; intro v5 w5 hown hgrow _; obtain ⟨a5, c5, rfl, _, _⟩ := ownsRow_read hown; have O5 := Lib.hid hown; have G5 := Lib.hid hgrow; have B5 := Lib.hid (HBa.out.kept hgrow (Boxed.not_row HBa.out (by decide) HOa.out)); have b5c := B5.out.cell; have b5f := B5.out.frozen; clear hown hgrow)
    have hown : ∀ g, v.ownBlock = some g → w.heap.size + 1 ≤ g := fun g e => by
      rcases Ho.out.2 with ⟨rfl, _⟩ | ⟨g', cap, cur, rfl, h2, _⟩
      · simp [Value.ownBlock] at e
      · simp [Value.ownBlock] at e; omega
    have hkeep : ∀ q, q < V.heap.size → q ≠ w.heap.size → (∀ g, v.ownBlock = some g → q ≠ g) → (w5.setCell ⟨w.heap.size, 0, none⟩ (.slice a5 (k + 1) c5)).heap[q]? = V.heap[q]? := fun q hq hne hng => by
      rw [Below.heap_setCell _ _ _ _ hne, G5.out.block q (by simp; omega) (fun e => hng q e.symm rfl)]
      exact Below.heap_alloc _ _ _ hq
    refine ⟨⟨?_, fun q hq => ?_⟩, fun q hq => ?_, _, B5.out.set _, ?_, ?_⟩
    · have h := G5.out.size
      have h2 := (Below.setCell (Below.refl w.heap.size w5) (p := ⟨w.heap.size, 0, none⟩) (Nat.le_refl _) (.slice a5 (k + 1) c5)).size
      simp at h
      omega
    · have hql : q < V.heap.size := by
        rcases hq with ⟨_, h⟩ | ⟨_, h⟩ <;> exact lt_of_block h
      refine hkeep q hql ?_ ?_
      · rintro rfl
        have h2 : V.heap[w.heap.size]? = _ := Hb.out
        rcases hq with ⟨_, h⟩ | ⟨_, h⟩ <;> (rw [h2] at h; cases h)
      · intro g e hqg
        subst hqg
        rcases Ho.out.2 with ⟨rfl, _⟩ | ⟨g', cap, cur, rfl, h2, h3, _⟩
        · simp [Value.ownBlock] at e
        · simp [Value.ownBlock] at e
          subst e
          rcases hq with ⟨_, h⟩ | ⟨_, h⟩ <;> (rw [h3] at h; cases h)
    · have h := Hbs.out q hq
      exact hkeep q (by omega) (by omega) (fun g e => by have := hown g e; omega)
    · rw [hpl.out, htk.out]
      refine ⟨O5.out.1, ?_⟩
      rcases O5.out.2 with h | ⟨g, cap, cur, h1, h2, h3, h4⟩
      · exact .inl h
      · exact .inr ⟨g, cap, cur, h1, h2, (Below.heap_setCell _ _ _ _ (show g ≠ w.heap.size by omega)).trans h3, h4⟩
    · have hA : Below w.heap.size w (V.alloc (.cells #[.string nm] 9)) := H3.out.alloc hs3 _
      exact (hA.grown G5.out (by simp; omega) (fun j e => by have := hown j e; omega)).setCell (p := ⟨w.heap.size, 0, none⟩) (Nat.le_refl _) _
end Go.Proofs.Ytlgjhjgdmomfoaa
namespace Go.Proofs.Ytlgjhjgdmomfoaa
open Go.RowKit Go.Maps

/-! ### the names of all groups -/
theorem flT_eq (rows : List (List ByteArray)) : ∀ k, k ≤ rows.length → flT rows k = (rows.take k).flatten
  | 0, _ => by simp [flT]
  | k + 1, h => by
    have hk : k < rows.length := by omega
    rw [flT, flT_eq rows k (by omega), List.take_succ_eq_append_getElem hk, List.flatten_append]
    unfold rAt
    rw [List.getD_eq_getElem?_getD, List.getElem?_eq_getElem hk]; simp
theorem fsL_nodup (vs : List Dm) (ax : Int) (k : Nat) : (fsL vs ax k).Pairwise (· ≠ ·) := List.Pairwise.filter _ List.nodup_range
theorem gsX_perm (vs : List Dm) (ax : Int) : (gsX vs ax).flatten.Perm (nmG vs ax) := by
  have hn : (gsX vs ax).flatten.Nodup := by
    refine List.pairwise_flatten.2 ⟨fun l hl => ?_, ?_⟩
    · unfold gsX gsF at hl
      obtain ⟨f, _, rfl⟩ := List.mem_map.1 hl
      exact (gmL_up vs ax f).imp (fun {a b} h e => by subst e; exact List.lt_irrefl _ h)
    · unfold gsX gsF
      rw [List.pairwise_map]
      refine (fsL_nodup vs ax _).imp ?_
      intro f f' hne x hx y hy e
      subst e
      obtain ⟨v, h1, h2, h3⟩ := gmL_mem.1 hx
      obtain ⟨v', h1', h2', h3'⟩ := gmL_mem.1 hy
      have : v = v' := by rw [← pos_kAt (nmG_nodup vs ax) h1, ← pos_kAt (nmG_nodup vs ax) h1', h3, h3']
      subst this
      exact hne (h2.symm.trans h2')
  refine (List.perm_ext_iff_of_nodup hn (nmG_nodup vs ax)).2 fun t => ?_
  rw [List.mem_flatten]
  constructor
  · rintro ⟨l, hl, ht⟩
    unfold gsX gsF at hl
    obtain ⟨f, _, rfl⟩ := List.mem_map.1 hl
    obtain ⟨v, h1, _, rfl⟩ := gmL_mem.1 ht
    exact kAt_mem h1
  · intro ht
    have hp := pos_lt ht
    refine ⟨gmL vs ax (nmG vs ax).length (nAt (grG vs ax) (pos (nmG vs ax) t)), List.mem_map.2 ⟨_, fsL_mem.2 ⟨grG_lt hp, grG_idem hp⟩, rfl⟩, gmL_mem.2 ⟨_, hp, rfl, kAt_pos ht⟩⟩
theorem srtK_names {L : List ByteArray} {vs : List Dm} {ax : Int} (h : L.Perm (nmG vs ax)) : srtK L = nmG vs ax := by
  have e : (L.map bL).mergeSort (fun x y => decide (x ≤ y)) = (nmG vs ax).map bL := by
    have tr : ∀ a b c : List UInt8, decide (a ≤ b) = true → decide (b ≤ c) = true → decide (a ≤ c) = true := fun a b c h1 h2 => by simp only [decide_eq_true_eq] at *; exact List.le_trans h1 h2
    have to : ∀ a b : List UInt8, (decide (a ≤ b) || decide (b ≤ a)) = true := fun a b => by simp only [Bool.or_eq_true, decide_eq_true_eq]; exact List.le_total a b
    refine List.Perm.eq_of_pairwise (le := fun a b => decide (a ≤ b) = true) (fun a b _ _ h1 h2 => ?_) (List.pairwise_mergeSort tr to _) ?_ ((List.mergeSort_perm _ _).trans (h.map bL))
    · simp only [decide_eq_true_eq] at h1 h2
      exact List.le_antisymm h1 h2
    · rw [List.pairwise_map]
      exact (nmG_up vs ax).imp (fun {a b} hl => by simp only [decide_eq_true_eq]; exact List.le_of_lt hl)
  unfold srtK
  rw [e, List.map_map]
  have : (ofL ∘ bL : ByteArray → ByteArray) = id := by funext s; exact ofL_bL s
  rw [this, List.map_id]
theorem gsX_flT (vs : List Dm) (ax : Int) : flT (gsX vs ax) (gsX vs ax).length = (gsX vs ax).flatten := by rw [flT_eq _ _ (Nat.le_refl _), List.take_length]
theorem flT_mono (rows : List (List ByteArray)) : ∀ {k m : Nat}, k ≤ m → (flT rows k).length ≤ (flT rows m).length
  | k, 0, h => by obtain rfl : k = 0 := by omega
                  exact Nat.le_refl _
  | k, m + 1, h => by
    by_cases e : k = m + 1
    · subst e; exact Nat.le_refl _
    · have := flT_mono rows (k := k) (m := m) (by omega)
      rw [flT, List.length_append]; omega
theorem gsX_small {vs : List Dm} {ax : Int} (hl : vs.length ≤ 256) : ∀ k, k ≤ (gsX vs ax).length → (flT (gsX vs ax) k).length ≤ 1000 := fun k hk => by
  have h1 := flT_mono (gsX vs ax) hk
  rw [gsX_flT, (gsX_perm vs ax).length_eq] at h1
  have := nmG_len (ax := ax) hl
  omega

/-! ### the count -/
theorem grp_snoc (p q : Nat → Nat) : ∀ (is out : List Nat) (i : Nat), grp p q out (is ++ [i]) = (grp p q out is).map (mrg (nAt (grp p q out is) (p i)) (nAt (grp p q out is) (q i)))
  | [], out, i => rfl
  | j :: is, out, i => by rw [List.cons_append, grp, grp, grp_snoc p q is]
/-- The least places after the first k dimensions. -/
def grK (vs : List Dm) (ax : Int) (k : Nat) : List Nat := grp (pF vs ax) (pT vs ax) (List.range (nmG vs ax).length) (onA vs ax k)
theorem grK_inv (vs : List Dm) (ax : Int) {k : Nat} (hk : k ≤ vs.length) : GInv (pF vs ax) (pT vs ax) (nmG vs ax).length (fun i => i < k ∧ (dAt vs i).x = ax) (grK vs ax k) := by
  have h := GInv.all (onA vs ax k) _ _ (GInv.start (pF vs ax) (pT vs ax) (nmG vs ax).length) (fun _ h => h.elim) (fun j hj => onD_pos (by have := (onA_mem vs ax j k).1 hj; exact ⟨by omega, this.2⟩))
  have e : (fun j => False ∨ j ∈ onA vs ax k) = fun i => i < k ∧ (dAt vs i).x = ax := by funext j; rw [false_or]; exact propext (onA_mem vs ax j k)
  rw [e] at h; exact h
theorem Cn.image {α β : Type} {p q : Nat → α} {D : Nat → Prop} {p' q' : Nat → β} (g : α → β) (hp : ∀ i, D i → g (p i) = p' i) (hq : ∀ i, D i → g (q i) = q' i) {a b : α} (h : Cn p q D a b) : Cn p' q' D (g a) (g b) := by
  induction h with
  | refl => exact .refl
  | @fwd i _ hi ih => rw [hp i hi] at ih; rw [hq i hi]; exact ih.fwd hi
  | @bwd i _ hi ih => rw [hq i hi] at ih; rw [hp i hi]; exact ih.bwd hi
theorem jnX_first {vs : List Dm} {ax : Int} {k : Nat} (hva : ∀ j, j < vs.length → vaE (dAt vs j) = 0) (hk : onD vs ax k) : jnX (vs.take k) ax (dAt vs k).f (dAt vs k).t = true ↔ nAt (grK vs ax k) (pF vs ax k) = nAt (grK vs ax k) (pT vs ax k) := by
  have hkl := hk.1
  have hI := grK_inv vs ax (Nat.le_of_lt hkl)
  have hp := onD_pos hk
  have hat : ∀ i, i < k → dAt (vs.take k) i = dAt vs i := fun i hi => by
    unfold dAt
    rw [List.getD_eq_getElem?_getD, List.getD_eq_getElem?_getD, List.getElem?_take, if_pos hi]
  have hD : ∀ i, onD (vs.take k) ax i ↔ i < k ∧ (dAt vs i).x = ax := fun i => by
    unfold onD
    rw [List.length_take, Nat.min_eq_left (by omega)]
    constructor
    · rintro ⟨h1, h2⟩; rw [hat i h1] at h2; exact ⟨h1, h2⟩
    · rintro ⟨h1, h2⟩; rw [hat i h1]; exact ⟨h1, h2⟩
  have hDv : ∀ i, (i < k ∧ (dAt vs i).x = ax) → onD vs ax i := fun i h => ⟨by omega, h.2⟩
  have hne := va_ne (hva k hkl)
  rw [← has_jn hne, hasL_iff, rcA_mem]
  have e1 : CnN (vs.take k) ax (dAt vs k).f (dAt vs k).t ↔ Cn (fun i => (dAt vs i).f) (fun i => (dAt vs i).t) (fun i => i < k ∧ (dAt vs i).x = ax) (dAt vs k).f (dAt vs k).t := by
    constructor
    · intro h
      have h2 := Cn.image (p' := fun i => (dAt vs i).f) (q' := fun i => (dAt vs i).t) id (fun i hi => by show (dAt (vs.take k) i).f = _; rw [hat i ((hD i).1 hi).1]) (fun i hi => by show (dAt (vs.take k) i).t = _; rw [hat i ((hD i).1 hi).1]) h
      exact h2.mono fun i hi => (hD i).1 hi
    · intro h
      have h2 := Cn.image (p' := fun i => (dAt (vs.take k) i).f) (q' := fun i => (dAt (vs.take k) i).t) id (fun i hi => by show (dAt vs i).f = _; rw [hat i hi.1]) (fun i hi => by show (dAt vs i).t = _; rw [hat i hi.1]) h
      exact h2.mono fun i hi => (hD i).2 hi
  rw [e1]
  constructor
  · intro h
    exact hI.eq _ _ hp.1 (Cn.image (pos (nmG vs ax)) (fun _ _ => rfl) (fun _ _ => rfl) h)
  · intro e
    have h : Cn (pF vs ax) (pT vs ax) (fun i => i < k ∧ (dAt vs i).x = ax) (pF vs ax k) (pT vs ax k) := (hI.cn _ hp.1).trans (e ▸ (hI.cn _ hp.2).symm)
    have h2 := Cn.image (p' := fun i => (dAt vs i).f) (q' := fun i => (dAt vs i).t) (kAt (nmG vs ax)) (fun i hi => pF_name (hDv i hi)) (fun i hi => pT_name (hDv i hi)) h
    rw [pF_name hk, pT_name hk] at h2
    exact h2
def fxN (n : Nat) (L : List Nat) : Nat := ((List.range n).filter fun v => nAt L v == v).length
theorem filter_drop {α : Type} [DecidableEq α] (p : α → Bool) (b : α) (hp : p b = true) : ∀ (L : List α), L.Nodup → b ∈ L → (L.filter fun x => p x && decide (x ≠ b)).length + 1 = (L.filter p).length
  | [], _, h => absurd h (by simp)
  | y :: L, hn, hb => by
    obtain ⟨h1, h2⟩ := List.nodup_cons.1 hn
    rcases List.mem_cons.1 hb with rfl | hm
    · have e : L.filter (fun x => p x && decide (x ≠ b)) = L.filter p := List.filter_congr fun x hx => by
        have : x ≠ b := by rintro rfl; exact h1 hx
        simp [this]
      rw [List.filter_cons_of_pos hp, List.filter_cons_of_neg (by simp), e]; rfl
    · have ih := filter_drop p b hp L h2 hm
      have hy : y ≠ b := by rintro rfl; exact h1 hm
      cases e : p y with
      | true => rw [List.filter_cons_of_pos (by simp [e, hy]), List.filter_cons_of_pos e, List.length_cons, List.length_cons, ih]
      | false => rw [List.filter_cons_of_neg (by simp [e]), List.filter_cons_of_neg (by simp [e]), ih]
theorem fxN_step {p q : Nat → Nat} {n : Nat} {D : Nat → Prop} {L : List Nat} (h : GInv p q n D L) {u v : Nat} (hu : u < n) (hv : v < n) :
    fxN n (L.map (mrg (nAt L u) (nAt L v))) + (if nAt L u = nAt L v then 0 else 1) = fxN n L := by
  have ha : nAt L (nAt L u) = nAt L u := (h.eq u _ hu (h.cn u hu)).symm
  have hb : nAt L (nAt L v) = nAt L v := (h.eq v _ hv (h.cn v hv)).symm
  have hal := Nat.lt_of_le_of_lt (h.le u hu) hu
  have hbl := Nat.lt_of_le_of_lt (h.le v hv) hv
  obtain ⟨a, hae⟩ : ∃ a, nAt L u = a := ⟨_, rfl⟩
  obtain ⟨b, hbe⟩ : ∃ b, nAt L v = b := ⟨_, rfl⟩
  rw [hae] at ha hal
  rw [hbe] at hb hbl
  rw [hae, hbe]
  have hmap : ∀ x, x < n → nAt (L.map (mrg a b)) x = mrg a b (nAt L x) := fun x hx => nAt_map (by rw [h.len]; exact hx)
  by_cases e : a = b
  · subst e
    rw [if_pos rfl, Nat.add_zero]
    unfold fxN
    congr 1
    refine List.filter_congr fun x hx => ?_
    rw [hmap x (List.mem_range.1 hx)]
    have : mrg a a (nAt L x) = nAt L x := by unfold mrg; split <;> omega
    rw [this]
  · rw [if_neg e]
    unfold fxN
    have hM : max a b < n := by omega
    have hMx : nAt L (max a b) = max a b := by
      rcases Nat.le_total a b with h1 | h1
      · rw [Nat.max_eq_right h1]; exact hb
      · rw [Nat.max_eq_left h1]; exact ha
    rw [← filter_drop (fun x => nAt L x == x) (max a b) (by simpa using hMx) (List.range n) List.nodup_range (List.mem_range.2 hM)]
    congr 2
    refine List.filter_congr fun x hx => ?_
    rw [hmap x (List.mem_range.1 hx), Bool.eq_iff_iff, beq_iff_eq, Bool.and_eq_true, beq_iff_eq, decide_eq_true_iff]
    unfold mrg
    constructor
    · intro h1
      split at h1
      · rename_i h2
        by_cases hx2 : nAt L x = x
        · exact ⟨hx2, by omega⟩
        · exfalso
          have : x = a ∨ x = b := by omega
          rcases this with rfl | rfl
          · exact hx2 ha
          · exact hx2 hb
      · rename_i h2
        exact ⟨h1, fun h3 => h2 (by rw [h1, h3]; omega)⟩
    · rintro ⟨h1, h2⟩
      rw [h1]
      split <;> omega
theorem fxN_range (n : Nat) : fxN n (List.range n) = n := by
  unfold fxN
  rw [List.filter_eq_self.2 fun v hv => by rw [range_nAt (List.mem_range.1 hv)]; simp, List.length_range]
theorem count_first {vs : List Dm} {ax : Int} (hva : ∀ j, j < vs.length → vaE (dAt vs j) = 0) : ∀ k, k ≤ vs.length → fxN (nmG vs ax).length (grK vs ax k) + (onA vs ax k).length = (nmG vs ax).length + (rdF vs ax k).length
  | 0, _ => by
    show fxN _ (List.range _) + 0 = _ + 0
    rw [fxN_range]
  | k + 1, hk => by
    have ih := count_first (ax := ax) hva k (by omega)
    unfold grK at ih ⊢
    rw [onA, rdF]
    by_cases hx : (dAt vs k).x = ax
    · have hon : onD vs ax k := ⟨by omega, hx⟩
      have hj := jnX_first hva hon
      have hst := fxN_step (grK_inv vs ax (show k ≤ vs.length by omega)) (onD_pos hon).1 (onD_pos hon).2
      unfold grK at hj hst
      rw [show ((dAt vs k).x == ax) = true by simpa using hx, if_pos rfl, grp_snoc, List.length_append, List.length_singleton, Bool.true_and]
      by_cases e : jnX (vs.take k) ax (dAt vs k).f (dAt vs k).t = true
      · rw [if_pos (hj.1 e)] at hst
        rw [if_pos e, List.length_append, List.length_singleton]
        omega
      · rw [if_neg (fun h => e (hj.2 h))] at hst
        rw [if_neg e]
        omega
    · rw [show ((dAt vs k).x == ax) = false by rw [beq_eq_false_iff_ne]; exact hx, Bool.false_and, if_neg (by simp), if_neg (by simp)]
      exact ih
theorem count_all {vs : List Dm} {ax : Int} (hg : giE vs ax = 0) : (gsX vs ax).length + (onA vs ax vs.length).length = (nmG vs ax).length + (rdX vs ax).length := by
  have h := count_first (ax := ax) (giE_all hg).2 vs.length (Nat.le_refl _)
  have e1 : (gsX vs ax).length = fxN (nmG vs ax).length (grK vs ax vs.length) := by
    show (gsF vs ax _).length = _
    rw [gsF_len]; rfl
  have e2 : rdX vs ax = rdF vs ax vs.length := by unfold rdX; rw [if_pos hg]
  rw [e1, e2]; exact h
end Go.Proofs.Ytlgjhjgdmomfoaa
namespace Go.Proofs.Ytlgjhjgdmomfoaa
open Go.RowKit Go.Maps

set_option maxRecDepth 100000 in
set_option maxHeartbeats 2000000 in
theorem collect_any (Bn : Nat) (ao : Option Addr) (ks : List ByteArray) (m c : Nat) (w : World) (R : Ending → World → Prop) (hm : ks.length = m) (hl : m ≤ 1000) (hB : w.cell? ⟨Bn, 0, none⟩ = some (.slice ao m c)) (hBl : Bn < w.heap.size) (hc : CellsAt w ao (sC ks))
   (hR : ∀ v w', Below w.heap.size w w' → w'.ownsRow w.heap.size 9 1 v m (sC ks) → R (.returned v) w') :
    Calls Try.prog 67 #[.func (.func 69) #[] #[.pointer (some ⟨Bn, 0, none⟩)]] w R := by
  have HR := Lib.hid hR
  have HC := Lib.hid hc
  have HB := Lib.hid hB
  clear hR hc hB
  go_enter Try.func67, Try.ntmps67
  go_wp2_with fail
  refine appendSeq_any Bn ao ks m c _ _ hm hl HB.out hBl HC.out ?_
  intro v w1 hb ho
  have B1 := Lib.hid hb
  have O1 := Lib.hid ho
  clear hb ho
  go_wp2_with fail
  exact HR.out _ _ B1.out O1.out
set_option maxRecDepth 100000 in
set_option maxHeartbeats 2000000 in
theorem sortedV_any (Bn : Nat) (ao : Option Addr) (ks : List ByteArray) (m c : Nat) (w : World) (R : Ending → World → Prop) (hm : ks.length = m) (hl : m ≤ 1000) (hB : w.cell? ⟨Bn, 0, none⟩ = some (.slice ao m c)) (hBl : Bn < w.heap.size) (hc : CellsAt w ao (sC ks))
   (hR : ∀ a c' w', Below w.heap.size w w' → CellsAt w' a (sC (srtK ks)) → R (.returned (.slice a m c')) w') :
    Calls Try.prog 38 #[.func (.func 69) #[] #[.pointer (some ⟨Bn, 0, none⟩)]] w R := by
  subst hm
  have HR := Lib.hid hR
  have HC := Lib.hid hc
  have HB := Lib.hid hB
  clear hR hc hB
  go_enter Try.func38, Try.ntmps38
  go_wp2_with fail
  refine collect_any Bn ao ks _ c _ _ rfl hl HB.out hBl HC.out ?_
  intro v w1 hb ho
  have B1 := Lib.hid hb
  have O1 := Lib.hid ho
  clear hb ho
  go_wp2_with fail
  refine sortM_any w.heap.size ks v _ _ (by omega) O1.out ?_
  intro w2 hg ho
  have B2 := Lib.hid (B1.out.grown hg B1.out.size (fun j e => (O1.out.lt j e).1))
  obtain ⟨a2, c2, rfl, h2, _⟩ := ownsRow_read ho
  have H2 := Lib.hid h2
  clear hg ho h2
  go_wp2_with fail
  exact HR.out _ _ _ B2.out H2.out
set_option maxRecDepth 100000 in
set_option maxHeartbeats 8000000 in
theorem lawCounts_any (ao : Option Addr) (vs : List Dm) (c : Nat) (m : Nat) (w : World) (R : Ending → World → Prop) (hl : vs.length ≤ 9223372036854775807) (hcl : vs.length ≤ c) (hm : m ≤ 255) (hc : CellsAt w ao (dC vs)) (hv : DmsOk vs)
   (hR : ∀ w', Below w.heap.size w w' → R (.returned (.bool true)) w') :
    Calls Try.prog 9 #[.slice ao vs.length c, .int .u8 m] w R := by
  have HR := Lib.hid hR
  have D := Lib.hid hc
  have HV := Lib.hid hv
  clear hR hc hv
  have hm1 : Int.tmod (m : Int) 3 = ((m % 3 : Nat) : Int) := by rw [Int.tmod_eq_emod_of_nonneg (by omega)]; omega
  have hm2 : (m : Int) % 3 = ((m % 3 : Nat) : Int) := by omega
  have e4 : IntKind.i64.wrap (m : Int) = (m : Int) := by rw [IntKind.wrap_i64]; omega
  obtain ⟨ax, hax⟩ : ∃ ax : Int, ((m % 3 : Nat) : Int) = ax := ⟨_, rfl⟩
  rw [hax] at hm1 hm2
  clear hax
  obtain ⟨F, hF⟩ : ∃ F, Hid (rtB vs ax = F) := ⟨_, rfl⟩
  have U0 : Hid (Below w.heap.size w w) := Below.refl _ _
  go_enter Try.func9, Try.ntmps9
  go_wp2_with fail
  refine right22_any ao vs c ax _ _ hl D.out HV.out ?_
  rw [hF.out]
  intro w1 hb
  have U1 := Lib.hid (U0.out.trans (hb.mono U0.out.size))
  have D := Lib.hid (D.out.below hb)
  clear hb
  cases F with
  | false =>
    go_wp2_with fail
    refine awake22_any _ _ ?_
    intro w2 hb
    have U2 := Lib.hid (U1.out.trans (hb.mono U1.out.size))
    clear hb
    go_wp2_with fail
    exact HR.out _ U2.out
  | true =>
    have hFB := hF.out
    unfold rtB at hFB
    rw [Bool.and_eq_true, beq_iff_eq] at hFB
    have hg := hFB.2
    have hl2 := giE_len hg
    have eN : nmX vs ax = nmG vs ax := by unfold nmX; rw [if_pos hg]
    have eG : gsY vs ax = gsX vs ax := by unfold gsY; rw [if_pos hg]
    have hNl := nmG_len (ax := ax) hl2
    have hGl := gsY_len vs ax
    have hRl := rdX_len vs ax
    have hAl := onA_len vs ax
    rw [eG] at hGl
    have hcnt := count_all hg
    have HG := Lib.hid hg
    have HS := Lib.hid (gsX_small (ax := ax) hl2)
    clear hFB hg hF
    go_wp2_with fail
    refine namesY_any ao vs c ax _ _ hl D.out HV.out ?_
    intro a2 c2 w2 hb hN2
    have U2 := Lib.hid (U1.out.trans (hb.mono U1.out.size))
    have D := Lib.hid (D.out.below hb)
    have N2 := Lib.hid hN2
    clear hb hN2
    rw [HG.out, eN]
    have N2' := N2.out
    rw [eN] at N2'
    have N2 := Lib.hid N2'
    clear N2'
    go_wp2_with fail
    refine groupsY_any ao vs c ax _ _ hl D.out HV.out ?_
    intro a3 c3 w3 hb hG3
    have U3 := Lib.hid (U2.out.trans (hb.mono U2.out.size))
    have D := Lib.hid (D.out.below hb)
    have N2 := Lib.hid (N2.out.below hb)
    have G3 := Lib.hid hG3
    clear hb hG3
    rw [HG.out, eG]
    have G3' := G3.out
    rw [eG] at G3'
    have G3 := Lib.hid G3'
    clear G3'
    go_wp2_with fail
    refine redundantY_any ao vs c ax _ _ hl hcl D.out HV.out ?_
    intro a4 c4 w4 hb hR4
    have U4 := Lib.hid (U3.out.trans (hb.mono U3.out.size))
    have D := Lib.hid (D.out.below hb)
    have N2 := Lib.hid (N2.out.below hb)
    have G3 := Lib.hid (G3.out.below hb)
    have R4 := Lib.hid hR4
    clear hb hR4
    rw [HG.out]
    clear R4 eN eG
    obtain ⟨NN, hNN⟩ : ∃ NN, (nmG vs ax).length = NN := ⟨_, rfl⟩
    obtain ⟨NG, hNG⟩ : ∃ NG, (gsX vs ax).length = NG := ⟨_, rfl⟩
    obtain ⟨NR, hNR⟩ : ∃ NR, (rdX vs ax).length = NR := ⟨_, rfl⟩
    rw [hNN] at hNl hcnt
    rw [hNG] at hGl hcnt HS
    rw [hNR] at hRl hcnt
    rw [hNN, hNG, hNR]
    have HNN := Lib.hid hNN
    have HNG := Lib.hid hNG
    clear hNN hNG hNR
    go_wp2_with fail
    have s4 := U4.out.size
    go_loopw [44, 12] (fun j v wr => ∃ (k : Nat), k ≤ vs.length ∧ j = .int .i64 k ∧ v = .int .i64 ((onA vs ax k).length : Nat) ∧ Hid (Below w4.heap.size w4 wr)) (fun j _ _ => vs.length - (intOf j).toNat)
    case atStart => exact ⟨0, Nat.zero_le _, rfl, rfl, Below.refl _ _⟩
    case round =>
      obtain ⟨k, hk, rfl, rfl, HB⟩ := hrel
      have sB := HB.out.size
      by_cases hlt : k < vs.length
      · obtain ⟨b, o, rfl, hbb, hcell⟩ := D.out.dms (by omega)
        obtain ⟨c0, c1, c2', c3', c4'⟩ := hcell k hlt
        have d0 := cellB HB.out c0 hbb
        have d1 := cellB HB.out c1 hbb
        have d2 := cellB HB.out c2' hbb
        have d3 := cellB HB.out c3' hbb
        have d4 := cellB HB.out c4' hbb
        have hA := hAl k
        have hst : Hid (onA vs ax (k + 1) = if (dAt vs k).x == ax then onA vs ax k ++ [k] else onA vs ax k) := rfl
        obtain ⟨u, hu⟩ : ∃ u, dAt vs k = u := ⟨_, rfl⟩
        rw [hu] at d0 d1 d2 d3 d4 hst
        have HA : Hid (Below w4.heap.size w4 (wr.alloc (.cells #[.string u.f, .string u.t, .int .i64 u.x, .int .i64 u.l, .int .i64 u.h] 73))) := HB.out.alloc sB _
        clear hcell hu c0 c1 c2' c3' c4'
        cases hx : (u.x == ax) with
        | false =>
          have hst2 : Hid (onA vs ax (k + 1) = onA vs ax k) := by unfold Hid; rw [hst.out, hx, if_neg (by simp)]
          clear hst
          go_wp2_with fail
          exact ⟨⟨k + 1, by omega, by go_num, by rw [hst2.out], HA⟩, by simp [intOf]; omega⟩
        | true =>
          have hst2 : Hid ((onA vs ax (k + 1)).length = (onA vs ax k).length + 1) := by unfold Hid; rw [hst.out, hx, if_pos rfl, List.length_append]; rfl
          clear hst
          go_wp2_with fail
          exact ⟨⟨k + 1, by omega, by go_num, by rw [hst2.out]; first | rfl | go_num, HA⟩, by simp [intOf]; omega⟩
      · obtain rfl : k = vs.length := by omega
        have hb := HB.out
        obtain ⟨w5, hw5⟩ : ∃ w5, wr = w5 := ⟨_, rfl⟩
        rw [hw5] at hb ⊢
        clear hw5 HB sB
        have U5 := Lib.hid (U4.out.trans (hb.mono U4.out.size))
        have N2 := Lib.hid (N2.out.below hb)
        have G3 := Lib.hid (G3.out.below hb)
        clear hb D
        obtain ⟨A, hA⟩ : ∃ A, (onA vs ax vs.length).length = A := ⟨_, rfl⟩
        have hAk := hAl vs.length
        rw [hA] at hcnt hAk ⊢
        clear hA hAl
        have k1 : IntKind.i64.wrap ((A : Int) - (NN : Int)) = (A : Int) - (NN : Int) := by rw [IntKind.wrap_i64]; omega
        have k2 : IntKind.i64.wrap ((A : Int) - (NN : Int) + (NG : Int)) = (A : Int) - (NN : Int) + (NG : Int) := by rw [IntKind.wrap_i64]; omega
        have k3 : ((NR : Int) == (A : Int) - (NN : Int) + (NG : Int)) = true := by rw [beq_iff_eq]; omega
        have K1 := Lib.hid k1
        have K2 := Lib.hid k2
        have K3 := Lib.hid k3
        clear k1 k2 k3
        go_wp2_with fail
        refine concatG_any a3 (gsX vs ax) NG c3 _ _ HNG.out (by omega) HS.out G3.out ?_
        have hfl : flT (gsX vs ax) NG = (gsX vs ax).flatten := by rw [← HNG.out]; exact gsX_flT vs ax
        have hsk := srtK_names (gsX_perm vs ax)
        have hln : (gsX vs ax).flatten.length = NN := by rw [(gsX_perm vs ax).length_eq]; exact HNN.out
        rw [hfl]
        obtain ⟨ks, hks⟩ : ∃ ks, (gsX vs ax).flatten = ks := ⟨_, rfl⟩
        rw [hks] at hln hsk ⊢
        rw [hln]
        have Hln := Lib.hid hln
        have Hsk := Lib.hid hsk
        intro v6 w6 hb ho
        obtain ⟨a6, c6, rfl, h6, _⟩ := ownsRow_read ho
        have U6 := Lib.hid (U5.out.trans (hb.mono U5.out.size))
        have N2 := Lib.hid (N2.out.below hb)
        have C6 := Lib.hid h6
        clear hb ho h6 hfl hsk hln hks G3
        go_wp2_with fail
        refine values_any a6 NN c6 _ _ ?_
        have q7 : (w6.alloc (.cells #[.slice a6 NN c6] 60)).cell? ⟨w6.heap.size, 0, none⟩ = some (.slice a6 NN c6) := (Boxed.new w6 _ _).cell
        have hb : Below w6.heap.size w6 (w6.alloc (.cells #[.slice a6 NN c6] 60)) := (Below.refl _ _).alloc (Nat.le_refl _) _
        have hz7 : w6.heap.size < (w6.alloc (.cells #[.slice a6 NN c6] 60)).heap.size := by simp
        obtain ⟨w7, hw7⟩ : ∃ w7, w6.alloc (.cells #[.slice a6 NN c6] 60) = w7 := ⟨_, rfl⟩
        rw [hw7] at q7 hb hz7 ⊢
        have U7 := Lib.hid (U6.out.trans (hb.mono U6.out.size))
        have N2 := Lib.hid (N2.out.below hb)
        have C7 := Lib.hid (C6.out.below hb)
        have Q7 := Lib.hid q7
        clear hb q7 hw7 C6
        go_wp2_with fail
        refine sortedV_any w6.heap.size a6 ks NN c6 _ _ Hln.out (by omega) Q7.out hz7 C7.out ?_
        rw [Hsk.out]
        intro a8 c8 w8 hb h8
        have U8 := Lib.hid (U7.out.trans (hb.mono U7.out.size))
        have N2 := Lib.hid (N2.out.below hb)
        have S8 := Lib.hid h8
        have k1 := K1.out
        have k2 := K2.out
        have k3 := K3.out
        clear hb h8 C7 Q7 K1 K2 K3
        go_wp2_with fail
        refine equalS_same a8 a2 (nmG vs ax) _ c8 c2 _ _ HNN.out (by omega) S8.out N2.out ?_
        intro w9 hd
        have hb := hd.below w8.heap.size
        have U9 := Lib.hid (U8.out.trans (hb.mono U8.out.size))
        clear hb hd
        go_wp2_with fail
        refine awake22_any _ _ ?_
        intro w10 hb
        have U10 := Lib.hid (U9.out.trans (hb.mono U9.out.size))
        clear hb
        go_wp2_with fail
        exact HR.out _ U10.out
end Go.Proofs.Ytlgjhjgdmomfoaa
