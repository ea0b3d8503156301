/- Copies of a stock: the walks of slices.Clone, of, named, free, held of package stock. -/
import Derived.Test.YteoniejpfmeibaaDoorSe
import Derived.RangeFuncRecord
namespace Go.Proofs.YteoniejpfmeibaaDoor
open Go.RowKit Go.Shelf

theorem Tryd.infoBlk : (Tryd.prog.info? 66).map (fun i => (i.zero, i.size, i.bytes)) = some (some (.agg #[.int .i64 0, .int .i64 0, .int .i64 0, .string ⟨#[]⟩]), 4, 40) := by kernel_rfl

theorem wp_appendS {P : Program} {w : World} {ops : Array Oper} {rest : List Oper} {o : Oper} {a : Act} {Q : Exit → Act → World → Prop} (hgd : o.guard = none) (s x : Operand) (t : TypeId)
    (ho : o.op = .call { callee := .builtin .append, args := #[s, x], argTypes := #[t, t] })
    (base : Nat) (e : TypeId) {z : Value} {size bytes : Nat} (ht : P.underlying t = some (.slice e)) (hi : (P.info? e).map (fun i => (i.zero, i.size, i.bytes)) = some (some z, size, bytes))
    (hzs : z.cells.size = size) (hsz : 0 < size) (hby : bytes ≤ 4096)
    (v : Value) (n : Nat) (xs : List Value) (hs : a.eval s = v) (hown : w.ownsRow base e size v n xs)
    (ad : Addr) (m c : Nat) (news : List Value) (hm : news.length = m * size) (hx : a.eval x = .slice (some ad) m c) (hc : CellsAt w (some ad) news) (h1 : ∀ u ∈ news, u.oneCell' = true)
    (hn : n + m ≤ 1000000000) (hbase : base ≤ w.heap.size)
    (h : ∀ v' w', w'.ownsRow base e size v' (n + m) (xs ++ news) → w.grownBy w' v.ownBlock → (v' = .slice none 0 0 ↔ v = .slice none 0 0 ∧ m = 0) → wpList P ops Q rest (a.put o.dst v') w') : wpList P ops Q (o :: rest) a w := by
  obtain ⟨i0, q1, q2, q3, q4⟩ := info_parts hi
  refine wpList_append_own w hgd s x t ho base e i0 z size bytes ht q1 q2 q3 q4 hzs hsz v n xs hs hown ad m c news hx hm ?_ h1 (by unfold maxLen; omega) ?_ hbase h
  · intro j u hj
    obtain ⟨hlt, _⟩ := List.getElem?_eq_some_iff.1 hj
    obtain ⟨b, o, e, _, _⟩ := hc (by omega)
    cases e
    have : (⟨b, o, none⟩ : Addr).add j = ⟨b, o + j, none⟩ := by unfold Addr.add; split <;> simp_all
    rw [this]; exact hc.get rfl hj
  · exact Nat.le_trans (Nat.mul_le_mul_left _ hby) (by omega)
theorem wp_appendT {P : Program} {w : World} {ops : Array Oper} {rest : List Oper} {o : Oper} {a : Act} {Q : Exit → Act → World → Prop} (hgd : o.guard = none) (s x : Operand) (t : TypeId)
    (ho : o.op = .call { callee := .builtin .append, args := #[s, x], argTypes := #[t, t] })
    (base : Nat) (e : TypeId) {z : Value} {size bytes : Nat} (ht : P.underlying t = some (.slice e)) (hi : (P.info? e).map (fun i => (i.zero, i.size, i.bytes)) = some (some z, size, bytes))
    (hzs : z.cells.size = size) (hsz : 0 < size) 
    (v : Value) (n : Nat) (xs : List Value) (hs : a.eval s = v) (hown : w.ownsRow base e size v n xs)
    (ad : Addr) (m c : Nat) (news : List Value) (hm : news.length = m * size) (hx : a.eval x = .slice (some ad) m c) (hc : CellsAt w (some ad) news) (h1 : ∀ u ∈ news, u.oneCell' = true)
    (hn : n + m ≤ 9223372036854775807) (hbytes : (n + m) * bytes ≤ 140737488355328) (hbase : base ≤ w.heap.size)
    (h : ∀ v' w', w'.ownsRow base e size v' (n + m) (xs ++ news) → w.grownBy w' v.ownBlock → (v' = .slice none 0 0 ↔ v = .slice none 0 0 ∧ m = 0) → wpList P ops Q rest (a.put o.dst v') w') : wpList P ops Q (o :: rest) a w := by
  obtain ⟨i0, q1, q2, q3, q4⟩ := info_parts hi
  refine wpList_append_own w hgd s x t ho base e i0 z size bytes ht q1 q2 q3 q4 hzs hsz v n xs hs hown ad m c news hx hm ?_ h1 (by unfold maxLen; omega) hbytes hbase h
  intro j u hj
  obtain ⟨hlt, _⟩ := List.getElem?_eq_some_iff.1 hj
  obtain ⟨b, o, e, _, _⟩ := hc (by omega)
  cases e
  have : (⟨b, o, none⟩ : Addr).add j = ⟨b, o + j, none⟩ := by unfold Addr.add; split <;> simp_all
  rw [this]; exact hc.get rfl hj
theorem bC_one (bs : List B5) : ∀ u ∈ bC bs, u.oneCell' = true := by
  intro u hu
  unfold bC at hu
  rw [List.mem_flatMap] at hu
  obtain ⟨b, _, hb⟩ := hu
  simp only [B5.cells, List.mem_cons, List.not_mem_nil, or_false] at hb
  rcases hb with rfl | rfl | rfl | rfl <;> rfl

theorem eqNilB (w : World) (a : Option Addr) (n c : Nat) : (binOp .eql 22 (.slice a n c) (.slice none 0 0)).run Tryd.prog w = .ok (.bool a.isNone) w :=
  Lib.run_eql_slice_nil w 22 66 a n c 0 0 Tryd.underlying22
/-- slices.Clone of blocks. -/
theorem clone51_any (ao : Option Addr) (bs : List B5) (c : Nat) (w : World) (R : Ending → World → Prop) (hl : bs.length ≤ 1000000) (hn : ao = none → bs.length = 0 ∧ c = 0) (hc : CellsAt w ao (bC bs))
   (hR : ∀ v w', Below w.heap.size w w' → w'.ownsRow w.heap.size 66 4 v bs.length (bC bs) → R (.returned v) w') :
    Calls Tryd.prog 63 #[.slice ao bs.length c] w R := by
  have HR := Lib.hid hR
  have HC := Lib.hid hc
  clear hR hc
  cases ao with
  | none =>
    obtain ⟨h0, h1⟩ := hn rfl
    obtain rfl := List.length_eq_zero_iff.1 h0
    subst h1
    have hq := eqNilB
    go_enter Tryd.func63, Tryd.ntmps63
    go_wp2_with fail
    exact HR.out _ _ (Below.refl _ _) (World.ownsRow_nil _ _ _ _)
  | some a =>
    clear hn
    have HO0 : Hid ((w.alloc (.cells #[] 66)).ownsRow w.heap.size 66 4 (.slice (some ⟨w.heap.size, 0, none⟩) 0 0) 0 []) := World.ownsRow_lit w #[] 0 (Nat.le_refl _) (by decide) rfl
    have hq := eqNilB
    go_enter Tryd.func63, Tryd.ntmps63
    go_wp2_with (at_builtin; refine wp_appendS rfl (.tmp 5) (.tmp 6) 22 rfl w.heap.size 66 Tryd.underlying22 Tryd.infoBlk rfl (by decide) (by decide) (.slice (some ⟨w.heap.size, 0, none⟩) 0 0) 0 [] rfl HO0.out a bs.length c (bC bs) (bC_length bs) rfl (HC.out.below ((Below.refl _ _).alloc (Nat.le_refl _) _)) (bC_one bs) (by omega) (by simp) ?_; intro v1 w1 hown1 hgrow1 hn1; have H1 : Hid (w1.ownsRow w.heap.size 66 4 v1 bs.length (bC bs)) := (by have h := hown1; rw [Nat.zero_add, List.nil_append] at h; exact h); have Hb1 := Lib.hid (Below.grown ((Below.refl w.heap.size w).alloc (Nat.le_refl _) _) hgrow1 (by simp) (fun k e => by cases e; exact Nat.le_refl _)); clear hown1 hgrow1 hn1)
    exact HR.out _ _ Hb1.out H1.out

/-- An own copy of a stock. -/
def Copied (w : World) (base C : Nat) (most : Int) (bs : List B5) (v : Value) : Prop :=
  base ≤ C ∧ w.heap[C]? = some (.cells #[.int .i64 most, v] 87 (0, 0)) ∧ w.ownsRow base 66 4 v bs.length (bC bs)
theorem ownsRow_below {w w' : World} {base : Nat} {e : TypeId} {size : Nat} {v : Value} {n : Nat} {xs : List Value} (h : w.ownsRow base e size v n xs) (hb : Below w.heap.size w w') : w'.ownsRow base e size v n xs := by
  refine ⟨h.1, ?_⟩
  rcases h.2 with h1 | ⟨g, cap, cur, h1, h2, h3, h4⟩
  · exact .inl h1
  · exact .inr ⟨g, cap, cur, h1, h2, (hb.block g (lt_of_block h3)).trans h3, h4⟩
theorem ownsRow_mono {w : World} {base base' : Nat} {e : TypeId} {size : Nat} {v : Value} {n : Nat} {xs : List Value} (h : w.ownsRow base e size v n xs) (hb : base' ≤ base) : w.ownsRow base' e size v n xs := by
  refine ⟨h.1, ?_⟩
  rcases h.2 with h1 | ⟨g, cap, cur, h1, h2, h3⟩
  · exact .inl h1
  · exact .inr ⟨g, cap, cur, h1, by omega, h3⟩
theorem ownsRow_read {w : World} {base : Nat} {e : TypeId} {size : Nat} {v : Value} {n : Nat} {xs : List Value} (h : w.ownsRow base e size v n xs) :
    ∃ ao c, v = .slice ao n c ∧ CellsAt w ao xs ∧ (ao = none → n = 0 ∧ c = 0) := by
  rcases h.2 with ⟨h1, h2⟩ | ⟨g, cap, cur, h1, h2, h3, h4, h5, h6, h7⟩
  · subst h2
    have : xs = [] := List.length_eq_zero_iff.1 (by simpa using h.1)
    subst this
    exact ⟨none, 0, h1, CellsAt.nil _ _, fun _ => ⟨rfl, rfl⟩⟩
  · refine ⟨_, cap, h1, fun _ => ⟨g, 0, rfl, lt_of_block h3, fun j hj => ?_⟩, fun e => by cases e⟩
    have hj' : j < n * size := by rw [← h.1]; exact hj
    have hsz : n * size ≤ cur.size := by rw [h6]; exact Nat.mul_le_mul_right _ h4
    have e2 : xs[j]? = cur[j]? := by rw [← h7, List.getElem?_take, if_pos hj']; simp
    have h8 : j < cur.size := by omega
    rw [List.getD_eq_getElem?_getD, e2]
    simp [World.cell?, h3, h8]
theorem Copied.below {w w' : World} {base C : Nat} {most : Int} {bs : List B5} {v : Value} (h : Copied w base C most bs v) (hb : Below w.heap.size w w') : Copied w' base C most bs v :=
  ⟨h.1, (hb.block C (lt_of_block h.2.1)).trans h.2.1, ownsRow_below h.2.2 hb⟩
theorem Copied.mono {w : World} {base base' C : Nat} {most : Int} {bs : List B5} {v : Value} (h : Copied w base C most bs v) (hb : base' ≤ base) : Copied w base' C most bs v :=
  ⟨by have := h.1; omega, h.2.1, ownsRow_mono h.2.2 hb⟩
theorem Copied.read {w : World} {base C : Nat} {most : Int} {bs : List B5} {v : Value} (h : Copied w base C most bs v) :
    ∃ ao c, v = .slice ao bs.length c ∧ CellsAt w ao (bC bs) ∧ (ao = none → bs.length = 0 ∧ c = 0) ∧ w.cell? ⟨C, 0, none⟩ = some (.int .i64 most) ∧ w.cell? ⟨C, 1, none⟩ = some (.slice ao bs.length c) := by
  obtain ⟨ao, c, rfl, h1, h2⟩ := ownsRow_read h.2.2
  exact ⟨ao, c, rfl, h1, h2, cell_at h.2.1 rfl, cell_at h.2.1 rfl⟩

theorem ownsRow_set {w : World} {base : Nat} {e : TypeId} {size : Nat} {v : Value} {n : Nat} {xs : List Value} (h : w.ownsRow base e size v n xs) {a : Addr} (ha : a.block < base) (u : Value) : (w.setCell a u).ownsRow base e size v n xs := by
  refine ⟨h.1, ?_⟩
  rcases h.2 with h1 | ⟨g, cap, cur, h1, h2, h3, h4⟩
  · exact .inl h1
  · exact .inr ⟨g, cap, cur, h1, h2, (Below.heap_setCell _ _ _ _ (by omega)).trans h3, h4⟩

set_option maxHeartbeats 1000000 in
theorem of_any (most : Int) (ao : Option Addr) (bs : List B5) (c : Nat) (w : World) (R : Ending → World → Prop) (hl : bs.length ≤ 9223372036854775807) (hn : ao = none → bs.length = 0 ∧ c = 0) (hc : CellsAt w ao (bC bs)) (hs : StrOk bs)
   (hR1 : chkS most bs = 0 → ∀ C v w', Below w.heap.size w w' → Copied w' w.heap.size C most bs v → R (.returned (.tuple #[.pointer (some ⟨C, 0, none⟩), .int .i64 0])) w')
   (hR2 : chkS most bs ≠ 0 → ∀ w', Below w.heap.size w w' → R (.returned (.tuple #[.pointer none, .int .i64 (chkS most bs)])) w') :
    Calls Tryd.prog 42 #[.agg #[.int .i64 most, .slice ao bs.length c]] w R := by
  have HR1 := Lib.hid hR1
  have HR2 := Lib.hid hR2
  have HC := Lib.hid hc
  have HN := Lib.hid hn
  clear hR1 hR2 hc hn
  obtain ⟨w1, E1', HB1, s1, X1⟩ := box_ex w #[.int .i64 most, .slice ao bs.length c] 24
  have E1 := Lib.hid E1'
  clear E1'
  by_cases hE : chkS most bs = 0
  · have HE := Lib.hid hE
    have hlen : bs.length ≤ 256 := by
      by_cases h : bs.length ≤ 256
      · exact h
      · unfold chkS at hE; split at hE
        · rw [if_pos (by omega)] at hE; cases hE
        · cases hE
    go_enter Tryd.func42, Tryd.ntmps42
    go_wp2_with fail
    rw [E1.out]
    refine check51_any most ao bs c _ _ hl (HC.out.below HB1.out) hs ?_
    intro w2 hb2
    have HB2 := Lib.hid hb2
    have s2 := hb2.size
    have b0 := cellB hb2 (cell_at X1.out (j := 0) rfl : w1.cell? ⟨w.heap.size, 0, none⟩ = some (.int .i64 most)) s1
    have b1 := cellB hb2 (cell_at X1.out (j := 1) rfl : w1.cell? ⟨w.heap.size, 1, none⟩ = some (.slice ao bs.length c)) s1
    clear hb2
    go_wp2_with fail
    refine clone51_any ao bs c _ _ (by omega) HN.out ((HC.out.below HB1.out).below HB2.out) ?_
    intro v w3 hb3 hown3
    have HB3 : Hid (Below w.heap.size w w3) := (HB1.out.trans (HB2.out.mono (by omega))).trans (hb3.mono (by omega))
    have HO3 := Lib.hid hown3
    have s3 := hb3.size
    have X3 : Hid (w3.heap[w.heap.size]? = some (.cells #[.int .i64 most, .slice ao bs.length c] 24 (0, 0))) := heap_below (heap_below X1.out HB2.out s1) hb3 (by omega)
    have f0 := frozen_at X3.out 1
    have d0 : w3.cell? ⟨w.heap.size, 0, none⟩ = some (.int .i64 most) := cell_at X3.out rfl
    have d1 : w3.cell? ⟨w.heap.size, 1, none⟩ = some (.slice ao bs.length c) := cell_at X3.out rfl
    obtain ⟨a3, c3, hv, _⟩ := ownsRow_read hown3
    subst hv
    clear hb3 hown3 b0 b1
    go_wp2_with fail
    refine HR1.out HE.out w3.heap.size (.slice a3 bs.length c3) _ ((HB3.out.setCell (by simp) _).alloc (by simp; omega) _) ?_
    refine ⟨by omega, ?_, ?_⟩
    · have := World.alloc_heap_new (w3.setCell ⟨w.heap.size, 1, none⟩ (.slice a3 bs.length c3)) (.cells #[.int .i64 most, .slice a3 bs.length c3] 87)
      simpa using this
    · refine ownsRow_below (ownsRow_mono (ownsRow_set HO3.out (by show w.heap.size < w2.heap.size; omega) _) (by omega)) ((Below.refl _ _).alloc (Nat.le_refl _) _)
  · have HE := Lib.hid hE
    have hE' : (chkS most bs == 0) = false := by simpa using hE
    have hE'' : (chkS most bs != 0) = true := by simpa using hE
    clear hE
    go_enter Tryd.func42, Tryd.ntmps42
    go_wp2_with fail
    rw [E1.out]
    refine check51_any most ao bs c _ _ hl (HC.out.below HB1.out) hs ?_
    intro w2 hb2
    have HB2 : Hid (Below w.heap.size w w2) := HB1.out.trans (hb2.mono (by omega))
    clear hb2
    go_wp2_with fail
    exact HR2.out HE.out _ HB2.out
end Go.Proofs.YteoniejpfmeibaaDoor
