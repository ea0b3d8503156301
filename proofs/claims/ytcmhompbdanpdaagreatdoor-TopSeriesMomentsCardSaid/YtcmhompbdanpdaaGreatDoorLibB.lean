/- Slices of slices; append from whatever source. -/
import Derived.Test.YtcmhompbdanpdaaGreatDoorLib
import Derived.Laws.AppendOwnNone
namespace Go.Proofs.YtcmhompbdanpdaaGreatDoor
open Go.RowKit

theorem wp_appendG {P : Program} {w : World} {ops : Array Oper} {rest : List Oper} {o : Oper} {a : Act} {Q : Exit → Act → World → Prop} (hgd : o.guard = none) (s x : Operand) (t : TypeId)
    (ho : o.op = .call { callee := .builtin .append, args := #[s, x], argTypes := #[t, t] })
    (base : Nat) (e : TypeId) {z : Value} {bytes : Nat} (ht : P.underlying t = some (.slice e)) (hi : (P.info? e).map (fun i => (i.zero, i.size, i.bytes)) = some (some z, 1, bytes))
    (hzs : z.cells.size = 1) (hby : bytes ≤ 4096)
    (v : Value) (n : Nat) (xs : List Value) (hs : a.eval s = v) (hown : w.ownsRow base e 1 v n xs)
    (ao : Option Addr) (m c : Nat) (news : List Value) (hm : news.length = m) (hx : a.eval x = .slice ao m c) (hnil : ao = none → m = 0 ∧ c = 0) (hc : CellsAt w ao news) (h1 : ∀ u ∈ news, u.oneCell' = true)
    (hn : n + m ≤ 1000000000) (hbase : base ≤ w.heap.size)
    (h : ∀ v' w', w'.ownsRow base e 1 v' (n + m) (xs ++ news) → w.grownBy w' v.ownBlock → (v' = .slice none 0 0 ↔ v = .slice none 0 0 ∧ m = 0) → wpList P ops Q rest (a.put o.dst v') w') : wpList P ops Q (o :: rest) a w := by
  obtain ⟨i0, q1, q2, q3, q4⟩ := info_parts hi
  cases ao with
  | none =>
    obtain ⟨rfl, rfl⟩ := hnil rfl
    obtain rfl := List.length_eq_zero_iff.1 hm
    refine wpList_append_own_none hgd s x t ho base e i0 1 ht q1 v n xs hs hown hx ?_
    exact h v w (by simpa using hown) (World.grownBy.refl _ _) (by simp)
  | some ad =>
    refine wpList_append_own w hgd s x t ho base e i0 z 1 bytes ht q1 q2 q3 q4 hzs (by omega) v n xs hs hown ad m c news hx (by omega) ?_ h1 (by unfold maxLen; omega) ?_ hbase ?_
    · intro j u hj
      have hlt : j < news.length := (List.getElem?_eq_some_iff.1 hj).1
      obtain ⟨b, o, e, _, hcl⟩ := hc (by omega)
      cases e
      have : (⟨b, o, none⟩ : Addr).add j = ⟨b, o + j, none⟩ := by unfold Addr.add; split <;> simp_all
      rw [this, hcl j hlt, List.getD_eq_getElem?_getD, hj]; rfl
    · exact Nat.le_trans (Nat.mul_le_mul_left _ hby) (by omega)
    · intro v' w' h2 h3 h4; exact h v' w' h2 h3 h4

/-- A row of ints of the call's own (nil just where it is empty). -/
def RowV (e : TypeId) (w : World) (base : Nat) (v : Value) (l : List Int) : Prop := OwnL w base e 1 v l.length (I64s l)
def RowsV (e : TypeId) (w : World) (base : Nat) (vs : List Value) (ls : List (List Int)) : Prop :=
  vs.length = ls.length ∧ ∀ i, i < ls.length → RowV e w base (vs.getD i undef) (ls.getD i [])

theorem ownsRow_elem {w : World} {base : Nat} {e : TypeId} {v : Value} {n : Nat} {xs : List Value} (h : w.ownsRow base e 1 v n xs) {g : Nat} (hg : v.ownBlock = some g) :
    ∃ cur, w.heap[g]? = some (.cells cur e (0, 0)) := by
  rcases h.2 with ⟨rfl, _⟩ | ⟨g', cap, cur, rfl, _, hgg, _⟩
  · simp [Value.ownBlock] at hg
  · simp [Value.ownBlock] at hg; subst hg; exact ⟨cur, hgg⟩

/-- Another element type, another block. -/
theorem ownBlock_ne {w : World} {base base' : Nat} {e e' : TypeId} {v v' : Value} {n n' : Nat} {xs xs' : List Value} (h : w.ownsRow base e 1 v n xs) (h' : w.ownsRow base' e' 1 v' n' xs') (he : e ≠ e') :
    v.ownBlock = none ∨ v.ownBlock ≠ v'.ownBlock := by
  cases hv : v.ownBlock with
  | none => exact .inl rfl
  | some g =>
    refine .inr fun e2 => ?_
    obtain ⟨c1, h1⟩ := ownsRow_elem h hv
    obtain ⟨c2, h2⟩ := ownsRow_elem h' e2.symm
    rw [h1] at h2; cases h2; exact he rfl

theorem RowV.kept {e e' : TypeId} {w w' : World} {base base' : Nat} {v vn : Value} {l : List Int} {n : Nat} {xs : List Value} (h : RowV e w base v l) (hn : w.ownsRow base' e' 1 vn n xs) (he : e ≠ e')
    (hg : w.grownBy w' vn.ownBlock) : RowV e w' base v l := ⟨h.1.kept hg (ownBlock_ne h.1 hn he), h.2⟩
theorem RowV.below {e : TypeId} {w w' : World} {base : Nat} {v : Value} {l : List Int} (h : RowV e w base v l) (hb : Below w.heap.size w w') : RowV e w' base v l := OwnL.below h hb
theorem RowV.mono {e : TypeId} {w : World} {base base' : Nat} {v : Value} {l : List Int} (h : RowV e w base v l) (hb : base' ≤ base) : RowV e w base' v l := by
  refine ⟨⟨h.1.1, ?_⟩, h.2⟩
  rcases h.1.2 with h1 | ⟨g, cap, cur, h1, h2, h3⟩
  · exact .inl h1
  · exact .inr ⟨g, cap, cur, h1, by omega, h3⟩
theorem OwnL.mono {w : World} {base base' : Nat} {e : TypeId} {size : Nat} {v : Value} {n : Nat} {xs : List Value} (h : OwnL w base e size v n xs) (hb : base' ≤ base) : OwnL w base' e size v n xs := by
  refine ⟨⟨h.1.1, ?_⟩, h.2⟩
  rcases h.1.2 with h1 | ⟨g, cap, cur, h1, h2, h3⟩
  · exact .inl h1
  · exact .inr ⟨g, cap, cur, h1, by omega, h3⟩
theorem RowsV.below {e : TypeId} {w w' : World} {base : Nat} {vs : List Value} {ls : List (List Int)} (h : RowsV e w base vs ls) (hb : Below w.heap.size w w') : RowsV e w' base vs ls :=
  ⟨h.1, fun i hi => (h.2 i hi).below hb⟩
theorem RowsV.mono {e : TypeId} {w : World} {base base' : Nat} {vs : List Value} {ls : List (List Int)} (h : RowsV e w base vs ls) (hb : base' ≤ base) : RowsV e w base' vs ls :=
  ⟨h.1, fun i hi => (h.2 i hi).mono hb⟩
theorem RowsV.kept {e e' : TypeId} {w w' : World} {base base' : Nat} {vs : List Value} {ls : List (List Int)} {vn : Value} {n : Nat} {xs : List Value} (h : RowsV e w base vs ls) (hn : w.ownsRow base' e' 1 vn n xs) (he : e ≠ e')
    (hg : w.grownBy w' vn.ownBlock) : RowsV e w' base vs ls := ⟨h.1, fun i hi => (h.2 i hi).kept hn he hg⟩
theorem RowsV.nil (e : TypeId) (w : World) (base : Nat) : RowsV e w base [] [] := ⟨rfl, fun i hi => absurd hi (by simp)⟩
theorem RowsV.append {e : TypeId} {w : World} {base : Nat} {vs vs' : List Value} {ls ls' : List (List Int)} (h : RowsV e w base vs ls) (h' : RowsV e w base vs' ls') : RowsV e w base (vs ++ vs') (ls ++ ls') := by
  refine ⟨by simp [h.1, h'.1], fun i hi => ?_⟩
  by_cases hlt : i < ls.length
  · have := h.2 i hlt
    rw [List.getD_eq_getElem?_getD, List.getElem?_append_left (by rw [h.1]; exact hlt), List.getD_eq_getElem?_getD, List.getElem?_append_left hlt]
    rw [List.getD_eq_getElem?_getD, List.getD_eq_getElem?_getD] at this
    exact this
  · have := h'.2 (i - ls.length) (by simp at hi; omega)
    rw [List.getD_eq_getElem?_getD, List.getElem?_append_right (by rw [h.1]; omega), List.getD_eq_getElem?_getD, List.getElem?_append_right (by omega), h.1]
    rw [List.getD_eq_getElem?_getD, List.getD_eq_getElem?_getD] at this
    exact this
theorem RowsV.one {e : TypeId} {w : World} {base : Nat} {v : Value} {l : List Int} (h : RowV e w base v l) : RowsV e w base [v] [l] :=
  ⟨rfl, fun i hi => by obtain rfl : i = 0 := by simpa using hi
                       exact h⟩
theorem RowV.nil (e : TypeId) (w : World) (base : Nat) : RowV e w base (.slice none 0 0) [] := OwnL.nil _ _ _ _
theorem RowV.one {e : TypeId} {w : World} {base : Nat} {v : Value} {l : List Int} (h : RowV e w base v l) : v.oneCell' = true := by
  obtain ⟨ao, c, rfl, _⟩ := OwnL.read h; rfl
theorem RowsV.oneCell {e : TypeId} {w : World} {base : Nat} {vs : List Value} {ls : List (List Int)} (h : RowsV e w base vs ls) : ∀ u ∈ vs, u.oneCell' = true := by
  intro u hu
  obtain ⟨i, hi, rfl⟩ := List.mem_iff_getElem.1 hu
  have := (h.2 i (by rw [← h.1]; exact hi)).one
  rw [List.getD_eq_getElem?_getD, List.getElem?_eq_getElem hi] at this
  exact this
theorem OwnL.read2 {w : World} {base : Nat} {e : TypeId} {size : Nat} {v : Value} {n : Nat} {xs : List Value} (h : OwnL w base e size v n xs) :
    ∃ ao c, v = .slice ao n c ∧ CellsAt w ao xs ∧ (ao = none → n = 0 ∧ c = 0) := by
  obtain ⟨ao, c, rfl, h1, _, h2⟩ := h.read
  refine ⟨ao, c, rfl, h1, fun e => ?_⟩
  subst e
  have h3 : n = 0 := h2.1 rfl
  have := h.2.2 h3
  cases this
  exact ⟨rfl, rfl⟩
theorem OwnL.kept' {w w' : World} {base : Nat} {e : TypeId} {v : Value} {n : Nat} {xs : List Value} {row : Option Nat} (h : OwnL w base e 1 v n xs) (hg : w.grownBy w' row) (hr : ∀ g, row = some g → g < base) : OwnL w' base e 1 v n xs := by
  refine ⟨h.1.kept hg ?_, h.2⟩
  cases hv : v.ownBlock with
  | none => exact .inl rfl
  | some g =>
    refine .inr fun e2 => ?_
    have h1 := (h.1.lt g hv).1
    have h2 := hr g e2.symm
    omega
theorem OwnL.lit1 (w : World) (base : Nat) (e : TypeId) (u : Value) (hb : base ≤ w.heap.size) : OwnL (w.alloc (.cells #[u] e)) base e 1 (.slice (some ⟨w.heap.size, 0, none⟩) 1 1) 1 [u] :=
  ⟨World.ownsRow_lit w #[u] 1 hb (by unfold maxLen; omega) rfl, by simp⟩
theorem CellsAt.new1 (w : World) (u : Value) (e : TypeId) : CellsAt (w.alloc (.cells #[u] e)) (some ⟨w.heap.size, 0, none⟩) [u] := by
  intro _
  refine ⟨_, 0, rfl, by simp, fun j hj => ?_⟩
  obtain rfl : j = 0 := by simpa using hj
  exact Go.Proofs.YtcmhompbdanpdaaGreatDoor.new1 w u e 0 u rfl
theorem OwnL.of {w : World} {base : Nat} {e : TypeId} {v : Value} {n : Nat} {xs : List Value} (h : w.ownsRow base e 1 v (n + 1) xs) : OwnL w base e 1 v (n + 1) xs := by
  refine ⟨h, ?_⟩
  rcases h.2 with ⟨rfl, h2⟩ | ⟨g, cap, cur, rfl, _⟩
  · omega
  · simp

end Go.Proofs.YtcmhompbdanpdaaGreatDoor
