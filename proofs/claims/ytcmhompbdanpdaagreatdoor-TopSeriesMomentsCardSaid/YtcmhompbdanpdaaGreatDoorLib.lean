/- General words of these proofs: slices that are read (CellsAt), loops as a function (loopE), results in continuation form. -/
import Derived.WalkKit
import Derived.WalkSpells
import Derived.WalkLawsBesides
import Derived.BigQuiet
import Derived.Lib.Hide
import Derived.Deep.QuietTactic
import Derived.Laws.CopyOwn
import Derived.StillTailTactics
import Derived.Deep.RegionLaw
namespace Go.Proofs.YtcmhompbdanpdaaGreatDoor
open Go.RowKit

theorem ret_eq {R : Ending → World → Prop} {v v' : Value} {w : World} (h : R (.returned v) w) (e : v' = v) : R (.returned v') w := e ▸ h

/-- Nothing but draws. -/
def Drew (w w' : World) : Prop := ∃ q, w' = w.drewN q
theorem Drew.refl (w : World) : Drew w w := ⟨0, rfl⟩
theorem Drew.drewN {w w' : World} (h : Drew w w') {n : Nat} : Drew w (w'.drewN n) := by obtain ⟨q, rfl⟩ := h; exact ⟨q + n, by simp⟩
theorem Drew.trans {a b c : World} (h : Drew a b) (h' : Drew b c) : Drew a c := by obtain ⟨q, rfl⟩ := h; obtain ⟨r, rfl⟩ := h'; exact ⟨q + r, by simp⟩
theorem Drew.below {w w' : World} (h : Drew w w') (B : Nat) : Below B w w' := by obtain ⟨q, rfl⟩ := h; exact ⟨rfl, rfl, rfl, Nat.le_refl _, fun _ _ => rfl⟩

/-! ### loops -/
def loopE {σ ρ : Type} (f : Nat → σ → σ ⊕ ρ) : Nat → Nat → σ → σ ⊕ ρ
  | 0, _, s => .inl s
  | m+1, i, s => match f i s with | .inl s' => loopE f m (i+1) s' | .inr r => .inr r

section
variable {σ ρ : Type} {f : Nat → σ → σ ⊕ ρ} {n k : Nat} {s s' : σ} {r : ρ} {X : σ ⊕ ρ}
theorem loopE_step (h : Hid (loopE f (n - k) k s = X)) (hk : k < n) (hf : f k s = .inl s') : Hid (loopE f (n - (k + 1)) (k + 1) s' = X) := by
  have h := h.out
  rw [show n - k = (n - (k + 1)) + 1 from by omega] at h
  simpa [loopE, hf, Hid] using h
theorem loopE_hit (h : Hid (loopE f (n - k) k s = X)) (hk : k < n) (hf : f k s = .inr r) : X = .inr r := by
  have h := h.out
  rw [show n - k = (n - (k + 1)) + 1 from by omega] at h
  simpa [loopE, hf] using h.symm
theorem loopE_done (h : Hid (loopE f (n - k) k s = X)) (hk : ¬ k < n) : X = .inl s := by
  have h := h.out
  rw [show n - k = 0 from by omega] at h
  simpa [loopE] using h.symm
end

/-! ### slices that are read -/
def CellsAt (w : World) (ao : Option Addr) (cs : List Value) : Prop :=
  0 < cs.length → ∃ b o, ao = some ⟨b, o, none⟩ ∧ b < w.heap.size ∧ ∀ j, j < cs.length → w.cell? ⟨b, o + j, none⟩ = some (cs.getD j undef)

theorem CellsAt.nil (w : World) (ao : Option Addr) : CellsAt w ao [] := fun h => absurd h (by simp)

theorem CellsAt.below {w w' : World} {ao : Option Addr} {cs : List Value} (h : CellsAt w ao cs) (hb : Below w.heap.size w w') : CellsAt w' ao cs := by
  intro h0
  obtain ⟨b, o, e, hlt, hc⟩ := h h0
  exact ⟨b, o, e, Nat.lt_of_lt_of_le hlt hb.size, fun j hj => (hb.cell (p := ⟨b, o + j, none⟩) hlt).trans (hc j hj)⟩

theorem CellsAt.below' {B : Nat} {w0 w w' : World} {ao : Option Addr} {cs : List Value} (h : CellsAt w0 ao cs) (hB : B = w0.heap.size) (hb : Below B w0 w) (hb' : Below B w w') : CellsAt w' ao cs := by
  subst hB; exact h.below (hb.trans hb')

/-- An element; a plain name, so that the walk does not look into it. -/
def at0 (zs : List Int) (k : Nat) : Int := zs.getD k 0

/-- A slice of ints. -/
def I64s (zs : List Int) : List Value := zs.map (Value.int .i64)
theorem I64s_length (zs : List Int) : (I64s zs).length = zs.length := by simp [I64s]
theorem I64s_getD (zs : List Int) (j : Nat) (h : j < zs.length) : (I64s zs).getD j undef = .int .i64 (at0 zs j) := by
  simp [I64s, List.getD, h, at0]

theorem CellsAt.ints {w : World} {ao : Option Addr} {zs : List Int} (h : CellsAt w ao (I64s zs)) (h0 : 0 < zs.length) :
    ∃ b o, ao = some ⟨b, o, none⟩ ∧ b < w.heap.size ∧ ∀ j, j < zs.length → w.cell? ⟨b, o + j, none⟩ = some (.int .i64 (at0 zs j)) := by
  obtain ⟨b, o, e, hl, hc⟩ := h (by simpa [I64s_length] using h0)
  exact ⟨b, o, e, hl, fun j hj => by rw [hc j (by simpa [I64s_length] using hj), I64s_getD zs j hj]⟩

/-! ### sums -/
theorem sum_take_succ (zs : List Int) (k : Nat) (h : k < zs.length) : (zs.take (k + 1)).sum = (zs.take k).sum + at0 zs k := by
  rw [List.take_succ_eq_append_getElem h, List.sum_append]; simp [at0, List.getD, h]
theorem sum_take_bd (zs : List Int) (M : Int) (hz : ∀ j, j < zs.length → 0 ≤ at0 zs j ∧ at0 zs j ≤ M) (k : Nat) (h : k ≤ zs.length) : 0 ≤ (zs.take k).sum ∧ (zs.take k).sum ≤ k * M := by
  induction k with
  | zero => simp
  | succ k ih =>
    have h1 := ih (by omega)
    have h2 := hz k (by omega)
    rw [sum_take_succ zs k (by omega)]
    have : ((k + 1 : Nat) : Int) * M = k * M + M := by rw [Int.natCast_succ, Int.add_mul]; simp
    omega

/-! ### blocks that are written -/
theorem lt_of_cell {w : World} {b o : Nat} {v : Value} (h : w.cell? ⟨b, o, none⟩ = some v) : b < w.heap.size := by
  by_cases hb : b < w.heap.size
  · exact hb
  · exfalso
    have : w.heap[b]? = none := by simp; omega
    simp [World.cell?, this] at h

def Blk (w : World) (C : Nat) (E : TypeId) (L : List Value) : Prop := w.heap[C]? = some (.cells L.toArray E (0, 0))

section
variable {w w' : World} {C : Nat} {E : TypeId} {L : List Value}
theorem Blk.lt (h : Blk w C E L) : C < w.heap.size := lt_of_block h
theorem Blk.cell (h : Blk w C E L) {j : Nat} (hj : j < L.length) : w.cell? ⟨C, j, none⟩ = some (L.getD j undef) := by
  unfold Blk at h; simp [World.cell?, h, hj, List.getD]
theorem Blk.frozen (h : Blk w C E L) (j : Nat) : w.frozen? ⟨C, j, none⟩ = false := by
  unfold Blk at h; simp [World.frozen?, h]
theorem Blk.set (h : Blk w C E L) (j : Nat) (v : Value) : Blk (w.setCell ⟨C, j, none⟩ v) C E (L.set j v) := by
  unfold Blk at *
  simp only [World.setCell, Array.getElem?_modify, h, if_true]
  simp
theorem Blk.other (h : Blk w C E L) {a : Addr} (ha : C ≠ a.block) (v : Value) : Blk (w.setCell a v) C E L := by
  unfold Blk at *
  rw [Below.heap_setCell _ _ _ _ ha]; exact h
theorem Blk.alloc (h : Blk w C E L) (o : Obj) : Blk (w.alloc o) C E L := by
  have := h.lt; unfold Blk at *; rw [Below.heap_alloc _ _ _ this]; exact h
theorem Blk.new (w : World) (L : List Value) (E : TypeId) : Blk (w.alloc (.cells L.toArray E)) w.heap.size E L := by
  unfold Blk; show (w.heap.push _)[_]? = _; simp
theorem Blk.drewN (h : Blk w C E L) (n : Nat) : Blk (w.drewN n) C E L := h
theorem Blk.drew (h : Blk w C E L) : Blk w.drew C E L := h
theorem Blk.below {B : Nat} (h : Blk w C E L) (hb : Below B w w') (hC : C < B) : Blk w' C E L := by
  unfold Blk at *; rw [hb.block C hC]; exact h
theorem Blk.cells (h : Blk w C E L) {o n : Nat} (hn : o + n ≤ L.length) : CellsAt w (some ⟨C, o, none⟩) ((L.drop o).take n) := by
  intro h0
  refine ⟨C, o, rfl, h.lt, fun j hj => ?_⟩
  simp at hj
  rw [h.cell (by omega)]
  simp [List.getD, hj, (show o + j < L.length from by omega)]
end

/-- n times one element; a plain name, so that the walk does not look into it. -/
def reps {α : Type} (n : Nat) (v : α) : List α := List.replicate n v
theorem reps_length {α : Type} (n : Nat) (v : α) : (reps n v).length = n := by simp [reps]

/-! ### slices of the call's own that grow -/
def OwnL (w : World) (base : Nat) (e : TypeId) (size : Nat) (v : Value) (n : Nat) (xs : List Value) : Prop :=
  w.ownsRow base e size v n xs ∧ (v = .slice none 0 0 ↔ n = 0)
theorem OwnL.nil (w : World) (base : Nat) (e : TypeId) (size : Nat) : OwnL w base e size (.slice none 0 0) 0 [] := ⟨World.ownsRow_nil _ _ _ _, by simp⟩
theorem OwnL.length {w : World} {base : Nat} {e : TypeId} {size : Nat} {v : Value} {n : Nat} {xs : List Value} (h : OwnL w base e size v n xs) : xs.length = n * size := h.1.1
theorem OwnL.below {w w' : World} {base : Nat} {e : TypeId} {size : Nat} {v : Value} {n : Nat} {xs : List Value} (h : OwnL w base e size v n xs) (hb : Below w.heap.size w w') : OwnL w' base e size v n xs := by
  refine ⟨⟨h.1.1, ?_⟩, h.2⟩
  rcases h.1.2 with h1 | ⟨g, cap, cur, h1, h2, h3, h4⟩
  · exact .inl h1
  · exact .inr ⟨g, cap, cur, h1, h2, (hb.block g (lt_of_block h3)).trans h3, h4⟩
theorem OwnL.alloc {w : World} {base : Nat} {e : TypeId} {size : Nat} {v : Value} {n : Nat} {xs : List Value} (h : OwnL w base e size v n xs) (o : Obj) : OwnL (w.alloc o) base e size v n xs :=
  h.below ((Below.refl _ _).alloc (Nat.le_refl _) _)
theorem OwnL.drewN {w : World} {base : Nat} {e : TypeId} {size : Nat} {v : Value} {n : Nat} {xs : List Value} (h : OwnL w base e size v n xs) (q : Nat) : OwnL (w.drewN q) base e size v n xs :=
  h.below ((Drew.refl _).drewN.below _)
theorem OwnL.read {w : World} {base : Nat} {e : TypeId} {size : Nat} {v : Value} {n : Nat} {xs : List Value} (h : OwnL w base e size v n xs) :
    ∃ ao c, v = .slice ao n c ∧ CellsAt w ao xs ∧ (∀ b o, ao = some ⟨b, o, none⟩ → base ≤ b) ∧ (ao = none ↔ n = 0) := by
  rcases h.1.2 with ⟨h1, h2⟩ | ⟨g, cap, cur, h1, h2, h3, h4, h5, h6, h7⟩
  · subst h2
    have : xs = [] := List.length_eq_zero_iff.1 (by simpa using h.1.1)
    subst this
    exact ⟨none, 0, h1, CellsAt.nil _ _, by simp, by simp⟩
  · refine ⟨_, cap, h1, fun _ => ⟨g, 0, rfl, lt_of_block h3, fun j hj => ?_⟩, fun b o e => by cases e; exact h2, ?_⟩
    · have hj' : j < n * size := by rw [← h.1.1]; exact hj
      have hsz : n * size ≤ cur.size := by rw [h6]; exact Nat.mul_le_mul_right _ h4
      have e2 : xs[j]? = cur[j]? := by rw [← h7, List.getElem?_take, if_pos hj']; simp
      have h8 : j < cur.size := by omega
      rw [List.getD_eq_getElem?_getD, e2]
      simp [World.cell?, h3, h8]
    · have := h.2; rw [h1] at this
      constructor
      · intro h; cases h
      · intro h; exact absurd (this.2 h) (by simp)

theorem wp_append1 {P : Program} {w : World} {ops : Array Oper} {rest : List Oper} {o : Oper} {a : Act} {Q : Exit → Act → World → Prop} (hgd : o.guard = none) (s x : Operand) (t : TypeId)
    (ho : o.op = .call { callee := .builtin .append, args := #[s, x], argTypes := #[t, t] })
    (base : Nat) (e : TypeId) {z : Value} {size bytes : Nat} (ht : P.underlying t = some (.slice e)) (hi : (P.info? e).map (fun i => (i.zero, i.size, i.bytes)) = some (some z, size, bytes))
    (hzs : z.cells.size = size) (hsz : 0 < size) (hby : bytes ≤ 4096)
    (v : Value) (n : Nat) (xs : List Value) (hs : a.eval s = v) (hown : OwnL w base e size v n xs)
    (b : Nat) (news : List Value) (hx : a.eval x = .slice (some ⟨b, 0, none⟩) 1 1) (hl : news.length = size) (hnews : ∀ j u, news[j]? = some u → w.cell? ⟨b, j, none⟩ = some u) (h1 : ∀ u ∈ news, u.oneCell' = true)
    (hn : n ≤ 1000000000) (hbase : base ≤ w.heap.size)
    (h : ∀ v' w', OwnL w' base e size v' (n + 1) (xs ++ news) → Below base w w' → wpList P ops Q rest (a.put o.dst v') w') : wpList P ops Q (o :: rest) a w := by
  obtain ⟨i0, q1, q2, q3, q4⟩ := info_parts hi
  refine wpList_append_own w hgd s x t ho base e i0 z size bytes ht q1 q2 q3 q4 hzs hsz v n xs hs hown.1 ⟨b, 0, none⟩ 1 1 news hx (by omega) ?_ h1 (by unfold maxLen; omega) ?_ hbase ?_
  · intro j u hj
    have : (⟨b, 0, none⟩ : Addr).add j = ⟨b, j, none⟩ := by unfold Addr.add; split <;> simp_all
    rw [this]; exact hnews j u hj
  · exact Nat.le_trans (Nat.mul_le_mul_left _ hby) (by omega)
  · intro v' w' h2 h3 h4
    refine h v' w' ⟨h2, ?_⟩ ((Below.refl _ _).grown h3 hbase fun k hk => (hown.1.lt k hk).1)
    constructor
    · intro e; exact absurd (h4.1 e).2 (by omega)
    · intro e; omega

theorem new1 (w : World) (u : Value) (e : TypeId) : ∀ (j : Nat) (v : Value), [u][j]? = some v → (w.alloc (.cells #[u] e)).cell? ⟨w.heap.size, j, none⟩ = some v := by
  intro j v h
  rw [World.cell?_alloc_new]
  match j, h with
  | 0, h => simpa using h
theorem one1 (u : Value) (h : u.oneCell' = true) : ∀ v ∈ [u], v.oneCell' = true := by
  intro v hv; simp at hv; subst hv; exact h

/-- The first m of N are x. -/
def fillR (m N : Nat) (x z : Value) : List Value := reps m x ++ reps (N - m) z
theorem fillR_length {m N : Nat} {x z : Value} (h : m ≤ N) : (fillR m N x z).length = N := by simp [fillR, reps]; omega
theorem fillR_one {N : Nat} {x z : Value} : splice (reps N z) 0 [x] = fillR 1 N x z := by simp [splice, fillR, reps]
theorem fillR_splice {m k N : Nat} {x z : Value} : splice (fillR m N x z) m (reps k x) = fillR (m + k) N x z := by
  simp [splice, fillR, reps, List.drop_append, ← List.append_assoc, List.replicate_append_replicate]
  omega
theorem fillR_get {m N j : Nat} {x z : Value} (h : j < m) : (fillR m N x z)[j]? = some x := by
  simp [fillR, reps, List.getElem?_append, h]
theorem fillR_full {N : Nat} {x z : Value} : fillR N N x z = reps N x := by simp [fillR, reps]

/-- 'make([]T, n)': a row of n zero elements of one cell. -/
theorem make_row {P : Program} {t e : TypeId} {z : Value} {bytes : Nat} (ht : P.underlying t = some (.slice e))
    (hi : (P.info? e).map (fun i => (i.zero, i.size, i.bytes)) = some (some z, 1, bytes)) (hz : z.cells = #[z]) (n : Nat) (hb : bytes * n ≤ 281474976710656) (hn : n ≤ 9223372036854775807) (w : World) :
    (Instr.makeSlice t (.int .i64 (n : Int)) (.int .i64 (n : Int))).run P w = .ok (.slice (some ⟨w.heap.size, 0, none⟩) n n) (w.alloc (.cells (reps n z).toArray e)) := by
  obtain ⟨i0, h1, h2, h3, h4⟩ := info_parts hi
  rw [run_make (P := P) w t e i0 z ht h1 h2 .i64 .i64 n n (by omega) (by omega) (by rw [h4, ← Int.natCast_mul]; exact Int.ofNat_le.2 hb) (by omega), h3, hz]
  have : madeCells #[z] ((n : Int).toNat * 1) = (reps n z).toArray := by
    apply Array.toList_inj.1
    rw [toList_madeCells_one]; simp [reps]
  rw [this]; simp

def I32s (zs : List Int) : List Value := zs.map (Value.int .i32)
theorem I32s_length (zs : List Int) : (I32s zs).length = zs.length := by simp [I32s]
theorem I32s_getD (zs : List Int) (j : Nat) (h : j < zs.length) : (I32s zs).getD j undef = .int .i32 (at0 zs j) := by
  simp [I32s, List.getD, h, at0]
theorem I32s_set (zs : List Int) (j : Nat) (v : Int) : (I32s zs).set j (.int .i32 v) = I32s (zs.set j v) := by simp [I32s, List.map_set]
theorem Blk.cell32 {w : World} {C : Nat} {E : TypeId} {zs : List Int} (h : Blk w C E (I32s zs)) {j : Nat} (hj : j < zs.length) : w.cell? ⟨C, j, none⟩ = some (.int .i32 (at0 zs j)) := by
  rw [h.cell (by simpa [I32s_length] using hj), I32s_getD zs j hj]
theorem Blk.set32 {w : World} {C : Nat} {E : TypeId} {zs : List Int} (h : Blk w C E (I32s zs)) (j : Nat) (v : Int) : Blk (w.setCell ⟨C, j, none⟩ (.int .i32 v)) C E (I32s (zs.set j v)) := by
  rw [← I32s_set]; exact h.set j _

end Go.Proofs.YtcmhompbdanpdaaGreatDoor
