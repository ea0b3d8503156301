/- General words of these proofs: slices that are read (CellsAt), loops as a function (loopE), results in continuation form. Slices of slices; append from whatever source. What the functions of package blocks and of its reference compute, as plain functions. More of what the functions compute; what 'chk zs = 0' says. Gauge blocks and stocks as data: slices of structs of four fields, what the functions of package stock and of its reference compute. Drawn regions, operation by operation, with the post kept out of sight. Logs as data: slices of events; names; what the functions of package recall compute. Dimensions as data: slices of dimensions; what the checks of layers 17 and 22 compute. -/
import Derived.WalkKit
import Derived.WalkSpells
import Derived.WalkLawsBesides
import Derived.BigQuiet
import Derived.Lib.Hide
import Derived.Deep.QuietTactic
import Derived.Laws.CopyOwn
import Derived.StillTailTactics
import Derived.Deep.RegionLaw
import Derived.Laws.AppendOwnNone
import Derived.Lib.Strings
import Derived.Lib.SlTrimSet
import Derived.Deep.RegionHeld3
import Derived.Deep.AppendLies
import Derived.Deep.Upon
namespace Go.Proofs.YtciokmjhdbcmpaaGreatDoor
open Go.RowKit

theorem ret_eq {R : Ending → World → Prop} {v v' : Value} {w : World} (h : R (.returned v) w) (e : v' = v) : R (.returned v') w := e ▸ h

/-- Nothing but draws. -/
def Drew (w w' : World) : Prop := ∃ q, w' = w.drewN q
theorem Drew.refl (w : World) : Drew w w := ⟨0, rfl⟩
theorem Drew.drewN {w w' : World} (h : Drew w w') {n : Nat} : Drew w (w'.drewN n) := by obtain ⟨q, rfl⟩ := h; exact ⟨q + n, by simp⟩
theorem Drew.trans {a b c : World} (h : Drew a b) (h' : Drew b c) : Drew a c := by obtain ⟨q, rfl⟩ := h; obtain ⟨r, rfl⟩ := h'; exact ⟨q + r, by simp⟩
theorem Drew.below {w w' : World} (h : Drew w w') (B : Nat) : Below B w w' := by obtain ⟨q, rfl⟩ := h; exact ⟨rfl, rfl, rfl, Nat.le_refl _, fun _ _ => rfl⟩

/-! ### loops -/
def loopE {σ ρ : Type} (f : Nat → σ → σ ⊕ ρ) : Nat → Nat → σ → σ ⊕ ρ
  | 0, _, s => .inl s
  | m+1, i, s => match f i s with | .inl s' => loopE f m (i+1) s' | .inr r => .inr r

section
variable {σ ρ : Type} {f : Nat → σ → σ ⊕ ρ} {n k : Nat} {s s' : σ} {r : ρ} {X : σ ⊕ ρ}
theorem loopE_step (h : Hid (loopE f (n - k) k s = X)) (hk : k < n) (hf : f k s = .inl s') : Hid (loopE f (n - (k + 1)) (k + 1) s' = X) := by
  have h := h.out
  rw [show n - k = (n - (k + 1)) + 1 from by omega] at h
  simpa [loopE, hf, Hid] using h
theorem loopE_hit (h : Hid (loopE f (n - k) k s = X)) (hk : k < n) (hf : f k s = .inr r) : X = .inr r := by
  have h := h.out
  rw [show n - k = (n - (k + 1)) + 1 from by omega] at h
  simpa [loopE, hf] using h.symm
theorem loopE_done (h : Hid (loopE f (n - k) k s = X)) (hk : ¬ k < n) : X = .inl s := by
  have h := h.out
  rw [show n - k = 0 from by omega] at h
  simpa [loopE] using h.symm
end

/-! ### slices that are read -/
def CellsAt (w : World) (ao : Option Addr) (cs : List Value) : Prop :=
  0 < cs.length → ∃ b o, ao = some ⟨b, o, none⟩ ∧ b < w.heap.size ∧ ∀ j, j < cs.length → w.cell? ⟨b, o + j, none⟩ = some (cs.getD j undef)

theorem CellsAt.nil (w : World) (ao : Option Addr) : CellsAt w ao [] := fun h => absurd h (by simp)

theorem CellsAt.below {w w' : World} {ao : Option Addr} {cs : List Value} (h : CellsAt w ao cs) (hb : Below w.heap.size w w') : CellsAt w' ao cs := by
  intro h0
  obtain ⟨b, o, e, hlt, hc⟩ := h h0
  exact ⟨b, o, e, Nat.lt_of_lt_of_le hlt hb.size, fun j hj => (hb.cell (p := ⟨b, o + j, none⟩) hlt).trans (hc j hj)⟩

theorem CellsAt.below' {B : Nat} {w0 w w' : World} {ao : Option Addr} {cs : List Value} (h : CellsAt w0 ao cs) (hB : B = w0.heap.size) (hb : Below B w0 w) (hb' : Below B w w') : CellsAt w' ao cs := by
  subst hB; exact h.below (hb.trans hb')

/-- An element; a plain name, so that the walk does not look into it. -/
def at0 (zs : List Int) (k : Nat) : Int := zs.getD k 0

/-- A slice of ints. -/
def I64s (zs : List Int) : List Value := zs.map (Value.int .i64)
theorem I64s_length (zs : List Int) : (I64s zs).length = zs.length := by simp [I64s]
theorem I64s_getD (zs : List Int) (j : Nat) (h : j < zs.length) : (I64s zs).getD j undef = .int .i64 (at0 zs j) := by
  simp [I64s, List.getD, h, at0]

theorem CellsAt.ints {w : World} {ao : Option Addr} {zs : List Int} (h : CellsAt w ao (I64s zs)) (h0 : 0 < zs.length) :
    ∃ b o, ao = some ⟨b, o, none⟩ ∧ b < w.heap.size ∧ ∀ j, j < zs.length → w.cell? ⟨b, o + j, none⟩ = some (.int .i64 (at0 zs j)) := by
  obtain ⟨b, o, e, hl, hc⟩ := h (by simpa [I64s_length] using h0)
  exact ⟨b, o, e, hl, fun j hj => by rw [hc j (by simpa [I64s_length] using hj), I64s_getD zs j hj]⟩

/-! ### sums -/
theorem sum_take_succ (zs : List Int) (k : Nat) (h : k < zs.length) : (zs.take (k + 1)).sum = (zs.take k).sum + at0 zs k := by
  rw [List.take_succ_eq_append_getElem h, List.sum_append]; simp [at0, List.getD, h]
theorem sum_take_bd (zs : List Int) (M : Int) (hz : ∀ j, j < zs.length → 0 ≤ at0 zs j ∧ at0 zs j ≤ M) (k : Nat) (h : k ≤ zs.length) : 0 ≤ (zs.take k).sum ∧ (zs.take k).sum ≤ k * M := by
  induction k with
  | zero => simp
  | succ k ih =>
    have h1 := ih (by omega)
    have h2 := hz k (by omega)
    rw [sum_take_succ zs k (by omega)]
    have : ((k + 1 : Nat) : Int) * M = k * M + M := by rw [Int.natCast_succ, Int.add_mul]; simp
    omega

/-! ### blocks that are written -/
theorem lt_of_cell {w : World} {b o : Nat} {v : Value} (h : w.cell? ⟨b, o, none⟩ = some v) : b < w.heap.size := by
  by_cases hb : b < w.heap.size
  · exact hb
  · exfalso
    have : w.heap[b]? = none := by simp; omega
    simp [World.cell?, this] at h

def Blk (w : World) (C : Nat) (E : TypeId) (L : List Value) : Prop := w.heap[C]? = some (.cells L.toArray E (0, 0))

section
variable {w w' : World} {C : Nat} {E : TypeId} {L : List Value}
theorem Blk.lt (h : Blk w C E L) : C < w.heap.size := lt_of_block h
theorem Blk.cell (h : Blk w C E L) {j : Nat} (hj : j < L.length) : w.cell? ⟨C, j, none⟩ = some (L.getD j undef) := by
  unfold Blk at h; simp [World.cell?, h, hj, List.getD]
theorem Blk.frozen (h : Blk w C E L) (j : Nat) : w.frozen? ⟨C, j, none⟩ = false := by
  unfold Blk at h; simp [World.frozen?, h]
theorem Blk.set (h : Blk w C E L) (j : Nat) (v : Value) : Blk (w.setCell ⟨C, j, none⟩ v) C E (L.set j v) := by
  unfold Blk at *
  simp only [World.setCell, Array.getElem?_modify, h, if_true]
  simp
theorem Blk.other (h : Blk w C E L) {a : Addr} (ha : C ≠ a.block) (v : Value) : Blk (w.setCell a v) C E L := by
  unfold Blk at *
  rw [Below.heap_setCell _ _ _ _ ha]; exact h
theorem Blk.alloc (h : Blk w C E L) (o : Obj) : Blk (w.alloc o) C E L := by
  have := h.lt; unfold Blk at *; rw [Below.heap_alloc _ _ _ this]; exact h
theorem Blk.new (w : World) (L : List Value) (E : TypeId) : Blk (w.alloc (.cells L.toArray E)) w.heap.size E L := by
  unfold Blk; show (w.heap.push _)[_]? = _; simp
theorem Blk.drewN (h : Blk w C E L) (n : Nat) : Blk (w.drewN n) C E L := h
theorem Blk.drew (h : Blk w C E L) : Blk w.drew C E L := h
theorem Blk.below {B : Nat} (h : Blk w C E L) (hb : Below B w w') (hC : C < B) : Blk w' C E L := by
  unfold Blk at *; rw [hb.block C hC]; exact h
theorem Blk.cells (h : Blk w C E L) {o n : Nat} (hn : o + n ≤ L.length) : CellsAt w (some ⟨C, o, none⟩) ((L.drop o).take n) := by
  intro h0
  refine ⟨C, o, rfl, h.lt, fun j hj => ?_⟩
  simp at hj
  rw [h.cell (by omega)]
  simp [List.getD, hj, (show o + j < L.length from by omega)]
end

/-- n times one element; a plain name, so that the walk does not look into it. -/
def reps {α : Type} (n : Nat) (v : α) : List α := List.replicate n v
theorem reps_length {α : Type} (n : Nat) (v : α) : (reps n v).length = n := by simp [reps]

/-! ### slices of the call's own that grow -/
def OwnL (w : World) (base : Nat) (e : TypeId) (size : Nat) (v : Value) (n : Nat) (xs : List Value) : Prop :=
  w.ownsRow base e size v n xs ∧ (v = .slice none 0 0 ↔ n = 0)
theorem OwnL.nil (w : World) (base : Nat) (e : TypeId) (size : Nat) : OwnL w base e size (.slice none 0 0) 0 [] := ⟨World.ownsRow_nil _ _ _ _, by simp⟩
theorem OwnL.length {w : World} {base : Nat} {e : TypeId} {size : Nat} {v : Value} {n : Nat} {xs : List Value} (h : OwnL w base e size v n xs) : xs.length = n * size := h.1.1
theorem OwnL.below {w w' : World} {base : Nat} {e : TypeId} {size : Nat} {v : Value} {n : Nat} {xs : List Value} (h : OwnL w base e size v n xs) (hb : Below w.heap.size w w') : OwnL w' base e size v n xs := by
  refine ⟨⟨h.1.1, ?_⟩, h.2⟩
  rcases h.1.2 with h1 | ⟨g, cap, cur, h1, h2, h3, h4⟩
  · exact .inl h1
  · exact .inr ⟨g, cap, cur, h1, h2, (hb.block g (lt_of_block h3)).trans h3, h4⟩
theorem OwnL.alloc {w : World} {base : Nat} {e : TypeId} {size : Nat} {v : Value} {n : Nat} {xs : List Value} (h : OwnL w base e size v n xs) (o : Obj) : OwnL (w.alloc o) base e size v n xs :=
  h.below ((Below.refl _ _).alloc (Nat.le_refl _) _)
theorem OwnL.drewN {w : World} {base : Nat} {e : TypeId} {size : Nat} {v : Value} {n : Nat} {xs : List Value} (h : OwnL w base e size v n xs) (q : Nat) : OwnL (w.drewN q) base e size v n xs :=
  h.below ((Drew.refl _).drewN.below _)
theorem OwnL.read {w : World} {base : Nat} {e : TypeId} {size : Nat} {v : Value} {n : Nat} {xs : List Value} (h : OwnL w base e size v n xs) :
    ∃ ao c, v = .slice ao n c ∧ CellsAt w ao xs ∧ (∀ b o, ao = some ⟨b, o, none⟩ → base ≤ b) ∧ (ao = none ↔ n = 0) := by
  rcases h.1.2 with ⟨h1, h2⟩ | ⟨g, cap, cur, h1, h2, h3, h4, h5, h6, h7⟩
  · subst h2
    have : xs = [] := List.length_eq_zero_iff.1 (by simpa using h.1.1)
    subst this
    exact ⟨none, 0, h1, CellsAt.nil _ _, by simp, by simp⟩
  · refine ⟨_, cap, h1, fun _ => ⟨g, 0, rfl, lt_of_block h3, fun j hj => ?_⟩, fun b o e => by cases e; exact h2, ?_⟩
    · have hj' : j < n * size := by rw [← h.1.1]; exact hj
      have hsz : n * size ≤ cur.size := by rw [h6]; exact Nat.mul_le_mul_right _ h4
      have e2 : xs[j]? = cur[j]? := by rw [← h7, List.getElem?_take, if_pos hj']; simp
      have h8 : j < cur.size := by omega
      rw [List.getD_eq_getElem?_getD, e2]
      simp [World.cell?, h3, h8]
    · have := h.2; rw [h1] at this
      constructor
      · intro h; cases h
      · intro h; exact absurd (this.2 h) (by simp)

theorem wp_append1 {P : Program} {w : World} {ops : Array Oper} {rest : List Oper} {o : Oper} {a : Act} {Q : Exit → Act → World → Prop} (hgd : o.guard = none) (s x : Operand) (t : TypeId)
    (ho : o.op = .call { callee := .builtin .append, args := #[s, x], argTypes := #[t, t] })
    (base : Nat) (e : TypeId) {z : Value} {size bytes : Nat} (ht : P.underlying t = some (.slice e)) (hi : (P.info? e).map (fun i => (i.zero, i.size, i.bytes)) = some (some z, size, bytes))
    (hzs : z.cells.size = size) (hsz : 0 < size) (hby : bytes ≤ 4096)
    (v : Value) (n : Nat) (xs : List Value) (hs : a.eval s = v) (hown : OwnL w base e size v n xs)
    (b : Nat) (news : List Value) (hx : a.eval x = .slice (some ⟨b, 0, none⟩) 1 1) (hl : news.length = size) (hnews : ∀ j u, news[j]? = some u → w.cell? ⟨b, j, none⟩ = some u) (h1 : ∀ u ∈ news, u.oneCell' = true)
    (hn : n ≤ 1000000000) (hbase : base ≤ w.heap.size)
    (h : ∀ v' w', OwnL w' base e size v' (n + 1) (xs ++ news) → Below base w w' → wpList P ops Q rest (a.put o.dst v') w') : wpList P ops Q (o :: rest) a w := by
  obtain ⟨i0, q1, q2, q3, q4⟩ := info_parts hi
  refine wpList_append_own w hgd s x t ho base e i0 z size bytes ht q1 q2 q3 q4 hzs hsz v n xs hs hown.1 ⟨b, 0, none⟩ 1 1 news hx (by omega) ?_ h1 (by unfold maxLen; omega) ?_ hbase ?_
  · intro j u hj
    have : (⟨b, 0, none⟩ : Addr).add j = ⟨b, j, none⟩ := by unfold Addr.add; split <;> simp_all
    rw [this]; exact hnews j u hj
  · exact Nat.le_trans (Nat.mul_le_mul_left _ hby) (by omega)
  · intro v' w' h2 h3 h4
    refine h v' w' ⟨h2, ?_⟩ ((Below.refl _ _).grown h3 hbase fun k hk => (hown.1.lt k hk).1)
    constructor
    · intro e; exact absurd (h4.1 e).2 (by omega)
    · intro e; omega

theorem new1 (w : World) (u : Value) (e : TypeId) : ∀ (j : Nat) (v : Value), [u][j]? = some v → (w.alloc (.cells #[u] e)).cell? ⟨w.heap.size, j, none⟩ = some v := by
  intro j v h
  rw [World.cell?_alloc_new]
  match j, h with
  | 0, h => simpa using h
theorem one1 (u : Value) (h : u.oneCell' = true) : ∀ v ∈ [u], v.oneCell' = true := by
  intro v hv; simp at hv; subst hv; exact h

/-- The first m of N are x. -/
def fillR (m N : Nat) (x z : Value) : List Value := reps m x ++ reps (N - m) z
theorem fillR_length {m N : Nat} {x z : Value} (h : m ≤ N) : (fillR m N x z).length = N := by simp [fillR, reps]; omega
theorem fillR_one {N : Nat} {x z : Value} : splice (reps N z) 0 [x] = fillR 1 N x z := by simp [splice, fillR, reps]
theorem fillR_splice {m k N : Nat} {x z : Value} : splice (fillR m N x z) m (reps k x) = fillR (m + k) N x z := by
  simp [splice, fillR, reps, List.drop_append, ← List.append_assoc, List.replicate_append_replicate]
  omega
theorem fillR_get {m N j : Nat} {x z : Value} (h : j < m) : (fillR m N x z)[j]? = some x := by
  simp [fillR, reps, List.getElem?_append, h]
theorem fillR_full {N : Nat} {x z : Value} : fillR N N x z = reps N x := by simp [fillR, reps]

/-- 'make([]T, n)': a row of n zero elements of one cell. -/
theorem make_row {P : Program} {t e : TypeId} {z : Value} {bytes : Nat} (ht : P.underlying t = some (.slice e))
    (hi : (P.info? e).map (fun i => (i.zero, i.size, i.bytes)) = some (some z, 1, bytes)) (hz : z.cells = #[z]) (n : Nat) (hb : bytes * n ≤ 281474976710656) (hn : n ≤ 9223372036854775807) (w : World) :
    (Instr.makeSlice t (.int .i64 (n : Int)) (.int .i64 (n : Int))).run P w = .ok (.slice (some ⟨w.heap.size, 0, none⟩) n n) (w.alloc (.cells (reps n z).toArray e)) := by
  obtain ⟨i0, h1, h2, h3, h4⟩ := info_parts hi
  rw [run_make (P := P) w t e i0 z ht h1 h2 .i64 .i64 n n (by omega) (by omega) (by rw [h4, ← Int.natCast_mul]; exact Int.ofNat_le.2 hb) (by omega), h3, hz]
  have : madeCells #[z] ((n : Int).toNat * 1) = (reps n z).toArray := by
    apply Array.toList_inj.1
    rw [toList_madeCells_one]; simp [reps]
  rw [this]; simp

def I32s (zs : List Int) : List Value := zs.map (Value.int .i32)
theorem I32s_length (zs : List Int) : (I32s zs).length = zs.length := by simp [I32s]
theorem I32s_getD (zs : List Int) (j : Nat) (h : j < zs.length) : (I32s zs).getD j undef = .int .i32 (at0 zs j) := by
  simp [I32s, List.getD, h, at0]
theorem I32s_set (zs : List Int) (j : Nat) (v : Int) : (I32s zs).set j (.int .i32 v) = I32s (zs.set j v) := by simp [I32s, List.map_set]
theorem Blk.cell32 {w : World} {C : Nat} {E : TypeId} {zs : List Int} (h : Blk w C E (I32s zs)) {j : Nat} (hj : j < zs.length) : w.cell? ⟨C, j, none⟩ = some (.int .i32 (at0 zs j)) := by
  rw [h.cell (by simpa [I32s_length] using hj), I32s_getD zs j hj]
theorem Blk.set32 {w : World} {C : Nat} {E : TypeId} {zs : List Int} (h : Blk w C E (I32s zs)) (j : Nat) (v : Int) : Blk (w.setCell ⟨C, j, none⟩ (.int .i32 v)) C E (I32s (zs.set j v)) := by
  rw [← I32s_set]; exact h.set j _

end Go.Proofs.YtciokmjhdbcmpaaGreatDoor
namespace Go.Proofs.YtciokmjhdbcmpaaGreatDoor
open Go.RowKit

theorem wp_appendG {P : Program} {w : World} {ops : Array Oper} {rest : List Oper} {o : Oper} {a : Act} {Q : Exit → Act → World → Prop} (hgd : o.guard = none) (s x : Operand) (t : TypeId)
    (ho : o.op = .call { callee := .builtin .append, args := #[s, x], argTypes := #[t, t] })
    (base : Nat) (e : TypeId) {z : Value} {bytes : Nat} (ht : P.underlying t = some (.slice e)) (hi : (P.info? e).map (fun i => (i.zero, i.size, i.bytes)) = some (some z, 1, bytes))
    (hzs : z.cells.size = 1) (hby : bytes ≤ 4096)
    (v : Value) (n : Nat) (xs : List Value) (hs : a.eval s = v) (hown : w.ownsRow base e 1 v n xs)
    (ao : Option Addr) (m c : Nat) (news : List Value) (hm : news.length = m) (hx : a.eval x = .slice ao m c) (hnil : ao = none → m = 0 ∧ c = 0) (hc : CellsAt w ao news) (h1 : ∀ u ∈ news, u.oneCell' = true)
    (hn : n + m ≤ 1000000000) (hbase : base ≤ w.heap.size)
    (h : ∀ v' w', w'.ownsRow base e 1 v' (n + m) (xs ++ news) → w.grownBy w' v.ownBlock → (v' = .slice none 0 0 ↔ v = .slice none 0 0 ∧ m = 0) → wpList P ops Q rest (a.put o.dst v') w') : wpList P ops Q (o :: rest) a w := by
  obtain ⟨i0, q1, q2, q3, q4⟩ := info_parts hi
  cases ao with
  | none =>
    obtain ⟨rfl, rfl⟩ := hnil rfl
    obtain rfl := List.length_eq_zero_iff.1 hm
    refine wpList_append_own_none hgd s x t ho base e i0 1 ht q1 v n xs hs hown hx ?_
    exact h v w (by simpa using hown) (World.grownBy.refl _ _) (by simp)
  | some ad =>
    refine wpList_append_own w hgd s x t ho base e i0 z 1 bytes ht q1 q2 q3 q4 hzs (by omega) v n xs hs hown ad m c news hx (by omega) ?_ h1 (by unfold maxLen; omega) ?_ hbase ?_
    · intro j u hj
      have hlt : j < news.length := (List.getElem?_eq_some_iff.1 hj).1
      obtain ⟨b, o, e, _, hcl⟩ := hc (by omega)
      cases e
      have : (⟨b, o, none⟩ : Addr).add j = ⟨b, o + j, none⟩ := by unfold Addr.add; split <;> simp_all
      rw [this, hcl j hlt, List.getD_eq_getElem?_getD, hj]; rfl
    · exact Nat.le_trans (Nat.mul_le_mul_left _ hby) (by omega)
    · intro v' w' h2 h3 h4; exact h v' w' h2 h3 h4

/-- A row of ints of the call's own (nil just where it is empty). -/
def RowV (e : TypeId) (w : World) (base : Nat) (v : Value) (l : List Int) : Prop := OwnL w base e 1 v l.length (I64s l)
def RowsV (e : TypeId) (w : World) (base : Nat) (vs : List Value) (ls : List (List Int)) : Prop :=
  vs.length = ls.length ∧ ∀ i, i < ls.length → RowV e w base (vs.getD i undef) (ls.getD i [])

theorem ownsRow_elem {w : World} {base : Nat} {e : TypeId} {v : Value} {n : Nat} {xs : List Value} (h : w.ownsRow base e 1 v n xs) {g : Nat} (hg : v.ownBlock = some g) :
    ∃ cur, w.heap[g]? = some (.cells cur e (0, 0)) := by
  rcases h.2 with ⟨rfl, _⟩ | ⟨g', cap, cur, rfl, _, hgg, _⟩
  · simp [Value.ownBlock] at hg
  · simp [Value.ownBlock] at hg; subst hg; exact ⟨cur, hgg⟩

/-- Another element type, another block. -/
theorem ownBlock_ne {w : World} {base base' : Nat} {e e' : TypeId} {v v' : Value} {n n' : Nat} {xs xs' : List Value} (h : w.ownsRow base e 1 v n xs) (h' : w.ownsRow base' e' 1 v' n' xs') (he : e ≠ e') :
    v.ownBlock = none ∨ v.ownBlock ≠ v'.ownBlock := by
  cases hv : v.ownBlock with
  | none => exact .inl rfl
  | some g =>
    refine .inr fun e2 => ?_
    obtain ⟨c1, h1⟩ := ownsRow_elem h hv
    obtain ⟨c2, h2⟩ := ownsRow_elem h' e2.symm
    rw [h1] at h2; cases h2; exact he rfl

theorem RowV.kept {e e' : TypeId} {w w' : World} {base base' : Nat} {v vn : Value} {l : List Int} {n : Nat} {xs : List Value} (h : RowV e w base v l) (hn : w.ownsRow base' e' 1 vn n xs) (he : e ≠ e')
    (hg : w.grownBy w' vn.ownBlock) : RowV e w' base v l := ⟨h.1.kept hg (ownBlock_ne h.1 hn he), h.2⟩
theorem RowV.below {e : TypeId} {w w' : World} {base : Nat} {v : Value} {l : List Int} (h : RowV e w base v l) (hb : Below w.heap.size w w') : RowV e w' base v l := OwnL.below h hb
theorem RowV.mono {e : TypeId} {w : World} {base base' : Nat} {v : Value} {l : List Int} (h : RowV e w base v l) (hb : base' ≤ base) : RowV e w base' v l := by
  refine ⟨⟨h.1.1, ?_⟩, h.2⟩
  rcases h.1.2 with h1 | ⟨g, cap, cur, h1, h2, h3⟩
  · exact .inl h1
  · exact .inr ⟨g, cap, cur, h1, by omega, h3⟩
theorem OwnL.mono {w : World} {base base' : Nat} {e : TypeId} {size : Nat} {v : Value} {n : Nat} {xs : List Value} (h : OwnL w base e size v n xs) (hb : base' ≤ base) : OwnL w base' e size v n xs := by
  refine ⟨⟨h.1.1, ?_⟩, h.2⟩
  rcases h.1.2 with h1 | ⟨g, cap, cur, h1, h2, h3⟩
  · exact .inl h1
  · exact .inr ⟨g, cap, cur, h1, by omega, h3⟩
theorem RowsV.below {e : TypeId} {w w' : World} {base : Nat} {vs : List Value} {ls : List (List Int)} (h : RowsV e w base vs ls) (hb : Below w.heap.size w w') : RowsV e w' base vs ls :=
  ⟨h.1, fun i hi => (h.2 i hi).below hb⟩
theorem RowsV.mono {e : TypeId} {w : World} {base base' : Nat} {vs : List Value} {ls : List (List Int)} (h : RowsV e w base vs ls) (hb : base' ≤ base) : RowsV e w base' vs ls :=
  ⟨h.1, fun i hi => (h.2 i hi).mono hb⟩
theorem RowsV.kept {e e' : TypeId} {w w' : World} {base base' : Nat} {vs : List Value} {ls : List (List Int)} {vn : Value} {n : Nat} {xs : List Value} (h : RowsV e w base vs ls) (hn : w.ownsRow base' e' 1 vn n xs) (he : e ≠ e')
    (hg : w.grownBy w' vn.ownBlock) : RowsV e w' base vs ls := ⟨h.1, fun i hi => (h.2 i hi).kept hn he hg⟩
theorem RowsV.nil (e : TypeId) (w : World) (base : Nat) : RowsV e w base [] [] := ⟨rfl, fun i hi => absurd hi (by simp)⟩
theorem RowsV.append {e : TypeId} {w : World} {base : Nat} {vs vs' : List Value} {ls ls' : List (List Int)} (h : RowsV e w base vs ls) (h' : RowsV e w base vs' ls') : RowsV e w base (vs ++ vs') (ls ++ ls') := by
  refine ⟨by simp [h.1, h'.1], fun i hi => ?_⟩
  by_cases hlt : i < ls.length
  · have := h.2 i hlt
    rw [List.getD_eq_getElem?_getD, List.getElem?_append_left (by rw [h.1]; exact hlt), List.getD_eq_getElem?_getD, List.getElem?_append_left hlt]
    rw [List.getD_eq_getElem?_getD, List.getD_eq_getElem?_getD] at this
    exact this
  · have := h'.2 (i - ls.length) (by simp at hi; omega)
    rw [List.getD_eq_getElem?_getD, List.getElem?_append_right (by rw [h.1]; omega), List.getD_eq_getElem?_getD, List.getElem?_append_right (by omega), h.1]
    rw [List.getD_eq_getElem?_getD, List.getD_eq_getElem?_getD] at this
    exact this
theorem RowsV.one {e : TypeId} {w : World} {base : Nat} {v : Value} {l : List Int} (h : RowV e w base v l) : RowsV e w base [v] [l] :=
  ⟨rfl, fun i hi => by obtain rfl : i = 0 := by simpa using hi
                       exact h⟩
theorem RowV.nil (e : TypeId) (w : World) (base : Nat) : RowV e w base (.slice none 0 0) [] := OwnL.nil _ _ _ _
theorem RowV.one {e : TypeId} {w : World} {base : Nat} {v : Value} {l : List Int} (h : RowV e w base v l) : v.oneCell' = true := by
  obtain ⟨ao, c, rfl, _⟩ := OwnL.read h; rfl
theorem RowsV.oneCell {e : TypeId} {w : World} {base : Nat} {vs : List Value} {ls : List (List Int)} (h : RowsV e w base vs ls) : ∀ u ∈ vs, u.oneCell' = true := by
  intro u hu
  obtain ⟨i, hi, rfl⟩ := List.mem_iff_getElem.1 hu
  have := (h.2 i (by rw [← h.1]; exact hi)).one
  rw [List.getD_eq_getElem?_getD, List.getElem?_eq_getElem hi] at this
  exact this
theorem OwnL.read2 {w : World} {base : Nat} {e : TypeId} {size : Nat} {v : Value} {n : Nat} {xs : List Value} (h : OwnL w base e size v n xs) :
    ∃ ao c, v = .slice ao n c ∧ CellsAt w ao xs ∧ (ao = none → n = 0 ∧ c = 0) := by
  obtain ⟨ao, c, rfl, h1, _, h2⟩ := h.read
  refine ⟨ao, c, rfl, h1, fun e => ?_⟩
  subst e
  have h3 : n = 0 := h2.1 rfl
  have := h.2.2 h3
  cases this
  exact ⟨rfl, rfl⟩
theorem OwnL.kept' {w w' : World} {base : Nat} {e : TypeId} {v : Value} {n : Nat} {xs : List Value} {row : Option Nat} (h : OwnL w base e 1 v n xs) (hg : w.grownBy w' row) (hr : ∀ g, row = some g → g < base) : OwnL w' base e 1 v n xs := by
  refine ⟨h.1.kept hg ?_, h.2⟩
  cases hv : v.ownBlock with
  | none => exact .inl rfl
  | some g =>
    refine .inr fun e2 => ?_
    have h1 := (h.1.lt g hv).1
    have h2 := hr g e2.symm
    omega
theorem OwnL.lit1 (w : World) (base : Nat) (e : TypeId) (u : Value) (hb : base ≤ w.heap.size) : OwnL (w.alloc (.cells #[u] e)) base e 1 (.slice (some ⟨w.heap.size, 0, none⟩) 1 1) 1 [u] :=
  ⟨World.ownsRow_lit w #[u] 1 hb (by unfold maxLen; omega) rfl, by simp⟩
theorem CellsAt.new1 (w : World) (u : Value) (e : TypeId) : CellsAt (w.alloc (.cells #[u] e)) (some ⟨w.heap.size, 0, none⟩) [u] := by
  intro _
  refine ⟨_, 0, rfl, by simp, fun j hj => ?_⟩
  obtain rfl : j = 0 := by simpa using hj
  exact Go.Proofs.YtciokmjhdbcmpaaGreatDoor.new1 w u e 0 u rfl
theorem OwnL.of {w : World} {base : Nat} {e : TypeId} {v : Value} {n : Nat} {xs : List Value} (h : w.ownsRow base e 1 v (n + 1) xs) : OwnL w base e 1 v (n + 1) xs := by
  refine ⟨h, ?_⟩
  rcases h.2 with ⟨rfl, h2⟩ | ⟨g, cap, cur, rfl, _⟩
  · omega
  · simp

end Go.Proofs.YtciokmjhdbcmpaaGreatDoor
namespace Go.Proofs.YtciokmjhdbcmpaaGreatDoor
open Go.RowKit

def insB (n : Int) : Bool := decide (1 ≤ n) && decide (n ≤ 100000)

def chkF (zs : List Int) (i : Nat) (_ : Unit) : Unit ⊕ Int :=
  if insB (at0 zs i) = false then .inr 2 else if 0 < i ∧ at0 zs i ≤ at0 zs (i-1) then .inr 9 else .inl ()
def chkR : Unit ⊕ Int → Int | .inl _ => 0 | .inr r => r
def chk (zs : List Int) : Int := if 256 < zs.length then 5 else chkR (loopE (chkF zs) zs.length 0 ())

def totF (zs st : List Int) (i : Nat) (s : Int) : Int ⊕ Int :=
  if at0 st i < 0 ∨ (zs.length : Int) ≤ at0 st i then .inr 2 else if 0 < i ∧ at0 st i ≤ at0 st (i-1) then .inr 9
  else .inl (wrap64 (s + at0 zs (at0 st i).toNat))
def totR : Int ⊕ Int → Int × Int | .inl s => (s, 0) | .inr r => (0, r)
/-- 'total': the length and the error. -/
def tot (zs st : List Int) : Int × Int := totR (loopE (totF zs st) st.length 0 0)
def len (zs st : List Int) : Int × Int := if chk zs = 0 then tot zs st else (0, chk zs)

/-- 'stacked'. -/
def stkF (zs st : List Int) (i : Nat) (_ : Unit) : Unit ⊕ Int :=
  if at0 st i < 0 ∨ (zs.length : Int) ≤ at0 st i then .inr 2 else if 0 < i ∧ at0 st i ≤ at0 st (i-1) then .inr 9 else .inl ()
def stk (zs st : List Int) : Int := chkR (loopE (stkF zs st) st.length 0 ())
/-- 'Total' of the reference; the stack is right. -/
def sumF (zs st : List Int) (i : Nat) (s : Int) : Int ⊕ Int := .inl (wrap64 (s + at0 zs (at0 st i).toNat))
def sumR : Int ⊕ Int → Int | .inl s => s | .inr s => s
def sum (zs st : List Int) : Int := sumR (loopE (sumF zs st) st.length 0 0)
def rlen (zs st : List Int) : Int × Int := if chk zs = 0 then if stk zs st = 0 then (sum zs st, 0) else (0, stk zs st) else (0, chk zs)

def gvn (zs : List Int) (l : Int) : Int := if chk zs = 0 then if insB l then 0 else 2 else chk zs

def joinF (a b : Int) : Int := min (min a (wrap32 (b + 1))) 258
def joinC (a b : Int) : Int := min (wrap32 (a + b)) 1048577

/-- What can be made of some blocks. -/
def tab (J : Int → Int → Int) (nn dd : Int) : List Int → Nat → Int
  | [], n => if n = 0 then dd else nn
  | x :: xs, n => J (tab J nn dd xs n) (if x ≤ n then tab J nn dd xs (n - x.toNat) else nn)
def TabFrom (J : Int → Int → Int) (nn dd : Int) (zs : List Int) (W : Nat) (cells : List Int) (i : Nat) : Prop :=
  ∀ r, i ≤ r → r ≤ zs.length → ∀ n, n < W → at0 cells (r * W + n) = tab J nn dd (zs.drop r) n

theorem at0_set (l : List Int) (i j : Nat) (v : Int) (hi : i < l.length) : at0 (l.set i v) j = if i = j then v else at0 l j := by
  unfold at0; rw [List.getD_eq_getElem?_getD, List.getElem?_set, List.getD_eq_getElem?_getD]
  split <;> simp_all
theorem tab_drop {J : Int → Int → Int} {nn dd : Int} {zs : List Int} {i n : Nat} (h : i < zs.length) :
    tab J nn dd (zs.drop i) n = J (tab J nn dd (zs.drop (i+1)) n) (if at0 zs i ≤ n then tab J nn dd (zs.drop (i+1)) (n - (at0 zs i).toNat) else nn) := by
  have : zs.drop i = at0 zs i :: zs.drop (i+1) := by rw [List.drop_eq_getElem_cons h]; simp [at0, List.getD, h]
  rw [this, tab]

theorem at0_reps {N j : Nat} {v : Int} (h : j < N) : at0 (reps N v) j = v := by simp [at0, reps, List.getD, h]
theorem TabFrom_start {J : Int → Int → Int} {nn dd : Int} {zs : List Int} {W N : Nat} (hW : 1 ≤ W) (hN : zs.length * W + W = N) :
    TabFrom J nn dd zs W ((reps N nn).set (zs.length * W) dd) zs.length := by
  intro r h1 h2 n hn
  obtain rfl : r = zs.length := by omega
  rw [List.drop_length, tab, at0_set _ _ _ _ (by rw [reps_length]; omega), at0_reps (by omega)]
  by_cases h : n = 0
  · simp [h]
  · rw [if_neg (by omega), if_neg h]
/-- The row below i is whole up to n. -/
def TabRow (J : Int → Int → Int) (nn dd : Int) (zs : List Int) (W : Nat) (cells : List Int) (i n : Nat) : Prop :=
  TabFrom J nn dd zs W cells (i + 1) ∧ ∀ m, m < n → at0 cells (i * W + m) = tab J nn dd (zs.drop i) m
theorem TabRow_start {J : Int → Int → Int} {nn dd : Int} {zs : List Int} {W : Nat} {cells : List Int} {i : Nat} (h : TabFrom J nn dd zs W cells (i + 1)) : TabRow J nn dd zs W cells i 0 :=
  ⟨h, fun m hm => absurd hm (by omega)⟩
theorem TabRow_end {J : Int → Int → Int} {nn dd : Int} {zs : List Int} {W : Nat} {cells : List Int} {i : Nat} (h : TabRow J nn dd zs W cells i W) : TabFrom J nn dd zs W cells i := by
  intro r h1 h2 n hn
  by_cases e : r = i
  · subst e; exact h.2 n hn
  · exact h.1 r (by omega) h2 n hn
theorem TabRow_step {J : Int → Int → Int} {nn dd : Int} {zs : List Int} {W N : Nat} {cells : List Int} {i n x : Nat} (h : TabRow J nn dd zs W cells i n) (hi : i < zs.length) (hn : n < W)
    (hN : (zs.length + 1) * W = N) (hc : cells.length = N) (hx : at0 zs i = x) :
    TabRow J nn dd zs W (cells.set (i * W + n) (J (at0 cells ((i + 1) * W + n)) (if x ≤ n then at0 cells ((i + 1) * W + (n - x)) else nn))) i (n + 1) := by
  have h1 : (i + 1) * W = i * W + W := Nat.succ_mul _ _
  have h2 : (i + 1) * W ≤ zs.length * W := Nat.mul_le_mul_right _ hi
  have h3 : (zs.length + 1) * W = zs.length * W + W := Nat.succ_mul _ _
  constructor
  · intro r hr1 hr2 m hm
    have h4 : (i + 1) * W ≤ r * W := Nat.mul_le_mul_right _ hr1
    rw [at0_set _ _ _ _ (by omega), if_neg (by omega)]
    exact h.1 r hr1 hr2 m hm
  · intro m hm
    rw [at0_set _ _ _ _ (by omega)]
    by_cases e : m = n
    · subst e
      rw [if_pos rfl, tab_drop hi, h.1 (i + 1) (Nat.le_refl _) hi m hn, hx]
      by_cases g : x ≤ m
      · rw [if_pos g, if_pos (by omega), h.1 (i + 1) (Nat.le_refl _) hi (m - x) (by omega)]; simp
      · rw [if_neg g, if_neg (by omega)]
    · rw [if_neg (by omega)]
      exact h.2 m (by omega)

abbrev tabF := tab joinF 258 0
abbrev tabC := tab joinC 0 1
/-- The stack that 'best' reads off its table. -/
def bestL : List Int → Nat → Nat → List Int
  | [], _, _ => []
  | x :: xs, i, r => if x ≤ r ∧ wrap32 (tab joinF 258 0 xs (r - x.toNat) + 1) = tab joinF 258 0 (x :: xs) r then (i : Int) :: bestL xs (i + 1) (r - x.toNat) else bestL xs (i + 1) r
def reachB (zs : List Int) (l : Nat) : Bool := decide ((l : Int) ≤ zs.sum) && decide (tab joinF 258 0 zs l < 258)
theorem bestL_length (zs : List Int) : ∀ i r, (bestL zs i r).length ≤ zs.length := by
  induction zs with
  | nil => intro i r; simp [bestL]
  | cons x xs ih =>
    intro i r
    unfold bestL
    split
    · have := ih (i+1) (r - x.toNat); simp; omega
    · have := ih (i+1) r; simp; omega

/-- 'Same', 'slices.Equal'. -/
def eqF (xs ys : List Int) (i : Nat) (_ : Unit) : Unit ⊕ Bool := if at0 xs i = at0 ys i then .inl () else .inr false
def eqR : Unit ⊕ Bool → Bool | .inl _ => true | .inr b => b
def eqL (xs ys : List Int) : Bool := if xs.length = ys.length then eqR (loopE (eqF xs ys) xs.length 0 ()) else false

end Go.Proofs.YtciokmjhdbcmpaaGreatDoor
namespace Go.Proofs.YtciokmjhdbcmpaaGreatDoor
open Go.RowKit

theorem loopE_unit {ρ : Type} {f : Nat → Unit → Unit ⊕ ρ} : ∀ m i, loopE f m i () = .inl () ↔ ∀ j, i ≤ j → j < i + m → f j () = .inl ()
  | 0, i => by simp [loopE]; intro j h1 h2; omega
  | m+1, i => by
    unfold loopE
    cases h : f i () with
    | inl s =>
      cases s
      simp only
      rw [loopE_unit m (i+1)]
      constructor
      · intro H j h1 h2
        by_cases e : j = i
        · subst e; exact h
        · exact H j (by omega) (by omega)
      · intro H j h1 h2; exact H j (by omega) (by omega)
    | inr r =>
      simp only
      constructor
      · intro H; cases H
      · intro H; have := H i (Nat.le_refl _) (by omega); rw [h] at this; cases this
theorem loopE_unit_inr {ρ : Type} {f : Nat → Unit → Unit ⊕ ρ} {r : ρ} : ∀ m i, loopE f m i () = .inr r → ∃ j, i ≤ j ∧ j < i + m ∧ f j () = .inr r
  | 0, i => by simp [loopE]
  | m+1, i => by
    unfold loopE
    cases h : f i () with
    | inl s =>
      cases s
      simp only
      intro H
      obtain ⟨j, h1, h2, h3⟩ := loopE_unit_inr m (i+1) H
      exact ⟨j, by omega, by omega, h3⟩
    | inr r' =>
      simp only
      intro H
      cases H
      exact ⟨i, Nat.le_refl _, by omega, h⟩

theorem insB_iff (n : Int) : insB n = true ↔ 1 ≤ n ∧ n ≤ 100000 := by simp [insB]

/-- A right set. -/
def RightSet (zs : List Int) : Prop := zs.length ≤ 256 ∧ ∀ j, j < zs.length → (1 ≤ at0 zs j ∧ at0 zs j ≤ 100000) ∧ (0 < j → at0 zs (j-1) < at0 zs j)

theorem chkF_inl (zs : List Int) (j : Nat) : chkF zs j () = .inl () ↔ (1 ≤ at0 zs j ∧ at0 zs j ≤ 100000) ∧ (0 < j → at0 zs (j-1) < at0 zs j) := by
  unfold chkF
  by_cases h1 : insB (at0 zs j) = false
  · rw [if_pos h1]
    have : ¬ insB (at0 zs j) = true := by rw [h1]; simp
    rw [insB_iff] at this
    simp; omega
  · rw [if_neg h1]
    have h1' : insB (at0 zs j) = true := by simpa using h1
    rw [insB_iff] at h1'
    split
    · simp; omega
    · simp; omega
theorem chkF_inr {zs : List Int} {j : Nat} {r : Int} (h : chkF zs j () = .inr r) : r = 2 ∨ r = 9 := by
  unfold chkF at h
  split at h
  · cases h; exact .inl rfl
  · split at h
    · cases h; exact .inr rfl
    · cases h

theorem chk_zero (zs : List Int) : chk zs = 0 ↔ RightSet zs := by
  unfold chk RightSet
  by_cases h : 256 < zs.length
  · rw [if_pos h]
    constructor
    · intro h; cases h
    · intro h'; omega
  · rw [if_neg h]
    cases hl : loopE (chkF zs) zs.length 0 () with
    | inl s =>
      cases s
      simp only [chkR, true_iff]
      refine ⟨by omega, fun j hj => ?_⟩
      exact (chkF_inl zs j).1 ((loopE_unit _ _).1 hl j (by omega) (by omega))
    | inr r =>
      simp only [chkR]
      constructor
      · intro h0
        obtain ⟨j, _, _, hj⟩ := loopE_unit_inr _ _ hl
        rcases chkF_inr hj with e | e <;> omega
      · intro H
        have : loopE (chkF zs) zs.length 0 () = .inl () := (loopE_unit _ _).2 fun j _ hj => (chkF_inl zs j).2 (H.2 j (by omega))
        rw [hl] at this; cases this

theorem RightSet.bd {zs : List Int} (h : RightSet zs) : ∀ j, j < zs.length → 1 ≤ at0 zs j ∧ at0 zs j ≤ 100000 := fun j hj => (h.2 j hj).1

/-- 'Fewest': the stack and the error. -/
def fewL (zs : List Int) (l : Int) : List Int := if gvn zs l = 0 ∧ reachB zs l.toNat = true then bestL zs 0 l.toNat else []
def fewE (zs : List Int) (l : Int) : Int := if gvn zs l = 0 then if reachB zs l.toNat = true then 0 else 6 else gvn zs l
theorem gvn_zero {zs : List Int} {l : Int} (h : gvn zs l = 0) : RightSet zs ∧ 1 ≤ l ∧ l ≤ 100000 := by
  unfold gvn at h
  split at h
  · rename_i h0
    split at h
    · rename_i h1; exact ⟨(chk_zero zs).1 h0, (insB_iff l).1 h1⟩
    · cases h
  · contradiction
/-- 'Verify'. -/
def verE (zs : List Int) (l : Int) (st : List Int) : Int :=
  if gvn zs l = 0 then if (tot zs st).2 = 0 then if reachB zs l.toNat = true ∧ eqL (bestL zs 0 l.toNat) st = true then 0 else 15 else (tot zs st).2 else gvn zs l
/-- 'Count'. -/
def cntV (zs : List Int) (l : Nat) : Int := if (l : Int) ≤ zs.sum then tab joinC 0 1 zs l else 0
def cntN (zs : List Int) (l : Int) : Int := if gvn zs l = 0 then if cntV zs l.toNat ≤ 1048576 then cntV zs l.toNat else 0 else 0
def cntE (zs : List Int) (l : Int) : Int := if gvn zs l = 0 then if cntV zs l.toNat ≤ 1048576 then 0 else 12 else gvn zs l

theorem tabC_bd (zs : List Int) (n : Nat) : -2147483648 ≤ tab joinC 0 1 zs n ∧ tab joinC 0 1 zs n ≤ 1048577 := by
  cases zs with
  | nil => unfold tab; split <;> omega
  | cons x xs => unfold tab joinC wrap32; omega

/-- 'Reach'. -/
def reaF (zs : List Int) (most : Int) (n : Nat) (out : List Int) : List Int ⊕ Unit :=
  if n < 1 ∨ most < tab joinF 258 0 zs n then .inl out else if out.length = 16384 then .inr () else .inl (out ++ [(n : Int)])
def reaW (zs : List Int) : Nat := (min zs.sum 100000).toNat + 1
def reaX (zs : List Int) (most : Int) : List Int ⊕ Unit := loopE (reaF zs most) (reaW zs) 0 []
def reaR1 : List Int ⊕ Unit → List Int | .inl l => l | .inr _ => []
def reaR2 : List Int ⊕ Unit → Int | .inl _ => 0 | .inr _ => 12
def reaL (zs : List Int) (most : Int) : List Int := if chk zs = 0 then if 1 ≤ most ∧ most ≤ 8 then reaR1 (reaX zs most) else [] else []
def reaE (zs : List Int) (most : Int) : Int := if chk zs = 0 then if 1 ≤ most ∧ most ≤ 8 then reaR2 (reaX zs most) else 2 else chk zs

end Go.Proofs.YtciokmjhdbcmpaaGreatDoor
namespace Go.Proofs.YtciokmjhdbcmpaaGreatDoor
open Go.RowKit

/-- A gauge block: its length, wear, uses, holder. -/
structure B5 where
  l : Int
  w : Int
  u : Int
  h : ByteArray
def B5.cells (b : B5) : List Value := [.int .i64 b.l, .int .i64 b.w, .int .i64 b.u, .string b.h]
def bC (bs : List B5) : List Value := bs.flatMap B5.cells
def bAt (bs : List B5) (i : Nat) : B5 := bs.getD i ⟨0, 0, 0, ⟨#[]⟩⟩
theorem bC_length (bs : List B5) : (bC bs).length = bs.length * 4 := by
  induction bs with
  | nil => rfl
  | cons b bs ih => show (b.cells ++ bC bs).length = _; rw [List.length_append, ih]; simp [B5.cells]; omega
theorem bC_cons (b : B5) (bs : List B5) : bC (b :: bs) = .int .i64 b.l :: .int .i64 b.w :: .int .i64 b.u :: .string b.h :: bC bs := rfl
theorem bAt_succ (b : B5) (bs : List B5) (i : Nat) : bAt (b :: bs) (i + 1) = bAt bs i := rfl
theorem bC_get (bs : List B5) : ∀ (i : Nat), i < bs.length → (bC bs)[i * 4]? = some (.int .i64 (bAt bs i).l) ∧ (bC bs)[i * 4 + 1]? = some (.int .i64 (bAt bs i).w) ∧ (bC bs)[i * 4 + 2]? = some (.int .i64 (bAt bs i).u) ∧ (bC bs)[i * 4 + 3]? = some (.string (bAt bs i).h) := by
  induction bs with
  | nil => intro i hi; exact absurd hi (by simp)
  | cons b bs ih =>
    intro i hi
    cases i with
    | zero => exact ⟨rfl, rfl, rfl, rfl⟩
    | succ i =>
      have h := ih i (by simpa using hi)
      rw [bAt_succ, bC_cons, show (i + 1) * 4 = i * 4 + 4 from by omega]
      exact h
theorem CellsAt.get {w : World} {b o : Nat} {cs : List Value} {ao : Option Addr} (h : CellsAt w ao cs) (ha : ao = some ⟨b, o, none⟩) {j : Nat} {v : Value} (hj : cs[j]? = some v) : w.cell? ⟨b, o + j, none⟩ = some v := by
  obtain ⟨hlt, _⟩ := List.getElem?_eq_some_iff.1 hj
  obtain ⟨b', o', e, _, hc⟩ := h (by omega)
  rw [ha] at e; cases e
  rw [hc j hlt, List.getD_eq_getElem?_getD, hj]; rfl
theorem CellsAt.blks {w : World} {ao : Option Addr} {bs : List B5} (h : CellsAt w ao (bC bs)) (h0 : 0 < bs.length) :
    ∃ b o, ao = some ⟨b, o, none⟩ ∧ b < w.heap.size ∧ ∀ i, i < bs.length → w.cell? ⟨b, o + i * 4, none⟩ = some (.int .i64 (bAt bs i).l) ∧ w.cell? ⟨b, o + i * 4 + 1, none⟩ = some (.int .i64 (bAt bs i).w) ∧ w.cell? ⟨b, o + i * 4 + 2, none⟩ = some (.int .i64 (bAt bs i).u) ∧ w.cell? ⟨b, o + i * 4 + 3, none⟩ = some (.string (bAt bs i).h) := by
  obtain ⟨b, o, e, hl, _⟩ := h (by rw [bC_length]; omega)
  refine ⟨b, o, e, hl, fun i hi => ?_⟩
  obtain ⟨h1, h2, h3, h4⟩ := bC_get bs i hi
  exact ⟨h.get e h1, h.get e h2, h.get e h3, h.get e h4⟩

theorem ret_i {R : Ending → World → Prop} {v' : Value} {w : World} {k : IntKind} {a b : Int} (h : R (.returned (.int k a)) w) (ev : v' = .int k b) (e : a = b) : R (.returned v') w := by rw [ev, ← e]; exact h
theorem ret_b {R : Ending → World → Prop} {v' : Value} {w : World} {a b : Bool} (h : R (.returned (.bool a)) w) (ev : v' = .bool b) (e : a = b) : R (.returned v') w := by rw [ev, ← e]; exact h
/-! ### boxes -/
theorem box_ex (w : World) (cs : Array Value) (e : TypeId) : ∃ w1, w.alloc (.cells cs e) = w1 ∧ Hid (Below w.heap.size w w1) ∧ w.heap.size < w1.heap.size ∧ Hid (w1.heap[w.heap.size]? = some (.cells cs e (0, 0))) :=
  ⟨_, rfl, (Below.refl _ _).alloc (Nat.le_refl _) _, by simp, by show (w.heap.push _)[_]? = _; simp⟩
theorem cell_at {w : World} {b : Nat} {cs : Array Value} {e : TypeId} (h : w.heap[b]? = some (.cells cs e (0, 0))) {j : Nat} {v : Value} (hj : cs[j]? = some v) : w.cell? ⟨b, j, none⟩ = some v := by
  simp [World.cell?, h, hj]
theorem frozen_at {w : World} {b : Nat} {cs : Array Value} {e : TypeId} (h : w.heap[b]? = some (.cells cs e (0, 0))) (j : Nat) : w.frozen? ⟨b, j, none⟩ = false := by
  simp [World.frozen?, h]
theorem box2 (w : World) (x y : Value) (e : TypeId) : ∃ w1, Hid (w.alloc (.cells #[x, y] e) = w1) ∧ Hid (Below w.heap.size w w1) ∧ w.heap.size < w1.heap.size ∧ w1.cell? ⟨w.heap.size, 0, none⟩ = some x ∧ w1.cell? ⟨w.heap.size, 1, none⟩ = some y := by
  obtain ⟨w1, h1, h2, h3, h4⟩ := box_ex w #[x, y] e
  exact ⟨w1, h1, h2, h3, cell_at h4.out rfl, cell_at h4.out rfl⟩
theorem box4 (w : World) (x y z u : Value) (e : TypeId) : ∃ w1, Hid (w.alloc (.cells #[x, y, z, u] e) = w1) ∧ Hid (Below w.heap.size w w1) ∧ w.heap.size < w1.heap.size ∧ w1.cell? ⟨w.heap.size, 0, none⟩ = some x ∧ w1.cell? ⟨w.heap.size, 1, none⟩ = some y ∧
    w1.cell? ⟨w.heap.size, 2, none⟩ = some z ∧ w1.cell? ⟨w.heap.size, 3, none⟩ = some u := by
  obtain ⟨w1, h1, h2, h3, h4⟩ := box_ex w #[x, y, z, u] e
  exact ⟨w1, h1, h2, h3, cell_at h4.out rfl, cell_at h4.out rfl, cell_at h4.out rfl, cell_at h4.out rfl⟩
/-- A cell that was there reads as before. -/
theorem cellB {n : Nat} {w w' : World} {b o : Nat} {v : Value} (hb : Below n w w') (h : w.cell? ⟨b, o, none⟩ = some v) (hn : b < n) : w'.cell? ⟨b, o, none⟩ = some v := (hb.cell (p := ⟨b, o, none⟩) hn).trans h
theorem heap_below {w w' : World} {b n : Nat} {o : Option Obj} (h : w.heap[b]? = o) (hb : Below n w w') (hn : b < n) : w'.heap[b]? = o := (hb.block b hn).trans h

/-! ### numbers and names -/
def inB (n a b : Int) : Bool := decide (a ≤ n) && decide (n ≤ b)
theorem inB_iff {n a b : Int} : inB n a b = true ↔ a ≤ n ∧ n ≤ b := by simp [inB]
def lowC (c : UInt8) : Bool := decide (97 ≤ c.toNat) && decide (c.toNat ≤ 122)
def lowB (s : ByteArray) : Bool := s.data.toList.all lowC
/-- The error of a text that should have letters only. -/
def ltrE (s : ByteArray) : Int := if lowB s = true then if s.size ≤ 24 then 0 else 17 else 3
/-- The error of a name. -/
def namE (s : ByteArray) : Int := if s.size = 0 then 3 else ltrE s
def azL : List UInt8 := [97, 98, 99, 100, 101, 102, 103, 104, 105, 106, 107, 108, 109, 110, 111, 112, 113, 114, 115, 116, 117, 118, 119, 120, 121, 122]
theorem az_iff (c : UInt8) : azL.contains c = lowC c := by
  have h : ∀ n : Fin 256, azL.contains (UInt8.ofNat n.val) = lowC (UInt8.ofNat n.val) := by decide +kernel
  have := h ⟨c.toNat, c.toNat_lt⟩
  simpa using this

/-! ### stocks -/
def ckS (m : Int) (bs : List B5) (i : Nat) (_ : Unit) : Unit ⊕ Int :=
  if inB (bAt bs i).l 1 100000 = false ∨ inB (bAt bs i).w 0 100000 = false ∨ inB (bAt bs i).u 0 1048576 = false then .inr 2
  else if 0 < i ∧ (bAt bs i).l ≤ (bAt bs (i - 1)).l then .inr 9
  else if ltrE (bAt bs i).h ≠ 0 then .inr (ltrE (bAt bs i).h)
  else if m < (bAt bs i).w ∧ (bAt bs i).h.size ≠ 0 then .inr 14 else .inl ()
/-- 'Check'. -/
def chkS (m : Int) (bs : List B5) : Int := if inB m 0 100000 = true then if 256 < bs.length then 5 else chkR (loopE (ckS m bs) bs.length 0 ()) else 2
/-- A string is a string. -/
def StrOk (bs : List B5) : Prop := ∀ i, i < bs.length → (bAt bs i).h.size ≤ 9223372036854775807
theorem empty_of {s : ByteArray} (h : s.size = 0) : s.toList.isEmpty = true := by
  rw [Lib.toList_data]
  have : s.data.toList.length = 0 := by simpa using h
  rw [List.length_eq_zero_iff.1 this]; rfl
theorem nempty_of {s : ByteArray} (h : s.size ≠ 0) : s.toList.isEmpty = false := by
  rw [Lib.toList_data]
  cases e : s.data.toList with
  | nil => exact absurd (by have : s.data.toList.length = 0 := by rw [e]; rfl
                            simpa using this) h
  | cons => rfl
theorem lowB_empty {s : ByteArray} (h : s.size = 0) : lowB s = true := by
  have : s.data.toList.length = 0 := by simpa using h
  unfold lowB; rw [List.length_eq_zero_iff.1 this]; rfl
theorem ltrE_empty {s : ByteArray} (h : s.size = 0) : ltrE s = 0 := by
  rw [ltrE, if_pos (lowB_empty h), if_pos (by omega)]
theorem trim_low {s : ByteArray} (h : lowB s = true) : Lib.trimS s.data.toList azL = [] := by
  have h1 : ∀ l : List UInt8, l.all lowC = true → l.dropWhile (azL.contains ·) = [] := by
    intro l hl
    induction l with
    | nil => rfl
    | cons c l ih =>
      rw [List.all_cons, Bool.and_eq_true] at hl
      rw [List.dropWhile_cons_of_pos (by rw [az_iff]; exact hl.1)]
      exact ih hl.2
  unfold Lib.trimS Lib.trimRightS
  rw [h1 _ (by rw [List.all_reverse]; exact h)]
  rfl
theorem trim_notlow {s : ByteArray} (h : lowB s = false) : Lib.trimS s.data.toList azL ≠ [] := by
  have h1 : ∀ l : List UInt8, l.all lowC = false → (l.dropWhile (azL.contains ·)).all lowC = false := by
    intro l
    induction l with
    | nil => intro hl; cases hl
    | cons c l ih =>
      intro hl
      by_cases hc : lowC c = true
      · rw [List.dropWhile_cons_of_pos (by rw [az_iff]; exact hc)]
        rw [List.all_cons, hc, Bool.true_and] at hl
        exact ih hl
      · rw [List.dropWhile_cons_of_neg (by rw [az_iff]; exact hc)]
        exact hl
  intro e
  have h2 : (Lib.trimS s.data.toList azL).all lowC = false := by
    unfold Lib.trimS Lib.trimLeftS
    refine h1 _ ?_
    unfold Lib.trimRightS
    rw [List.all_reverse]
    exact h1 _ (by rw [List.all_reverse]; exact h)
  rw [e] at h2; cases h2
def nmF (s : ByteArray) (i : Nat) (_ : Unit) : Unit ⊕ Int := if lowC (s.data.toList.getD i 0) = true then .inl () else .inr 3
theorem nmF_eq (s : ByteArray) : (loopE (nmF s) s.size 0 () = .inl () ∧ lowB s = true) ∨ (loopE (nmF s) s.size 0 () = .inr 3 ∧ lowB s = false) := by
  have hs : s.size = s.data.toList.length := by simp
  cases h : loopE (nmF s) s.size 0 () with
  | inl u =>
    refine .inl ⟨rfl, ?_⟩
    have h' := (loopE_unit _ _).1 h
    unfold lowB
    rw [List.all_eq_true]
    intro c hc
    obtain ⟨j, hj, rfl⟩ := List.mem_iff_getElem.1 hc
    have := h' j (by omega) (by omega)
    unfold nmF at this
    split at this
    · rename_i h2; rw [List.getD_eq_getElem?_getD, List.getElem?_eq_getElem hj] at h2; exact h2
    · cases this
  | inr r =>
    obtain ⟨j, _, hj, hf⟩ := loopE_unit_inr _ _ h
    have hj' : j < s.data.toList.length := by omega
    unfold nmF at hf
    split at hf
    · cases hf
    · rename_i h2
      cases hf
      refine .inr ⟨rfl, ?_⟩
      cases hl : lowB s with
      | false => rfl
      | true =>
        unfold lowB at hl
        rw [List.all_eq_true] at hl
        exact absurd (by rw [List.getD_eq_getElem?_getD, List.getElem?_eq_getElem hj']; exact hl _ (List.getElem_mem hj')) h2

/-! ### the places of the blocks for which a condition holds -/
def pickTo (p : B5 → Bool) (bs : List B5) : Nat → List Int
  | 0 => []
  | n + 1 => pickTo p bs n ++ if p (bAt bs n) = true then [(n : Int)] else []
def pickL (p : B5 → Bool) (bs : List B5) : List Int := pickTo p bs bs.length
theorem pickTo_length (p : B5 → Bool) (bs : List B5) : ∀ n, (pickTo p bs n).length ≤ n
  | 0 => Nat.le_refl _
  | n + 1 => by
    have := pickTo_length p bs n
    rw [pickTo, List.length_append]; split <;> simp <;> omega
theorem pickTo_mem {p : B5 → Bool} {bs : List B5} {x : Int} : ∀ n, x ∈ pickTo p bs n ↔ ∃ i : Nat, i < n ∧ x = i ∧ p (bAt bs i) = true
  | 0 => by simp [pickTo]
  | n + 1 => by
    rw [pickTo, List.mem_append, pickTo_mem n]
    constructor
    · rintro (⟨i, h1, h2, h3⟩ | h)
      · exact ⟨i, by omega, h2, h3⟩
      · split at h
        · rename_i hp; simp at h; exact ⟨n, by omega, h, hp⟩
        · simp at h
    · rintro ⟨i, h1, h2, h3⟩
      by_cases e : i = n
      · subst e; right; rw [if_pos h3]; simp [h2]
      · exact .inl ⟨i, by omega, h2, h3⟩
def freeP (m : Int) (b : B5) : Bool := decide (b.h.size = 0) && decide (b.w ≤ m)
def heldP (who : ByteArray) (b : B5) : Bool := b.h.toList == who.toList
def lenP (l : Int) (b : B5) : Bool := b.l == l
theorem freeP_no {m : Int} {b : B5} (h : b.h.size ≠ 0) : freeP m b = false := by simp [freeP, h]
theorem freeP_no2 {m : Int} {b : B5} (h : ¬ b.w ≤ m) : freeP m b = false := by simp [freeP, h]
theorem freeP_yes {m : Int} {b : B5} (h : b.h.size = 0) (h2 : b.w ≤ m) : freeP m b = true := by simp [freeP, h, h2]
def B5.val (b : B5) : Value := .agg #[.int .i64 b.l, .int .i64 b.w, .int .i64 b.u, .string b.h]

/-! ### results -/
def nmS (m : Int) (bs : List B5) (who : ByteArray) : Int := if chkS m bs = 0 then namE who else chkS m bs
def frL (m : Int) (bs : List B5) : List Int := if chkS m bs = 0 then pickL (freeP m) bs else []
def devF (bs : List B5) (L : List Int) (i : Nat) (s : Int) : Int ⊕ Int := .inl (wrap64 (s + (bAt bs (at0 L i).toNat).w))
def devS (bs : List B5) (L : List Int) : Int := sumR (loopE (devF bs L) L.length 0 0)
def devN (m : Int) (bs : List B5) (who : ByteArray) : Int := if nmS m bs who = 0 then if (pickL (heldP who) bs).length = 0 then 0 else devS bs (pickL (heldP who) bs) else 0
def devE (m : Int) (bs : List B5) (who : ByteArray) : Int := if nmS m bs who = 0 then if (pickL (heldP who) bs).length = 0 then 6 else 0 else nmS m bs who
theorem chkS_len {m : Int} {bs : List B5} (h : chkS m bs = 0) : bs.length ≤ 256 := by
  by_cases h' : bs.length ≤ 256
  · exact h'
  · unfold chkS at h; split at h
    · rw [if_pos (by omega)] at h; cases h
    · cases h
theorem nmS_chk {m : Int} {bs : List B5} {who : ByteArray} (h : nmS m bs who = 0) : chkS m bs = 0 := by
  unfold nmS at h; split at h
  · assumption
  · exact h
theorem pick_bd {p : B5 → Bool} {bs : List B5} {j : Nat} (hj : j < (pickL p bs).length) : ∃ i : Nat, at0 (pickL p bs) j = i ∧ i < bs.length ∧ p (bAt bs i) = true := by
  have hm : at0 (pickL p bs) j ∈ pickL p bs := by
    unfold at0; rw [List.getD_eq_getElem?_getD, List.getElem?_eq_getElem hj]; exact List.getElem_mem _
  obtain ⟨i, h1, h2, h3⟩ := (pickTo_mem _).1 hm
  exact ⟨i, h2, h1, h3⟩
end Go.Proofs.YtciokmjhdbcmpaaGreatDoor
namespace Go.Proofs.YtciokmjhdbcmpaaGreatDoor
open Go.RowKit
section
variable {P : Program} {ops : Array Oper} {Q : Exit → Act → World → Prop} {md : Region.Mode} {S : World → Prop}
/-- What a post says of a panic does not hang on the frame. -/
def Calm (Q : Exit → Act → World → Prop) : Prop := ∀ c a a' w, Q (.panic c) a w → Q (.panic c) a' w
theorem regionQ {id : Nat} {a : Act} {w : World} (S : World → Prop) (hm : P.follows .mixedOrders = true) (hS : S w.drew)
    (h : ∀ Q' : Exit → Act → World → Prop, Calm Q' → Shut (∀ a w, Q .normal a w → Q' .normal a w) → S w.drew → wpAnyH P .any ops Q' S ops.size (Array.replicate ops.size false) a w.drew) : (Code.region id ops true).wp P Q a w :=
  wp_region_noPanic (wp_region_held_drew hm hS (h (NoPanic Q) (fun _ _ _ _ h => h) (fun _ _ h => NoPanic.normal h)))
theorem takeQ {i : Nat} {oi : Oper} {d : Option Tmp} {v : Value} {fuel : Nat} {listed : Array Bool} {a : Act} {w : World} (hi : ops[i]? = some oi) (hd : oi.dst = d)
    (hs : Region.noSelect ops = true) (hf : Region.free md ops listed i = true) (hr : (Region.ready md ops listed).contains i = true)
    (hQ : Calm Q) (hS : S w) (hw : Region.wanted oi (yielded ops a.tmps) = true) (hy : ∀ w, S w → (execOp a.eval oi).run P w = .ok (.value v) w)
    (h : wpAnyH P md ops Q S fuel (listed.setIfInBounds i true) (a.put d v) w) : wpAnyH P md ops Q S (fuel + 1) listed a w := by
  subst hd
  exact wpAnyH_take hi hs hf hr (fun c a w h => hQ c _ _ w h) (Or.inl ⟨hw, hy⟩) hS h
theorem skipQ {i : Nat} {oi : Oper} {d : Option Tmp} {fuel : Nat} {listed : Array Bool} {a : Act} {w : World} (hi : ops[i]? = some oi) (hd : oi.dst = d)
    (hs : Region.noSelect ops = true) (hf : Region.free md ops listed i = true) (hr : (Region.ready md ops listed).contains i = true)
    (hQ : Calm Q) (hS : S w) (hw : Region.wanted oi (yielded ops a.tmps) = false)
    (h : wpAnyH P md ops Q S fuel (listed.setIfInBounds i true) (a.put d undef) w) : wpAnyH P md ops Q S (fuel + 1) listed a w := by
  subst hd
  exact wpAnyH_take hi hs hf hr (fun c a w h => hQ c _ _ w h) (Or.inr ⟨hw, rfl⟩) hS h
/-- append of nothing, at a step of a drawn region. -/
theorem step_none {w : World} {o : Oper} {a : Act} {K : Act → World → Prop} {E : Prop} (hgd : o.guard = none) (s x : Operand) (t : TypeId)
    (ho : o.op = .call { callee := .builtin .append, args := #[s, x], argTypes := #[t, t] }) (e : TypeId) (i : TypeInfo) (ht : P.underlying t = some (.slice e)) (hi : P.info? e = some i)
    (b : Option Addr) (n c : Nat) (hle : n ≤ c) (hs : a.eval s = .slice b n c) (a2 : Option Addr) (c2 : Nat) (hx : a.eval x = .slice a2 0 c2) (h : K (a.put o.dst (.slice b n c)) w) :
    if Region.wanted o (yielded ops a.tmps) = true then Oper.wp P o a w K Q else E := by
  have hw : Region.wanted o (yielded ops a.tmps) = true := by simp [Region.wanted, hgd]
  rw [if_pos hw]
  have hr : (Builtin.append_ #[t, t] o.type #[.slice b n c, .slice a2 0 c2]).run P w = .ok (.slice b n c) w := by
    refine run_append_nothing w t t o.type e i ht hi b n c hle _ ?_
    cases a2 with
    | some ad => exact Src.ofSlice w ht ad 0 c2 [] (by simp) (by simp) (by simp)
    | none =>
      exact Src.ofNil w ht c2
  unfold Oper.wp execOp
  simp only [ho, resolve, invoke, builtin, Sem.run_bind, Sem.run_pure, Result.andThen_ok, List.map_toArray, List.map_cons, List.map_nil, hs, hx, hr]
  exact h
/-- append of as many as there are, at a step of a drawn region. -/
theorem step_appendN {w : World} {o : Oper} {a : Act} {K : Act → World → Prop} {E : Prop} (hgd : o.guard = none) (s x : Operand) (t : TypeId)
    (ho : o.op = .call { callee := .builtin .append, args := #[s, x], argTypes := #[t, t] })
    (base : Nat) (e : TypeId) {z : Value} {size bytes : Nat} (ht : P.underlying t = some (.slice e)) (hi : (P.info? e).map (fun i => (i.zero, i.size, i.bytes)) = some (some z, size, bytes))
    (hzs : z.cells.size = size) (hsz : 0 < size)
    (v : Value) (n : Nat) (xs : List Value) (hs : a.eval s = v) (hown : w.ownsRow base e size v n xs)
    (ad : Option Addr) (m c : Nat) (news : List Value) (hx : a.eval x = .slice ad m c) (hl : news.length = m * size) (hc : CellsAt w ad news) (h1 : ∀ u ∈ news, u.oneCell' = true)
    (h63 : n + m ≤ 9223372036854775807) (hbytes : (n + m) * bytes ≤ 140737488355328) (hbase : base ≤ w.heap.size)
    (h : ∀ v' w', w'.ownsRow base e size v' (n + m) (xs ++ news) → Below base w w' → K (a.put o.dst v') w') :
    if Region.wanted o (yielded ops a.tmps) = true then Oper.wp P o a w K Q else E := by
  obtain ⟨i, q1, q2, q3, q4⟩ := info_parts hi
  by_cases h0 : m = 0
  · subst h0
    obtain rfl : news = [] := List.length_eq_zero_iff.1 (by simpa using hl)
    have hK := h v w (by simpa using hown) (Below.refl _ _)
    rcases hown.2 with ⟨rfl, _⟩ | ⟨g, cap, cur, rfl, _, _, hnc, _⟩
    · exact step_none hgd s x t ho e i ht q1 none 0 0 (Nat.le_refl _) hs ad c hx hK
    · exact step_none hgd s x t ho e i ht q1 (some ⟨g, 0, none⟩) n cap hnc hs ad c hx hK
  · obtain ⟨b, o', e', _, _⟩ := hc (by rw [hl]; exact Nat.mul_pos (by omega) hsz)
    subst e'
    refine step_append_lies w hgd s x t ho base e i z size bytes ht q1 q2 q3 q4 hzs hsz v n xs hs hown ⟨b, o', none⟩ m c news hx hl ?_ h1 (by omega) (by unfold maxLen; omega) hbytes hbase w.heap.size rfl ?_
    · intro j u hj
      have hadd : (⟨b, o', none⟩ : Addr).add j = ⟨b, o' + j, none⟩ := by unfold Addr.add; split <;> simp_all
      rw [hadd]; exact hc.get rfl hj
    · intro g cap w' h2 h3 _ _
      exact h _ w' h2 ((Below.refl base w).grown h3 hbase (fun j e => (hown.lt j e).1))
end
end Go.Proofs.YtciokmjhdbcmpaaGreatDoor
namespace Go.Proofs.YtciokmjhdbcmpaaGreatDoor
open Go.RowKit

/-- An event of a log. -/
structure Ev where
  k : Int
  g : ByteArray
  p : ByteArray
  t : ByteArray
def Ev.cells (v : Ev) : List Value := [.int .i64 v.k, .string v.g, .string v.p, .string v.t]
def Ev.zero : Ev := ⟨0, ⟨#[]⟩, ⟨#[]⟩, ⟨#[]⟩⟩
def eC (vs : List Ev) : List Value := vs.flatMap Ev.cells
def eAt (vs : List Ev) (i : Nat) : Ev := vs.getD i Ev.zero
theorem eC_length (vs : List Ev) : (eC vs).length = vs.length * 4 := by
  induction vs with
  | nil => rfl
  | cons b bs ih => show (b.cells ++ eC bs).length = _; rw [List.length_append, ih]; simp [Ev.cells]; omega
theorem eC_cons (v : Ev) (vs : List Ev) : eC (v :: vs) = .int .i64 v.k :: .string v.g :: .string v.p :: .string v.t :: eC vs := rfl
theorem eC_append (a b : List Ev) : eC (a ++ b) = eC a ++ eC b := by unfold eC; rw [List.flatMap_append]
theorem eAt_succ (v : Ev) (vs : List Ev) (i : Nat) : eAt (v :: vs) (i + 1) = eAt vs i := rfl
theorem eAt_lt {vs : List Ev} {i : Nat} (h : i < vs.length) : eAt vs i = vs[i] := by unfold eAt; rw [List.getD_eq_getElem?_getD, List.getElem?_eq_getElem h]; rfl
theorem take_succE {vs : List Ev} {k : Nat} (h : k < vs.length) : vs.take (k + 1) = vs.take k ++ [eAt vs k] := by
  rw [List.take_succ_eq_append_getElem h, eAt_lt h]
theorem eC_get (vs : List Ev) : ∀ (i : Nat), i < vs.length → (eC vs)[i * 4]? = some (.int .i64 (eAt vs i).k) ∧ (eC vs)[i * 4 + 1]? = some (.string (eAt vs i).g) ∧ (eC vs)[i * 4 + 2]? = some (.string (eAt vs i).p) ∧ (eC vs)[i * 4 + 3]? = some (.string (eAt vs i).t) := by
  induction vs with
  | nil => intro i hi; exact absurd hi (by simp)
  | cons b bs ih =>
    intro i hi
    cases i with
    | zero => exact ⟨rfl, rfl, rfl, rfl⟩
    | succ i =>
      have h := ih i (by simpa using hi)
      rw [eAt_succ, eC_cons, show (i + 1) * 4 = i * 4 + 4 from by omega]
      exact h
theorem CellsAt.evts {w : World} {ao : Option Addr} {vs : List Ev} (h : CellsAt w ao (eC vs)) (h0 : 0 < vs.length) :
    ∃ b o, ao = some ⟨b, o, none⟩ ∧ b < w.heap.size ∧ ∀ i, i < vs.length → w.cell? ⟨b, o + i * 4, none⟩ = some (.int .i64 (eAt vs i).k) ∧ w.cell? ⟨b, o + i * 4 + 1, none⟩ = some (.string (eAt vs i).g) ∧ w.cell? ⟨b, o + i * 4 + 2, none⟩ = some (.string (eAt vs i).p) ∧ w.cell? ⟨b, o + i * 4 + 3, none⟩ = some (.string (eAt vs i).t) := by
  obtain ⟨b, o, e, hl, _⟩ := h (by rw [eC_length]; omega)
  refine ⟨b, o, e, hl, fun i hi => ?_⟩
  obtain ⟨h1, h2, h3, h4⟩ := eC_get vs i hi
  exact ⟨h.get e h1, h.get e h2, h.get e h3, h.get e h4⟩
/-- Strings are strings. -/
def EvOk (v : Ev) : Prop := v.g.size ≤ 9223372036854775807 ∧ v.p.size ≤ 9223372036854775807 ∧ v.t.size ≤ 9223372036854775807
def LogOk (vs : List Ev) : Prop := ∀ i, i < vs.length → EvOk (eAt vs i)

/-! ### names -/
def letC (c : UInt8) : Bool := (decide (65 ≤ c.toNat) && decide (c.toNat ≤ 90)) || (decide (97 ≤ c.toNat) && decide (c.toNat ≤ 122))
def digC (c : UInt8) : Bool := decide (48 ≤ c.toNat) && decide (c.toNat ≤ 57)
def ndF (s : ByteArray) (i : Nat) (_ : Unit) : Unit ⊕ Int := if letC (s.data.toList.getD i 0) = true then .inl () else if digC (s.data.toList.getD i 0) = true then .inl () else .inr 3
/-- The error of a name. -/
def nmE (s : ByteArray) : Int :=
  if 24 < s.size then 17 else if s.size = 0 then 3 else if letC (s.data.toList.getD 0 0) = true then chkR (loopE (ndF s) s.size 0 ()) else 3
/-- The error of an event alone. -/
def evE (v : Ev) : Int :=
  if v.k < 0 ∨ 3 < v.k then 1
  else if v.k = 0 then (if nmE v.g = 0 then if nmE v.p = 0 then nmE v.t else nmE v.p else nmE v.g)
  else if v.k = 3 then (if nmE v.p = 0 then if v.g.size = 0 ∧ v.t.size = 0 then 0 else 3 else nmE v.p)
  else (if nmE v.g = 0 then if v.p.size = 0 ∧ v.t.size = 0 then 0 else 3 else nmE v.g)
end Go.Proofs.YtciokmjhdbcmpaaGreatDoor
namespace Go.Proofs.YtciokmjhdbcmpaaGreatDoor
open Go.RowKit

/-- A dimension. -/
structure Dm where
  f : ByteArray
  t : ByteArray
  x : Int
  l : Int
  h : Int
def Dm.cells (v : Dm) : List Value := [.string v.f, .string v.t, .int .i64 v.x, .int .i64 v.l, .int .i64 v.h]
def Dm.zero : Dm := ⟨⟨#[]⟩, ⟨#[]⟩, 0, 0, 0⟩
def dC (vs : List Dm) : List Value := vs.flatMap Dm.cells
def dAt (vs : List Dm) (i : Nat) : Dm := vs.getD i Dm.zero
theorem dC_length (vs : List Dm) : (dC vs).length = vs.length * 5 := by
  induction vs with
  | nil => rfl
  | cons b bs ih => show (b.cells ++ dC bs).length = _; rw [List.length_append, ih]; simp [Dm.cells]; omega
theorem dC_cons (v : Dm) (vs : List Dm) : dC (v :: vs) = .string v.f :: .string v.t :: .int .i64 v.x :: .int .i64 v.l :: .int .i64 v.h :: dC vs := rfl
theorem dC_append (a b : List Dm) : dC (a ++ b) = dC a ++ dC b := by unfold dC; rw [List.flatMap_append]
theorem dAt_succ (v : Dm) (vs : List Dm) (i : Nat) : dAt (v :: vs) (i + 1) = dAt vs i := rfl
theorem dAt_lt {vs : List Dm} {i : Nat} (h : i < vs.length) : dAt vs i = vs[i] := by unfold dAt; rw [List.getD_eq_getElem?_getD, List.getElem?_eq_getElem h]; rfl
theorem take_succD {vs : List Dm} {k : Nat} (h : k < vs.length) : vs.take (k + 1) = vs.take k ++ [dAt vs k] := by
  rw [List.take_succ_eq_append_getElem h, dAt_lt h]
theorem drop_dAt {vs : List Dm} {k : Nat} (h : k < vs.length) : vs.drop k = dAt vs k :: vs.drop (k + 1) := by rw [List.drop_eq_getElem_cons h, dAt_lt h]
theorem dC_get (vs : List Dm) : ∀ (i : Nat), i < vs.length → (dC vs)[i * 5]? = some (.string (dAt vs i).f) ∧ (dC vs)[i * 5 + 1]? = some (.string (dAt vs i).t) ∧ (dC vs)[i * 5 + 2]? = some (.int .i64 (dAt vs i).x) ∧ (dC vs)[i * 5 + 3]? = some (.int .i64 (dAt vs i).l) ∧ (dC vs)[i * 5 + 4]? = some (.int .i64 (dAt vs i).h) := by
  induction vs with
  | nil => intro i hi; exact absurd hi (by simp)
  | cons b bs ih =>
    intro i hi
    cases i with
    | zero => exact ⟨rfl, rfl, rfl, rfl, rfl⟩
    | succ i =>
      have h := ih i (by simpa using hi)
      rw [dAt_succ, dC_cons, show (i + 1) * 5 = i * 5 + 5 from by omega]
      exact h
theorem CellsAt.dms {w : World} {ao : Option Addr} {vs : List Dm} (h : CellsAt w ao (dC vs)) (h0 : 0 < vs.length) :
    ∃ b o, ao = some ⟨b, o, none⟩ ∧ b < w.heap.size ∧ ∀ i, i < vs.length → w.cell? ⟨b, o + i * 5, none⟩ = some (.string (dAt vs i).f) ∧ w.cell? ⟨b, o + i * 5 + 1, none⟩ = some (.string (dAt vs i).t) ∧ w.cell? ⟨b, o + i * 5 + 2, none⟩ = some (.int .i64 (dAt vs i).x) ∧ w.cell? ⟨b, o + i * 5 + 3, none⟩ = some (.int .i64 (dAt vs i).l) ∧ w.cell? ⟨b, o + i * 5 + 4, none⟩ = some (.int .i64 (dAt vs i).h) := by
  obtain ⟨b, o, e, hl, _⟩ := h (by rw [dC_length]; omega)
  refine ⟨b, o, e, hl, fun i hi => ?_⟩
  obtain ⟨h1, h2, h3, h4, h5⟩ := dC_get vs i hi
  exact ⟨h.get e h1, h.get e h2, h.get e h3, h.get e h4, h.get e h5⟩
/-- Strings are strings. -/
def DmOk (v : Dm) : Prop := v.f.size ≤ 9223372036854775807 ∧ v.t.size ≤ 9223372036854775807
def DmsOk (vs : List Dm) : Prop := ∀ i, i < vs.length → DmOk (dAt vs i)
/-- The same bytes. -/
def sameD (a b : ByteArray) : Bool := a.toList == b.toList
/-- The error of limits, of a dimension. -/
def inR (n : Int) : Bool := decide (-100000 ≤ n) && decide (n ≤ 100000)
def lmE (l h : Int) : Int := if inR l = true ∧ inR h = true then if h < l then 9 else 0 else 2
def vaE (v : Dm) : Int :=
  if nmE v.f = 0 then
    if nmE v.t = 0 then
      if sameD v.f v.t = true then 7
      else if v.x < 0 ∨ 3 ≤ v.x then 1
      else lmE v.l v.h
    else nmE v.t
  else nmE v.f
def axE (n : Int) : Int := if n < 0 ∨ 3 ≤ n then 1 else 0
def giF (vs : List Dm) (i : Nat) (_ : Unit) : Unit ⊕ Int := if vaE (dAt vs i) = 0 then .inl () else .inr (vaE (dAt vs i))
/-- 'given'. -/
def giE (vs : List Dm) (ax : Int) : Int :=
  if 256 < vs.length then 5 else match loopE (giF vs) vs.length 0 () with
    | .inl _ => axE ax
    | .inr r => r
end Go.Proofs.YtciokmjhdbcmpaaGreatDoor
