/- Rows of structs; the walk of own (layer 53). -/
import Derived.Test.YtcmhompbdanpdaaGreatDoorRa
import Derived.Test.YtcmhompbdanpdaaGreatDoorChecked
import Derived.OwnWalk
import Derived.RangeFuncRecord
namespace Go.Proofs.YtcmhompbdanpdaaGreatDoor
open Go.RowKit

theorem wp_appendT {P : Program} {w : World} {ops : Array Oper} {rest : List Oper} {o : Oper} {a : Act} {Q : Exit → Act → World → Prop} (hgd : o.guard = none) (s x : Operand) (t : TypeId)
    (ho : o.op = .call { callee := .builtin .append, args := #[s, x], argTypes := #[t, t] })
    (base : Nat) (e : TypeId) {z : Value} {size bytes : Nat} (ht : P.underlying t = some (.slice e)) (hi : (P.info? e).map (fun i => (i.zero, i.size, i.bytes)) = some (some z, size, bytes))
    (hzs : z.cells.size = size) (hsz : 0 < size) 
    (v : Value) (n : Nat) (xs : List Value) (hs : a.eval s = v) (hown : w.ownsRow base e size v n xs)
    (ad : Addr) (m c : Nat) (news : List Value) (hm : news.length = m * size) (hx : a.eval x = .slice (some ad) m c) (hc : CellsAt w (some ad) news) (h1 : ∀ u ∈ news, u.oneCell' = true)
    (hn : n + m ≤ 9223372036854775807) (hbytes : (n + m) * bytes ≤ 140737488355328) (hbase : base ≤ w.heap.size)
    (h : ∀ v' w', w'.ownsRow base e size v' (n + m) (xs ++ news) → w.grownBy w' v.ownBlock → (v' = .slice none 0 0 ↔ v = .slice none 0 0 ∧ m = 0) → wpList P ops Q rest (a.put o.dst v') w') : wpList P ops Q (o :: rest) a w := by
  obtain ⟨i0, q1, q2, q3, q4⟩ := info_parts hi
  refine wpList_append_own w hgd s x t ho base e i0 z size bytes ht q1 q2 q3 q4 hzs hsz v n xs hs hown ad m c news hx hm ?_ h1 (by unfold maxLen; omega) hbytes hbase h
  intro j u hj
  obtain ⟨hlt, _⟩ := List.getElem?_eq_some_iff.1 hj
  obtain ⟨b, o, e, _, _⟩ := hc (by omega)
  cases e
  have : (⟨b, o, none⟩ : Addr).add j = ⟨b, o + j, none⟩ := by unfold Addr.add; split <;> simp_all
  rw [this]; exact hc.get rfl hj
theorem bC_one (bs : List B5) : ∀ u ∈ bC bs, u.oneCell' = true := by
  intro u hu
  unfold bC at hu
  rw [List.mem_flatMap] at hu
  obtain ⟨b, _, hb⟩ := hu
  simp only [B5.cells, List.mem_cons, List.not_mem_nil, or_false] at hb
  rcases hb with rfl | rfl | rfl | rfl <;> rfl

theorem ownsRow_below {w w' : World} {base : Nat} {e : TypeId} {size : Nat} {v : Value} {n : Nat} {xs : List Value} (h : w.ownsRow base e size v n xs) (hb : Below w.heap.size w w') : w'.ownsRow base e size v n xs := by
  refine ⟨h.1, ?_⟩
  rcases h.2 with h1 | ⟨g, cap, cur, h1, h2, h3, h4⟩
  · exact .inl h1
  · exact .inr ⟨g, cap, cur, h1, h2, (hb.block g (lt_of_block h3)).trans h3, h4⟩
theorem ownsRow_mono {w : World} {base base' : Nat} {e : TypeId} {size : Nat} {v : Value} {n : Nat} {xs : List Value} (h : w.ownsRow base e size v n xs) (hb : base' ≤ base) : w.ownsRow base' e size v n xs := by
  refine ⟨h.1, ?_⟩
  rcases h.2 with h1 | ⟨g, cap, cur, h1, h2, h3⟩
  · exact .inl h1
  · exact .inr ⟨g, cap, cur, h1, by omega, h3⟩
theorem ownsRow_read {w : World} {base : Nat} {e : TypeId} {size : Nat} {v : Value} {n : Nat} {xs : List Value} (h : w.ownsRow base e size v n xs) :
    ∃ ao c, v = .slice ao n c ∧ CellsAt w ao xs ∧ (ao = none → n = 0 ∧ c = 0) := by
  rcases h.2 with ⟨h1, h2⟩ | ⟨g, cap, cur, h1, h2, h3, h4, h5, h6, h7⟩
  · subst h2
    have : xs = [] := List.length_eq_zero_iff.1 (by simpa using h.1)
    subst this
    exact ⟨none, 0, h1, CellsAt.nil _ _, fun _ => ⟨rfl, rfl⟩⟩
  · refine ⟨_, cap, h1, fun _ => ⟨g, 0, rfl, lt_of_block h3, fun j hj => ?_⟩, fun e => by cases e⟩
    have hj' : j < n * size := by rw [← h.1]; exact hj
    have hsz : n * size ≤ cur.size := by rw [h6]; exact Nat.mul_le_mul_right _ h4
    have e2 : xs[j]? = cur[j]? := by rw [← h7, List.getElem?_take, if_pos hj']; simp
    have h8 : j < cur.size := by omega
    rw [List.getD_eq_getElem?_getD, e2]
    simp [World.cell?, h3, h8]

theorem cells4 (w : World) (x y z u : Value) (e : TypeId) : CellsAt (w.alloc (.cells #[x, y, z, u] e)) (some ⟨w.heap.size, 0, none⟩) [x, y, z, u] := by
  intro _
  refine ⟨_, 0, rfl, by simp, fun j hj => ?_⟩
  rw [Nat.zero_add, World.cell?_alloc_new]
  match j, hj with
  | 0, _ => rfl
  | 1, _ => rfl
  | 2, _ => rfl
  | 3, _ => rfl

end Go.Proofs.YtcmhompbdanpdaaGreatDoor
