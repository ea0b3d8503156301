/- slices.Reverse of an own list of steps; append inside a fence. -/
import Derived.OwnWalkIn
import Derived.Shelf.SlicesQ.Reverse
import Derived.Test.YtlgjhjgdmomfoaaMcb
import Derived.Test.YtlgjhjgdmomfoaaMcw
namespace Go.Proofs.Ytlgjhjgdmomfoaa
open Go.RowKit Go.Sort

instance : Inhabited Sp := ⟨Sp.zero⟩
theorem wpIn_appendT {F : Fence} {nf : Nat} {P : Program} {w : World} {ops : Array Oper} {rest : List Oper} {o : Oper} {a : Act} {Q : Exit → Act → World → Prop} (hgd : o.guard = none) (s x : Operand) (t : TypeId)
    (ho : o.op = .call { callee := .builtin .append, args := #[s, x], argTypes := #[t, t] })
    (base : Nat) (e : TypeId) {z : Value} {size bytes : Nat} (ht : P.underlying t = some (.slice e)) (hi : (P.info? e).map (fun i => (i.zero, i.size, i.bytes)) = some (some z, size, bytes))
    (hzs : z.cells.size = size) (hsz : 0 < size)
    (v : Value) (n : Nat) (xs : List Value) (hs : a.eval s = v) (hown : w.ownsRow base e size v n xs)
    (ad : Addr) (m c : Nat) (news : List Value) (hm : news.length = m * size) (hx : a.eval x = .slice (some ad) m c) (hc : CellsAt w (some ad) news) (h1 : ∀ u ∈ news, u.oneCell' = true)
    (hn : n + m ≤ 9223372036854775807) (hbytes : (n + m) * bytes ≤ 140737488355328) (hbase : base ≤ w.heap.size)
    (h : ∀ v' w', w'.ownsRow base e size v' (n + m) (xs ++ news) → w.grownBy w' v.ownBlock → (v' = .slice none 0 0 ↔ v = .slice none 0 0 ∧ m = 0) → wpListIn F nf P ops Q rest (a.put o.dst v') w') : wpListIn F nf P ops Q (o :: rest) a w := by
  obtain ⟨i0, q1, q2, q3, q4⟩ := info_parts hi
  refine wpListIn_append_own w hgd s x t ho base e i0 z size bytes ht q1 q2 q3 q4 hzs hsz v n xs hs hown ad m c news hx hm ?_ h1 (by unfold maxLen; omega) hbytes hbase h
  intro j u hj
  obtain ⟨hlt, _⟩ := List.getElem?_eq_some_iff.1 hj
  obtain ⟨b, o, e, _, _⟩ := hc (by omega)
  cases e
  have : (⟨b, o, none⟩ : Addr).add j = ⟨b, o + j, none⟩ := by unfold Addr.add; split <;> simp_all
  rw [this]; exact hc.get rfl hj
def rev_ren : Go.Shelf.Ren := ⟨fun | 35 => 86 | n => n, fun | 0 => 0 | 3 => 3 | 4 => 4 | 22 => 23 | 23 => 28 | n => n, fun | n => n⟩
theorem rev_lays : Go.Proofs.SlLaysE0.n35 Try.prog rev_ren := {
  mixed := by kernel_rfl
  f35 := ⟨Try.f86.name, by decide, Try.func86.trans (congrArg some (by kernel_rfl))⟩
  t0 := Try.underlying0
  a0 := Try.isAgg0
  z0 := Try.sizeOf0
  v0 := Try.zeroValue0
  t3 := Try.underlying3
  a3 := Try.isAgg3
  z3 := Try.sizeOf3
  v3 := Try.zeroValue3
  t4 := Try.underlying4
  a4 := Try.isAgg4
  z4 := Try.sizeOf4
  v4 := Try.zeroValue4
  t22 := Try.underlying23
  a22 := Try.isAgg23
  z22 := Try.sizeOf23
  v22 := Try.zeroValue23 }
theorem flat_sp (ls : List Sp) : (flatK Sp.cells 2 ls.toArray).toList = pC ls := by
  apply List.ext_getElem?
  intro t
  by_cases h : t < ls.length * 2
  · have hs : t < (flatK Sp.cells 2 ls.toArray).size := by simpa using h
    have h1 := get_flatK Sp.cells 2 ls.toArray t (by simpa using h)
    rw [getElem!_pos _ t hs] at h1
    have h2 : (flatK Sp.cells 2 ls.toArray).toList[t]? = some ((Sp.cells ls.toArray[t / 2]!)[t % 2]!) := by
      rw [Array.getElem?_toList, Array.getElem?_eq_getElem hs, h1]
    rw [h2]
    have h3 : ls.toArray[t / 2]! = pAt ls (t / 2) := by
      have hl : t / 2 < ls.length := by omega
      rw [pAt_lt hl]; simp [hl]
    rw [h3]
    obtain ⟨g0, g1⟩ := pC_get ls (t / 2) (by omega)
    have ht : t = t / 2 * 2 + t % 2 := by omega
    have hr : t % 2 = 0 ∨ t % 2 = 1 := by omega
    rcases hr with hr | hr
    · rw [hr] at ht ⊢
      rw [ht]
      simp only [Nat.add_zero] at *
      rw [show t / 2 * 2 / 2 = t / 2 from by omega, g0]; rfl
    · rw [hr] at ht ⊢
      rw [ht]
      rw [show (t / 2 * 2 + 1) / 2 = t / 2 from by omega, g1]; rfl
  · rw [List.getElem?_eq_none (by simp; omega), List.getElem?_eq_none (by rw [pC_length]; omega)]
theorem pC_one (ls : List Sp) : ∀ u ∈ pC ls, u.oneCell' = true := by
  intro u hu
  obtain ⟨x, _, hx⟩ := List.mem_flatMap.1 hu
  simp [Sp.cells] at hx
  rcases hx with rfl | rfl <;> rfl
theorem revS_any (base : Nat) (ls : List Sp) (v : Value) (w : World) (R : Ending → World → Prop) (hl : ls.length ≤ 1000000) (h0 : 0 < ls.length) (ho : w.ownsRow base 28 2 v ls.length (pC ls))
   (hR : ∀ w', w.grownBy w' v.ownBlock → w'.ownsRow base 28 2 v ls.length (pC ls.reverse) → R (.returned (.tuple #[])) w') :
    Calls Try.prog 86 #[v] w R := by
  have HR := Lib.hid hR
  clear hR
  rcases ho.2 with ⟨rfl, hz⟩ | ⟨g, cap, cur, rfl, hb, hgg, h1, h2, h3, h4⟩
  · omega
  · have hH : HoldsK Sp.cells 2 w g 0 ls.toArray := by
      intro j hj
      have hj' : j < ls.length * 2 := by simpa using hj
      refine ⟨?_, frozen_of hgg _⟩
      have e : (pC ls)[j]? = some ((flatK Sp.cells 2 ls.toArray)[j]!) := by
        rw [← flat_sp, Array.getElem?_toList, Array.getElem?_eq_getElem hj, getElem!_pos _ j hj]
      rw [Nat.zero_add]
      refine cell_of hgg ?_
      rw [← h4, List.getElem?_take, if_pos hj'] at e
      simpa using e
    have hc := AnyQ.slices_Reverse rev_lays 2 (fun w => by kernel_rfl) (fun w => by kernel_rfl) Sp.cells (fun _ => rfl) (fun x u hu => by
      simp [Sp.cells] at hu
      rcases hu with rfl | rfl <;> rfl) g 0 cap ls.toArray w hH (by simp; omega)
    rw [List.size_toArray] at hc
    refine hc.mono ?_
    rintro e w' ⟨rfl, n, rfl⟩
    have hrev : ls.toArray.reverse = ls.reverse.toArray := by simp
    rw [hrev]
    have hF := flat_sp ls.reverse
    have hFs : (flatK Sp.cells 2 ls.reverse.toArray).size = ls.length * 2 := by simp
    unfold putRowK putRow
    obtain ⟨F, hFe⟩ : ∃ F, flatK Sp.cells 2 ls.reverse.toArray = F := ⟨_, rfl⟩
    rw [hFe] at hF hFs ⊢
    have hg : (mapBlock (Sort.ahead w n) g (putCells id 0 F)).heap[g]? = some (.cells (putCells id 0 F cur) 28 (0, 0)) := by
      have hgg' : (Sort.ahead w n).heap[g]? = some (.cells cur 28 (0, 0)) := hgg
      simp only [mapBlock, Array.getElem?_modify, hgg']
      rfl
    have hgr : w.grownBy (mapBlock (Sort.ahead w n) g (putCells id 0 F)) (some g) := by
      refine ⟨rfl, rfl, rfl, by simp [mapBlock, Sort.ahead], fun k hk hne => ?_⟩
      have : g ≠ k := fun e => hne (by rw [e])
      simp [mapBlock, Sort.ahead, Array.getElem?_modify, this]
    refine HR.out _ hgr ⟨by rw [pC_length, List.length_reverse], .inr ⟨g, cap, putCells id 0 F cur, rfl, hb, hg, h1, h2, by simpa [putCells] using h3, ?_⟩⟩
    apply List.ext_getElem?
    intro j
    rw [List.getElem?_take, ← hF]
    by_cases hj : j < ls.length * 2
    · rw [if_pos hj]
      have hjc : j < cur.size := by
        have := Nat.mul_le_mul_right 2 h1
        omega
      have hjF : j < F.size := by omega
      simp [putCells, hjc, hjF]
    · rw [if_neg hj, List.getElem?_eq_none (by simp [hFs]; omega)]
end Go.Proofs.Ytlgjhjgdmomfoaa
