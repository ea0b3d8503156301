/- Maps keyed by int, as functions: made, looked up, stored into, ranged over. Total of whole at ones; the elements of a series, gathered by a map. (Printed by gen_collect.py.) -/
import Derived.Maps.RangeWalk
import Derived.Maps.Own
import Derived.Maps.OwnSet
import Derived.Maps.OwnOps
import Derived.Maps.Views
import Derived.Test.YtcmhompbdanpdaaGreatDoorMre
import Derived.Test.YtcmhompbdanpdaaGreatDoorMvk
import Derived.Test.YtcmhompbdanpdaaGreatDoorMyq
import Derived.Deep.AppendLies
namespace Go.Proofs.YtcmhompbdanpdaaGreatDoor
open Go.RowKit Go.Maps

def keyI (x : Int) : Lit := .int .i64 x
theorem keyI_inj {x y : Int} (h : keyI x = keyI y) : x = y := by unfold keyI at h; cases h; rfl
abbrev IMap := Int → Option Value
def IMap.put (f : IMap) (x : Int) (v : Value) : IMap := fun y => if y = x then some v else f y
/-- Block b of w is a map of at most n entries, which is f. -/
def IMapIs (P : Program) (k : TypeId) (w : World) (b n : Nat) (f : IMap) : Prop :=
  ∃ D : DataW Value, w.ownsMap P k heldR b n D ∧ ∀ x z, D.atKey (keyI x) z = match f x with | some v => .held v | none => z
section
variable {P : Program} {k t e : TypeId} {w w' : World} {b n : Nat} {f : IMap}
theorem imapIs_made (w : World) : IMapIs P k (w.alloc (.map #[] 0)) w.heap.size 0 (fun _ => none) :=
  ⟨.map [], World.ownsMap_made w P k heldR, fun _ _ => rfl⟩
theorem IMapIs.lt (h : IMapIs P k w b n f) : b < w.heap.size := by obtain ⟨D, h1, _⟩ := h; exact h1.lt
theorem IMapIs.keep (h : IMapIs P k w b n f) (hb : w'.heap[b]? = w.heap[b]?) : IMapIs P k w' b n f := by
  obtain ⟨D, ⟨es, clock, h1, h3⟩, h2⟩ := h
  exact ⟨D, ⟨es, clock, hb.trans h1, h3⟩, h2⟩
theorem IMapIs.mono (h : IMapIs P k w b n f) {n' : Nat} (hn : n ≤ n') : IMapIs P k w b n' f := by
  obtain ⟨D, h1, h2⟩ := h; exact ⟨D, h1.mono hn, h2⟩
theorem IMapIs.look (h : IMapIs P k w b n f) (hk : P.underlying k = some (.int .i64)) (ht : P.underlying t = some (.map k e)) {z : Value} (hz : (zeroValue e).run P w = .ok z w) {x : Int} (hx : (Lit.int .i64 x).wf = true) :
    (Instr.lookup t (.map (some b)) (.int .i64 x) false).run P w = .ok ((f x).getD z) w := by
  obtain ⟨D, h1, h2⟩ := h
  obtain ⟨v, ps, hrun, hv⟩ := h1.lookup (int_keyed hk) ht hz (zd := .held z) rfl (Maps.keyOf_int_mk hk hx)
  rw [hrun]
  rw [show (Lit.int .i64 x) = keyI x from rfl, h2 x (.held z)] at hv
  cases hf : f x with
  | none =>
    rw [hf] at hv
    simp only [heldR, Option.some.injEq, Prod.mk.injEq, DataW.held.injEq] at hv
    rw [hv.1]; rfl
  | some u =>
    rw [hf] at hv
    simp only [heldR, Option.some.injEq, Prod.mk.injEq, DataW.held.injEq] at hv
    rw [hv.1]; rfl
theorem iput_view {D : DataW Value} (hD : IsMap D) (h2 : ∀ x z, D.atKey (keyI x) z = match f x with | some v => .held v | none => z) (x : Int) (v : Value) :
    ∀ y z, (D.put (keyI x) (.held v)).atKey (keyI y) z = match f.put x v y with | some v => .held v | none => z := by
  intro y z
  unfold IMap.put
  by_cases e : y = x
  · subst e; rw [if_pos rfl]; exact atKey_put_same (k := keyI y) hD trivial _ _
  · rw [if_neg e, atKey_put_other (fun h => e (keyI_inj h)), h2]
theorem wp_imapStore (w : World) {ops : Array Oper} {rest : List Oper} {o : Oper} {a : Act} {Q : Exit → Act → World → Prop}
    (hg : o.guard = none) (m x v : Operand) (t : TypeId) (hop : o.op = Op.mapUpdate t m x v) (k e : TypeId) (hk : P.underlying k = some (.int .i64)) (ht : P.underlying t = some (.map k e)) (b n : Nat) (f : IMap)
    (hm : a.eval m = .map (some b)) (h : IMapIs P k w b n f) (hn : n < maxLen) (s : Int) (val : Value) (hx : a.eval x = .int .i64 s) (hv : a.eval v = val) (hs : (Lit.int .i64 s).wf = true)
    (hK : ∀ w', IMapIs P k w' b (n + 1) (f.put s val) → w.grownBy w' (some b) → wpList P ops Q rest (a.put o.dst undef) w') :
    wpList P ops Q (o :: rest) a w := by
  obtain ⟨D, h1, h2⟩ := h
  exact wpList_mapUpdate_own w hg m x v t hop k e (int_keyed hk) ht heldR b n D hm h1 hn (.int .i64 s) val (keyI s) hx hv (Maps.keyOf_int_mk hk hs) (.held val) [] rfl
    fun w' h3 h4 => hK w' ⟨_, h3, iput_view h1.isMap h2 s val⟩ h4
theorem IMapIs.below {B : Nat} (h : IMapIs P k w b n f) (hb : Below B w w') (hlt : b < B) : IMapIs P k w' b n f := h.keep (hb.block b hlt)
theorem IMapIs.lookOk (h : IMapIs P k w b n f) (hk : P.underlying k = some (.int .i64)) (ht : P.underlying t = some (.map k e)) {z : Value} (hz : (zeroValue e).run P w = .ok z w) {x : Int} (hx : (Lit.int .i64 x).wf = true) :
    (Instr.lookup t (.map (some b)) (.int .i64 x) true).run P w = .ok (.tuple #[(f x).getD z, .bool (f x).isSome]) w := by
  obtain ⟨D, h1, h2⟩ := h
  obtain ⟨v, ps, hrun, hv⟩ := h1.look_ok (int_keyed hk) ht hz (zd := .held z) rfl (Maps.keyOf_int_mk hk hx)
  rw [hrun]
  rw [show (Lit.int .i64 x) = keyI x from rfl, h2 x (.held z)] at hv
  cases hf : f x with
  | none =>
    rw [hf] at hv
    have hno : has D (keyI x) = false := has_false_of_atKey (fun z => by rw [h2 x z, hf])
    simp only [heldR, Option.some.injEq, Prod.mk.injEq, DataW.held.injEq] at hv
    rw [hv.1, show (Lit.int .i64 x) = keyI x from rfl, hno]; rfl
  | some u =>
    rw [hf] at hv
    have hyes : has D (keyI x) = true := has_true_of_atKey (y := .held u) (fun z => by rw [h2 x z, hf])
    simp only [heldR, Option.some.injEq, Prod.mk.injEq, DataW.held.injEq] at hv
    rw [hv.1, show (Lit.int .i64 x) = keyI x from rfl, hyes]; rfl
theorem IMapIs.store (h : IMapIs P k w b n f) (hk : P.underlying k = some (.int .i64)) (ht : P.underlying t = some (.map k e)) (hn : n < maxLen) {x : Int} (hx : (Lit.int .i64 x).wf = true) (v : Value) :
    ∃ w', (Instr.mapUpdate t (.map (some b)) (.int .i64 x) v).run P w = .ok () w' ∧ IMapIs P k w' b (n + 1) (f.put x v) ∧ w.grownBy w' (some b) := by
  obtain ⟨D, h1, h2⟩ := h
  obtain ⟨w', hrun, h3, h4⟩ := h1.update (int_keyed hk) ht hn (Maps.keyOf_int_mk hk hx) (val := v) (d := .held v) (ps := []) rfl
  exact ⟨w', hrun, ⟨_, h3, iput_view h1.isMap h2 x v⟩, h4⟩
theorem wp_imapLook (w : World) {ops : Array Oper} {rest : List Oper} {o : Oper} {a : Act} {Q : Exit → Act → World → Prop}
    (hg : o.guard = none) (m x : Operand) (t : TypeId) (hop : o.op = Op.lookup t m x false) (k e : TypeId) (hk : P.underlying k = some (.int .i64)) (ht : P.underlying t = some (.map k e)) (b n : Nat) (f : IMap)
    (hm : a.eval m = .map (some b)) (h : IMapIs P k w b n f) {z : Value} (hz : (zeroValue e).run P w = .ok z w) (s : Int) (hx : a.eval x = .int .i64 s) (hs : (Lit.int .i64 s).wf = true) (u : Value) (hu : (f s).getD z = u)
    (hK : wpList P ops Q rest (a.put o.dst u) w) :
    wpList P ops Q (o :: rest) a w := by
  refine wpList_plain hg fun K' hK' => ?_
  have hrun := h.look hk ht hz hs
  rw [hu] at hrun
  unfold Oper.wp
  simp [execOp, hop, hm, hx, hrun, Result.andThen]
  exact hK' _ _ hK
theorem wp_imapLookOk (w : World) {ops : Array Oper} {rest : List Oper} {o : Oper} {a : Act} {Q : Exit → Act → World → Prop}
    (hg : o.guard = none) (m x : Operand) (t : TypeId) (hop : o.op = Op.lookup t m x true) (k e : TypeId) (hk : P.underlying k = some (.int .i64)) (ht : P.underlying t = some (.map k e)) (b n : Nat) (f : IMap)
    (hm : a.eval m = .map (some b)) (h : IMapIs P k w b n f) {z : Value} (hz : (zeroValue e).run P w = .ok z w) (s : Int) (hx : a.eval x = .int .i64 s) (hs : (Lit.int .i64 s).wf = true) (u : Value) (ok : Bool) (hu : (f s).getD z = u) (hok : (f s).isSome = ok)
    (hK : wpList P ops Q rest (a.put o.dst (.tuple #[u, .bool ok])) w) :
    wpList P ops Q (o :: rest) a w := by
  refine wpList_plain hg fun K' hK' => ?_
  have hrun := h.lookOk hk ht hz hs
  rw [hu, hok] at hrun
  unfold Oper.wp
  simp [execOp, hop, hm, hx, hrun, Result.andThen]
  exact hK' _ _ hK
/-- At a step of a drawn region. -/
theorem step_ilook {ops : Array Oper} {o : Oper} {a : Act} {K : Act → World → Prop} {Q : Exit → Act → World → Prop} {E : Prop} (w : World) (hg : o.guard = none) (m x : Operand) (t : TypeId) (hop : o.op = Op.lookup t m x false)
    (k e : TypeId) (hk : P.underlying k = some (.int .i64)) (ht : P.underlying t = some (.map k e)) (b n : Nat) (f : IMap) (hm : a.eval m = .map (some b)) (h : IMapIs P k w b n f) {z : Value} (hz : (zeroValue e).run P w = .ok z w) (s : Int)
    (hx : a.eval x = .int .i64 s) (hs : (Lit.int .i64 s).wf = true) (u : Value) (hu : (f s).getD z = u) (hK : K (a.put o.dst u) w) :
    if Region.wanted o (yielded ops a.tmps) = true then Oper.wp P o a w K Q else E := by
  have hw : Region.wanted o (yielded ops a.tmps) = true := by simp [Region.wanted, hg]
  rw [if_pos hw]
  have hrun := h.look hk ht hz hs
  rw [hu] at hrun
  unfold Oper.wp
  simp [execOp, hop, hm, hx, hrun, Result.andThen]
  exact hK
theorem step_istore {ops : Array Oper} {o : Oper} {a : Act} {K : Act → World → Prop} {Q : Exit → Act → World → Prop} {E : Prop} (w : World) (hg : o.guard = none) (m x v : Operand) (t : TypeId) (hop : o.op = Op.mapUpdate t m x v)
    (k e : TypeId) (hk : P.underlying k = some (.int .i64)) (ht : P.underlying t = some (.map k e)) (b n : Nat) (f : IMap) (hm : a.eval m = .map (some b)) (h : IMapIs P k w b n f) (hn : n < maxLen) (s : Int) (val : Value)
    (hx : a.eval x = .int .i64 s) (hv : a.eval v = val) (hs : (Lit.int .i64 s).wf = true) (hK : ∀ w', IMapIs P k w' b (n + 1) (f.put s val) → w.grownBy w' (some b) → K (a.put o.dst undef) w') :
    if Region.wanted o (yielded ops a.tmps) = true then Oper.wp P o a w K Q else E := by
  have hw : Region.wanted o (yielded ops a.tmps) = true := by simp [Region.wanted, hg]
  rw [if_pos hw]
  obtain ⟨w', hrun, h1, h2⟩ := h.store hk ht hn hs val
  unfold Oper.wp
  simp [execOp, hop, hm, hx, hv, hrun, Result.andThen]
  exact hK w' h1 h2
/-! ### ranges over a map -/
/-- An iterator r over map b: which keys are still to come. -/
def IRan (P : Program) (k : TypeId) (w : World) (b r n : Nat) (f : IMap) (lf : Int → Bool) (cnt : Nat) : Prop :=
  ∃ (D : DataW Value) (left : Lit → Bool), w.ranges P k heldR b r n D left cnt ∧ (∀ x z, D.atKey (keyI x) z = match f x with | some v => .held v | none => z) ∧ ∀ y, left (keyI y) = lf y
variable {r cnt : Nat} {lf : Int → Bool}
theorem IRan.left_eq (h : IRan P k w b r n f lf cnt) : w.rangeLeft b r = cnt := by obtain ⟨_, _, h1, _⟩ := h; exact h1.left_eq
theorem IRan.lt (h : IRan P k w b r n f lf cnt) : r < w.heap.size ∧ b < w.heap.size := by obtain ⟨_, _, h1, _⟩ := h; exact ⟨h1.lt, h1.owns.lt⟩
theorem IRan.keep (h : IRan P k w b r n f lf cnt) (hb : w'.heap[b]? = w.heap[b]?) (hr : w'.heap[r]? = w.heap[r]?) : IRan P k w' b r n f lf cnt := by
  obtain ⟨D, left, ⟨es, clock, since, seen, c0, h1, h2, h3, h4, h5, h6⟩, h7⟩ := h
  exact ⟨D, left, ⟨es, clock, since, seen, c0, hb.trans h1, h2, h3, h4, hr.trans h5, h6⟩, h7⟩
theorem IRan.below (h : IRan P k w b r n f lf cnt) (hb : Below w.heap.size w w') : IRan P k w' b r n f lf cnt := h.keep (hb.block b h.lt.2) (hb.block r h.lt.1)
theorem keyI_same (x y : Int) : (keyI y).sameKey (keyI x) = decide (y = x) := by
  by_cases e : y = x
  · subst e; rw [decide_eq_true rfl]; exact WideAt.sameKey_self trivial
  · rw [decide_eq_false e]; exact sameKey_ne (fun h => e (keyI_inj h))
theorem wp_irange (w : World) {ops : Array Oper} {rest : List Oper} {o : Oper} {a : Act} {Q : Exit → Act → World → Prop} (hg : o.guard = none) (m : Operand) (t : TypeId) (hop : o.op = Op.range t m) (hk : P.underlying k = some (.int .i64))
    (ht : P.underlying t = some (.map k e)) (b n : Nat) (f : IMap) (hm : a.eval m = .map (some b)) (h : IMapIs P k w b n f)
    (hK : ∀ w' cnt, IRan P k w' b w.heap.size n f (fun y => (f y).isSome) cnt → cnt ≤ n → w.grownBy w' none → w'.heap.size = w.heap.size + 1 → wpList P ops Q rest (a.put o.dst (.pointer (some ⟨w.heap.size, 0, none⟩))) w') :
    wpList P ops Q (o :: rest) a w := by
  obtain ⟨D, h1, h2⟩ := h
  refine wpList_range_own w hg m t hop k e (int_keyed hk) ht heldR b n D hm h1 fun w' h3 h4 h5 => hK w' _ ⟨D, _, h3, h2, fun y => ?_⟩ h1.size_le h4 h5
  show has D (keyI y) = (f y).isSome
  cases hf : f y with
  | none => exact has_false_of_atKey (fun z => by rw [h2 y z, hf])
  | some u => exact has_true_of_atKey (y := .held u) (fun z => by rw [h2 y z, hf])
theorem wp_inext (w : World) {ops : Array Oper} {rest : List Oper} {o : Oper} {a : Act} {Q : Exit → Act → World → Prop} (hg : o.guard = none) (it : Operand) (hop : o.op = Op.next it false) (hk : P.underlying k = some (.int .i64))
    (b r n : Nat) (f : IMap) (lf : Int → Bool) (cnt : Nat) (hit : a.eval it = .pointer (some ⟨r, 0, none⟩)) (h : IRan P k w b r n f lf cnt)
    (hDone : (∀ y, lf y = false) → wpList P ops Q rest (a.put o.dst (.tuple #[.bool false])) w)
    (hMore : ∀ (x : Int) (c : Value) (w' : World) (cnt' : Nat), (Lit.int .i64 x).wf = true → lf x = true → f x = some c → IRan P k w' b r n f (fun y => lf y && !decide (y = x)) cnt' → cnt' < cnt → w.grownBy w' (some r) → w'.heap.size = w.heap.size →
      (Instr.entry (.pointer (some ⟨r, 0, none⟩))).run P w' = .ok (.tuple #[.int .i64 x, c]) w' → wpList P ops Q rest (a.put o.dst (.tuple #[.bool true, .int .i64 x, c])) w') :
    wpList P ops Q (o :: rest) a w := by
  obtain ⟨D, left, h1, h2, h3⟩ := h
  refine wpList_next_ranges w hg it hop k (int_keyed hk) heldR (Value.int .i64) (fun v : Value => v) (fun key kl hkey => by obtain ⟨x, rfl, _⟩ := Maps.keyOf_int_inv hk hkey; exact ⟨x, rfl⟩) (fun v y _ => ⟨v, rfl⟩)
    b r n D left cnt hit h1 (fun _ hl => hDone fun y => by rw [← h3]; exact hl _) (fun x c kl y w' cnt' hkey hlk hv hat hrg hlt hgr hsz hen => ?_)
  obtain ⟨x', ex, rfl, hwx⟩ := Maps.keyOf_int_inv hk hkey
  cases ex
  simp only [heldR, Option.some.injEq] at hv
  subst hv
  refine hMore x c w' cnt' hwx (by rw [← h3]; exact hlk) ?_ ⟨D, _, hrg, h2, fun y => ?_⟩ hlt hgr hsz hen
  · have h4 := hat (.map [])
    rw [show (Lit.int .i64 x) = keyI x from rfl, h2 x] at h4
    cases hf : f x with
    | none => rw [hf] at h4; cases h4
    | some u => rw [hf] at h4; simp only [DataW.held.injEq] at h4; rw [h4]
  · show (left (keyI y) && !(keyI y).sameKey (keyI x)) = _
    rw [keyI_same, h3]
end
end Go.Proofs.YtcmhompbdanpdaaGreatDoor
namespace Go.Proofs.YtcmhompbdanpdaaGreatDoor
open Go.RowKit Go.Maps

def one : ByteArray := ⟨#[49]⟩
def onesC (k : Nat) : List Value := List.replicate k (.string one)
theorem onesC_length (k : Nat) : (onesC k).length = k := List.length_replicate
theorem onesC_succ (k : Nat) : onesC (k + 1) = onesC k ++ [.string one] := List.replicate_succ'
theorem tx_one : Txt one 1 := Txt.one
theorem tB_one : tB (Lib.itoa 1) = one := (Tx.eq (show Tx one (Lib.itoa 1) from Txt.one)).symm
theorem CellsAt.ones {w : World} {ao : Option Addr} {k : Nat} (h : CellsAt w ao (onesC k)) (h0 : 0 < k) : ∃ b o, ao = some ⟨b, o, none⟩ ∧ b < w.heap.size ∧ ∀ i, i < k → w.cell? ⟨b, o + i, none⟩ = some (.string one) := by
  obtain ⟨b, o, e, hl, _⟩ := h (by rw [onesC_length]; exact h0)
  exact ⟨b, o, e, hl, fun i hi => h.get e (by unfold onesC; rw [List.getElem?_replicate, if_pos hi])⟩
set_option maxHeartbeats 1000000 in
theorem wall_ones (ao : Option Addr) (k c : Nat) (hk : k ≤ 4096) (h0 : 0 < k) (w : World) (R : Ending → World → Prop) (hc : CellsAt w ao (onesC k)) (hR : ∀ w', Below w.heap.size w w' → R (.returned (.int .i64 0)) w') :
    Calls Tryz.prog 105 #[.slice ao k c] w R := by
  have HR := Lib.hid hR
  obtain ⟨b, o, rfl, hb, hcell⟩ := hc.ones h0
  have HB := Lib.hid hb
  have HCE := Lib.hid hcell
  clear hR hc hcell hb
  go_enter Tryz.func105, Tryz.ntmps105
  go_wp2_with fail
  go_loopw [8] (fun i wr => ∃ j : Nat, i = .int .i64 j ∧ j ≤ k ∧ Hid (Below w.heap.size w wr)) (fun i _ => k - (intOf i).toNat)
  case atStart => exact ⟨0, rfl, Nat.zero_le _, Below.refl _ _⟩
  case round =>
    obtain ⟨j, rfl, hj, HBr⟩ := hrel
    by_cases hlt : j < k
    · have K1 : ((j : Int) < (k : Int)) = True := eq_true (by omega)
      have c0 := cellB HBr.out (HCE.out j hlt) HB.out
      go_wp2_with fail
      refine wcheckI_any one 1 tx_one (by have := len_one; omega) _ _ fun w1 hb1 => ?_
      have B1 : Hid (Below w.heap.size w w1) := HBr.out.trans (hb1.mono HBr.out.size)
      clear hb1 c0
      go_wp2_with fail
      exact ⟨⟨j + 1, by go_num, by omega, B1⟩, by simp [intOf]; omega⟩
    · have K1 : ((j : Int) < (k : Int)) = False := eq_false (by omega)
      go_wp2_with fail
      exact HR.out _ HBr.out
theorem sV_nat (s : Bool) (v : Nat) : (sV s v).natAbs = v := by unfold sV; split <;> simp
theorem nw_one {v : Nat} (h : v < 1000000000) : nw v ≤ 1 := (nw_le 1 v).2 (by rw [Nat.pow_one]; exact h)
set_option maxHeartbeats 2000000 in
theorem wsum_ones (ao : Option Addr) (k c : Nat) (hk : k ≤ 4096) (h0 : 0 < k) (w : World) (R : Ending → World → Prop) (hE : Env w) (hc : CellsAt w ao (onesC k)) (hR : ∀ r w', Below w.heap.size w w' → Txt r (k : Int) → R (.returned (.tuple #[.string r, .int .i64 0])) w') :
    Calls Tryz.prog 159 #[.slice ao k c] w R := by
  have HR := Lib.hid hR
  have HE := Lib.hid hE
  obtain ⟨b, o, rfl, hb, hcell⟩ := hc.ones h0
  have HCE := Lib.hid hcell
  obtain ⟨bx, hbx⟩ : ∃ z, w.heap.size = z := ⟨_, rfl⟩
  obtain ⟨w1, E1, HB1, s1, X1⟩ := box_ex w Tryz.zeroCells184 184
  have W1 : Hid (Wide w1 bx false 0) := by have := zero_wide X1.out; rw [hbx] at this; exact this
  rw [hbx] at HB1 HR hb s1
  have HB := Lib.hid hb
  have HBX := Lib.hid hbx
  clear hR hc hcell hb hE s1
  go_enter Tryz.func159, Tryz.ntmps159
  go_wp2_with (rw [E1])
  clear hbx
  go_loopw [11] (fun i wr => ∃ (j : Nat) (s : Bool) (v : Nat), i = .int .i64 j ∧ j ≤ k ∧ Hid (Below bx w wr) ∧ Hid (Wide wr bx s v) ∧ Hid (sV s v = (j : Int))) (fun i _ => k - (intOf i).toNat)
  case atStart => exact ⟨0, false, 0, rfl, Nat.zero_le _, HB1, W1, rfl⟩
  case round =>
    obtain ⟨j, s, v, rfl, hj, HBr, HW, HV⟩ := hrel
    have BXr := Lib.hid (lt_of_block HW.out)
    have hv : Hid (v = j) := by have := sV_nat s v; rw [HV.out] at this; unfold Hid; omega
    have hnv : nw v ≤ 1 := nw_one (by have := hv.out; omega)
    by_cases hlt : j < k
    · have K1 : ((j : Int) < (k : Int)) = True := eq_true (by omega)
      have c0 := cellB HBr.out (HCE.out j hlt) HB.out
      have hn1 : nw (1 : Int).natAbs ≤ 1 := nw_one (by decide)
      go_wp2_with fail
      with_reducible refine read_any one 1 tx_one (by have := len_one; omega) _ _ fun w2 hb2 hw2 hs2 => ?_
      have HW2 : Hid (Wide w2 bx s v) := HW.out.below hb2
      have HY2 := Lib.hid hw2
      have B2 : Hid (Below bx w w2) := HBr.out.trans (hb2.mono (Nat.le_of_lt BXr.out))
      clear hb2 hw2 hs2 c0
      go_wp2_with fail
      with_reducible refine plus_any bx _ v (1 : Int).natAbs s _ _ _ HW2.out HY2.out (Nat.ne_of_gt BXr.out) (by omega) (by omega) fun w3 hm3 hw3 => ?_
      have HW3 := Lib.hid hw3
      have B3 : Hid (Below bx w w3) := B2.out.trans hm3.1
      have hv3 : Hid (sV (plS s (decide ((1 : Int) < 0)) v (1 : Int).natAbs).1 (plS s (decide ((1 : Int) < 0)) v (1 : Int).natAbs).2 = ((j + 1 : Nat) : Int)) := by
        unfold Hid; rw [plS_val, HV.out, sV_abs, Int.natCast_add]; rfl
      clear hm3 hw3
      go_wp2_with fail
      exact ⟨⟨j + 1, _, _, by go_num, by omega, B3, HW3, hv3⟩, by simp [intOf]; omega⟩
    · have K1 : ((j : Int) < (k : Int)) = False := eq_false (by omega)
      obtain rfl : j = k := by omega
      have HEr : Hid (Env wr) := HE.out.below (by rw [HBX.out]; exact HBr.out)
      go_wp2_with fail
      with_reducible refine limited_any bx v s _ _ HW.out (by omega) HEr.out (by rw [HV.out]; exact abs_len (k := 4) (by omega)) fun r w2 hb2 h1 => ?_
      rw [HV.out] at h1
      have T2 := Lib.hid h1
      have B2 : Hid (Below bx w w2) := HBr.out.trans (hb2.mono (Nat.le_of_lt BXr.out))
      clear hb2 h1
      go_wp2_with fail
      exact HR.out _ _ B2.out T2.out
set_option maxHeartbeats 1000000 in
theorem wtotal_ones (ao : Option Addr) (k c : Nat) (hk : k ≤ 4096) (h0 : 0 < k) (w : World) (R : Ending → World → Prop) (hE : Env w) (hc : CellsAt w ao (onesC k)) (hR : ∀ r w', Below w.heap.size w w' → Txt r (k : Int) → R (.returned (.tuple #[.string r, .int .i64 0])) w') :
    Calls Tryz.prog 196 #[.slice ao k c] w R := by
  have HR := Lib.hid hR
  have HE := Lib.hid hE
  have HC := Lib.hid hc
  have K1 : ((4096 : Int) < (k : Int)) = False := eq_false (by omega)
  clear hR hE hc
  go_enter Tryz.func196, Tryz.ntmps196
  go_wp2_with fail
  refine wall_ones ao k c hk h0 _ _ HC.out fun w1 hb => ?_
  have B1 := Lib.hid hb
  have HC1 := Lib.hid (HC.out.below hb)
  have HE1 := Lib.hid (HE.out.below hb)
  clear hb
  go_wp2_with fail
  refine wsum_ones ao k c hk h0 _ _ HE1.out HC1.out fun r w2 hb hr => ?_
  have B2 := Lib.hid (B1.out.trans (hb.mono B1.out.size))
  have T2 := Lib.hid hr
  clear hb hr
  go_wp2_with fail
  exact HR.out _ _ B2.out T2.out
/-! ### the map of the weights -/
theorem ownsRow_at {w w' : World} {base : Nat} {e : TypeId} {size : Nat} {v : Value} {n : Nat} {xs : List Value} (h : w.ownsRow base e size v n xs) (hk : ∀ g, v.ownBlock = some g → w'.heap[g]? = w.heap[g]?) : w'.ownsRow base e size v n xs := by
  refine ⟨h.1, ?_⟩
  rcases h.2 with h1 | ⟨g, cap, cur, h1, h2, h3, h4⟩
  · exact .inl h1
  · exact .inr ⟨g, cap, cur, h1, h2, (hk g (by rw [h1]; rfl)).trans h3, h4⟩
def nilV : Value := .slice none 0 0
structure Cn (W : World) (b K : Nat) (f : IMap) (L : List Int) : Prop where
  m : IMapIs Tryz.prog 3 W b K f
  row : ∀ n, W.ownsRow (b + 1) 61 1 ((f n).getD nilV) (L.count n) (onesC (L.count n))
  key : ∀ n, (f n).isSome = decide (n ∈ L)
  apart : ∀ n m, n ≠ m → ((f n).getD nilV).ownBlock = none ∨ ((f n).getD nilV).ownBlock ≠ ((f m).getD nilV).ownBlock
theorem Cn.made (w : World) : Cn (w.alloc (.map #[] 0)) w.heap.size 0 (fun _ => none) [] :=
  ⟨imapIs_made w, fun _ => ⟨rfl, .inl ⟨rfl, rfl⟩⟩, fun _ => by simp, fun _ _ _ => .inl rfl⟩
theorem Cn.below {W W' : World} {b K : Nat} {f : IMap} {L : List Int} (h : Cn W b K f L) (hb : Below W.heap.size W W') : Cn W' b K f L :=
  ⟨h.m.below hb h.m.lt, fun n => ownsRow_below (h.row n) hb, h.key, h.apart⟩
theorem Cn.low {W : World} {b K : Nat} {f : IMap} {L : List Int} (h : Cn W b K f L) {n : Int} {g : Nat} (e : ((f n).getD nilV).ownBlock = some g) : b < g ∧ g < W.heap.size := by
  have h1 := (h.row n).lt g e
  exact ⟨by omega, h1.2⟩
theorem Cn.put {W W5 W6 : World} {b K : Nat} {f : IMap} {L : List Int} (h : Cn W b K f L) (x : Int) {v5 : Value} {g : Nat} (hg : W.grownBy W5 ((f x).getD nilV).ownBlock) (ho : W5.ownsRow (b + 1) 61 1 v5 (L.count x + 1) (onesC (L.count x) ++ [.string one]))
    (hv5 : v5.ownBlock = some g) (hlie : ((f x).getD nilV).ownBlock = some g ∨ g = W.heap.size) (hm : IMapIs Tryz.prog 3 W6 b (K + 1) (f.put x v5)) (hg6 : W5.grownBy W6 (some b)) : Cn W6 b (K + 1) (f.put x v5) (L ++ [x]) := by
  have to6 : ∀ {v : Value} {n : Nat} {xs : List Value}, W5.ownsRow (b + 1) 61 1 v n xs → W6.ownsRow (b + 1) 61 1 v n xs := fun hh =>
    ownsRow_at hh fun g e => hg6.block g (hh.lt g e).2 (fun e2 => by cases e2; have := (hh.lt _ e).1; omega)
  have hne : ∀ m, m ≠ x → ((f m).getD nilV).ownBlock ≠ some g := fun m hm2 e => by
    rcases hlie with h1 | h1
    · rcases h.apart m x hm2 with h2 | h2
      · rw [h2] at e; cases e
      · exact h2 (e.trans h1.symm)
    · have := (h.low e).2; omega
  refine ⟨hm, fun n => ?_, fun n => ?_, fun n m hnm => ?_⟩
  · by_cases e : n = x
    · subst e
      have h1 : (L ++ [n]).count n = L.count n + 1 := by rw [List.count_append, List.count_singleton_self]
      rw [h1, onesC_succ]
      unfold IMap.put
      rw [if_pos rfl]
      exact to6 ho
    · have h1 : (L ++ [x]).count n = L.count n := by rw [List.count_append, List.count_singleton, if_neg (by simpa using fun h => e h.symm), Nat.add_zero]
      rw [h1]
      unfold IMap.put
      rw [if_neg e]
      refine to6 (ownsRow_at (h.row n) fun g1 e1 => hg.block g1 (h.low e1).2 fun e2 => ?_)
      rcases h.apart n x e with h2 | h2
      · rw [h2] at e1; cases e1
      · exact h2 (e1.trans e2)
  · unfold IMap.put
    by_cases e : n = x
    · subst e; simp
    · rw [if_neg e, h.key]; simp [e]
  · unfold IMap.put
    by_cases e1 : n = x
    · have e2 : m ≠ x := fun e => hnm (e1.trans e.symm)
      rw [if_pos e1, if_neg e2]
      exact .inr fun e => hne m e2 (by rw [← hv5]; exact e.symm)
    · rw [if_neg e1]
      by_cases e2 : m = x
      · rw [if_pos e2]
        exact .inr fun e => hne n e1 (by rw [← hv5]; exact e)
      · rw [if_neg e2]; exact h.apart n m hnm
/-- A finished map, to be read. -/
def Got (W : World) (f : IMap) (L : List Int) : Prop := ∀ n v, f n = some v → n ∈ L ∧ ∃ ao c, v = .slice ao (L.count n) c ∧ CellsAt W ao (onesC (L.count n))
theorem Cn.got {W : World} {b K : Nat} {f : IMap} {L : List Int} (h : Cn W b K f L) : Got W f L := fun n v e => by
  have h1 := h.key n
  rw [e] at h1
  have h2 := h.row n
  rw [e] at h2
  obtain ⟨ao, c, e2, hc, _⟩ := ownsRow_read h2
  exact ⟨of_decide_eq_true h1.symm, ao, c, e2, hc⟩
theorem Got.below {W W' : World} {f : IMap} {L : List Int} (h : Got W f L) (hb : Below W.heap.size W W') : Got W' f L := fun n v e => by
  obtain ⟨h1, ao, c, e2, hc⟩ := h n v e
  exact ⟨h1, ao, c, e2, hc.below hb⟩
theorem zeroInts (w : World) : (zeroValue 155).run Tryz.prog w = .ok nilV w := by kernel_rfl
theorem wf_small {x : Int} (h : -1048576 ≤ x ∧ x ≤ 1048576) : (Lit.int .i64 x).wf = true := by
  have e1 : IntKind.i64.min = -9223372036854775808 := by decide
  have e2 : IntKind.i64.max = 9223372036854775807 := by decide
  simp only [Lit.wf, e1, e2, Bool.and_eq_true, decide_eq_true_eq]
  omega
theorem Tryz.infoIntW : (Tryz.prog.info? 61).map (fun i => (i.zero, i.size, i.bytes)) = some (some (.string ⟨#[]⟩), 1, 16) := by kernel_rfl
theorem Tryz.infoWtd : (Tryz.prog.info? 67).map (fun i => (i.zero, i.size, i.bytes)) = some (some (.agg #[.int .i64 0, .string ⟨#[]⟩]), 2, 24) := by kernel_rfl
theorem wts_one {l : List Int} {i : Nat} (h : i < l.length) : wdAt (wts (oneW l)) i = ⟨at0 l i, one⟩ := by
  rw [wts_at (by unfold oneW; rw [List.length_map]; exact h)]
  unfold oneW wdOf
  simp only [List.getElem_map]
  rw [tB_one, ← at0_get h]
/-! ### the elements gathered in whatever order -/
structure Gat (L : List Int) (lf : Int → Bool) (O : List Wt) : Prop where
  val : ∀ x ∈ O, x.2 = (L.count x.1 : Int)
  key : ∀ n, (∃ x ∈ O, x.1 = n) ↔ n ∈ L ∧ lf n = false
  nd : O.Pairwise fun x y => x.1 ≠ y.1
theorem Gat.start (L : List Int) (lf : Int → Bool) (h : ∀ n, n ∈ L → lf n = true) : Gat L lf [] :=
  ⟨fun _ h => absurd h (by simp), fun n => ⟨fun ⟨_, h2, _⟩ => absurd h2 (by simp), fun ⟨h1, h2⟩ => by rw [h n h1] at h2; cases h2⟩, List.Pairwise.nil⟩
theorem Gat.step {L : List Int} {lf : Int → Bool} {O : List Wt} (h : Gat L lf O) {n : Int} (hn : n ∈ L) (hl : lf n = true) : Gat L (fun y => lf y && !decide (y = n)) (O ++ [(n, (L.count n : Int))]) := by
  have hno : ∀ x ∈ O, x.1 ≠ n := fun x hx e => by
    have := ((h.key n).1 ⟨x, hx, e⟩).2
    rw [hl] at this; cases this
  refine ⟨fun x hx => ?_, fun m => ⟨fun ⟨x, hx, e⟩ => ?_, fun ⟨h1, h2⟩ => ?_⟩, ?_⟩
  · rcases List.mem_append.1 hx with h1 | h1
    · exact h.val x h1
    · obtain rfl := List.mem_singleton.1 h1; rfl
  · rcases List.mem_append.1 hx with h1 | h1
    · have := (h.key m).1 ⟨x, h1, e⟩
      exact ⟨this.1, by rw [this.2]; rfl⟩
    · obtain rfl := List.mem_singleton.1 h1
      subst e
      exact ⟨hn, by simp⟩
  · by_cases e : m = n
    · exact ⟨_, List.mem_append.2 (.inr (List.mem_singleton.2 rfl)), e.symm⟩
    · rw [decide_eq_false e] at h2
      obtain ⟨x, hx, ex⟩ := (h.key m).2 ⟨h1, by simpa using h2⟩
      exact ⟨x, List.mem_append.2 (.inl hx), ex⟩
  · refine List.pairwise_append.2 ⟨h.nd, List.pairwise_singleton _ _, fun x hx y hy => ?_⟩
    obtain rfl := List.mem_singleton.1 hy
    exact hno x hx
theorem one_at (l : List Int) (n : Int) : wAt (oneW l) n = (l.count n : Int) := by
  induction l with
  | nil => rfl
  | cons a l ih =>
    show wAt ((a, 1) :: oneW l) n = _
    rw [wAt_cons, ih, List.count_cons]
    by_cases e : a = n
    · subst e; simp; omega
    · simp [e]
/-- Sorted, they are the distribution. -/
theorem Gat.sorted {L : List Int} {lf : Int → Bool} {O d : List Wt} (h : Gat L lf O) (hl : ∀ n, lf n = false) (hp : O.Perm d) (hs : d.Pairwise fun x y => x.1 ≤ y.1) : d = serW L := by
  have hnd : d.Pairwise fun x y => x.1 ≠ y.1 := (hp.pairwise_iff (fun h e => h e.symm)).1 h.nd
  have hup : UpW d := (hs.and hnd).imp fun h => by omega
  have hk : ∀ n, (∃ x ∈ d, x.1 = n) ↔ n ∈ L := fun n => by
    refine ⟨fun ⟨x, hx, e⟩ => ((h.key n).1 ⟨x, hp.mem_iff.2 hx, e⟩).1, fun hn => ?_⟩
    obtain ⟨x, hx, e⟩ := (h.key n).2 ⟨hn, hl n⟩
    exact ⟨x, hp.mem_iff.1 hx, e⟩
  refine UpW.ext hup (ser_up L) (fun n => ?_) (fun n => ?_)
  · rw [hk, ser_key]
  · by_cases hn : n ∈ L
    · obtain ⟨x, hx, rfl⟩ := (hk n).2 hn
      rw [hup.at hx, h.val x (hp.mem_iff.2 hx)]
      unfold serW
      rw [(gatW_spec _).2.1, one_at]
    · rw [wAt_none (fun x hx e => hn ((hk n).1 ⟨x, hx, e⟩)), wAt_none (fun x hx e => hn (ser_key.1 ⟨x, hx, e⟩))]
end Go.Proofs.YtcmhompbdanpdaaGreatDoor
