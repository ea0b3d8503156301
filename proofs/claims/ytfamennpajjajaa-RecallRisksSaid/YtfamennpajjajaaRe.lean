/- Maps keyed by strings, as functions from strings to values: made, looked up, stored into, kept. -/
import Derived.Maps.Own
import Derived.Maps.OwnSet
import Derived.Maps.OwnOps
import Derived.Maps.Views
import Derived.StringKeys
import Derived.Test.YtfamennpajjajaaSa
namespace Go.Proofs.Ytfamennpajjajaa
open Go.RowKit Go.Maps

/-- An element reads as itself. -/
def heldR (v : Value) : Option (DataW Value × List MemPlace) := some (.held v, [])
def keyL (s : ByteArray) : Lit := .string s.data.toList
theorem keyL_inj {s t : ByteArray} (h : keyL s = keyL t) : s = t := by
  unfold keyL at h
  exact ByteArray.ext (Array.toList_inj.1 (by simpa using h))
theorem keyOfS {P : Program} {k : TypeId} (hk : P.underlying k = some .string) {s : ByteArray} (hs : s.size ≤ maxLen) : keyOf P k (.string s) = some (keyL s) := by
  have h := Go.WideMaps.keyOf_string_mk hk hs
  rw [h, keyL]
abbrev SMap := ByteArray → Option Value
def SMap.put (f : SMap) (s : ByteArray) (v : Value) : SMap := fun t => if t = s then some v else f t
/-- Block b of w is a map of at most n entries, which is f. -/
def MapIs (P : Program) (k : TypeId) (w : World) (b n : Nat) (f : SMap) : Prop :=
  ∃ D : DataW Value, w.ownsMap P k heldR b n D ∧ ∀ s z, D.atKey (keyL s) z = match f s with | some v => .held v | none => z

section
variable {P : Program} {k t e : TypeId} {w w' : World} {b n : Nat} {f : SMap}
theorem mapIs_made (w : World) : MapIs P k (w.alloc (.map #[] 0)) w.heap.size 0 (fun _ => none) :=
  ⟨.map [], World.ownsMap_made w P k heldR, fun _ _ => rfl⟩
theorem MapIs.lt (h : MapIs P k w b n f) : b < w.heap.size := by obtain ⟨D, h1, _⟩ := h; exact h1.lt
theorem MapIs.mono (h : MapIs P k w b n f) {n' : Nat} (hn : n ≤ n') : MapIs P k w b n' f := by
  obtain ⟨D, h1, h2⟩ := h; exact ⟨D, h1.mono hn, h2⟩
theorem MapIs.keep (h : MapIs P k w b n f) (hb : w'.heap[b]? = w.heap[b]?) : MapIs P k w' b n f := by
  obtain ⟨D, ⟨es, clock, h1, h3⟩, h2⟩ := h
  exact ⟨D, ⟨es, clock, hb.trans h1, h3⟩, h2⟩
theorem MapIs.below {B : Nat} (h : MapIs P k w b n f) (hb : Below B w w') (hlt : b < B) : MapIs P k w' b n f := h.keep (hb.block b hlt)
theorem MapIs.lookOk (h : MapIs P k w b n f) (hk : P.underlying k = some .string) (ht : P.underlying t = some (.map k e)) {z : Value} (hz : (zeroValue e).run P w = .ok z w) {s : ByteArray} (hs : s.size ≤ maxLen) :
    (Instr.lookup t (.map (some b)) (.string s) true).run P w = .ok (.tuple #[(f s).getD z, .bool (f s).isSome]) w := by
  obtain ⟨D, h1, h2⟩ := h
  obtain ⟨v, ps, hrun, hv⟩ := h1.look_ok (string_keyed hk) ht hz (zd := .held z) rfl (keyOfS hk hs)
  rw [hrun]
  rw [h2 s (.held z)] at hv
  cases hf : f s with
  | none =>
    rw [hf] at hv
    have hno : has D (keyL s) = false := has_false_of_atKey (fun z => by rw [h2 s z, hf])
    simp only [heldR, Option.some.injEq, Prod.mk.injEq, DataW.held.injEq] at hv
    rw [hv.1, hno]; rfl
  | some u =>
    rw [hf] at hv
    have hyes : has D (keyL s) = true := has_true_of_atKey (y := .held u) (fun z => by rw [h2 s z, hf])
    simp only [heldR, Option.some.injEq, Prod.mk.injEq, DataW.held.injEq] at hv
    rw [hv.1, hyes]; rfl
theorem MapIs.look (h : MapIs P k w b n f) (hk : P.underlying k = some .string) (ht : P.underlying t = some (.map k e)) {z : Value} (hz : (zeroValue e).run P w = .ok z w) {s : ByteArray} (hs : s.size ≤ maxLen) :
    (Instr.lookup t (.map (some b)) (.string s) false).run P w = .ok ((f s).getD z) w := by
  obtain ⟨D, h1, h2⟩ := h
  obtain ⟨v, ps, hrun, hv⟩ := h1.lookup (string_keyed hk) ht hz (zd := .held z) rfl (keyOfS hk hs)
  rw [hrun]
  rw [h2 s (.held z)] at hv
  cases hf : f s with
  | none =>
    rw [hf] at hv
    simp only [heldR, Option.some.injEq, Prod.mk.injEq, DataW.held.injEq] at hv
    rw [hv.1]; rfl
  | some u =>
    rw [hf] at hv
    simp only [heldR, Option.some.injEq, Prod.mk.injEq, DataW.held.injEq] at hv
    rw [hv.1]; rfl
theorem put_view {D : DataW Value} (hD : IsMap D) (h2 : ∀ s z, D.atKey (keyL s) z = match f s with | some v => .held v | none => z) (s : ByteArray) (v : Value) :
    ∀ t z, (D.put (keyL s) (.held v)).atKey (keyL t) z = match f.put s v t with | some v => .held v | none => z := by
  intro t z
  unfold SMap.put
  by_cases e : t = s
  · subst e; rw [if_pos rfl]; exact atKey_put_same (k := keyL t) hD trivial _ _
  · rw [if_neg e, atKey_put_other (fun h => e (keyL_inj h)), h2]
theorem MapIs.store (h : MapIs P k w b n f) (hk : P.underlying k = some .string) (ht : P.underlying t = some (.map k e)) (hn : n < maxLen) {s : ByteArray} (hs : s.size ≤ maxLen) (v : Value) :
    ∃ w', (Instr.mapUpdate t (.map (some b)) (.string s) v).run P w = .ok () w' ∧ MapIs P k w' b (n + 1) (f.put s v) ∧ w.grownBy w' (some b) := by
  obtain ⟨D, h1, h2⟩ := h
  obtain ⟨w', hrun, h3, h4⟩ := h1.update (string_keyed hk) ht hn (keyOfS hk hs) (val := v) (d := .held v) (ps := []) rfl
  exact ⟨w', hrun, ⟨_, h3, put_view h1.isMap h2 s v⟩, h4⟩
/-- At the operation, for the walk. -/
theorem wp_mapStore (w : World) {ops : Array Oper} {rest : List Oper} {o : Oper} {a : Act} {Q : Exit → Act → World → Prop}
    (hg : o.guard = none) (m x v : Operand) (t : TypeId) (hop : o.op = Op.mapUpdate t m x v) (k e : TypeId) (hk : P.underlying k = some .string) (ht : P.underlying t = some (.map k e)) (b n : Nat) (f : SMap)
    (hm : a.eval m = .map (some b)) (h : MapIs P k w b n f) (hn : n < maxLen) (s : ByteArray) (val : Value) (hx : a.eval x = .string s) (hv : a.eval v = val) (hs : s.size ≤ maxLen)
    (hK : ∀ w', MapIs P k w' b (n + 1) (f.put s val) → w.grownBy w' (some b) → wpList P ops Q rest (a.put o.dst undef) w') :
    wpList P ops Q (o :: rest) a w := by
  obtain ⟨D, h1, h2⟩ := h
  exact wpList_mapUpdate_own w hg m x v t hop k e (string_keyed hk) ht heldR b n D hm h1 hn (.string s) val (keyL s) hx hv (keyOfS hk hs) (.held val) [] rfl
    fun w' h3 h4 => hK w' ⟨_, h3, put_view h1.isMap h2 s val⟩ h4
theorem wp_mapLookOk (w : World) {ops : Array Oper} {rest : List Oper} {o : Oper} {a : Act} {Q : Exit → Act → World → Prop}
    (hg : o.guard = none) (m x : Operand) (t : TypeId) (hop : o.op = Op.lookup t m x true) (k e : TypeId) (hk : P.underlying k = some .string) (ht : P.underlying t = some (.map k e)) (b n : Nat) (f : SMap)
    (hm : a.eval m = .map (some b)) (h : MapIs P k w b n f) {z : Value} (hz : (zeroValue e).run P w = .ok z w) (s : ByteArray) (hx : a.eval x = .string s) (hs : s.size ≤ maxLen) (u : Value) (ok : Bool) (hu : (f s).getD z = u) (hok : (f s).isSome = ok)
    (hK : wpList P ops Q rest (a.put o.dst (.tuple #[u, .bool ok])) w) :
    wpList P ops Q (o :: rest) a w := by
  refine wpList_plain hg fun K' hK' => ?_
  have hrun := h.lookOk hk ht hz hs
  rw [hu, hok] at hrun
  unfold Oper.wp
  simp [execOp, hop, hm, hx, hrun, Result.andThen]
  exact hK' _ _ hK
theorem wp_mapLook (w : World) {ops : Array Oper} {rest : List Oper} {o : Oper} {a : Act} {Q : Exit → Act → World → Prop}
    (hg : o.guard = none) (m x : Operand) (t : TypeId) (hop : o.op = Op.lookup t m x false) (k e : TypeId) (hk : P.underlying k = some .string) (ht : P.underlying t = some (.map k e)) (b n : Nat) (f : SMap)
    (hm : a.eval m = .map (some b)) (h : MapIs P k w b n f) {z : Value} (hz : (zeroValue e).run P w = .ok z w) (s : ByteArray) (hx : a.eval x = .string s) (hs : s.size ≤ maxLen) (u : Value) (hu : (f s).getD z = u)
    (hK : wpList P ops Q rest (a.put o.dst u) w) :
    wpList P ops Q (o :: rest) a w := by
  refine wpList_plain hg fun K' hK' => ?_
  have hrun := h.look hk ht hz hs
  rw [hu] at hrun
  unfold Oper.wp
  simp [execOp, hop, hm, hx, hrun, Result.andThen]
  exact hK' _ _ hK
end
end Go.Proofs.Ytfamennpajjajaa
