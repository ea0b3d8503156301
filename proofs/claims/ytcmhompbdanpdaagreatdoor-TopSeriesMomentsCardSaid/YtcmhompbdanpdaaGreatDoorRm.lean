/- A law for a range over an iterator all of whose rounds go on, and that may keep memory of its own between rounds; stores and look-ups in rounds. -/
import Derived.RangeFuncNested
import Derived.RangeFuncBound
import Derived.RangeFuncCalls
import Derived.RangeFuncLeaves
import Derived.RangeFuncBox
import Derived.Shelf.Abstract
import Derived.Shelf.RegionOpen
import Derived.OwnWalkIn
import Derived.TacticsInMore
import Derived.LoopNIn
import Derived.LoopIn
import Derived.Maps.AppendAt
import Derived.Maps.OwnIn
import Derived.Test.YtcmhompbdanpdaaGreatDoorMrh
namespace Go.Proofs.YtcmhompbdanpdaaGreatDoor
open Go.RowKit Go.Maps

/-- It rests on what lay below B alone. -/
def Old {β : Type} (B : Nat) (J : β → World → Prop) : Prop := ∀ s W W', J s W → Below B W W' → J s W'
/-- What lies at or beyond B lies as it lay. -/
structure KeepsUp (B : Nat) (W W' : World) : Prop where
  size : W.heap.size ≤ W'.heap.size
  block : ∀ k, B ≤ k → k < W.heap.size → W'.heap[k]? = W.heap[k]?
theorem KeepsUp.refl (B : Nat) (W : World) : KeepsUp B W W := ⟨Nat.le_refl _, fun _ _ _ => rfl⟩
theorem KeepsUp.trans {B : Nat} {X Y Z : World} (h : KeepsUp B X Y) (k : KeepsUp B Y Z) : KeepsUp B X Z :=
  ⟨Nat.le_trans h.size k.size, fun i hB hi => (k.block i hB (Nat.lt_of_lt_of_le hi h.size)).trans (h.block i hB hi)⟩
theorem KeepsUp.alloc {B : Nat} {X Y : World} (h : KeepsUp B X Y) (o : Obj) : KeepsUp B X (Y.alloc o) :=
  h.trans ⟨by simp, fun _ _ hk => Below.heap_alloc _ _ _ hk⟩
theorem KeepsUp.drew {B : Nat} {X Y : World} (h : KeepsUp B X Y) : KeepsUp B X Y.drew := ⟨h.size, h.block⟩
theorem KeepsUp.mono {B B' : Nat} {X Y : World} (h : KeepsUp B X Y) (hB : B ≤ B') : KeepsUp B' X Y := ⟨h.size, fun k h1 h2 => h.block k (by omega) h2⟩
theorem KeepsUp.below {B B' : Nat} {X Y : World} (h : Below B X Y) (hB : X.heap.size ≤ B) : KeepsUp B' X Y := ⟨h.size, fun k _ h2 => h.block k (by omega)⟩
/-- A store, a turn of a block below B or laid since. -/
theorem KeepsUp.grown {B : Nat} {X Y Z : World} {row : Option Nat} (h : KeepsUp B X Y) (hg : Y.grownBy Z row) (hr : ∀ k, row = some k → k < B ∨ X.heap.size ≤ k) : KeepsUp B X Z :=
  ⟨Nat.le_trans h.size hg.size, fun k h1 h2 => (hg.block k (Nat.lt_of_lt_of_le h2 h.size) (fun e => by rcases hr k e.symm with h3 | h3 <;> omega)).trans (h.block k h1 h2)⟩
theorem KeepsUp.setCell {B : Nat} {X Y : World} (h : KeepsUp B X Y) {p : Addr} (hp : p.block < B ∨ X.heap.size ≤ p.block) (u : Value) : KeepsUp B X (Y.setCell p u) := by
  refine ⟨Nat.le_trans h.size (Below.setCell (Below.refl p.block Y) (Nat.le_refl _) u).size, fun k h1 h2 => ?_⟩
  have hne : k ≠ p.block := by intro e; rcases hp with h3 | h3 <;> omega
  exact (Below.heap_setCell Y p u k hne).trans (h.block k h1 h2)
/-- These blocks lie as they lay. -/
def KeepsBs (bs : List Nat) (W W' : World) : Prop := ∀ k ∈ bs, W'.heap[k]? = W.heap[k]?

/-- What an iterator does all of whose rounds go on: xs come, in this order. -/
def Gives {α : Type} (F : Fence) (n : Nat) (P : Program) (g : Nat) (lb : Array Value) (encs : α → Array Value) (bs : List Nat) (xs : List α) (w0 : World) : Prop :=
  ∀ (l : Nat) (J : List α → World → Prop) (W : World), Below w0.heap.size w0 W → Old W.heap.size J →
    (∀ pre x W1, J pre W1 → (pre ++ [x]) <+: xs → YieldAt F (n - 1) P l (encs x) W1 fun e W' => e = .returned (.bool true) ∧ J (pre ++ [x]) W' ∧ KeepsUp W.heap.size W1 W' ∧ KeepsBs bs W1 W') →
    J [] W → CallsIn F n P g (#[.func (.yield l) #[] #[]] ++ lb) W fun e W' => (∃ v, e = .returned v) ∧ J xs W'

/-- How a round's body is left: off its end. -/
def allPost {α : Type} (B : Nat) (bs : List Nat) (I : List α → World → Prop) (xs : List α) (W : World) : Exit → Act → World → Prop
  | .normal, _, W' => KeepsUp B W W' ∧ KeepsBs bs W W' ∧ I xs W'
  | _, _, _ => False

theorem wpIn_rangeFunc_all {F : Fence} {n : Nat} {P : Program} {α : Type} {g : Operand} {ps : Array Tmp} {assign body : Code} {Q : Exit → Act → World → Prop} {a : Act} {w : World}
    (hro : F.round = none) (h1 : 1 ≤ n) {gf : Nat} {lb : Array Value} (hg : a.eval g = .func (.func gf) #[] lb) (hFg : F.fn gf) (eg : ∀ args w, (callFunc gf args).run P w = .ok (.enter gf args) w)
    {encs : α → Array Value} {bs : List Nat} {xs : List α} {w0 : World} (hseq : Gives F (n - 1) P gf lb encs bs xs w0) (hb0 : Below w0.heap.size w0 w) (hps : ∀ x, (encs x).size = ps.size) (hbs : ∀ k ∈ bs, k < w.heap.size)
    (I : List α → World → Prop) (hI : Old w.heap.size I) (h0 : I [] w) (Ax : α → Act → World → Prop) (hAx : ∀ x a' W l r o, W.heap[l]? = some (.loop r) → Ax x a' W → Ax x a' (W.putObj l o))
    (hassign : ∀ (l : Nat) (pre : List α) (x : α) (W : World) (K : Act → World → Prop), I pre W → w.heap.size ≤ W.heap.size → (pre ++ [x]) <+: xs → (∀ a' W', Below W.heap.size W W' → Ax x a' W' → K a' W') →
      assign.wpIn (F.inRound l) (n - 1 - 1) P (Exit.then K (fun _ _ _ => False)) { tmps := (ps.zip (encs x)).foldl (fun t (p, v) => t.setIfInBounds p v) a.tmps, defers := [] } W)
    (hbody : ∀ (l : Nat) (pre : List α) (x : α) (a' : Act) (W : World), I pre W → Ax x a' W → w.heap.size ≤ W.heap.size → (pre ++ [x]) <+: xs → body.wpIn (F.inRound l) (n - 1 - 1) P (allPost w.heap.size bs I (pre ++ [x]) W) a' W)
    (hdone : ∀ (D : Nat) (W : World), w.heap.size ≤ D → I xs W → W.heap[D]? = some (.deferred (some [])) → Q .normal { a with defers := { target := .collected D, args := #[] } :: a.defers } W) :
    (Code.rangeFunc g ps assign body).wpIn F n P Q a w := by
  refine wpIn_rangeFunc ?_
  intro fn hfn
  rw [hro]
  obtain ⟨W0, hW0⟩ : ∃ W0, ((w.alloc (.deferred (some []))).alloc (.loop { state := .ready, pending := none, fn, tmps := a.tmps, params := ps, assign, body, defers := w.heap.size })) = W0 := ⟨_, rfl⟩
  have hB : w.heap.size + 2 = W0.heap.size := by rw [← hW0]; simp
  have hL : W0.heap[w.heap.size + 1]? = some (.loop { state := .ready, pending := none, fn, tmps := a.tmps, params := ps, assign, body, defers := w.heap.size }) := by
    rw [← hW0]
    have := World.alloc_heap_new (w.alloc (.deferred (some []))) (.loop { state := .ready, pending := none, fn, tmps := a.tmps, params := ps, assign, body, defers := w.heap.size }); rwa [World.size_alloc] at this
  have hK : W0.heap[w.heap.size]? = some (.deferred (some [])) := by
    rw [← hW0]; exact (Below.heap_alloc _ _ _ (by simp)).trans (World.alloc_heap_new w _)
  have hbl : Below w.heap.size w W0 := by
    rw [← hW0]; exact ((Below.refl _ w).alloc (Nat.le_refl _) _).alloc (by simp) _
  refine ⟨w.heap.size + 1, [{ target := .collected w.heap.size, args := #[] }], W0, { target := .fn (.func gf) lb, args := #[.func (.yield (w.heap.size + 1)) #[] #[]] }, W0, gf,
    #[.func (.yield (w.heap.size + 1)) #[] #[]] ++ lb, W0, ?_, ?_, ?_, ?_, fun _ => h1, ?_⟩
  · rw [← hW0]; exact run_enterLoop_outer _ _ _ _ _
  · simp only [resolve, hg]
    simp [go_sem]
  · intro f' hf'; simp [Target.leads] at hf'; subst hf'; exact hFg
  · simp [invoke, go_sem, eg]
  · clear hW0
    refine (hseq (w.heap.size + 1)
      (fun pre W => I pre W ∧ W.heap[w.heap.size + 1]? = some (.loop { state := .ready, pending := none, fn, tmps := a.tmps, params := ps, assign, body, defers := w.heap.size }) ∧ W.heap[w.heap.size]? = some (.deferred (some [])))
      W0 (hb0.trans (hbl.mono hb0.size))
      (fun s A B hs hAB => ⟨hI s A B hs.1 (hAB.mono (by omega)), (hAB.block _ (by omega)).trans hs.2.1, (hAB.block _ (by omega)).trans hs.2.2⟩)
      ?_ ⟨hI _ _ _ h0 hbl, hL, hK⟩).mono ?_
    · rintro pre x W ⟨hi, hl, hk⟩ hpre
      have hlt : w.heap.size + 1 < W.heap.size := (Array.getElem?_eq_some_iff.1 hl).1
      refine ⟨fn, _, assign, body, run_yield (P := P) (args := encs x) hl (hps x), roundIn_of_wpIn hfn (hassign _ pre x W _ hi (by omega) hpre ?_)⟩
      intro a' Wa hba hax
      have hla := (hba.block _ hlt).trans hl
      have hka := (hba.block w.heap.size (by omega)).trans hk
      have hia := hI _ _ _ hi (hba.mono (by omega))
      have hsa := hba.size
      refine ⟨_, run_beginRound hla rfl, ?_⟩
      have hp : ∀ (V : World) (o : Obj), Below w.heap.size V (V.putObj (w.heap.size + 1) o) := fun V o => ⟨rfl, rfl, rfl, by simp, fun k hk => World.putObj_heap_other (by omega)⟩
      refine wpIn_mono (hbody _ pre x a' _ (hI _ _ _ hia (hp _ _)) (hAx _ _ _ _ _ _ hla hax) (by simp; omega) hpre) ?_
      rintro e a3 W3 hpost
      cases e with
      | normal =>
        obtain ⟨k1, k2, k3⟩ := hpost
        have hl3 := (k1.block (w.heap.size + 1) (by omega) (by simp; omega)).trans (World.putObj_heap_same (by omega))
        have hk3 := ((k1.block w.heap.size (by omega) (by simp; omega)).trans (World.putObj_heap_other (by omega))).trans hka
        refine ⟨_, _, run_endRound (P := P) none hl3, rfl, ⟨hI _ _ _ k3 (hp _ _), World.putObj_heap_same (Array.getElem?_eq_some_iff.1 hl3).1, (World.putObj_heap_other (by omega)).trans hk3⟩, ⟨?_, ?_⟩, ?_⟩
        · have := k1.size; simp at this ⊢; omega
        · intro k h1 h2
          exact ((World.putObj_heap_other (by omega)).trans (k1.block k (by omega) (by simp; omega))).trans ((World.putObj_heap_other (by omega)).trans (hba.block k h2))
        · intro k hk'
          have h2 := hbs k hk'
          exact ((World.putObj_heap_other (by omega)).trans (k2 k hk')).trans ((World.putObj_heap_other (by omega)).trans (hba.block k (by omega)))
      | ret => exact hpost.elim
      | exit id => exact hpost.elim
      | goto t => exact hpost.elim
      | panic ch => exact hpost.elim
      | outgrown => exact hpost.elim
    · rintro e W2 ⟨⟨v, rfl⟩, hi, hl, hk⟩
      have hlt : w.heap.size + 1 < W2.heap.size := (Array.getElem?_eq_some_iff.1 hl).1
      exact ⟨none, _, run_endLoop (P := P) hl (by simp), hdone _ _ (Nat.le_refl _) (hI _ _ _ hi ⟨rfl, rfl, rfl, by simp, fun k hk => World.putObj_heap_other (by omega)⟩) ((World.putObj_heap_other (by omega)).trans hk)⟩

/-! ### the function's end behind such loops -/
theorem endM {F : Fence} {n : Nat} {P : Program} {fn : Func} {R : Ending → World → Prop} {tmps : Array Value} {V : World} {v : Value} {D : Nat} (hK : V.heap[D]? = some (.deferred (some [])))
    (hr : ∀ w, (results fn tmps).run P w = .ok v w) (hR : Below D V (V.putObj D (.deferred none)) → R (.returned v) (V.putObj D (.deferred none))) :
    bodyPostM F n P fn R .ret { tmps := tmps, defers := [{ target := .collected D, args := #[] }] } V :=
  ⟨by simp, .inl ⟨_, _, rfl, run_takeDeferred hK, ⟨_, hr _, hR ⟨rfl, rfl, rfl, by simp, fun k hk => World.putObj_heap_other (by omega)⟩⟩⟩⟩
theorem endM0 {F : Fence} {n : Nat} {P : Program} {fn : Func} {R : Ending → World → Prop} {tmps : Array Value} {V : World} {v : Value}
    (hr : ∀ w, (results fn tmps).run P w = .ok v w) (hR : R (.returned v) V) : bodyPostM F n P fn R .ret { tmps := tmps, defers := [] } V := ⟨_, hr _, hR⟩
theorem res1 {fn : Func} {t : Tmp} {P : Program} (h : fn.results = #[.tmp t]) {tmps : Array Value} {x : Value} (hx : tmps.getD t undef = x) (w : World) : (results fn tmps).run P w = .ok x w := by rw [results_tmp h, hx]
theorem res2 {fn : Func} {t u : Tmp} {P : Program} (h : fn.results = #[.tmp t, .tmp u]) {tmps : Array Value} {x y : Value} (hx : tmps.getD t undef = x) (hy : tmps.getD u undef = y) (w : World) : (results fn tmps).run P w = .ok (.tuple #[x, y]) w := by rw [results_tmp2 h, hx, hy]

/-! ### maps in rounds -/
section
variable {F : Fence} {nF : Nat} {P : Program} {k t e : TypeId} {b n : Nat} {f : SMap}
theorem wpIn_mapStore (w : World) {ops : Array Oper} {rest : List Oper} {o : Oper} {a : Act} {Q : Exit → Act → World → Prop}
    (hg : o.guard = none) (m x v : Operand) (t : TypeId) (hop : o.op = Op.mapUpdate t m x v) (k e : TypeId) (hk : P.underlying k = some .string) (ht : P.underlying t = some (.map k e)) (b n : Nat) (f : SMap)
    (hm : a.eval m = .map (some b)) (h : MapIs P k w b n f) (hn : n < maxLen) (s : ByteArray) (val : Value) (hx : a.eval x = .string s) (hv : a.eval v = val) (hs : s.size ≤ maxLen)
    (hK : ∀ w', MapIs P k w' b (n + 1) (f.put s val) → w.grownBy w' (some b) → wpListIn F nF P ops Q rest (a.put o.dst undef) w') :
    wpListIn F nF P ops Q (o :: rest) a w := by
  obtain ⟨D, h1, h2⟩ := h
  exact wpListIn_mapUpdate_own w hg m x v t hop k e (string_keyed hk) ht heldR b n D hm h1 hn (.string s) val (keyL s) hx hv (keyOfS hk hs) (.held val) [] rfl
    fun w' h3 h4 => hK w' ⟨_, h3, put_view h1.isMap h2 s val⟩ h4
theorem wpIn_mapLookOk (w : World) {ops : Array Oper} {rest : List Oper} {o : Oper} {a : Act} {Q : Exit → Act → World → Prop}
    (hg : o.guard = none) (m x : Operand) (t : TypeId) (hop : o.op = Op.lookup t m x true) (k e : TypeId) (hk : P.underlying k = some .string) (ht : P.underlying t = some (.map k e)) (b n : Nat) (f : SMap)
    (hm : a.eval m = .map (some b)) (h : MapIs P k w b n f) {z : Value} (hz : (zeroValue e).run P w = .ok z w) (s : ByteArray) (hx : a.eval x = .string s) (hs : s.size ≤ maxLen) (u : Value) (ok : Bool) (hu : (f s).getD z = u) (hok : (f s).isSome = ok)
    (hK : wpListIn F nF P ops Q rest (a.put o.dst (.tuple #[u, .bool ok])) w) :
    wpListIn F nF P ops Q (o :: rest) a w := by
  refine wpListIn_plain hg fun K' hK' => ?_
  have hrun := h.lookOk hk ht hz hs
  rw [hu, hok] at hrun
  unfold Oper.wpIn
  refine ⟨by simp [Oper.about, hop], ?_⟩
  rw [Oper.semAt_plain F _ _ (by rw [hop]; intro c hc'; cases hc')]
  simp [execOp, hop, hm, hx, hrun, Result.andThen]
  exact hK' _ _ hK
theorem wpIn_mapLook (w : World) {ops : Array Oper} {rest : List Oper} {o : Oper} {a : Act} {Q : Exit → Act → World → Prop}
    (hg : o.guard = none) (m x : Operand) (t : TypeId) (hop : o.op = Op.lookup t m x false) (k e : TypeId) (hk : P.underlying k = some .string) (ht : P.underlying t = some (.map k e)) (b n : Nat) (f : SMap)
    (hm : a.eval m = .map (some b)) (h : MapIs P k w b n f) {z : Value} (hz : (zeroValue e).run P w = .ok z w) (s : ByteArray) (hx : a.eval x = .string s) (hs : s.size ≤ maxLen) (u : Value) (hu : (f s).getD z = u)
    (hK : wpListIn F nF P ops Q rest (a.put o.dst u) w) :
    wpListIn F nF P ops Q (o :: rest) a w := by
  refine wpListIn_plain hg fun K' hK' => ?_
  have hrun := h.look hk ht hz hs
  rw [hu] at hrun
  unfold Oper.wpIn
  refine ⟨by simp [Oper.about, hop], ?_⟩
  rw [Oper.semAt_plain F _ _ (by rw [hop]; intro c hc'; cases hc')]
  simp [execOp, hop, hm, hx, hrun, Result.andThen]
  exact hK' _ _ hK
end
end Go.Proofs.YtcmhompbdanpdaaGreatDoor
