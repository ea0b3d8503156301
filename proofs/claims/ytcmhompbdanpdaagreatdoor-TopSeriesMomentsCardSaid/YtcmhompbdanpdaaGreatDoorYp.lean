/- Lists of ints and limits that came in, and the library's variables, as the rows of layer 57 read them. -/
import Derived.Deep.Slices
import Derived.Deep.Fields
import Derived.ChangeSame
import Derived.Lib.SmallJoins
import Derived.ProofKit
import Derived.Stop.LaidErr
import Derived.Lib.LaidTab
import Derived.Handed
import Derived.MakeChecks
import Derived.Test.YtcmhompbdanpdaaGreatDoorRows
import Derived.Test.YtcmhompbdanpdaaGreatDoorMyl
namespace Go.Proofs.YtcmhompbdanpdaaGreatDoor
open Go.RowKit Go.Joins Go.ChangeShapes Go.WideShapes Go.Deep

theorem some_of {α : Type} {l : List α} {o : Option α} {i : Nat} (h : o = l[i]?) (hi : i < l.length) : o = some l[i] := h.trans (List.getElem?_eq_getElem hi)
/-- WHAT THE WALK IS TOLD OF A SLICE OF INTEGERS THAT CAME IN: it is nil; or it leads to a row of 'cap' cells, the numbers 'zs' (the first 'len' are its elements, the rest its spare room), each fitting its kind. -/
def IsRow (k : IntKind) (w : World) (a : Option Addr) (len cap : Nat) (zs : List Int) : Prop :=
  (a = none ∧ len = 0 ∧ cap = 0 ∧ zs = []) ∨
  ∃ x, a = some x ∧ len ≤ cap ∧ cap ≤ maxLen ∧ zs.length = cap ∧ (∀ i, i < zs.length → w.cell? (x.add i) = some (.int k (zs.getD i 0))) ∧ ∀ n ∈ zs, (Lit.int k n).wf = true

theorem IsRow.cells {w : World} {a : Option Addr} {len cap : Nat} {zs : List Int} (h : IsRow .i64 w a len cap zs) :
    (zs.take len).length = len ∧ len ≤ 9223372036854775807 ∧ CellsAt w a (I64s (zs.take len)) := by
  rcases h with ⟨rfl, rfl, rfl, rfl⟩ | ⟨x, rfl, h1, h2, h3, h4, h5⟩
  · exact ⟨rfl, by omega, CellsAt.nil _ _⟩
  · have hl : (zs.take len).length = len := by rw [List.length_take]; omega
    refine ⟨hl, by have : maxLen ≤ 9223372036854775807 := by decide
                   omega, fun h0 => ?_⟩
    rw [I64s_length, hl] at h0
    have hx : w.cell? x = some (.int .i64 (zs.getD 0 0)) := by simpa [Addr.add] using h4 0 (by omega)
    obtain ⟨b, o, sp⟩ := x
    have hs : sp = none := by
      unfold World.cell? at hx
      split at hx
      · split at hx
        · cases hx
        · rename_i h; simpa using h
      · cases hx
    subst hs
    refine ⟨b, o, rfl, ?_, fun j hj => ?_⟩
    · unfold World.cell? at hx
      split at hx
      · rename_i h; exact lt_of_block h
      · cases hx
    · rw [I64s_length, hl] at hj
      have h6 := h4 j (by omega)
      have e : Addr.add ⟨b, o, none⟩ j = ⟨b, o + j, none⟩ := by
        unfold Addr.add; split
        · rename_i h; subst h; rfl
        · rfl
      rw [e] at h6
      rw [h6, I64s_getD _ _ (by omega)]
      simp [at0, List.getD, hj]

theorem IsRow.cap {k : IntKind} {w : World} {a : Option Addr} {len cap : Nat} {zs : List Int} (h : IsRow k w a len cap zs) : len ≤ cap := by
  rcases h with ⟨rfl, rfl, rfl, rfl⟩ | ⟨x, rfl, h1, _⟩
  · exact Nat.le_refl _
  · exact h1
section
variable {H : Type} {enc : TypeId × Value → H} {w : World} {base : Nat} {spare : Nat → Bool} {held : Bool}
set_option maxRecDepth 100000 in
theorem open_limits {r : Reach} {b0 : Nat} {v : Value} {d : DataW H} {p : List MemPlace} (hv : Value.okWide Tryz.prog w r b0 25 v) (h : DataW.Trod enc Tryz.prog w base spare held 25 v d p) :
    ∃ lo hi : Int, v = .agg #[.int .i64 lo, .int .i64 hi] := by
  have hC : Tryz.prog.cellsOf 25 = 2 := by kernel_rfl
  have c2 : Tryz.prog.cellsOf 3 = 1 := by kernel_rfl
  obtain ⟨cs, rfl, hsz⟩ := okWide_struct Tryz.underlying25 hv
  obtain ⟨fuel, hf0⟩ := h
  obtain ⟨ys, n', _, _, _, hyl, hf⟩ := DataW.trod_struct Tryz.underlying25 hf0
  have hy2 : ys.length = 2 := hyl
  have hcl : cs.toList.length = 2 := by rw [Array.length_toList, hsz, hC]
  obtain ⟨v0, v1, e⟩ : ∃ v0 v1, cs.toList = [v0, v1] := by
    match hh : cs.toList, hcl with
    | [v0, v1], _ => exact ⟨v0, v1, rfl⟩
  obtain rfl : cs = #[v0, v1] := Array.toList_inj.1 e
  have t0 : DataW.trod enc Tryz.prog w base spare held n' 3 (([v0, v1].drop 0).take (Tryz.prog.cellsOf 3)) = ys[0]? := hf 0 _ rfl
  have t1 : DataW.trod enc Tryz.prog w base spare held n' 3 (([v0, v1].drop 1).take (Tryz.prog.cellsOf 3)) = ys[1]? := hf 1 _ rfl
  rw [c2] at t0 t1
  have t0 := some_of t0 (by omega)
  have t1 := some_of t1 (by omega)
  obtain ⟨x0, e0, _, _⟩ := DataW.trod_int Tryz.underlying3 (w := w) (cs := [v0]) t0
  obtain ⟨x1, e1, _, _⟩ := DataW.trod_int Tryz.underlying3 (w := w) (cs := [v1]) t1
  cases e0; cases e1
  exact ⟨x0, x1, rfl⟩
end
/-! ### the library's variables -/
set_option maxRecDepth 100000 in
theorem env_of {W : World} {r : List (String × DataW Unit)} (h : laidMet Tryz.prog (("math/bits.deBruijn32tab", Rows.laid_math_bits_deBruijn32tab) :: ("math/bits.deBruijn64tab", Rows.laid_math_bits_deBruijn64tab) :: ("internal/strconv.uint64pow10", Rows.laid_internal_strconv_uint64pow10) :: r) W)
   (hsh : W.ShapedOpen Tryz.prog) : Env W := by
  have h1 := h.tail.tail
  refine ⟨Go.Proofs.cell_of_shapedOpen_int (zero := #[.int .i64 0]) (t := 3) hsh (of_decide_eq_true (by kernel_rfl)) (by kernel_rfl) rfl (by kernel_rfl) (by kernel_rfl) Tryz.underlying3, ?_⟩
  exact Lib.tabIs_of_head (k := .u64) (zs := Lib.pow10Tab) (g := 5) (t := 316) (e := 264) (n := 20) (by kernel_rfl) (by kernel_rfl) (by kernel_rfl) (by kernel_rfl) (by kernel_rfl) (by kernel_rfl) h1
section
variable {H : Type} {enc : TypeId × Value → H}
/-- As the kit's builder, with the shape of the first world handed on. -/
theorem returns_laid {a : Assume} {C : Checked} {os : Os} {f : FuncId} {fn : Func} {s : ChangeSpec} {conds : List PathCond} {apart fresh handsOn again : Bool} {X : World → Array Value → Prop}
    (hX : ∀ (w w' : World) (args : Array Value), w.heap = w'.heap → X w args → X w' args)
    (own : ownKnob C.prog.godebug = none) (started : os.Started) (noInit : C.prog.inits.idxOf? f = none) (hfn : C.prog.funcs[f]? = some fn)
    (witness : ∃ (w : World) (tape : Tape) (i : Input), w.os = os ∧ (w.forCall tape i).Shaped C.prog ∧ i.vars = [] ∧ Input.okWide C.prog (w.forCall tape i) .any w.heap.size f i ∧
      ((s.pre enc C.prog fn conds apart (w.forCall tape i).memory i.args ∧ X (w.forCall tape i).memory i.args) ∧ sizedMet enc C.prog fn (OpenSpec.ofChange s) apart (w.forCall tape i).memory i.args) ∧ a.holds C.prog (lone (Frame.enter C.prog f i.args .normal) [] (w.forCall tape i)))
    (contract : ∀ (W : World) (base : Nat) (args : Array Value) (ds gs : List (DataW H)) (before : List MemPlace),
      (∀ (j : Nat) t v, fn.params[j]? = some t → args[j]? = some v → Value.okWide C.prog W .any base t v) →
      DataW.Whole enc C.prog fn.params.toList s.vars apart W args.toList ds gs before →
      conds.all (PathCond.test C.prog ⟨fn.params.toList, ds, s.plain.varTypes C.prog, gs⟩) = true →
      (DataW.weightsEach C.prog (fn.params.toList ++ s.plain.varTypes C.prog) (ds ++ gs)).all (· ≤ reachBytes) = true → X W args → W.ShapedOpen C.prog →
      a.holds C.prog (lone (Frame.enter C.prog f args .normal) [] W) →
      Calls C.prog f args W fun e W' => ∃ v, e = .returned v ∧ s.post enc C.prog fn apart fresh handsOn again W args v W') :
    ReturnsInHanded a C os f .any (fun w args => (s.pre enc C.prog fn conds apart w args ∧ X w args) ∧ sizedMet enc C.prog fn (OpenSpec.ofChange s) apart w args) (s.post enc C.prog fn apart fresh handsOn again) := by
  refine returnsInHanded_of_calls own started noInit witness ?_
  intro w tape i _ hsh _ hok hpre hholds
  obtain ⟨_, _, _, fn', hfn', _, _, _, _, hval⟩ := hok
  have e : fn' = fn := Option.some.inj (hfn'.symm.trans hfn)
  subst e
  obtain ⟨⟨⟨ds, gs, before, hw, hc⟩, hx⟩, hz⟩ := hpre
  have hw' := DataW.Whole.of_heap (w' := w.forCall tape i) (by rfl) hw
  refine (contract (w.forCall tape i) w.heap.size i.args ds gs before hval hw' hc (hz.weights hw) (hX _ _ _ (by rfl) hx) hsh hholds).mono fun e W' ⟨v, he, hp⟩ => ?_
  subst he
  exact ChangeSpec.post_blind hp
end
end Go.Proofs.YtcmhompbdanpdaaGreatDoor
