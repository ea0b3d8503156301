/- The ways: bounds, and what conflict, from and span compute. The walks of conflict and from of package complete. The walk of span of package complete. The walk of Distance of package complete. (Printed by gen_distance.py.) slices.Clone and slices.Delete of dimensions. A list without an element: its dimensions, its ways. The walk of Implied of package complete. -/
import Derived.Test.YtlgjhjgdmomfoaaCz
import Derived.Deep.RegionHeld3
import Derived.Test.YtlgjhjgdmomfoaaMck
import Derived.Laws.AppendOwn
import Derived.Laws.IdiomCopy
import Derived.Deep.RegionLaw
import Derived.Lib.SliceRun
import Derived.Lib.EndianMore
namespace Go.Proofs.Ytlgjhjgdmomfoaa
open Go.RowKit Go.Maps

theorem Fb.run {n : Nat} {A : List Ar} (hA : Within n A) (hN : Near A) : ∀ (m : Nat) (s : Bf) (B : Nat), Fb s B → s.Ok n → Fb (Bf.run A m s).1 (B + m * (100000 * A.length))
  | 0, s, B, h, _ => h.mono (by omega)
  | m + 1, s, B, h, hO => by
    have h1 : Fb (s.round A) (B + 100000 * A.length) := Fb.fold hA hN A { s with last := -1 } B h ⟨hO.far, hO.seen, hO.by_⟩ (fun x hx => hx)
    have e : B + (m + 1) * (100000 * A.length) = B + 100000 * A.length + m * (100000 * A.length) := by rw [Nat.add_mul, Nat.one_mul]; omega
    unfold Bf.run
    split
    · exact h1.mono (by rw [e]; exact Nat.le_add_right _ _)
    · rw [e]; exact Fb.run hA hN m _ _ h1 (Bf.round_ok hO hA)
theorem rx_near {vs : List Dm} {ax : Int} {S : List Bool} (hl : vs.length ≤ 256) (hva : ∀ j, j < vs.length → vaE (dAt vs j) = 0) (hS : S.length = (nmG vs ax).length) : Fb (rxR (arX vs ax) S).1 30000000000 := by
  have h0 : Fb (Bf.begin S) 0 := fun v => by rw [Bf.begin_f]; exact ⟨Int.le_refl _, Int.le_refl _⟩
  have h1 := Fb.run (n := S.length) (by rw [hS]; exact arX_within vs ax) (arX_near hva ax) (S.length + 1) _ 0 h0 (Bf.begin_ok S)
  refine h1.mono ?_
  have h2 : (arX vs ax).length ≤ 512 := by
    have := onA_len vs ax vs.length
    rw [arX_len]; omega
  have h3 : S.length + 1 ≤ 513 := by have := nmG_len (ax := ax) hl; omega
  have h4 : (S.length + 1) * (100000 * (arX vs ax).length) ≤ 513 * 51200000 := Nat.mul_le_mul h3 (by omega)
  omega
/-- From all names: whether it ends, and the loop. -/
def cfR (vs : List Dm) (ax : Int) : Bf × Bool := rxR (arX vs ax) (List.replicate (nmG vs ax).length true)
def cfE (vs : List Dm) (ax : Int) : Bool := (cfR vs ax).2
def cfL (vs : List Dm) (ax : Int) : List Sp := lpL (cfR vs ax).1 (nmG vs ax).length
/-- From one place. -/
def frR (vs : List Dm) (ax : Int) (a : Nat) : Bf × Bool := rxR (arX vs ax) (oneS (nmG vs ax).length a)
theorem cfE_iff (vs : List Dm) (ax : Int) : cfE vs ax = true ↔ NoNeg (arX vs ax) :=
  ⟨fun h => rx_noNeg (arX_within vs ax) h, fun h => rx_ends h (by rw [List.length_replicate]; exact arX_within vs ax)⟩
theorem frR_ends {vs : List Dm} {ax : Int} (h : cfE vs ax = true) (a : Nat) : (frR vs ax a).2 = true :=
  rx_ends ((cfE_iff vs ax).1 h) (by rw [oneS_len]; exact arX_within vs ax)
theorem frR_near {vs : List Dm} {ax : Int} (hl : vs.length ≤ 256) (hva : ∀ j, j < vs.length → vaE (dAt vs j) = 0) (a v : Nat) : -30000000000 ≤ (frR vs ax a).1.f v ∧ (frR vs ax a).1.f v ≤ 30000000000 :=
  rx_near hl hva (oneS_len _ a) v
theorem frR_len (vs : List Dm) (ax : Int) (a : Nat) : (frR vs ax a).1.far.length = (nmG vs ax).length := by
  have h := (Bf.run_keeps (n := (oneS (nmG vs ax).length a).length) (A := arX vs ax) (S := fun _ => True) (by rw [oneS_len]; exact arX_within vs ax) ((oneS (nmG vs ax).length a).length + 1) (Bf.begin (oneS (nmG vs ax).length a)) (Bf.begin_ok _) (fun v hv => ⟨v, 0, trivial, by rw [Bf.begin_f]; exact Wk.nil v⟩)).1.far
  have h2 : (frR vs ax a).1.far.length = (oneS (nmG vs ax).length a).length := h
  rw [oneS_len] at h2
  exact h2
theorem cfL_pos (vs : List Dm) (ax : Int) : 0 < (cfL vs ax).length := by
  unfold cfL lpL; simp
/-- A cell of the distances. -/
theorem far_cell {W : World} {gf : Nat} {vs : List Dm} {ax : Int} {a v : Nat} (h : Blk W gf 3 (I64s (frR vs ax a).1.far)) (hv : v < (nmG vs ax).length) : W.cell? ⟨gf, v, none⟩ = some (.int .i64 ((frR vs ax a).1.f v)) := by
  have hl : v < (frR vs ax a).1.far.length := by rw [frR_len]; exact hv
  have h2 := h.cell (j := v) (by simpa [I64s] using hl)
  rw [h2]
  unfold I64s Bf.f
  rw [List.getD_eq_getElem?_getD, List.getElem?_map, List.getElem?_eq_getElem hl, List.getD_eq_getElem?_getD, List.getElem?_eq_getElem hl]; rfl
end Go.Proofs.Ytlgjhjgdmomfoaa
namespace Go.Proofs.Ytlgjhjgdmomfoaa
open Go.RowKit Go.Maps

theorem Try.infoB22 : (Try.prog.info? 4).map (fun i => (i.zero, i.size, i.bytes)) = some (some (.bool false), 1, 1) := by kernel_rfl
theorem boC_zero (n : Nat) : reps n (.bool false) = boC (List.replicate n false) := by simp [reps, boC]
theorem boC_set (l : List Bool) (i : Nat) (x : Bool) : (boC l).set i (.bool x) = boC (l.set i x) := by simp [boC, List.map_set]
theorem make_bools (n : Nat) (hn : n ≤ 512) (w : World) :
    (Instr.makeSlice 109 (.int .i64 (n : Int)) (.int .i64 (n : Int))).run Try.prog w = .ok (.slice (some ⟨w.heap.size, 0, none⟩) n n) (w.alloc (.cells (boC (List.replicate n false)).toArray 4)) := by
  rw [make_row (P := Try.prog) (t := 109) Try.underlying109 Try.infoB22 rfl n (by omega) (by omega) w, boC_zero]
theorem boC_get {l : List Bool} {i : Nat} (h : i < l.length) : (boC l).getD i undef = .bool (l.getD i false) := by
  unfold boC
  rw [List.getD_eq_getElem?_getD, List.getElem?_map, List.getElem?_eq_getElem h, List.getD_eq_getElem?_getD, List.getElem?_eq_getElem h]; rfl
theorem Blk.cellsAt {w : World} {C : Nat} {E : TypeId} {L : List Value} (h : Blk w C E L) : CellsAt w (some ⟨C, 0, none⟩) L := by
  intro _
  refine ⟨C, 0, rfl, h.lt, fun j hj => ?_⟩
  rw [Nat.zero_add]; exact h.cell hj
/-- The first places begin. -/
def iniB (n k : Nat) : List Bool := List.replicate k true ++ List.replicate (n - k) false
theorem iniB_len {n k : Nat} (h : k ≤ n) : (iniB n k).length = n := by simp [iniB]; omega
theorem iniB_set {n k : Nat} (h : k < n) : (iniB n k).set k true = iniB n (k + 1) := by
  unfold iniB
  obtain ⟨m, hm⟩ : ∃ m, n - k = m + 1 := ⟨n - k - 1, by omega⟩
  rw [hm, show n - (k + 1) = m from by omega, List.replicate_succ (n := m), List.set_append_right _ _ (by simp), List.length_replicate, Nat.sub_self, List.set_cons_zero, List.replicate_succ' (n := k), List.append_assoc]; rfl
theorem iniB_end (n : Nat) : iniB n n = List.replicate n true := by simp [iniB]
theorem relaxedN (ao : Option Addr) (vs : List Dm) (c b n : Nat) (ax : Int) (bb bo sc0 : Nat) (S : List Bool) (w : World) (R : Ending → World → Prop) (hn : S.length = n) (hl : vs.length ≤ 256) (hc : CellsAt w ao (dC vs)) (hv : DmsOk vs) (hva : ∀ j, j < vs.length → vaE (dAt vs j) = 0)
   (hg : GrX w b ao c vs ax) (hS : S.length = (nmG vs ax).length) (hcS : CellsAt w (some ⟨bb, bo, none⟩) (boC S))
   (hR1 : (rxR (arX vs ax) S).2 = true → ∀ gf gb gs sc w', Below w.heap.size w w' → Blk w' gf 3 (I64s (rxR (arX vs ax) S).1.far) → R (.returned (.tuple #[.agg #[.slice (some ⟨gf, 0, none⟩) (nmG vs ax).length (nmG vs ax).length, .slice (some ⟨gb, 0, none⟩) (nmG vs ax).length (nmG vs ax).length, .slice (some ⟨gs, 0, none⟩) (nmG vs ax).length sc], .slice none 0 0])) w')
   (hR2 : (rxR (arX vs ax) S).2 = false → ∀ gf gb gs sc v w', Below w.heap.size w w' → w'.ownsRow w.heap.size 28 2 v (lpL (rxR (arX vs ax) S).1 (nmG vs ax).length).length (pC (lpL (rxR (arX vs ax) S).1 (nmG vs ax).length)) → R (.returned (.tuple #[.agg #[.slice (some ⟨gf, 0, none⟩) (nmG vs ax).length (nmG vs ax).length, .slice (some ⟨gb, 0, none⟩) (nmG vs ax).length (nmG vs ax).length, .slice (some ⟨gs, 0, none⟩) (nmG vs ax).length sc], v])) w') :
    Calls Try.prog 73 #[.pointer (some ⟨b + 1, 0, none⟩), .slice (some ⟨bb, bo, none⟩) n sc0] w R := by
  subst hn
  exact relaxed_any ao vs c b ax bb bo sc0 S w R hl hc hv hva hg hS hcS hR1 hR2
theorem ne_types {w : World} {a b : Nat} {cs ds : Array Value} {t u : TypeId} (h : w.heap[a]? = some (.cells cs t (0, 0))) (h2 : w.heap[b]? = some (.cells ds u (0, 0))) (hne : t ≠ u) : a ≠ b := by
  rintro rfl; rw [h] at h2; cases h2; exact hne rfl
set_option maxRecDepth 100000 in
set_option maxHeartbeats 8000000 in
theorem conflict_any (ao : Option Addr) (vs : List Dm) (c b : Nat) (ax : Int) (w : World) (R : Ending → World → Prop) (hl : vs.length ≤ 256) (hc : CellsAt w ao (dC vs)) (hv : DmsOk vs) (hva : ∀ j, j < vs.length → vaE (dAt vs j) = 0) (hg : GrX w b ao c vs ax)
   (hR1 : cfE vs ax = true → ∀ w', Below w.heap.size w w' → R (.returned (.slice none 0 0)) w')
   (hR2 : cfE vs ax = false → ∀ v w', Below w.heap.size w w' → w'.ownsRow w.heap.size 28 2 v (cfL vs ax).length (pC (cfL vs ax)) → R (.returned v) w') :
    Calls Try.prog 51 #[.pointer (some ⟨b + 1, 0, none⟩)] w R := by
  have HR1 := Lib.hid hR1
  have HR2 := Lib.hid hR2
  have HC := Lib.hid hc
  have HV := Lib.hid hv
  have HVA := Lib.hid hva
  have HG := Lib.hid hg
  have hkl := nmG_len (ax := ax) hl
  have hmk := fun w => make_bools (nmG vs ax).length hkl w
  clear hR1 hR2 hc hv hva hg
  obtain ⟨nv, dv, hg0⟩ := HG.out
  obtain ⟨na, nc, rfl, _, _⟩ := ownsRow_read hg0.names
  obtain ⟨g0, _, _, _⟩ := hg0.cell
  have sG := hg0.size
  clear hg0
  obtain ⟨N, hN⟩ : ∃ N, (nmG vs ax).length = N := ⟨_, rfl⟩
  rw [hN] at g0 hkl hmk
  have HN := Lib.hid hN
  clear hN
  go_enter Try.func51, Try.ntmps51
  go_wp2_with fail
  have X0' := Blk.new w (boC (List.replicate N false)) 4
  have B0' : Below w.heap.size w (w.alloc (.cells (boC (List.replicate N false)).toArray 4)) := (Below.refl _ _).alloc (Nat.le_refl _) _
  obtain ⟨w1, hw1⟩ : ∃ w1, w.alloc (.cells (boC (List.replicate N false)).toArray 4) = w1 := ⟨_, rfl⟩
  rw [hw1] at X0' B0' ⊢
  have X0 := Lib.hid X0'
  have B0 := Lib.hid B0'
  clear hw1 X0' B0' hmk
  go_loopw [15] (fun j wr => ∃ (k : Nat), k ≤ N ∧ j = .int .i64 k ∧ Hid (Below w.heap.size w wr) ∧ Hid (Blk wr w.heap.size 4 (boC (iniB N k)))) (fun j _ => N - (intOf j).toNat)
  case atStart => exact ⟨0, Nat.zero_le _, rfl, B0, by unfold iniB; simpa using X0⟩
  case round =>
    clear g0
    obtain ⟨k, hk, rfl, HB, HX⟩ := hrel
    by_cases hlt : k < N
    · have hln := iniB_len hk
      have x1 := HX.out.cell (j := k) (by rw [boC_length, hln]; exact hlt)
      have x2 := HX.out.frozen k
      have hxl := HX.out.lt
      rw [boC_get (by rw [hln]; exact hlt)] at x1
      have X2 := Lib.hid (HX.out.set k (.bool true))
      have B2 := Lib.hid (HB.out.setCell (p := ⟨w.heap.size, k, none⟩) (Nat.le_refl _) (.bool true))
      go_wp2_with fail
      refine ⟨⟨k + 1, by omega, by go_num, B2, ?_⟩, by simp [intOf]; omega⟩
      have h := X2.out
      rw [boC_set, iniB_set hlt] at h; exact h
    · obtain rfl : k = N := by omega
      have hX := HX.out
      rw [iniB_end] at hX
      have HX2 := Lib.hid hX
      have sB := HB.out.size
      clear hX HX
      go_wp2_with fail
      refine relaxedN ao vs c b k ax w.heap.size 0 k (List.replicate k true) _ _ (by simp) hl (HC.out.below HB.out) HV.out HVA.out (HG.out.below HB.out (Nat.le_refl _)) (by rw [HN.out]; simp) HX2.out.cellsAt ?_ ?_
      · intro h1 gf gb gs sc w2 hb _
        have hE : Hid (cfE vs ax = true) := by unfold Hid cfE cfR; rw [HN.out]; exact h1
        have HB2 := Lib.hid (HB.out.trans (hb.mono sB))
        clear hb h1
        go_wp2_with fail
        exact HR1.out hE.out _ (HB2.out.alloc HB2.out.size _)
      · intro h1 gf gb gs sc v w2 hb ho
        have hE : Hid (cfE vs ax = false) := by unfold Hid cfE cfR; rw [HN.out]; exact h1
        have hL : Hid (cfL vs ax = lpL (rxR (arX vs ax) (List.replicate k true)).1 (nmG vs ax).length) := by unfold Hid cfL cfR; rw [HN.out]
        have HO := Lib.hid ho
        have HB2 := Lib.hid (HB.out.trans (hb.mono sB))
        clear hb h1 ho
        go_wp2_with fail
        refine HR2.out hE.out _ _ (HB2.out.alloc HB2.out.size _) ?_
        rw [hL.out]
        exact ownsRow_below (ownsRow_mono HO.out sB) ((Below.refl _ _).alloc (Nat.le_refl _) _)
set_option maxRecDepth 100000 in
set_option maxHeartbeats 8000000 in
theorem from_any (ao : Option Addr) (vs : List Dm) (c b a : Nat) (ax : Int) (w : World) (R : Ending → World → Prop) (hl : vs.length ≤ 256) (hc : CellsAt w ao (dC vs)) (hv : DmsOk vs) (hva : ∀ j, j < vs.length → vaE (dAt vs j) = 0) (hg : GrX w b ao c vs ax)
   (ha : a < (nmG vs ax).length) (hE : (frR vs ax a).2 = true)
   (hR : ∀ gf gb gs sc w', Below w.heap.size w w' → Blk w' gf 3 (I64s (frR vs ax a).1.far) → R (.returned (.agg #[.slice (some ⟨gf, 0, none⟩) (nmG vs ax).length (nmG vs ax).length, .slice (some ⟨gb, 0, none⟩) (nmG vs ax).length (nmG vs ax).length, .slice (some ⟨gs, 0, none⟩) (nmG vs ax).length sc])) w') :
    Calls Try.prog 59 #[.pointer (some ⟨b + 1, 0, none⟩), .int .i64 a] w R := by
  have HR := Lib.hid hR
  have HC := Lib.hid hc
  have HV := Lib.hid hv
  have HVA := Lib.hid hva
  have hE' : Hid ((rxR (arX vs ax) (oneS (nmG vs ax).length a)).2 = true) := hE
  have hF : Hid ((frR vs ax a).1 = (rxR (arX vs ax) (oneS (nmG vs ax).length a)).1) := rfl
  have hkl := nmG_len (ax := ax) hl
  obtain ⟨w1, E1, HB1, s1, X1⟩ := box_ex w #[.slice none 0 0, .slice none 0 0, .slice none 0 0] 111
  have hg1 := hg.below HB1.out (Nat.le_refl _)
  have HG := Lib.hid hg1
  clear hR hc hv hva hg hE
  obtain ⟨nv, dv, hg0⟩ := hg1
  obtain ⟨na, nc, rfl, _, _⟩ := ownsRow_read hg0.names
  obtain ⟨g0, _, _, _⟩ := hg0.cell
  have sG := hg0.size
  clear hg0
  obtain ⟨N, hN⟩ : ∃ N, (nmG vs ax).length = N := ⟨_, rfl⟩
  rw [hN] at g0 hkl ha
  have HN := Lib.hid hN
  clear hN
  have hmk := make_bools N hkl w1
  have X0' := Blk.new w1 (boC (List.replicate N false)) 4
  have B0' : Below w1.heap.size w1 (w1.alloc (.cells (boC (List.replicate N false)).toArray 4)) := (Below.refl _ _).alloc (Nat.le_refl _) _
  obtain ⟨w2, hw2⟩ : ∃ w2, w1.alloc (.cells (boC (List.replicate N false)).toArray 4) = w2 := ⟨_, rfl⟩
  rw [hw2] at X0' B0' hmk
  have x1 := X0'.cell (j := a) (by simpa [boC] using ha)
  have x2 := X0'.frozen a
  have hxl := X0'.lt
  rw [boC_get (by simpa using ha)] at x1
  have X2 : Hid (Blk (w2.setCell ⟨w1.heap.size, a, none⟩ (.bool true)) w1.heap.size 4 (boC (oneS N a))) := by have h := X0'.set a (.bool true); rw [boC_set] at h; exact h
  have B2 := Lib.hid (HB1.out.trans ((B0'.setCell (p := ⟨w1.heap.size, a, none⟩) (Nat.le_refl _) (.bool true)).mono (Nat.le_of_lt s1)))
  have B3 := Lib.hid (B0'.setCell (p := ⟨w1.heap.size, a, none⟩) (Nat.le_refl _) (.bool true))
  clear hw2 X0' B0'
  go_enter Try.func59, Try.ntmps59
  go_wp2_with (rw [E1])
  refine relaxedN ao vs c b N ax w1.heap.size 0 N (oneS N a) _ _ (oneS_len N a) hl (HC.out.below B2.out) HV.out HVA.out (HG.out.below B3.out (Nat.le_refl _)) (by rw [HN.out]; exact oneS_len N a) X2.out.cellsAt ?_ ?_
  · intro h1 gf gb gs sc w3 hb hk
    have hB3 := B3.out.trans (hb.mono B3.out.size)
    have HB3 := Lib.hid (B2.out.trans (hb.mono B2.out.size))
    have hX3 := (hB3.block _ s1).trans X1.out
    have HK := Lib.hid hk
    have z0 := cell_of hX3 (j := 0) (v := .slice none 0 0) rfl
    have z1 := cell_of hX3 (j := 1) (v := .slice none 0 0) rfl
    have z2 := cell_of hX3 (j := 2) (v := .slice none 0 0) rfl
    have z3 := frozen_of hX3 0
    have z4 := frozen_of hX3 1
    have z5 := frozen_of hX3 2
    have zl : w.heap.size < w3.heap.size := lt_of_block hX3
    have HX3 := Lib.hid hX3
    have hgn : Hid (gf ≠ w.heap.size) := ne_types hk hX3 (by decide)
    clear hb hk hB3 hX3 h1 x1 x2 hxl g0
    rw [HN.out]
    go_wp2_with fail
    have hbx := heap_setCell_same _ w.heap.size 2 _ _ (.slice (some ⟨gs, 0, none⟩) N sc) (heap_setCell_same _ w.heap.size 1 _ _ (.slice (some ⟨gb, 0, none⟩) N N) (heap_setCell_same _ w.heap.size 0 _ _ (.slice (some ⟨gf, 0, none⟩) N N) HX3.out))
    have hb4 := ((HB3.out.setCell (p := ⟨w.heap.size, 0, none⟩) (Nat.le_refl _) (.slice (some ⟨gf, 0, none⟩) N N)).setCell (p := ⟨w.heap.size, 1, none⟩) (Nat.le_refl _) (.slice (some ⟨gb, 0, none⟩) N N)).setCell (p := ⟨w.heap.size, 2, none⟩) (Nat.le_refl _) (.slice (some ⟨gs, 0, none⟩) N sc)
    have hk4 := ((HK.out.other (a := ⟨w.heap.size, 0, none⟩) hgn.out (.slice (some ⟨gf, 0, none⟩) N N)).other (a := ⟨w.heap.size, 1, none⟩) hgn.out (.slice (some ⟨gb, 0, none⟩) N N)).other (a := ⟨w.heap.size, 2, none⟩) hgn.out (.slice (some ⟨gs, 0, none⟩) N sc)
    obtain ⟨w4, hw4⟩ : ∃ w4, ((w3.setCell ⟨w.heap.size, 0, none⟩ (.slice (some ⟨gf, 0, none⟩) N N)).setCell ⟨w.heap.size, 1, none⟩ (.slice (some ⟨gb, 0, none⟩) N N)).setCell ⟨w.heap.size, 2, none⟩ (.slice (some ⟨gs, 0, none⟩) N sc) = w4 := ⟨_, rfl⟩
    rw [hw4] at hbx hb4 hk4 ⊢
    have hb5 : Below w4.heap.size w4 (w4.alloc (.cells #[.slice (some ⟨gf, 0, none⟩) N N, .slice (some ⟨gb, 0, none⟩) N N, .slice (some ⟨gs, 0, none⟩) N sc] 111)) := (Below.refl _ _).alloc (Nat.le_refl _) _
    obtain ⟨w5, hw5⟩ : ∃ w5, w4.alloc (.cells #[.slice (some ⟨gf, 0, none⟩) N N, .slice (some ⟨gb, 0, none⟩) N N, .slice (some ⟨gs, 0, none⟩) N sc] 111) = w5 := ⟨_, rfl⟩
    rw [hw5] at hb5 ⊢
    have hx5 := (hb5.block w.heap.size (lt_of_block hbx)).trans hbx
    have t0 := cell_of hx5 (j := 0) (v := .slice (some ⟨gf, 0, none⟩) N N) rfl
    have t1 := cell_of hx5 (j := 1) (v := .slice (some ⟨gb, 0, none⟩) N N) rfl
    have t2 := cell_of hx5 (j := 2) (v := .slice (some ⟨gs, 0, none⟩) N sc) rfl
    have hB5 := hb4.trans (hb5.mono (hb4.size))
    have hK5 : Blk w5 gf 3 (I64s (frR vs ax a).1.far) := (hb5.block gf hk4.lt).trans (by rw [hF.out, HN.out]; exact hk4)
    clear hw4 hw5 hbx hb4 hk4 hb5 hx5
    refine bodyPost_ret (v := .agg #[.slice (some ⟨gf, 0, none⟩) N N, .slice (some ⟨gb, 0, none⟩) N N, .slice (some ⟨gs, 0, none⟩) N sc]) (by simp [results, Try.results59, go_sem, t0, t1, t2]) rfl ?_
    have h := HR.out gf gb gs sc w5 hB5 hK5
    rw [HN.out] at h; exact h
  · intro h1
    exfalso
    have h2 := hE'.out
    rw [HN.out, h1] at h2; cases h2
end Go.Proofs.Ytlgjhjgdmomfoaa
namespace Go.Proofs.Ytlgjhjgdmomfoaa
open Go.RowKit Go.Maps

/-- The ends of a distance. -/
def spL (vs : List Dm) (ax : Int) (s t : ByteArray) : Int := -(frR vs ax (pos (nmG vs ax) t)).1.f (pos (nmG vs ax) s)
def spH (vs : List Dm) (ax : Int) (s t : ByteArray) : Int := (frR vs ax (pos (nmG vs ax) s)).1.f (pos (nmG vs ax) t)
theorem wrap_near {x : Int} (h : -30000000000 ≤ x ∧ x ≤ 30000000000) : IntKind.i64.wrap (-x) = -x := by
  rw [IntKind.wrap_i64]; omega
theorem blk_box {w w' : World} {b n : Nat} {o : Obj} (h : w.heap[b]? = some o) (hb : Below n w w') (hn : b < n) : w'.heap[b]? = some o := (hb.block b hn).trans h
theorem run_far (x y z : Nat) (n m : Nat) (w : World) : (Instr.field 111 (.agg #[.slice (some ⟨x, 0, none⟩) n n, .slice (some ⟨y, 0, none⟩) n n, .slice (some ⟨z, 0, none⟩) n m]) 0).run Try.prog w = .ok (.slice (some ⟨x, 0, none⟩) n n) w := by kernel_rfl
set_option maxRecDepth 100000 in
set_option maxHeartbeats 8000000 in
theorem span_any (ao : Option Addr) (vs : List Dm) (c b : Nat) (ax : Int) (s t : ByteArray) (w : World) (R : Ending → World → Prop) (hl : vs.length ≤ 256) (hc : CellsAt w ao (dC vs)) (hv : DmsOk vs) (hva : ∀ j, j < vs.length → vaE (dAt vs j) = 0) (hg : GrX w b ao c vs ax)
   (hs : s ∈ nmG vs ax) (ht : t ∈ nmG vs ax) (hE : cfE vs ax = true)
   (hR : ∀ w', Below w.heap.size w w' → R (.returned (.agg #[.int .i64 (spL vs ax s t), .int .i64 (spH vs ax s t)])) w') :
    Calls Try.prog 52 #[.pointer (some ⟨b + 1, 0, none⟩), .string s, .string t] w R := by
  have HR := Lib.hid hR
  have HV := Lib.hid hv
  have HVA := Lib.hid hva
  have hP := pos_lt hs
  have hQ := pos_lt ht
  have hsz := nmG_size hv hs
  have htz := nmG_size hv ht
  have hE1 := Lib.hid (frR_ends hE (pos (nmG vs ax) s))
  have hE2 := Lib.hid (frR_ends hE (pos (nmG vs ax) t))
  have hw := wrap_near (frR_near (ax := ax) hl hva (pos (nmG vs ax) t) (pos (nmG vs ax) s))
  have hL : Hid (spL vs ax s t = -(frR vs ax (pos (nmG vs ax) t)).1.f (pos (nmG vs ax) s)) := rfl
  have hH : Hid (spH vs ax s t = (frR vs ax (pos (nmG vs ax) s)).1.f (pos (nmG vs ax) t)) := rfl
  obtain ⟨w1, E1, HB1, s1, X1⟩ := box_ex w #[.int .i64 0, .int .i64 0] 37
  have hg1 := hg.below HB1.out (Nat.le_refl _)
  have HG := Lib.hid hg1
  have HC := Lib.hid (hc.below HB1.out)
  obtain ⟨nv, dv, hg0⟩ := hg1
  obtain ⟨_, g1, _, _⟩ := hg0.cell
  have sG := hg0.size
  have hlf := fun n => (hg0.map.keep (w' := w1.drewN n) rfl).look (t := 97) Try.underlying9 Try.underlying97 (zeroI22 _) hsz
  have hlt := fun n => (hg0.map.keep (w' := w1.drewN n) rfl).look (t := 97) Try.underlying9 Try.underlying97 (zeroI22 _) htz
  rw [place_in (nmG_nodup vs ax) hs] at hlf
  rw [place_in (nmG_nodup vs ax) ht] at hlt
  simp only [Option.getD_some] at hlf hlt
  obtain ⟨p, hp⟩ : ∃ p, pos (nmG vs ax) s = p := ⟨_, rfl⟩
  obtain ⟨q, hq⟩ : ∃ q, pos (nmG vs ax) t = q := ⟨_, rfl⟩
  rw [hp] at hP hE1 hw hL hH hlf
  rw [hq] at hQ hE2 hw hL hH hlt
  obtain ⟨x, hx⟩ : ∃ x, (frR vs ax q).1.f p = x := ⟨_, rfl⟩
  obtain ⟨y, hy⟩ : ∃ y, (frR vs ax p).1.f q = y := ⟨_, rfl⟩
  rw [hx] at hw hL
  rw [hy] at hH
  have hx' := Lib.hid hx
  have hy' := Lib.hid hy
  have hP' := Lib.hid hP
  have hQ' := Lib.hid hQ
  clear hR hc hv hva hg hE hg0 hp hq hx hy hsz htz hs ht
  go_enter Try.func52, Try.ntmps52
  go_wp2_with (rw [E1])
  go_quiet (fail)
  have HB2' : Below w1.heap.size w1 (w1.drewN nq) := ⟨rfl, rfl, rfl, Nat.le_refl _, fun _ _ => rfl⟩
  have X2' : (w1.drewN nq).heap[w.heap.size]? = some (.cells #[.int .i64 0, .int .i64 0] 37 (0, 0)) := X1.out
  obtain ⟨w2, hw2⟩ : ∃ w2, w1.drewN nq = w2 := ⟨_, rfl⟩
  have hz2 : w2.heap.size = w1.heap.size := by rw [← hw2]; rfl
  rw [hw2] at HB2' X2' ⊢
  have HB2 := Lib.hid HB2'
  have X2 := Lib.hid X2'
  have HBB : Hid (Below w2.heap.size w2 w2.drew) := (Below.refl _ _).drew
  have HG2 := Lib.hid (HG.out.below HB2.out (Nat.le_refl _))
  have HC2 := Lib.hid (HC.out.below HB2.out)
  have s2 : w.heap.size < w2.heap.size := by omega
  clear hw2 HB2' X2' hlf hlt g1
  go_wp2_with fail
  have hrf := run_far
  have HB02 : Hid (Below w.heap.size w w2) := HB1.out.trans (HB2.out.mono (Nat.le_of_lt s1))
  have HB0D : Hid (Below w.heap.size w w2.drew) := HB02.out.drew
  go_region_with
    (first
      | ((fail_if_success (have gg := tA.out)); (fail_if_success (have gg := tB.out)); go_at_call 59; refine from_any ao vs c b q ax _ _ hl (HC2.out.below HBB.out) HV.out HVA.out (HG2.out.below HBB.out (Nat.le_refl _)) hQ hE2.out ?_; intro gA gA2 gA3 gA4 wA hb hk; have tA : Hid (Below w2.heap.size w2 wA) := HBB.out.trans (hb.mono HBB.out.size); have kA := far_cell hk hP'.out; have lA := hk.lt; have zA0 := cell_of (blk_box X2.out tA.out s2) (j := 0) rfl; have zA1 := cell_of (blk_box X2.out tA.out s2) (j := 1) rfl; have fA0 := frozen_of (blk_box X2.out tA.out s2) 0; have fA1 := frozen_of (blk_box X2.out tA.out s2) 1; rw [hx'.out] at kA; have uL := Lib.hid (HB02.out.trans (tA.out.mono (Nat.le_of_lt s2))); have XL := Lib.hid (blk_box X2.out tA.out s2); clear hb hk)
      | ((fail_if_success (have gg := tA.out)); (have gg := tB.out); go_at_call 59; refine from_any ao vs c b q ax _ _ hl (HC2.out.below tB.out) HV.out HVA.out (HG2.out.below tB.out (Nat.le_refl _)) hQ hE2.out ?_; intro gA gA2 gA3 gA4 wA hb hk; have tA : Hid (Below w2.heap.size w2 wA) := tB.out.trans (hb.mono tB.out.size); have kA := far_cell hk hP'.out; have kB' := cellB hb kB lB; have lA := hk.lt; have zA0 := cell_of (blk_box X2.out tA.out s2) (j := 0) rfl; have zA1 := cell_of (blk_box X2.out tA.out s2) (j := 1) rfl; have fA0 := frozen_of (blk_box X2.out tA.out s2) 0; have fA1 := frozen_of (blk_box X2.out tA.out s2) 1; rw [hx'.out] at kA; have uL := Lib.hid (HB02.out.trans (tA.out.mono (Nat.le_of_lt s2))); have XL := Lib.hid (blk_box X2.out tA.out s2); clear hb hk)
      | ((fail_if_success (have gg := tB.out)); (fail_if_success (have gg := tA.out)); go_at_call 59; refine from_any ao vs c b p ax _ _ hl (HC2.out.below HBB.out) HV.out HVA.out (HG2.out.below HBB.out (Nat.le_refl _)) hP hE1.out ?_; intro gB gB2 gB3 gB4 wB hb hk; have tB : Hid (Below w2.heap.size w2 wB) := HBB.out.trans (hb.mono HBB.out.size); have kB := far_cell hk hQ'.out; have lB := hk.lt; have zB0 := cell_of (blk_box X2.out tB.out s2) (j := 0) rfl; have zB1 := cell_of (blk_box X2.out tB.out s2) (j := 1) rfl; have fB0 := frozen_of (blk_box X2.out tB.out s2) 0; have fB1 := frozen_of (blk_box X2.out tB.out s2) 1; rw [hy'.out] at kB; have uL := Lib.hid (HB02.out.trans (tB.out.mono (Nat.le_of_lt s2))); have XL := Lib.hid (blk_box X2.out tB.out s2); clear hb hk)
      | ((fail_if_success (have gg := tB.out)); (have gg := tA.out); go_at_call 59; refine from_any ao vs c b p ax _ _ hl (HC2.out.below tA.out) HV.out HVA.out (HG2.out.below tA.out (Nat.le_refl _)) hP hE1.out ?_; intro gB gB2 gB3 gB4 wB hb hk; have tB : Hid (Below w2.heap.size w2 wB) := tA.out.trans (hb.mono tA.out.size); have kB := far_cell hk hQ'.out; have kA' := cellB hb kA lA; have lB := hk.lt; have zB0 := cell_of (blk_box X2.out tB.out s2) (j := 0) rfl; have zB1 := cell_of (blk_box X2.out tB.out s2) (j := 1) rfl; have fB0 := frozen_of (blk_box X2.out tB.out s2) 0; have fB1 := frozen_of (blk_box X2.out tB.out s2) 1; rw [hy'.out] at kB; have uL := Lib.hid (HB02.out.trans (tB.out.mono (Nat.le_of_lt s2))); have XL := Lib.hid (blk_box X2.out tB.out s2); clear hb hk))
  all_goals
    have hbx := heap_setCell_same _ w.heap.size 1 _ _ (.int .i64 y) (heap_setCell_same _ w.heap.size 0 _ _ (.int .i64 (-x)) XL.out)
    have t0 := cell_of hbx (j := 0) (v := .int .i64 (-x)) rfl
    have t1 := cell_of hbx (j := 1) (v := .int .i64 y) rfl
    have hB := (uL.out.setCell (p := ⟨w.heap.size, 0, none⟩) (Nat.le_refl _) (.int .i64 (-x))).setCell (p := ⟨w.heap.size, 1, none⟩) (Nat.le_refl _) (.int .i64 y)
    clear hbx
    go_wp2_with fail
    refine bodyPost_ret (v := .agg #[.int .i64 (-x), .int .i64 y]) (by simp [results, Try.results52, go_sem, t0, t1]) rfl ?_
    have h := HR.out _ hB
    rw [hL.out, hH.out] at h; exact h
end Go.Proofs.Ytlgjhjgdmomfoaa
namespace Go.Proofs.Ytlgjhjgdmomfoaa
open Go.RowKit Go.Maps

/-- The distance, and the number of the error. -/
def dsX (vs : List Dm) (ax : Int) (s t : ByteArray) : Int × Int × Int :=
  if giE vs ax = 0 then
    if (inK (nmG vs ax) s && inK (nmG vs ax) t) = true then
      if sameD s t = true then (0, 0, 7)
      else if jnX vs ax s t = true then
        if cfE vs ax = true then (spL vs ax s t, spH vs ax s t, 0) else (0, 0, 16)
      else (0, 0, 13)
    else (0, 0, 6)
  else (0, 0, giE vs ax)
theorem cfL_some {w : World} {base : Nat} {v : Value} {vs : List Dm} {ax : Int} (h : w.ownsRow base 28 2 v (cfL vs ax).length (pC (cfL vs ax))) : ∃ g n c, v = .slice (some ⟨g, 0, none⟩) n c := by
  have hp := cfL_pos vs ax
  rcases h.2 with ⟨_, h1⟩ | ⟨g, cap, cur, h1, _⟩
  · omega
  · exact ⟨g, _, cap, h1⟩
set_option maxRecDepth 100000 in
set_option maxHeartbeats 8000000 in
theorem distance_any (ao : Option Addr) (vs : List Dm) (c : Nat) (ax : Int) (s t : ByteArray) (w : World) (R : Ending → World → Prop) (hl : vs.length ≤ 9223372036854775807) (hc : CellsAt w ao (dC vs)) (hv : DmsOk vs) (hs : s.size ≤ 9223372036854775807) (ht : t.size ≤ 9223372036854775807)
   (hR : ∀ w', Below w.heap.size w w' → R (.returned (.tuple #[.agg #[.int .i64 (dsX vs ax s t).1, .int .i64 (dsX vs ax s t).2.1], .int .i64 (dsX vs ax s t).2.2])) w') :
    Calls Try.prog 14 #[.slice ao vs.length c, .string s, .string t, .int .i64 ax] w R := by
  have HR := Lib.hid hR
  have HV := Lib.hid hv
  obtain ⟨w1, E1, U1, s1, X1⟩ := box_ex w #[.int .i64 0, .int .i64 0] 37
  have HC1 := Lib.hid (hc.below U1.out)
  clear hR hc hv
  have hd : Hid (dsX vs ax s t = if giE vs ax = 0 then
    if (inK (nmG vs ax) s && inK (nmG vs ax) t) = true then
      if sameD s t = true then (0, 0, 7)
      else if jnX vs ax s t = true then
        if cfE vs ax = true then (spL vs ax s t, spH vs ax s t, 0) else (0, 0, 16)
      else (0, 0, 13)
    else (0, 0, 6)
  else (0, 0, giE vs ax)) := rfl
  obtain ⟨E, hE⟩ : ∃ E, giE vs ax = E := ⟨_, rfl⟩
  rw [hE] at hd
  have HE := Lib.hid hE
  clear hE
  go_enter Try.func14, Try.ntmps14
  go_wp2_with (rw [E1])
  refine given_any ao vs c ax _ _ hl HC1.out HV.out ?_
  rw [HE.out]
  intro w2 hb
  have V2 := Lib.hid hb
  have U2 := Lib.hid (U1.out.trans (hb.mono (Nat.le_of_lt s1)))
  have X2 := Lib.hid (blk_box X1.out hb s1)
  have s2 := lt_of_block X2.out
  clear hb E1
  by_cases h0 : E = 0
  · subst h0
    have hl2 := giE_len HE.out
    have HVA := Lib.hid (giE_all HE.out).2
    have hd1 := hd.out
    rw [if_pos rfl] at hd1
    have hd' := Lib.hid hd1
    clear hd1 hd
    go_wp2_with fail
    refine graphX_any ao vs c ax _ _ hl2 (HC1.out.below V2.out) HV.out ?_
    intro w3 hb hg
    have V3 := Lib.hid (V2.out.trans (hb.mono V2.out.size))
    have U3 := Lib.hid (U2.out.trans (hb.mono (Nat.le_of_lt s2)))
    have X3 := Lib.hid (blk_box X2.out hb s2)
    have s3 := lt_of_block X3.out
    have HG3 := Lib.hid hg
    have sV3 := V3.out.size
    have HC3 := Lib.hid (HC1.out.below V3.out)
    obtain ⟨nv, dv, hg0⟩ := hg
    obtain ⟨_, g1, _, _⟩ := hg0.cell
    have sG := hg0.size
    have hls := hg0.map.lookOk (t := 97) Try.underlying9 Try.underlying97 (zeroI22 _) hs
    have hlt := hg0.map.lookOk (t := 97) Try.underlying9 Try.underlying97 (zeroI22 _) ht
    rw [place_all (nmG_nodup vs ax)] at hls hlt
    obtain ⟨b1, hb1⟩ : ∃ b1, inK (nmG vs ax) s = b1 := ⟨_, rfl⟩
    obtain ⟨b2, hb2⟩ : ∃ b2, inK (nmG vs ax) t = b2 := ⟨_, rfl⟩
    rw [hb1] at hls hd'
    rw [hb2] at hlt hd'
    have Hb1 := Lib.hid hb1
    have Hb2 := Lib.hid hb2
    have hls' : ∃ x : Int, (Instr.lookup 97 (.map (some w2.heap.size)) (.string s) true).run Try.prog w3 = .ok (.tuple #[.int .i64 x, .bool b1]) w3 := by cases b1 <;> exact ⟨_, hls⟩
    have hlt' : ∃ x : Int, (Instr.lookup 97 (.map (some w2.heap.size)) (.string t) true).run Try.prog w3 = .ok (.tuple #[.int .i64 x, .bool b2]) w3 := by cases b2 <;> exact ⟨_, hlt⟩
    clear hls hlt hb hg0 hb1 hb2
    obtain ⟨x, hls⟩ := hls'
    obtain ⟨y, hlt⟩ := hlt'
    · skip
      cases b1 with
      | false =>
        have hX := hd'.out
        rw [Bool.false_and, if_neg (by simp)] at hX
        have hX := Lib.hid hX
        cases b2
        all_goals
          have z0 := cell_of X3.out (j := 0) rfl
          have z1 := cell_of X3.out (j := 1) rfl
          have f0 := frozen_of X3.out 0
          have f1 := frozen_of X3.out 1
          go_wp2_with fail
          have hbx := heap_setCell_same _ w.heap.size 1 _ _ (.int .i64 0) (heap_setCell_same _ w.heap.size 0 _ _ (.int .i64 0) X3.out)
          have t0 := cell_of hbx (j := 0) (v := .int .i64 0) rfl
          have t1 := cell_of hbx (j := 1) (v := .int .i64 0) rfl
          have hB := (U3.out.setCell (p := ⟨w.heap.size, 0, none⟩) (Nat.le_refl _) (.int .i64 0)).setCell (p := ⟨w.heap.size, 1, none⟩) (Nat.le_refl _) (.int .i64 0)
          clear hbx
          refine bodyPost_ret (v := .tuple #[.agg #[.int .i64 0, .int .i64 0], .int .i64 6]) (by simp [results, Try.results14, go_sem, t0, t1]) rfl ?_
          have h := HR.out _ hB
          rw [hX.out] at h; exact h
      | true =>
        cases b2 with
        | false =>
          have hX := hd'.out
          rw [Bool.and_false, if_neg (by simp)] at hX
          have hX := Lib.hid hX
          have z0 := cell_of X3.out (j := 0) rfl
          have z1 := cell_of X3.out (j := 1) rfl
          have f0 := frozen_of X3.out 0
          have f1 := frozen_of X3.out 1
          go_wp2_with fail
          have hbx := heap_setCell_same _ w.heap.size 1 _ _ (.int .i64 0) (heap_setCell_same _ w.heap.size 0 _ _ (.int .i64 0) X3.out)
          have t0 := cell_of hbx (j := 0) (v := .int .i64 0) rfl
          have t1 := cell_of hbx (j := 1) (v := .int .i64 0) rfl
          have hB := (U3.out.setCell (p := ⟨w.heap.size, 0, none⟩) (Nat.le_refl _) (.int .i64 0)).setCell (p := ⟨w.heap.size, 1, none⟩) (Nat.le_refl _) (.int .i64 0)
          clear hbx
          refine bodyPost_ret (v := .tuple #[.agg #[.int .i64 0, .int .i64 0], .int .i64 6]) (by simp [results, Try.results14, go_sem, t0, t1]) rfl ?_
          have h := HR.out _ hB
          rw [hX.out] at h; exact h
        | true =>
          have hX := hd'.out
          rw [Bool.and_true, if_pos rfl] at hX
          have hX1 := Lib.hid hX
          clear hX hd'
          have hs2 : s ∈ nmG vs ax := inK_iff.1 Hb1.out
          have ht2 : t ∈ nmG vs ax := inK_iff.1 Hb2.out
          have Hs2 := Lib.hid hs2
          have Ht2 := Lib.hid ht2
          clear hs2 ht2
          cases hst : sameD s t with
          | true =>
            have hq : (s.toList == t.toList) = true := hst
            have hX := hX1.out
            rw [if_pos hst] at hX
            have hX := Lib.hid hX
            clear hst
            have z0 := cell_of X3.out (j := 0) rfl
            have z1 := cell_of X3.out (j := 1) rfl
            have f0 := frozen_of X3.out 0
            have f1 := frozen_of X3.out 1
            go_wp2_with fail
            have hbx := heap_setCell_same _ w.heap.size 1 _ _ (.int .i64 0) (heap_setCell_same _ w.heap.size 0 _ _ (.int .i64 0) X3.out)
            have t0 := cell_of hbx (j := 0) (v := .int .i64 0) rfl
            have t1 := cell_of hbx (j := 1) (v := .int .i64 0) rfl
            have hB := (U3.out.setCell (p := ⟨w.heap.size, 0, none⟩) (Nat.le_refl _) (.int .i64 0)).setCell (p := ⟨w.heap.size, 1, none⟩) (Nat.le_refl _) (.int .i64 0)
            clear hbx
            refine bodyPost_ret (v := .tuple #[.agg #[.int .i64 0, .int .i64 0], .int .i64 7]) (by simp [results, Try.results14, go_sem, t0, t1]) rfl ?_
            have h := HR.out _ hB
            rw [hX.out] at h; exact h
          | false =>
            have hq : (s.toList == t.toList) = false := hst
            have hX := hX1.out
            rw [if_neg (by rw [hst]; simp)] at hX
            have hX2 := Lib.hid hX
            clear hst hX hX1
            go_wp2_with fail
            refine joined_any ao vs c _ ax s t _ _ hl2 HC3.out HV.out HG3.out hs ht ?_
            intro w4 hb
            have V4 := Lib.hid (V3.out.trans (hb.mono V3.out.size))
            have U4 := Lib.hid (U3.out.trans (hb.mono (Nat.le_of_lt s3)))
            have X4 := Lib.hid (blk_box X3.out hb s3)
            have s4 := lt_of_block X4.out
            have HG4 := Lib.hid (HG3.out.below hb (Nat.le_refl _))
            have HC4 := Lib.hid (HC3.out.below hb)
            clear hb hls hlt g1
            cases hj : jnX vs ax s t with
            | false =>
              have hX := hX2.out
              rw [if_neg (by rw [hj]; simp)] at hX
              have hX := Lib.hid hX
              clear hj
              have z0 := cell_of X4.out (j := 0) rfl
              have z1 := cell_of X4.out (j := 1) rfl
              have f0 := frozen_of X4.out 0
              have f1 := frozen_of X4.out 1
              go_wp2_with fail
              have hbx := heap_setCell_same _ w.heap.size 1 _ _ (.int .i64 0) (heap_setCell_same _ w.heap.size 0 _ _ (.int .i64 0) X4.out)
              have t0 := cell_of hbx (j := 0) (v := .int .i64 0) rfl
              have t1 := cell_of hbx (j := 1) (v := .int .i64 0) rfl
              have hB := (U4.out.setCell (p := ⟨w.heap.size, 0, none⟩) (Nat.le_refl _) (.int .i64 0)).setCell (p := ⟨w.heap.size, 1, none⟩) (Nat.le_refl _) (.int .i64 0)
              clear hbx
              refine bodyPost_ret (v := .tuple #[.agg #[.int .i64 0, .int .i64 0], .int .i64 13]) (by simp [results, Try.results14, go_sem, t0, t1]) rfl ?_
              have h := HR.out _ hB
              rw [hX.out] at h; exact h
            | true =>
              have hX := hX2.out
              rw [if_pos hj] at hX
              have hX3 := Lib.hid hX
              clear hj hX hX2
              go_wp2_with fail
              refine conflict_any ao vs c _ ax _ _ hl2 HC4.out HV.out HVA.out HG4.out ?_ ?_
              · intro hcf w5 hb
                have U5 := Lib.hid (U4.out.trans (hb.mono (Nat.le_of_lt s4)))
                have X5 := Lib.hid (blk_box X4.out hb s4)
                have s5 := lt_of_block X5.out
                have HG5 := Lib.hid (HG4.out.below hb (Nat.le_refl _))
                have HC5 := Lib.hid (HC4.out.below hb)
                have hX := hX3.out
                rw [if_pos hcf] at hX
                have hX := Lib.hid hX
                have Hcf := Lib.hid hcf
                clear hb hcf
                go_wp2_with fail
                refine span_any ao vs c _ ax s t _ _ hl2 HC5.out HV.out HVA.out HG5.out Hs2.out Ht2.out Hcf.out ?_
                intro w6 hb
                have U6 := Lib.hid (U5.out.trans (hb.mono (Nat.le_of_lt s5)))
                have X6 := Lib.hid (blk_box X5.out hb s5)
                obtain ⟨lo, hlo⟩ : ∃ lo, spL vs ax s t = lo := ⟨_, rfl⟩
                obtain ⟨hi, hhi⟩ : ∃ hi, spH vs ax s t = hi := ⟨_, rfl⟩
                have hX := hX.out
                rw [hlo, hhi] at hX ⊢
                have hX := Lib.hid hX
                clear hb hlo hhi
                have z0 := cell_of X6.out (j := 0) rfl
                have z1 := cell_of X6.out (j := 1) rfl
                have f0 := frozen_of X6.out 0
                have f1 := frozen_of X6.out 1
                go_wp2_with fail
                have hbx := heap_setCell_same _ w.heap.size 1 _ _ (.int .i64 hi) (heap_setCell_same _ w.heap.size 0 _ _ (.int .i64 lo) X6.out)
                have t0 := cell_of hbx (j := 0) (v := .int .i64 lo) rfl
                have t1 := cell_of hbx (j := 1) (v := .int .i64 hi) rfl
                have hB := (U6.out.setCell (p := ⟨w.heap.size, 0, none⟩) (Nat.le_refl _) (.int .i64 lo)).setCell (p := ⟨w.heap.size, 1, none⟩) (Nat.le_refl _) (.int .i64 hi)
                clear hbx
                refine bodyPost_ret (v := .tuple #[.agg #[.int .i64 lo, .int .i64 hi], .int .i64 0]) (by simp [results, Try.results14, go_sem, t0, t1]) rfl ?_
                have h := HR.out _ hB
                rw [hX.out] at h; exact h
              · intro hcf v w5 hb ho
                have U5 := Lib.hid (U4.out.trans (hb.mono (Nat.le_of_lt s4)))
                have X5 := Lib.hid (blk_box X4.out hb s4)
                have hX := hX3.out
                rw [if_neg (by rw [hcf]; simp)] at hX
                have hX := Lib.hid hX
                obtain ⟨g, n, c', rfl⟩ := cfL_some ho
                clear hb hcf ho
                have z0 := cell_of X5.out (j := 0) rfl
                have z1 := cell_of X5.out (j := 1) rfl
                have f0 := frozen_of X5.out 0
                have f1 := frozen_of X5.out 1
                go_wp2_with fail
                have hbx := heap_setCell_same _ w.heap.size 1 _ _ (.int .i64 0) (heap_setCell_same _ w.heap.size 0 _ _ (.int .i64 0) X5.out)
                have t0 := cell_of hbx (j := 0) (v := .int .i64 0) rfl
                have t1 := cell_of hbx (j := 1) (v := .int .i64 0) rfl
                have hB := (U5.out.setCell (p := ⟨w.heap.size, 0, none⟩) (Nat.le_refl _) (.int .i64 0)).setCell (p := ⟨w.heap.size, 1, none⟩) (Nat.le_refl _) (.int .i64 0)
                clear hbx
                refine bodyPost_ret (v := .tuple #[.agg #[.int .i64 0, .int .i64 0], .int .i64 16]) (by simp [results, Try.results14, go_sem, t0, t1]) rfl ?_
                have h := HR.out _ hB
                rw [hX.out] at h; exact h
  · have K : (E != 0) = true := by simpa using h0
    have hX := hd.out
    rw [if_neg h0] at hX
    have hX := Lib.hid hX
    clear h0 hd
    have z0 := cell_of X2.out (j := 0) rfl
    have z1 := cell_of X2.out (j := 1) rfl
    have f0 := frozen_of X2.out 0
    have f1 := frozen_of X2.out 1
    go_wp2_with fail
    have hbx := heap_setCell_same _ w.heap.size 1 _ _ (.int .i64 0) (heap_setCell_same _ w.heap.size 0 _ _ (.int .i64 0) X2.out)
    have t0 := cell_of hbx (j := 0) (v := .int .i64 0) rfl
    have t1 := cell_of hbx (j := 1) (v := .int .i64 0) rfl
    have hB := (U2.out.setCell (p := ⟨w.heap.size, 0, none⟩) (Nat.le_refl _) (.int .i64 0)).setCell (p := ⟨w.heap.size, 1, none⟩) (Nat.le_refl _) (.int .i64 0)
    clear hbx
    refine bodyPost_ret (v := .tuple #[.agg #[.int .i64 0, .int .i64 0], .int .i64 E]) (by simp [results, Try.results14, go_sem, t0, t1]) rfl ?_
    have h := HR.out _ hB
    rw [hX.out] at h; exact h
end Go.Proofs.Ytlgjhjgdmomfoaa
namespace Go.Proofs.Ytlgjhjgdmomfoaa
open Go.RowKit Go.Maps

theorem Try.infoDm : (Try.prog.info? 73).map (fun i => (i.zero, i.size, i.bytes)) = some (some (.agg #[.string ⟨#[]⟩, .string ⟨#[]⟩, .int .i64 0, .int .i64 0, .int .i64 0]), 5, 56) := by kernel_rfl
theorem eqNilD (w : World) (a : Option Addr) (n c : Nat) : (binOp .eql 22 (.slice a n c) (.slice none 0 0)).run Try.prog w = .ok (.bool a.isNone) w :=
  Lib.run_eql_slice_nil w 22 73 a n c 0 0 Try.underlying22
theorem dC_one (vs : List Dm) : ∀ u ∈ dC vs, u.oneCell' = true := by
  intro u hu
  obtain ⟨x, _, hx⟩ := List.mem_flatMap.1 hu
  simp [Dm.cells] at hx
  rcases hx with rfl | rfl | rfl | rfl | rfl <;> rfl
set_option maxRecDepth 100000 in
set_option maxHeartbeats 4000000 in
/-- slices.Clone of dimensions. -/
theorem cloneD_any (ao : Option Addr) (vs : List Dm) (c : Nat) (w : World) (R : Ending → World → Prop) (hl : vs.length ≤ 1000000) (hn : ao = none → vs.length = 0 ∧ c = 0) (hc : CellsAt w ao (dC vs))
   (hR : ∀ v w', Below w.heap.size w w' → w'.ownsRow w.heap.size 73 5 v vs.length (dC vs) → R (.returned v) w') :
    Calls Try.prog 36 #[.slice ao vs.length c] w R := by
  have HR := Lib.hid hR
  have HC := Lib.hid hc
  clear hR hc
  cases ao with
  | none =>
    obtain ⟨h0, h1⟩ := hn rfl
    obtain rfl := List.length_eq_zero_iff.1 h0
    subst h1
    have hq := eqNilD
    go_enter Try.func36, Try.ntmps36
    go_wp2_with fail
    exact HR.out _ _ (Below.refl _ _) (World.ownsRow_nil _ _ _ _)
  | some a =>
    clear hn
    have HO0 : Hid ((w.alloc (.cells #[] 73)).ownsRow w.heap.size 73 5 (.slice (some ⟨w.heap.size, 0, none⟩) 0 0) 0 []) := World.ownsRow_lit w #[] 0 (Nat.le_refl _) (by decide) rfl
    have hq := eqNilD
    go_enter Try.func36, Try.ntmps36
    go_wp2_with (at_builtin; refine wp_appendT rfl (.tmp 5) (.tmp 6) 22 rfl w.heap.size 73 Try.underlying22 Try.infoDm rfl (by decide) (.slice (some ⟨w.heap.size, 0, none⟩) 0 0) 0 [] rfl HO0.out a vs.length c (dC vs) (dC_length vs) rfl (HC.out.below ((Below.refl _ _).alloc (Nat.le_refl _) _)) (dC_one vs) (by omega) (by omega) (by simp) ?_; intro v1 w2 hown hgrow hnil; have H1 := Lib.hid hown; have Hb1 := Lib.hid (((Below.refl w.heap.size w).alloc (Nat.le_refl _) (.cells #[] 73)).grown hgrow (by simp) (fun j e => (HO0.out.lt j e).1)); clear hown hgrow hnil)
    have h := H1.out
    rw [Nat.zero_add, List.nil_append] at h
    exact HR.out _ _ Hb1.out h
/-- clear of one dimension. -/
def zC : List Value := [.string ⟨#[]⟩, .string ⟨#[]⟩, .int .i64 0, .int .i64 0, .int .i64 0]
theorem zeroD (w : World) : (zeroValue 73).run Try.prog w = .ok (.agg #[.string ⟨#[]⟩, .string ⟨#[]⟩, .int .i64 0, .int .i64 0, .int .i64 0]) w := by kernel_rfl
theorem run_clearD (w : World) (ty : TypeId) (b o c : Nat) (hc : ∀ j, j < 5 → (w.cell? ⟨b, o + j, none⟩).isSome = true) (hf : ∀ j, j < 5 → w.frozen? ⟨b, o + j, none⟩ = false) :
    (Builtin.clear_ #[22] ty #[.slice (some ⟨b, o, none⟩) 1 c]).run Try.prog w = .ok (.tuple #[]) (w.setCells b o zC) := by
  have hzc : (Builtin.zeroCells (Value.cells (.agg #[.string ⟨#[]⟩, .string ⟨#[]⟩, .int .i64 0, .int .i64 0, .int .i64 0])) 1).toList = zC := by kernel_rfl
  have hst := run_storeCells_cells (P := Try.prog) b o zC 0 w (by simpa [zC] using hc) (by simpa [zC] using hf) (by simp [zC]; decide)
  simp only [Nat.add_zero] at hst
  simp [Builtin.clear_, run_underlying Try.underlying22, hzc, hst]
def wo (vs : List Dm) (i : Nat) : List Dm := vs.take i ++ vs.drop (i + 1)
theorem wo_len {vs : List Dm} {i : Nat} (h : i < vs.length) : (wo vs i).length = vs.length - 1 := by
  unfold wo; rw [List.length_append, List.length_take, List.length_drop]; omega
set_option maxRecDepth 100000 in
set_option maxHeartbeats 4000000 in
theorem del22_any (g cap i : Nat) (cur : Array Value) (vs : List Dm) (w : World) (R : Ending → World → Prop) (hi : i < vs.length) (hl : vs.length ≤ 1000000) (hcap : vs.length ≤ cap) (_hmax : cap ≤ 9223372036854775807) (hgg : w.heap[g]? = some (.cells cur 73 (0, 0))) (_hsz : vs.length * 5 ≤ cur.size) (hcur : cur.toList.take (vs.length * 5) = dC vs)
   (hR : ∀ w', Below g w w' → CellsAt w' (some ⟨g, 0, none⟩) (dC (wo vs i)) → R (.returned (.slice (some ⟨g, 0, none⟩) (vs.length - 1) cap)) w') :
    Calls Try.prog 35 #[.slice (some ⟨g, 0, none⟩) vs.length cap, .int .i64 i, .int .i64 ((i : Int) + 1)] w R := by
  have HR := Lib.hid hR
  obtain ⟨i0, hi0, hi1, hi2, hi3⟩ := info_parts Try.infoDm
  have hc : ∀ t, t < vs.length * 5 → w.cell? ⟨g, t, none⟩ = (dC vs)[t]? := by
    intro t ht
    rw [← hcur, List.getElem?_take, if_pos ht]
    simp [World.cell?, hgg]
  have hsome : ∀ t, t < vs.length * 5 → (w.cell? ⟨g, t, none⟩).isSome = true := by
    intro t ht
    rw [hc t ht, List.getElem?_eq_getElem (by rw [dC_length]; exact ht)]; rfl
  have hfr : ∀ t, w.frozen? ⟨g, t, none⟩ = false := fun t => frozen_of hgg t
  obtain ⟨n, hn⟩ : ∃ n, vs.length = n := ⟨_, rfl⟩
  obtain ⟨news, hnews⟩ : ∃ news, news = dC (vs.drop (i + 1)) := ⟨_, rfl⟩
  have hnl : news.length = (n - (i + 1)) * 5 := by rw [hnews, dC_length, List.length_drop, hn]
  have hsplit : dC vs = dC (vs.take (i + 1)) ++ news := by rw [hnews, ← dC_append, List.take_append_drop]
  have hget : ∀ t u, news[t]? = some u → w.cell? ⟨g, (i + 1) * 5 + t, none⟩ = some u := by
    intro t u hu
    have ht := (List.getElem?_eq_some_iff.1 hu).1
    rw [hc _ (by omega), hsplit, List.getElem?_append_right (by rw [dC_length, List.length_take]; omega), dC_length, List.length_take, show (i + 1) * 5 + t - min (i + 1) vs.length * 5 = t from by rw [Nat.min_eq_left (by omega)]; omega]
    exact hu
  obtain ⟨A, hA, hsrc⟩ : ∃ A : Addr, (if cap = i + 1 then some (⟨g, 0, none⟩ : Addr) else some ⟨g, (i + 1) * 5, none⟩) = some A ∧ Hid (∀ t u, news[t]? = some u → w.drew.cell? (A.add t) = some u) := by
    by_cases h : cap = i + 1
    · refine ⟨⟨g, 0, none⟩, by simp [h], fun t u hu => ?_⟩
      have ht := (List.getElem?_eq_some_iff.1 hu).1
      omega
    · refine ⟨⟨g, (i + 1) * 5, none⟩, by simp [h], fun t u hu => ?_⟩
      rw [Addr.add_lit]
      exact hget t u hu
  have s1 : Hid (news.length = (n - (i + 1)) * 5) := hnl
  have s2 : Hid (∀ u ∈ news, u.oneCell' = true) := by rw [hnews]; exact dC_one _
  have s3 : Hid (∀ t, t < news.length → (w.drew.cell? ⟨g, 0 + i * 5 + t, none⟩).isSome = true ∧ w.drew.frozen? ⟨g, 0 + i * 5 + t, none⟩ = false) := by
    intro t ht
    exact ⟨by show (w.cell? _).isSome = true; exact hsome _ (by omega), hfr _⟩
  obtain ⟨W1, hW1⟩ : ∃ W1, W1 = w.drew.setCells g (0 + i * 5) news := ⟨_, rfl⟩
  have hc1 : ∀ t, t < (n - 1) * 5 → W1.cell? ⟨g, t, none⟩ = (dC (wo vs i))[t]? := by
    intro t ht
    unfold wo
    rw [dC_append, ← hnews]
    by_cases h : t < i * 5
    · rw [hW1, World.cell?_setCells_out _ _ _ _ _ (fun _ _ => .inl (by show t < 0 + i * 5; omega)), List.getElem?_append_left (by rw [dC_length, List.length_take]; omega)]
      show w.cell? _ = _
      rw [hc t (by omega), show dC vs = dC (vs.take i) ++ dC (vs.drop i) from by rw [← dC_append, List.take_append_drop], List.getElem?_append_left (by rw [dC_length, List.length_take]; omega)]
    · have h2 := World.cell?_setCells_in g news (0 + i * 5) w.drew (fun j hj => (s3.out j hj).1) (t - i * 5) (by omega)
      rw [show 0 + i * 5 + (t - i * 5) = t from by omega] at h2
      rw [hW1, h2, List.getElem?_append_right (by rw [dC_length, List.length_take]; omega), dC_length, List.length_take, Nat.min_eq_left (by omega), List.getElem?_eq_getElem (by omega)]
  have hs1 : ∀ t, t < n * 5 → (W1.cell? ⟨g, t, none⟩).isSome = true := by
    intro t ht
    rw [hW1]
    exact World.isSome_setCells _ _ _ _ _ (hsome t (by omega))
  have hf1 : ∀ t, W1.frozen? ⟨g, t, none⟩ = false := by
    intro t; rw [hW1, World.frozen?_setCells]; exact hfr t
  have hb1 : Below g w W1 := by
    rw [hW1]
    have h0 : Below g w w.drew := ⟨rfl, rfl, rfl, Nat.le_refl _, fun _ _ => rfl⟩
    exact h0.trans (Lib.below_setCells_w (Nat.le_refl _) _ _ _)
  have hb2 := hb1.trans (Lib.below_setCells_w (Nat.le_refl g) zC ((n - 1) * 5) W1)
  have hc2 : CellsAt (W1.setCells g ((n - 1) * 5) zC) (some ⟨g, 0, none⟩) (dC (wo vs i)) := by
    intro h0
    refine ⟨g, 0, rfl, ?_, fun j hj => ?_⟩
    · have := hb2.size
      have := lt_of_block hgg
      omega
    · rw [dC_length, wo_len hi] at hj
      rw [Nat.zero_add, World.cell?_setCells_out _ _ _ _ _ (fun _ _ => .inl (by show j < (n - 1) * 5; omega)), hc1 j (by omega), List.getD_eq_getElem?_getD, List.getElem?_eq_getElem (by rw [dC_length, wo_len hi]; omega)]; rfl
  have hcl : ∀ ty, (Builtin.clear_ #[22] ty #[.slice (some ⟨g, (n - 1) * 5, none⟩) (n - (n - 1)) (cap - (n - 1))]).run Try.prog W1 = .ok (.tuple #[]) (W1.setCells g ((n - 1) * 5) zC) :=
    fun ty => by rw [show n - (n - 1) = 1 from by omega]; exact run_clearD W1 ty g ((n - 1) * 5) _ (fun j hj => hs1 _ (by omega)) (fun j _ => hf1 _)
  have hW : Hid (W1 = w.drew.setCells g (0 + i * 5) news) := hW1
  have HB2 := Lib.hid hb2
  have HC2 := Lib.hid hc2
  have hic : i ≤ cap := by omega
  have hjc : i + 1 ≤ cap := by omega
  rw [hn] at hi hl hcap HR ⊢
  clear hR hc hsome hfr hget hsplit hnl hnews hc1 hs1 hf1 hb1 hb2 hc2 hW1 hgg _hsz hcur hn
  go_enter Try.func35, Try.ntmps35
  go_wp2_with fail
  have q1 : (0 : Int) ≤ (i : Int) + 1 := by omega
  have q2 : (i : Int) + 1 ≤ (n : Int) := by omega
  go_region_law (refine step_append_room rfl (.tmp 22) (.tmp 25) 22 rfl 73 i0 5 Try.underlying22 hi0 hi2 g 0 i cap (by simp [Act.eval, Act.put]) A (n - (i + 1)) (cap - (i + 1)) news (by simp [Act.eval, Act.put]) s1.out hsrc.out s2.out (by omega) s3.out ?_; rw [← hW.out])
  have hin : i + (n - (i + 1)) = n - 1 := by omega
  rw [hin]
  go_wp2_with fail
  exact HR.out _ HB2.out HC2.out
end Go.Proofs.Ytlgjhjgdmomfoaa
namespace Go.Proofs.Ytlgjhjgdmomfoaa
open Go.RowKit Go.Maps

theorem wo_at {vs : List Dm} {i j : Nat} (hi : i < vs.length) (_hj : j < (wo vs i).length) : dAt (wo vs i) j = dAt vs (if j < i then j else j + 1) := by
  have hl := wo_len hi
  unfold wo dAt
  rw [List.getD_eq_getElem?_getD, List.getD_eq_getElem?_getD]
  by_cases h : j < i
  · rw [if_pos h, List.getElem?_append_left (by rw [List.length_take]; omega), List.getElem?_take, if_pos h]
  · rw [if_neg h, List.getElem?_append_right (by rw [List.length_take]; omega), List.length_take, Nat.min_eq_left (by omega), List.getElem?_drop]
    congr 2
    omega
theorem wo_all {vs : List Dm} {i : Nat} (hi : i < vs.length) {Q : Dm → Prop} (h : ∀ j, j < vs.length → Q (dAt vs j)) : ∀ j, j < (wo vs i).length → Q (dAt (wo vs i) j) := fun j hj => by
  rw [wo_at hi hj]
  have := wo_len hi
  exact h _ (by split <;> omega)
/-- Walks are carried along. -/
theorem Wk.carry {A A' : List Ar} {f : Nat → Nat} (h : ∀ x ∈ A', ∃ y ∈ A, y.a = f x.a ∧ y.b = f x.b ∧ y.w = x.w) {a b k : Nat} {c : Int} (hw : Wk A' a b k c) : Wk A (f a) (f b) k c := by
  induction hw with
  | nil a => exact Wk.nil _
  | cons hx _ ih =>
    obtain ⟨y, hy, e1, e2, e3⟩ := h _ hx
    rw [← e2] at ih
    have := Wk.cons hy ih
    rw [e1, e3] at this
    exact this
theorem NoNeg.carry {A A' : List Ar} {f : Nat → Nat} (hN : NoNeg A) (h : ∀ x ∈ A', ∃ y ∈ A, y.a = f x.a ∧ y.b = f x.b ∧ y.w = x.w) : NoNeg A' := fun _a _k _c hw => hN _ _ _ (hw.carry h)
/-- A place of one list's names in another list's. -/
def moved (us vs : List Dm) (ax : Int) (p : Nat) : Nat := pos (nmG vs ax) (kAt (nmG us ax) p)
theorem moved_arcs {us vs : List Dm} {ax : Int} (h : ∀ j, onD us ax j → ∃ i, onD vs ax i ∧ dAt us j = dAt vs i) : ∀ x ∈ arX us ax, ∃ y ∈ arX vs ax, y.a = moved us vs ax x.a ∧ y.b = moved us vs ax x.b ∧ y.w = x.w := by
  intro x hx
  obtain ⟨j, hj, e⟩ := arX_mem.1 hx
  obtain ⟨i, hi, hd⟩ := h j hj
  have h1 : moved us vs ax (pF us ax j) = pF vs ax i := by unfold moved; rw [pF_name hj, hd]; rfl
  have h2 : moved us vs ax (pT us ax j) = pT vs ax i := by unfold moved; rw [pT_name hj, hd]; rfl
  rcases e with rfl | rfl
  · exact ⟨_, arX_mem.2 ⟨i, hi, .inl rfl⟩, h1.symm, h2.symm, by rw [hd]⟩
  · exact ⟨_, arX_mem.2 ⟨i, hi, .inr rfl⟩, h2.symm, h1.symm, by rw [hd]⟩
theorem wo_on {vs : List Dm} {i : Nat} (hi : i < vs.length) (ax : Int) : ∀ j, onD (wo vs i) ax j → ∃ m, onD vs ax m ∧ dAt (wo vs i) j = dAt vs m := fun j hj => by
  have e := wo_at hi hj.1
  have hl := wo_len hi
  have h1 := hj.1
  refine ⟨_, ⟨?_, by rw [← e]; exact hj.2⟩, e⟩
  split <;> omega
theorem cfE_wo {vs : List Dm} {ax : Int} {i : Nat} (hi : i < vs.length) (h : cfE vs ax = true) : cfE (wo vs i) ax = true :=
  (cfE_iff _ _).2 (((cfE_iff _ _).1 h).carry (moved_arcs (wo_on hi ax)))
/-- Implied dimensions. -/
def imQ (vs : List Dm) (ax : Int) (k : Nat) : Bool :=
  (dAt vs k).x == ax && (jnX (wo vs k) ax (dAt vs k).f (dAt vs k).t && (decide ((dAt vs k).l ≤ spL (wo vs k) ax (dAt vs k).f (dAt vs k).t) && decide (spH (wo vs k) ax (dAt vs k).f (dAt vs k).t ≤ (dAt vs k).h)))
def imF (vs : List Dm) (ax : Int) : Nat → List Nat
  | 0 => []
  | k + 1 => if imQ vs ax k = true then imF vs ax k ++ [k] else imF vs ax k
theorem imF_len (vs : List Dm) (ax : Int) : ∀ k, (imF vs ax k).length ≤ k
  | 0 => Nat.le_refl _
  | k + 1 => by
    have := imF_len vs ax k
    rw [imF]
    split
    · rw [List.length_append]; simp; omega
    · omega
def imE (vs : List Dm) (ax : Int) : Int := if giE vs ax = 0 then (if cfE vs ax = true then 0 else 16) else giE vs ax
def imX (vs : List Dm) (ax : Int) : List Nat := if giE vs ax = 0 then (if cfE vs ax = true then imF vs ax vs.length else []) else []
theorem jnX_mem {vs : List Dm} {ax : Int} {s t : ByteArray} (h : jnX vs ax s t = true) : s ∈ nmG vs ax ∧ t ∈ nmG vs ax := by
  unfold jnX at h
  rw [Bool.and_eq_true, Bool.and_eq_true] at h
  exact ⟨inK_iff.1 h.1.1, inK_iff.1 h.1.2⟩
theorem graphN_any (ao : Option Addr) (vs : List Dm) (n c : Nat) (ax : Int) (w : World) (R : Ending → World → Prop) (hn : vs.length = n) (hl : vs.length ≤ 256) (hc : CellsAt w ao (dC vs)) (hv : DmsOk vs)
   (hR : ∀ w', Below w.heap.size w w' → GrX w' w.heap.size ao c vs ax → R (.returned (.pointer (some ⟨w.heap.size + 1, 0, none⟩))) w') :
    Calls Try.prog 49 #[.slice ao n c, .int .i64 ax] w R := by
  subst hn
  exact graphX_any ao vs c ax w R hl hc hv hR
end Go.Proofs.Ytlgjhjgdmomfoaa
namespace Go.Proofs.Ytlgjhjgdmomfoaa
open Go.RowKit Go.Maps

set_option maxRecDepth 100000 in
set_option maxHeartbeats 8000000 in
theorem implied_any (ao : Option Addr) (vs : List Dm) (c : Nat) (ax : Int) (w : World) (R : Ending → World → Prop) (hl : vs.length ≤ 9223372036854775807) (hc : CellsAt w ao (dC vs)) (hv : DmsOk vs)
   (hR : ∀ v w', Below w.heap.size w w' → w'.ownsRow w.heap.size 3 1 v (imX vs ax).length (dI (imX vs ax)) → R (.returned (.tuple #[v, .int .i64 (imE vs ax)])) w') :
    Calls Try.prog 16 #[.slice ao vs.length c, .int .i64 ax] w R := by
  have HR := Lib.hid hR
  have HC := Lib.hid hc
  have HV := Lib.hid hv
  clear hR hc hv
  have hX0 : Hid (imX vs ax = if giE vs ax = 0 then (if cfE vs ax = true then imF vs ax vs.length else []) else []) := rfl
  have hE0 : Hid (imE vs ax = if giE vs ax = 0 then (if cfE vs ax = true then 0 else 16) else giE vs ax) := rfl
  obtain ⟨E, hE⟩ : ∃ E, giE vs ax = E := ⟨_, rfl⟩
  have HE := Lib.hid hE
  rw [hE] at hX0 hE0
  clear hE
  go_enter Try.func16, Try.ntmps16
  go_wp2_with fail
  refine given_any ao vs c ax _ _ hl HC.out HV.out ?_
  rw [HE.out]
  intro w1 hb
  have HB1 := Lib.hid hb
  clear hb
  by_cases h0 : E = 0
  · subst h0
    have hl2 := giE_len HE.out
    have HVA := Lib.hid (giE_all HE.out).2
    have hX1 := hX0.out
    have hE1 := hE0.out
    rw [if_pos rfl] at hX1 hE1
    have HX1 := Lib.hid hX1
    have HE1 := Lib.hid hE1
    clear hX0 hE0 hX1 hE1
    have sB1 := HB1.out.size
    go_wp2_with fail
    refine graphX_any ao vs c ax _ _ hl2 (HC.out.below HB1.out) HV.out ?_
    intro w2 hb hg
    have HB2 := Lib.hid (HB1.out.trans (hb.mono sB1))
    have HG2 := Lib.hid hg
    have sB2 := HB2.out.size
    clear hb hg
    go_wp2_with fail
    refine conflict_any ao vs c _ ax _ _ hl2 (HC.out.below HB2.out) HV.out HVA.out HG2.out ?_ ?_
    · intro hcf w3 hb
      have HB3 := Lib.hid (HB2.out.trans (hb.mono sB2))
      have sB3 := HB3.out.size
      have Hcf := Lib.hid hcf
      have hX : Hid (imX vs ax = imF vs ax vs.length) := by unfold Hid; rw [HX1.out, if_pos hcf]
      have hEz : Hid (imE vs ax = 0) := by unfold Hid; rw [HE1.out, if_pos hcf]
      clear hb hcf HX1 HE1
      go_wp2_with fail
      go_loopw [25, 7] (fun j v wr => ∃ (k : Nat), k ≤ vs.length ∧ j = .int .i64 k ∧ Hid (Below w.heap.size w wr) ∧ Hid (wr.ownsRow w.heap.size 3 1 v (imF vs ax k).length (dI (imF vs ax k)))) (fun j _ _ => vs.length - (intOf j).toNat)
      case atStart => exact ⟨0, Nat.zero_le _, rfl, HB3, World.ownsRow_nil _ _ _ _⟩
      case round =>
        obtain ⟨k, hk, rfl, HB, HO⟩ := hrel
        have sB := HB.out.size
        have lnR := imF_len vs ax k
        by_cases hlt : k < vs.length
        · obtain ⟨b, o, rfl, hbb, hcell⟩ := HC.out.dms (by omega)
          obtain ⟨c0, c1, c2, c3, c4⟩ := hcell k hlt
          have d0 := cellB HB.out c0 hbb
          have d1 := cellB HB.out c1 hbb
          have d2 := cellB HB.out c2 hbb
          have d3 := cellB HB.out c3 hbb
          have d4 := cellB HB.out c4 hbb
          have hok := Lib.hid (HV.out k hlt)
          have hst : Hid (imF vs ax (k + 1) = if ((dAt vs k).x == ax && (jnX (wo vs k) ax (dAt vs k).f (dAt vs k).t && (decide ((dAt vs k).l ≤ spL (wo vs k) ax (dAt vs k).f (dAt vs k).t) && decide (spH (wo vs k) ax (dAt vs k).f (dAt vs k).t ≤ (dAt vs k).h)))) = true then imF vs ax k ++ [k] else imF vs ax k) := rfl
          obtain ⟨u, hu⟩ : ∃ u, dAt vs k = u := ⟨_, rfl⟩
          obtain ⟨is, his⟩ : ∃ is, imF vs ax k = is := ⟨_, rfl⟩
          rw [hu] at d0 d1 d2 d3 d4 hst hok
          rw [his] at hst HO lnR
          have HA : Hid (Below w.heap.size w (wr.alloc (.cells #[.string u.f, .string u.t, .int .i64 u.x, .int .i64 u.l, .int .i64 u.h] 73))) := HB.out.alloc sB _
          have OA : Hid ((wr.alloc (.cells #[.string u.f, .string u.t, .int .i64 u.x, .int .i64 u.l, .int .i64 u.h] 73)).ownsRow w.heap.size 3 1 u7 is.length (dI is)) := ownsRow_below HO.out ((Below.refl _ _).alloc (Nat.le_refl _) _)
          have X0 := Lib.hid (World.alloc_heap_new wr (.cells #[.string u.f, .string u.t, .int .i64 u.x, .int .i64 u.l, .int .i64 u.h] 73))
          clear hcell hu his c0 c1 c2 c3 c4
          by_cases hx : u.x = ax
          · have K : (u.x != ax) = false := by simpa using hx
            have hst1 := hst.out
            rw [show (u.x == ax) = true from by simpa using hx, Bool.true_and] at hst1
            have Hst1 := Lib.hid hst1
            clear hx hst hst1
            go_wp2_with fail
            obtain ⟨wA, hwA⟩ : ∃ wA, wr.alloc (.cells #[.string u.f, .string u.t, .int .i64 u.x, .int .i64 u.l, .int .i64 u.h] 73) = wA := ⟨_, rfl⟩
            have zA : wr.heap.size < wA.heap.size := by rw [← hwA]; simp
            rw [hwA] at HA OA X0 ⊢
            have sA := HA.out.size
            clear hwA d0 d1 d2 d3 d4
            refine cloneD_any (some ⟨b, o, none⟩) vs c _ _ (by omega) (fun e => by cases e) (HC.out.below HA.out) ?_
            intro v5 w5 hb ho
            have W5 := Lib.hid hb
            have zW5 := hb.size
            rcases ho.2 with ⟨_, h1⟩ | ⟨g, cap, cur, rfl, hgb, hgg, h1, h2, h3, h4⟩
            · omega
            clear hb ho
            have h5 : cap ≤ 9223372036854775807 := Nat.le_trans h2 (by decide)
            go_wp2_with fail
            refine del22_any g cap k cur vs _ _ hlt (by omega) h1 h5 hgg (by omega) h4 ?_
            intro w6 hb hcw
            have W6 := Lib.hid (W5.out.trans (hb.mono hgb))
            have HC6 := Lib.hid hcw
            have zW6 := W6.out.size
            have hwl := wo_len hlt
            clear hb hcw hgg h1 h2 h3 h4 h5 hgb zW5
            go_wp2_with fail
            refine graphN_any (some ⟨g, 0, none⟩) (wo vs k) (vs.length - 1) cap ax _ _ hwl (by omega) HC6.out (wo_all hlt HV.out) ?_
            intro w7 hb hg
            have HG7 := Lib.hid hg
            have W7 := Lib.hid (W6.out.trans (hb.mono zW6))
            have HC7 := Lib.hid (HC6.out.below hb)
            have X7 := blk_box X0.out W7.out zA
            have e0 := cell_of X7 (j := 0) (v := .string u.f) rfl
            have e1 := cell_of X7 (j := 1) (v := .string u.t) rfl
            have zW7 := W7.out.size
            clear hb hg X7
            go_wp2_with fail
            refine joined_any (some ⟨g, 0, none⟩) (wo vs k) cap _ ax u.f u.t _ _ (by omega) HC7.out (wo_all hlt HV.out) HG7.out hok.out.1 hok.out.2 ?_
            intro w8 hb
            have HG8 := Lib.hid (HG7.out.below hb (Nat.le_refl _))
            have W8 := Lib.hid (W7.out.trans (hb.mono zW7))
            have HC8 := Lib.hid (HC7.out.below hb)
            have X8 := blk_box X0.out W8.out zA
            have e0 := cell_of X8 (j := 0) (v := .string u.f) rfl
            have e1 := cell_of X8 (j := 1) (v := .string u.t) rfl
            have zW8 := W8.out.size
            have zz8 : wr.heap.size < w8.heap.size := by omega
            clear hb X8
            cases hJ : jnX (wo vs k) ax u.f u.t with
            | false =>
              have hst2 := Hst1.out
              rw [hJ, Bool.false_and, if_neg (by simp)] at hst2
              have Hst2 := Lib.hid hst2
              clear hJ hst2
              go_wp2_with fail
              refine ⟨⟨k + 1, by omega, by go_num, HA.out.trans (W8.out.mono sA), ?_⟩, by simp [intOf]; omega⟩
              rw [Hst2.out]; exact ownsRow_below OA.out W8.out
            | true =>
              have hst2 := Hst1.out
              rw [hJ, Bool.true_and] at hst2
              have Hst2 := Lib.hid hst2
              have hmm := Lib.hid (jnX_mem hJ)
              have Hcw := Lib.hid (cfE_wo hlt Hcf.out)
              clear hJ hst2
              go_wp2_with fail
              refine span_any (some ⟨g, 0, none⟩) (wo vs k) cap _ ax u.f u.t _ _ (by omega) HC8.out (wo_all hlt HV.out) (wo_all (Q := fun d => vaE d = 0) hlt HVA.out) HG8.out hmm.out.1 hmm.out.2 Hcw.out ?_
              intro w9 hb
              have W9 := Lib.hid (W8.out.trans (hb.mono zW8))
              have X9 := blk_box X0.out W9.out zA
              have e3 := cell_of X9 (j := 3) (v := .int .i64 u.l) rfl
              have e4 := cell_of X9 (j := 4) (v := .int .i64 u.h) rfl
              have zW9 := W9.out.size
              have zz9 : wr.heap.size < w9.heap.size := by omega
              obtain ⟨lo, hlo⟩ : ∃ lo, spL (wo vs k) ax u.f u.t = lo := ⟨_, rfl⟩
              obtain ⟨hi, hhi⟩ : ∃ hi, spH (wo vs k) ax u.f u.t = hi := ⟨_, rfl⟩
              have hst3 := Hst2.out
              rw [hlo, hhi] at hst3
              rw [hlo, hhi]
              have Hst3 := Lib.hid hst3
              clear hb X9 hst3 e0 e1 hlo hhi
              have OA9 := Lib.hid (ownsRow_below OA.out W9.out)
              have B9 := Lib.hid (HA.out.trans (W9.out.mono sA))
              have sz9 := B9.out.size
              have AA : Below w9.heap.size w9 (w9.alloc (.cells #[.int .i64 lo, .int .i64 hi] 37)) := (Below.refl _ _).alloc (Nat.le_refl _) _
              have OA10 := Lib.hid (ownsRow_below OA9.out AA)
              have B10 := Lib.hid (B9.out.trans (AA.mono sz9))
              clear AA
              by_cases hq1 : u.l ≤ lo
              · by_cases hq2 : hi ≤ u.h
                · have hst4 := Hst3.out
                  rw [decide_eq_true hq1, decide_eq_true hq2, if_pos (by rfl)] at hst4
                  have Hst4 := Lib.hid hst4
                  clear hst4
                  go_wp2_with (at_builtin; refine wp_appendT rfl (.tmp 69) (.tmp 71) 42 rfl w.heap.size 3 Try.underlying42 Try.infoI22 rfl (by decide) u7 is.length (dI is) rfl (ownsRow_below OA10.out ((Below.refl _ _).alloc (Nat.le_refl _) _)) ⟨w9.heap.size + 1, 0, none⟩ 1 1 [.int .i64 k] rfl rfl (by have h := cells_one (w9.alloc (.cells #[.int .i64 lo, .int .i64 hi] 37)) (.int .i64 k) 3; simpa using h) (one1 _ rfl) (by omega) (by omega) (by simp; omega) ?_; intro v5 w5 hown hgrow _; have O5 := Lib.hid hown; have B5 := Lib.hid ((B10.out.alloc (by simp; omega) _).grown hgrow (by simp; omega) (fun j e => (OA10.out.lt j e).1)); clear hown hgrow)
                  refine ⟨⟨k + 1, by omega, by go_num, B5, ?_⟩, by simp [intOf]; omega⟩
                  rw [Hst4.out, dI_append, List.length_append]; exact O5.out
                · have hst4 := Hst3.out
                  rw [decide_eq_false hq2, Bool.and_false, if_neg (by simp)] at hst4
                  have Hst4 := Lib.hid hst4
                  clear hst4
                  go_wp2_with fail
                  refine ⟨⟨k + 1, by omega, by go_num, B10, ?_⟩, by simp [intOf]; omega⟩
                  rw [Hst4.out]; exact OA10.out
              · have hst4 := Hst3.out
                rw [decide_eq_false hq1, Bool.false_and, if_neg (by simp)] at hst4
                have Hst4 := Lib.hid hst4
                clear hst4
                go_wp2_with fail
                refine ⟨⟨k + 1, by omega, by go_num, B10, ?_⟩, by simp [intOf]; omega⟩
                rw [Hst4.out]; exact OA10.out
          · have K : (u.x != ax) = true := by simpa using hx
            have hst1 := hst.out
            rw [show (u.x == ax) = false from by simpa using hx, Bool.false_and, if_neg (by simp)] at hst1
            have Hst1 := Lib.hid hst1
            clear hx hst hst1
            go_wp2_with fail
            refine ⟨⟨k + 1, by omega, by go_num, HA, ?_⟩, by simp [intOf]; omega⟩
            rw [Hst1.out]; exact OA.out
        · obtain rfl : k = vs.length := by omega
          go_wp2_with fail
          have h := HR.out _ wr HB.out (by rw [hX.out]; exact HO.out)
          rw [hEz.out] at h; exact h
    · intro hcf v w3 hb ho
      have HB3 := Lib.hid (HB2.out.trans (hb.mono sB2))
      have hX : Hid (imX vs ax = []) := by unfold Hid; rw [HX1.out, if_neg (by rw [hcf]; simp)]
      have hEz : Hid (imE vs ax = 16) := by unfold Hid; rw [HE1.out, if_neg (by rw [hcf]; simp)]
      obtain ⟨g, n, c', rfl⟩ := cfL_some ho
      clear hb hcf ho
      go_wp2_with fail
      have h := HR.out (.slice none 0 0) w3 HB3.out (by rw [hX.out]; exact World.ownsRow_nil _ _ _ _)
      rw [hEz.out] at h; exact h
  · have K : (E != 0) = true := by simpa using h0
    have hX : Hid (imX vs ax = []) := by unfold Hid; rw [hX0.out, if_neg h0]
    have hEz : Hid (imE vs ax = E) := by unfold Hid; rw [hE0.out, if_neg h0]
    clear h0 hX0 hE0
    go_wp2_with fail
    have h := HR.out (.slice none 0 0) w1 HB1.out (by rw [hX.out]; exact World.ownsRow_nil _ _ _ _)
    rw [hEz.out] at h; exact h
end Go.Proofs.Ytlgjhjgdmomfoaa
