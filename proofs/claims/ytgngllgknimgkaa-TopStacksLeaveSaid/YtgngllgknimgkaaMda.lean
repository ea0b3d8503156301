/- The ways: bounds, and what conflict, from and span compute. The walks of conflict and from of package complete. The walk of span of package complete. The walk of Distance of package complete. (Printed by gen_distance.py.) slices.Clone and slices.Delete of dimensions. A list without an element: its dimensions, its ways. The walk of Implied of package complete. The walk of Verify of package complete. The walks of Ends and Verify of reference 22. Positions as data; what Solve computes. Maps keyed by int, as functions; slices of slices of strings. -/
import Derived.Test.YtgngllgknimgkaaCz
import Derived.Deep.RegionHeld3
import Derived.Test.YtgngllgknimgkaaMci
import Derived.Laws.AppendOwn
import Derived.Laws.IdiomCopy
import Derived.Deep.RegionLaw
import Derived.Lib.SliceRun
import Derived.Lib.EndianMore
import Derived.Laws.Rows
import Derived.Deep.QuietTactic
import Derived.Maps.Own
import Derived.Maps.OwnSet
import Derived.Maps.OwnOps
import Derived.Maps.Views
namespace Go.Proofs.Ytgngllgknimgkaa
open Go.RowKit Go.Maps

theorem Fb.run {n : Nat} {A : List Ar} (hA : Within n A) (hN : Near A) : ∀ (m : Nat) (s : Bf) (B : Nat), Fb s B → s.Ok n → Fb (Bf.run A m s).1 (B + m * (100000 * A.length))
  | 0, s, B, h, _ => h.mono (by omega)
  | m + 1, s, B, h, hO => by
    have h1 : Fb (s.round A) (B + 100000 * A.length) := Fb.fold hA hN A { s with last := -1 } B h ⟨hO.far, hO.seen, hO.by_⟩ (fun x hx => hx)
    have e : B + (m + 1) * (100000 * A.length) = B + 100000 * A.length + m * (100000 * A.length) := by rw [Nat.add_mul, Nat.one_mul]; omega
    unfold Bf.run
    split
    · exact h1.mono (by rw [e]; exact Nat.le_add_right _ _)
    · rw [e]; exact Fb.run hA hN m _ _ h1 (Bf.round_ok hO hA)
theorem rx_near {vs : List Dm} {ax : Int} {S : List Bool} (hl : vs.length ≤ 256) (hva : ∀ j, j < vs.length → vaE (dAt vs j) = 0) (hS : S.length = (nmG vs ax).length) : Fb (rxR (arX vs ax) S).1 30000000000 := by
  have h0 : Fb (Bf.begin S) 0 := fun v => by rw [Bf.begin_f]; exact ⟨Int.le_refl _, Int.le_refl _⟩
  have h1 := Fb.run (n := S.length) (by rw [hS]; exact arX_within vs ax) (arX_near hva ax) (S.length + 1) _ 0 h0 (Bf.begin_ok S)
  refine h1.mono ?_
  have h2 : (arX vs ax).length ≤ 512 := by
    have := onA_len vs ax vs.length
    rw [arX_len]; omega
  have h3 : S.length + 1 ≤ 513 := by have := nmG_len (ax := ax) hl; omega
  have h4 : (S.length + 1) * (100000 * (arX vs ax).length) ≤ 513 * 51200000 := Nat.mul_le_mul h3 (by omega)
  omega
/-- From all names: whether it ends, and the loop. -/
def cfR (vs : List Dm) (ax : Int) : Bf × Bool := rxR (arX vs ax) (List.replicate (nmG vs ax).length true)
def cfE (vs : List Dm) (ax : Int) : Bool := (cfR vs ax).2
def cfL (vs : List Dm) (ax : Int) : List Sp := lpL (cfR vs ax).1 (nmG vs ax).length
/-- From one place. -/
def frR (vs : List Dm) (ax : Int) (a : Nat) : Bf × Bool := rxR (arX vs ax) (oneS (nmG vs ax).length a)
theorem cfE_iff (vs : List Dm) (ax : Int) : cfE vs ax = true ↔ NoNeg (arX vs ax) :=
  ⟨fun h => rx_noNeg (arX_within vs ax) h, fun h => rx_ends h (by rw [List.length_replicate]; exact arX_within vs ax)⟩
theorem frR_ends {vs : List Dm} {ax : Int} (h : cfE vs ax = true) (a : Nat) : (frR vs ax a).2 = true :=
  rx_ends ((cfE_iff vs ax).1 h) (by rw [oneS_len]; exact arX_within vs ax)
theorem frR_near {vs : List Dm} {ax : Int} (hl : vs.length ≤ 256) (hva : ∀ j, j < vs.length → vaE (dAt vs j) = 0) (a v : Nat) : -30000000000 ≤ (frR vs ax a).1.f v ∧ (frR vs ax a).1.f v ≤ 30000000000 :=
  rx_near hl hva (oneS_len _ a) v
theorem frR_len (vs : List Dm) (ax : Int) (a : Nat) : (frR vs ax a).1.far.length = (nmG vs ax).length := by
  have h := (Bf.run_keeps (n := (oneS (nmG vs ax).length a).length) (A := arX vs ax) (S := fun _ => True) (by rw [oneS_len]; exact arX_within vs ax) ((oneS (nmG vs ax).length a).length + 1) (Bf.begin (oneS (nmG vs ax).length a)) (Bf.begin_ok _) (fun v hv => ⟨v, 0, trivial, by rw [Bf.begin_f]; exact Wk.nil v⟩)).1.far
  have h2 : (frR vs ax a).1.far.length = (oneS (nmG vs ax).length a).length := h
  rw [oneS_len] at h2
  exact h2
theorem cfL_pos (vs : List Dm) (ax : Int) : 0 < (cfL vs ax).length := by
  unfold cfL lpL; simp
/-- A cell of the distances. -/
theorem far_cell {W : World} {gf : Nat} {vs : List Dm} {ax : Int} {a v : Nat} (h : Blk W gf 3 (I64s (frR vs ax a).1.far)) (hv : v < (nmG vs ax).length) : W.cell? ⟨gf, v, none⟩ = some (.int .i64 ((frR vs ax a).1.f v)) := by
  have hl : v < (frR vs ax a).1.far.length := by rw [frR_len]; exact hv
  have h2 := h.cell (j := v) (by simpa [I64s] using hl)
  rw [h2]
  unfold I64s Bf.f
  rw [List.getD_eq_getElem?_getD, List.getElem?_map, List.getElem?_eq_getElem hl, List.getD_eq_getElem?_getD, List.getElem?_eq_getElem hl]; rfl
end Go.Proofs.Ytgngllgknimgkaa
namespace Go.Proofs.Ytgngllgknimgkaa
open Go.RowKit Go.Maps

theorem Try.infoB22 : (Try.prog.info? 4).map (fun i => (i.zero, i.size, i.bytes)) = some (some (.bool false), 1, 1) := by kernel_rfl
theorem boC_zero (n : Nat) : reps n (.bool false) = boC (List.replicate n false) := by simp [reps, boC]
theorem boC_set (l : List Bool) (i : Nat) (x : Bool) : (boC l).set i (.bool x) = boC (l.set i x) := by simp [boC, List.map_set]
theorem make_bools (n : Nat) (hn : n ≤ 512) (w : World) :
    (Instr.makeSlice 84 (.int .i64 (n : Int)) (.int .i64 (n : Int))).run Try.prog w = .ok (.slice (some ⟨w.heap.size, 0, none⟩) n n) (w.alloc (.cells (boC (List.replicate n false)).toArray 4)) := by
  rw [make_row (P := Try.prog) (t := 84) Try.underlying84 Try.infoB22 rfl n (by omega) (by omega) w, boC_zero]
theorem boC_get {l : List Bool} {i : Nat} (h : i < l.length) : (boC l).getD i undef = .bool (l.getD i false) := by
  unfold boC
  rw [List.getD_eq_getElem?_getD, List.getElem?_map, List.getElem?_eq_getElem h, List.getD_eq_getElem?_getD, List.getElem?_eq_getElem h]; rfl
theorem Blk.cellsAt {w : World} {C : Nat} {E : TypeId} {L : List Value} (h : Blk w C E L) : CellsAt w (some ⟨C, 0, none⟩) L := by
  intro _
  refine ⟨C, 0, rfl, h.lt, fun j hj => ?_⟩
  rw [Nat.zero_add]; exact h.cell hj
/-- The first places begin. -/
def iniB (n k : Nat) : List Bool := List.replicate k true ++ List.replicate (n - k) false
theorem iniB_len {n k : Nat} (h : k ≤ n) : (iniB n k).length = n := by simp [iniB]; omega
theorem iniB_set {n k : Nat} (h : k < n) : (iniB n k).set k true = iniB n (k + 1) := by
  unfold iniB
  obtain ⟨m, hm⟩ : ∃ m, n - k = m + 1 := ⟨n - k - 1, by omega⟩
  rw [hm, show n - (k + 1) = m from by omega, List.replicate_succ (n := m), List.set_append_right _ _ (by simp), List.length_replicate, Nat.sub_self, List.set_cons_zero, List.replicate_succ' (n := k), List.append_assoc]; rfl
theorem iniB_end (n : Nat) : iniB n n = List.replicate n true := by simp [iniB]
theorem relaxedN (ao : Option Addr) (vs : List Dm) (c b n : Nat) (ax : Int) (bb bo sc0 : Nat) (S : List Bool) (w : World) (R : Ending → World → Prop) (hn : S.length = n) (hl : vs.length ≤ 256) (hc : CellsAt w ao (dC vs)) (hv : DmsOk vs) (hva : ∀ j, j < vs.length → vaE (dAt vs j) = 0)
   (hg : GrX w b ao c vs ax) (hS : S.length = (nmG vs ax).length) (hcS : CellsAt w (some ⟨bb, bo, none⟩) (boC S))
   (hR1 : (rxR (arX vs ax) S).2 = true → ∀ gf gb gs sc w', Below w.heap.size w w' → Blk w' gf 3 (I64s (rxR (arX vs ax) S).1.far) → R (.returned (.tuple #[.agg #[.slice (some ⟨gf, 0, none⟩) (nmG vs ax).length (nmG vs ax).length, .slice (some ⟨gb, 0, none⟩) (nmG vs ax).length (nmG vs ax).length, .slice (some ⟨gs, 0, none⟩) (nmG vs ax).length sc], .slice none 0 0])) w')
   (hR2 : (rxR (arX vs ax) S).2 = false → ∀ gf gb gs sc v w', Below w.heap.size w w' → w'.ownsRow w.heap.size 111 2 v (lpL (rxR (arX vs ax) S).1 (nmG vs ax).length).length (pC (lpL (rxR (arX vs ax) S).1 (nmG vs ax).length)) → R (.returned (.tuple #[.agg #[.slice (some ⟨gf, 0, none⟩) (nmG vs ax).length (nmG vs ax).length, .slice (some ⟨gb, 0, none⟩) (nmG vs ax).length (nmG vs ax).length, .slice (some ⟨gs, 0, none⟩) (nmG vs ax).length sc], v])) w') :
    Calls Try.prog 32 #[.pointer (some ⟨b + 1, 0, none⟩), .slice (some ⟨bb, bo, none⟩) n sc0] w R := by
  subst hn
  exact relaxed_any ao vs c b ax bb bo sc0 S w R hl hc hv hva hg hS hcS hR1 hR2
theorem ne_types {w : World} {a b : Nat} {cs ds : Array Value} {t u : TypeId} (h : w.heap[a]? = some (.cells cs t (0, 0))) (h2 : w.heap[b]? = some (.cells ds u (0, 0))) (hne : t ≠ u) : a ≠ b := by
  rintro rfl; rw [h] at h2; cases h2; exact hne rfl
set_option maxRecDepth 100000 in
set_option maxHeartbeats 8000000 in
theorem conflict_any (ao : Option Addr) (vs : List Dm) (c b : Nat) (ax : Int) (w : World) (R : Ending → World → Prop) (hl : vs.length ≤ 256) (hc : CellsAt w ao (dC vs)) (hv : DmsOk vs) (hva : ∀ j, j < vs.length → vaE (dAt vs j) = 0) (hg : GrX w b ao c vs ax)
   (hR1 : cfE vs ax = true → ∀ w', Below w.heap.size w w' → R (.returned (.slice none 0 0)) w')
   (hR2 : cfE vs ax = false → ∀ v w', Below w.heap.size w w' → w'.ownsRow w.heap.size 111 2 v (cfL vs ax).length (pC (cfL vs ax)) → R (.returned v) w') :
    Calls Try.prog 21 #[.pointer (some ⟨b + 1, 0, none⟩)] w R := by
  have HR1 := Lib.hid hR1
  have HR2 := Lib.hid hR2
  have HC := Lib.hid hc
  have HV := Lib.hid hv
  have HVA := Lib.hid hva
  have HG := Lib.hid hg
  have hkl := nmG_len (ax := ax) hl
  have hmk := fun w => make_bools (nmG vs ax).length hkl w
  clear hR1 hR2 hc hv hva hg
  obtain ⟨nv, dv, hg0⟩ := HG.out
  obtain ⟨na, nc, rfl, _, _⟩ := ownsRow_read hg0.names
  obtain ⟨g0, _, _, _⟩ := hg0.cell
  have sG := hg0.size
  clear hg0
  obtain ⟨N, hN⟩ : ∃ N, (nmG vs ax).length = N := ⟨_, rfl⟩
  rw [hN] at g0 hkl hmk
  have HN := Lib.hid hN
  clear hN
  go_enter Try.func21, Try.ntmps21
  go_wp2_with fail
  have X0' := Blk.new w (boC (List.replicate N false)) 4
  have B0' : Below w.heap.size w (w.alloc (.cells (boC (List.replicate N false)).toArray 4)) := (Below.refl _ _).alloc (Nat.le_refl _) _
  obtain ⟨w1, hw1⟩ : ∃ w1, w.alloc (.cells (boC (List.replicate N false)).toArray 4) = w1 := ⟨_, rfl⟩
  rw [hw1] at X0' B0' ⊢
  have X0 := Lib.hid X0'
  have B0 := Lib.hid B0'
  clear hw1 X0' B0' hmk
  go_loopw [15] (fun j wr => ∃ (k : Nat), k ≤ N ∧ j = .int .i64 k ∧ Hid (Below w.heap.size w wr) ∧ Hid (Blk wr w.heap.size 4 (boC (iniB N k)))) (fun j _ => N - (intOf j).toNat)
  case atStart => exact ⟨0, Nat.zero_le _, rfl, B0, by unfold iniB; simpa using X0⟩
  case round =>
    clear g0
    obtain ⟨k, hk, rfl, HB, HX⟩ := hrel
    by_cases hlt : k < N
    · have hln := iniB_len hk
      have x1 := HX.out.cell (j := k) (by rw [boC_length, hln]; exact hlt)
      have x2 := HX.out.frozen k
      have hxl := HX.out.lt
      rw [boC_get (by rw [hln]; exact hlt)] at x1
      have X2 := Lib.hid (HX.out.set k (.bool true))
      have B2 := Lib.hid (HB.out.setCell (p := ⟨w.heap.size, k, none⟩) (Nat.le_refl _) (.bool true))
      go_wp2_with fail
      refine ⟨⟨k + 1, by omega, by go_num, B2, ?_⟩, by simp [intOf]; omega⟩
      have h := X2.out
      rw [boC_set, iniB_set hlt] at h; exact h
    · obtain rfl : k = N := by omega
      have hX := HX.out
      rw [iniB_end] at hX
      have HX2 := Lib.hid hX
      have sB := HB.out.size
      clear hX HX
      go_wp2_with fail
      refine relaxedN ao vs c b k ax w.heap.size 0 k (List.replicate k true) _ _ (by simp) hl (HC.out.below HB.out) HV.out HVA.out (HG.out.below HB.out (Nat.le_refl _)) (by rw [HN.out]; simp) HX2.out.cellsAt ?_ ?_
      · intro h1 gf gb gs sc w2 hb _
        have hE : Hid (cfE vs ax = true) := by unfold Hid cfE cfR; rw [HN.out]; exact h1
        have HB2 := Lib.hid (HB.out.trans (hb.mono sB))
        clear hb h1
        go_wp2_with fail
        exact HR1.out hE.out _ (HB2.out.alloc HB2.out.size _)
      · intro h1 gf gb gs sc v w2 hb ho
        have hE : Hid (cfE vs ax = false) := by unfold Hid cfE cfR; rw [HN.out]; exact h1
        have hL : Hid (cfL vs ax = lpL (rxR (arX vs ax) (List.replicate k true)).1 (nmG vs ax).length) := by unfold Hid cfL cfR; rw [HN.out]
        have HO := Lib.hid ho
        have HB2 := Lib.hid (HB.out.trans (hb.mono sB))
        clear hb h1 ho
        go_wp2_with fail
        refine HR2.out hE.out _ _ (HB2.out.alloc HB2.out.size _) ?_
        rw [hL.out]
        exact ownsRow_below (ownsRow_mono HO.out sB) ((Below.refl _ _).alloc (Nat.le_refl _) _)
set_option maxRecDepth 100000 in
set_option maxHeartbeats 8000000 in
theorem from_any (ao : Option Addr) (vs : List Dm) (c b a : Nat) (ax : Int) (w : World) (R : Ending → World → Prop) (hl : vs.length ≤ 256) (hc : CellsAt w ao (dC vs)) (hv : DmsOk vs) (hva : ∀ j, j < vs.length → vaE (dAt vs j) = 0) (hg : GrX w b ao c vs ax)
   (ha : a < (nmG vs ax).length) (hE : (frR vs ax a).2 = true)
   (hR : ∀ gf gb gs sc w', Below w.heap.size w w' → Blk w' gf 3 (I64s (frR vs ax a).1.far) → R (.returned (.agg #[.slice (some ⟨gf, 0, none⟩) (nmG vs ax).length (nmG vs ax).length, .slice (some ⟨gb, 0, none⟩) (nmG vs ax).length (nmG vs ax).length, .slice (some ⟨gs, 0, none⟩) (nmG vs ax).length sc])) w') :
    Calls Try.prog 33 #[.pointer (some ⟨b + 1, 0, none⟩), .int .i64 a] w R := by
  have HR := Lib.hid hR
  have HC := Lib.hid hc
  have HV := Lib.hid hv
  have HVA := Lib.hid hva
  have hE' : Hid ((rxR (arX vs ax) (oneS (nmG vs ax).length a)).2 = true) := hE
  have hF : Hid ((frR vs ax a).1 = (rxR (arX vs ax) (oneS (nmG vs ax).length a)).1) := rfl
  have hkl := nmG_len (ax := ax) hl
  obtain ⟨w1, E1, HB1, s1, X1⟩ := box_ex w #[.slice none 0 0, .slice none 0 0, .slice none 0 0] 87
  have hg1 := hg.below HB1.out (Nat.le_refl _)
  have HG := Lib.hid hg1
  clear hR hc hv hva hg hE
  obtain ⟨nv, dv, hg0⟩ := hg1
  obtain ⟨na, nc, rfl, _, _⟩ := ownsRow_read hg0.names
  obtain ⟨g0, _, _, _⟩ := hg0.cell
  have sG := hg0.size
  clear hg0
  obtain ⟨N, hN⟩ : ∃ N, (nmG vs ax).length = N := ⟨_, rfl⟩
  rw [hN] at g0 hkl ha
  have HN := Lib.hid hN
  clear hN
  have hmk := make_bools N hkl w1
  have X0' := Blk.new w1 (boC (List.replicate N false)) 4
  have B0' : Below w1.heap.size w1 (w1.alloc (.cells (boC (List.replicate N false)).toArray 4)) := (Below.refl _ _).alloc (Nat.le_refl _) _
  obtain ⟨w2, hw2⟩ : ∃ w2, w1.alloc (.cells (boC (List.replicate N false)).toArray 4) = w2 := ⟨_, rfl⟩
  rw [hw2] at X0' B0' hmk
  have x1 := X0'.cell (j := a) (by simpa [boC] using ha)
  have x2 := X0'.frozen a
  have hxl := X0'.lt
  rw [boC_get (by simpa using ha)] at x1
  have X2 : Hid (Blk (w2.setCell ⟨w1.heap.size, a, none⟩ (.bool true)) w1.heap.size 4 (boC (oneS N a))) := by have h := X0'.set a (.bool true); rw [boC_set] at h; exact h
  have B2 := Lib.hid (HB1.out.trans ((B0'.setCell (p := ⟨w1.heap.size, a, none⟩) (Nat.le_refl _) (.bool true)).mono (Nat.le_of_lt s1)))
  have B3 := Lib.hid (B0'.setCell (p := ⟨w1.heap.size, a, none⟩) (Nat.le_refl _) (.bool true))
  clear hw2 X0' B0'
  go_enter Try.func33, Try.ntmps33
  go_wp2_with (rw [E1])
  refine relaxedN ao vs c b N ax w1.heap.size 0 N (oneS N a) _ _ (oneS_len N a) hl (HC.out.below B2.out) HV.out HVA.out (HG.out.below B3.out (Nat.le_refl _)) (by rw [HN.out]; exact oneS_len N a) X2.out.cellsAt ?_ ?_
  · intro h1 gf gb gs sc w3 hb hk
    have hB3 := B3.out.trans (hb.mono B3.out.size)
    have HB3 := Lib.hid (B2.out.trans (hb.mono B2.out.size))
    have hX3 := (hB3.block _ s1).trans X1.out
    have HK := Lib.hid hk
    have z0 := cell_of hX3 (j := 0) (v := .slice none 0 0) rfl
    have z1 := cell_of hX3 (j := 1) (v := .slice none 0 0) rfl
    have z2 := cell_of hX3 (j := 2) (v := .slice none 0 0) rfl
    have z3 := frozen_of hX3 0
    have z4 := frozen_of hX3 1
    have z5 := frozen_of hX3 2
    have zl : w.heap.size < w3.heap.size := lt_of_block hX3
    have HX3 := Lib.hid hX3
    have hgn : Hid (gf ≠ w.heap.size) := ne_types hk hX3 (by decide)
    clear hb hk hB3 hX3 h1 x1 x2 hxl g0
    rw [HN.out]
    go_wp2_with fail
    have hbx := heap_setCell_same _ w.heap.size 2 _ _ (.slice (some ⟨gs, 0, none⟩) N sc) (heap_setCell_same _ w.heap.size 1 _ _ (.slice (some ⟨gb, 0, none⟩) N N) (heap_setCell_same _ w.heap.size 0 _ _ (.slice (some ⟨gf, 0, none⟩) N N) HX3.out))
    have hb4 := ((HB3.out.setCell (p := ⟨w.heap.size, 0, none⟩) (Nat.le_refl _) (.slice (some ⟨gf, 0, none⟩) N N)).setCell (p := ⟨w.heap.size, 1, none⟩) (Nat.le_refl _) (.slice (some ⟨gb, 0, none⟩) N N)).setCell (p := ⟨w.heap.size, 2, none⟩) (Nat.le_refl _) (.slice (some ⟨gs, 0, none⟩) N sc)
    have hk4 := ((HK.out.other (a := ⟨w.heap.size, 0, none⟩) hgn.out (.slice (some ⟨gf, 0, none⟩) N N)).other (a := ⟨w.heap.size, 1, none⟩) hgn.out (.slice (some ⟨gb, 0, none⟩) N N)).other (a := ⟨w.heap.size, 2, none⟩) hgn.out (.slice (some ⟨gs, 0, none⟩) N sc)
    obtain ⟨w4, hw4⟩ : ∃ w4, ((w3.setCell ⟨w.heap.size, 0, none⟩ (.slice (some ⟨gf, 0, none⟩) N N)).setCell ⟨w.heap.size, 1, none⟩ (.slice (some ⟨gb, 0, none⟩) N N)).setCell ⟨w.heap.size, 2, none⟩ (.slice (some ⟨gs, 0, none⟩) N sc) = w4 := ⟨_, rfl⟩
    rw [hw4] at hbx hb4 hk4 ⊢
    have hb5 : Below w4.heap.size w4 (w4.alloc (.cells #[.slice (some ⟨gf, 0, none⟩) N N, .slice (some ⟨gb, 0, none⟩) N N, .slice (some ⟨gs, 0, none⟩) N sc] 87)) := (Below.refl _ _).alloc (Nat.le_refl _) _
    obtain ⟨w5, hw5⟩ : ∃ w5, w4.alloc (.cells #[.slice (some ⟨gf, 0, none⟩) N N, .slice (some ⟨gb, 0, none⟩) N N, .slice (some ⟨gs, 0, none⟩) N sc] 87) = w5 := ⟨_, rfl⟩
    rw [hw5] at hb5 ⊢
    have hx5 := (hb5.block w.heap.size (lt_of_block hbx)).trans hbx
    have t0 := cell_of hx5 (j := 0) (v := .slice (some ⟨gf, 0, none⟩) N N) rfl
    have t1 := cell_of hx5 (j := 1) (v := .slice (some ⟨gb, 0, none⟩) N N) rfl
    have t2 := cell_of hx5 (j := 2) (v := .slice (some ⟨gs, 0, none⟩) N sc) rfl
    have hB5 := hb4.trans (hb5.mono (hb4.size))
    have hK5 : Blk w5 gf 3 (I64s (frR vs ax a).1.far) := (hb5.block gf hk4.lt).trans (by rw [hF.out, HN.out]; exact hk4)
    clear hw4 hw5 hbx hb4 hk4 hb5 hx5
    refine bodyPost_ret (v := .agg #[.slice (some ⟨gf, 0, none⟩) N N, .slice (some ⟨gb, 0, none⟩) N N, .slice (some ⟨gs, 0, none⟩) N sc]) (by simp [results, Try.results33, go_sem, t0, t1, t2]) rfl ?_
    have h := HR.out gf gb gs sc w5 hB5 hK5
    rw [HN.out] at h; exact h
  · intro h1
    exfalso
    have h2 := hE'.out
    rw [HN.out, h1] at h2; cases h2
end Go.Proofs.Ytgngllgknimgkaa
namespace Go.Proofs.Ytgngllgknimgkaa
open Go.RowKit Go.Maps

/-- The ends of a distance. -/
def spL (vs : List Dm) (ax : Int) (s t : ByteArray) : Int := -(frR vs ax (pos (nmG vs ax) t)).1.f (pos (nmG vs ax) s)
def spH (vs : List Dm) (ax : Int) (s t : ByteArray) : Int := (frR vs ax (pos (nmG vs ax) s)).1.f (pos (nmG vs ax) t)
theorem wrap_near {x : Int} (h : -30000000000 ≤ x ∧ x ≤ 30000000000) : IntKind.i64.wrap (-x) = -x := by
  rw [IntKind.wrap_i64]; omega
theorem blk_box {w w' : World} {b n : Nat} {o : Obj} (h : w.heap[b]? = some o) (hb : Below n w w') (hn : b < n) : w'.heap[b]? = some o := (hb.block b hn).trans h
theorem run_far (x y z : Nat) (n m : Nat) (w : World) : (Instr.field 87 (.agg #[.slice (some ⟨x, 0, none⟩) n n, .slice (some ⟨y, 0, none⟩) n n, .slice (some ⟨z, 0, none⟩) n m]) 0).run Try.prog w = .ok (.slice (some ⟨x, 0, none⟩) n n) w := by kernel_rfl
set_option maxRecDepth 100000 in
set_option maxHeartbeats 8000000 in
theorem span_any (ao : Option Addr) (vs : List Dm) (c b : Nat) (ax : Int) (s t : ByteArray) (w : World) (R : Ending → World → Prop) (hl : vs.length ≤ 256) (hc : CellsAt w ao (dC vs)) (hv : DmsOk vs) (hva : ∀ j, j < vs.length → vaE (dAt vs j) = 0) (hg : GrX w b ao c vs ax)
   (hs : s ∈ nmG vs ax) (ht : t ∈ nmG vs ax) (hE : cfE vs ax = true)
   (hR : ∀ w', Below w.heap.size w w' → R (.returned (.agg #[.int .i64 (spL vs ax s t), .int .i64 (spH vs ax s t)])) w') :
    Calls Try.prog 22 #[.pointer (some ⟨b + 1, 0, none⟩), .string s, .string t] w R := by
  have HR := Lib.hid hR
  have HV := Lib.hid hv
  have HVA := Lib.hid hva
  have hP := pos_lt hs
  have hQ := pos_lt ht
  have hsz := nmG_size hv hs
  have htz := nmG_size hv ht
  have hE1 := Lib.hid (frR_ends hE (pos (nmG vs ax) s))
  have hE2 := Lib.hid (frR_ends hE (pos (nmG vs ax) t))
  have hw := wrap_near (frR_near (ax := ax) hl hva (pos (nmG vs ax) t) (pos (nmG vs ax) s))
  have hL : Hid (spL vs ax s t = -(frR vs ax (pos (nmG vs ax) t)).1.f (pos (nmG vs ax) s)) := rfl
  have hH : Hid (spH vs ax s t = (frR vs ax (pos (nmG vs ax) s)).1.f (pos (nmG vs ax) t)) := rfl
  obtain ⟨w1, E1, HB1, s1, X1⟩ := box_ex w #[.int .i64 0, .int .i64 0] 32
  have hg1 := hg.below HB1.out (Nat.le_refl _)
  have HG := Lib.hid hg1
  have HC := Lib.hid (hc.below HB1.out)
  obtain ⟨nv, dv, hg0⟩ := hg1
  obtain ⟨_, g1, _, _⟩ := hg0.cell
  have sG := hg0.size
  have hlf := fun n => (hg0.map.keep (w' := w1.drewN n) rfl).look (t := 62) Try.underlying9 Try.underlying62 (zeroI22 _) hsz
  have hlt := fun n => (hg0.map.keep (w' := w1.drewN n) rfl).look (t := 62) Try.underlying9 Try.underlying62 (zeroI22 _) htz
  rw [place_in (nmG_nodup vs ax) hs] at hlf
  rw [place_in (nmG_nodup vs ax) ht] at hlt
  simp only [Option.getD_some] at hlf hlt
  obtain ⟨p, hp⟩ : ∃ p, pos (nmG vs ax) s = p := ⟨_, rfl⟩
  obtain ⟨q, hq⟩ : ∃ q, pos (nmG vs ax) t = q := ⟨_, rfl⟩
  rw [hp] at hP hE1 hw hL hH hlf
  rw [hq] at hQ hE2 hw hL hH hlt
  obtain ⟨x, hx⟩ : ∃ x, (frR vs ax q).1.f p = x := ⟨_, rfl⟩
  obtain ⟨y, hy⟩ : ∃ y, (frR vs ax p).1.f q = y := ⟨_, rfl⟩
  rw [hx] at hw hL
  rw [hy] at hH
  have hx' := Lib.hid hx
  have hy' := Lib.hid hy
  have hP' := Lib.hid hP
  have hQ' := Lib.hid hQ
  clear hR hc hv hva hg hE hg0 hp hq hx hy hsz htz hs ht
  go_enter Try.func22, Try.ntmps22
  go_wp2_with (rw [E1])
  go_quiet (fail)
  have HB2' : Below w1.heap.size w1 (w1.drewN nq) := ⟨rfl, rfl, rfl, Nat.le_refl _, fun _ _ => rfl⟩
  have X2' : (w1.drewN nq).heap[w.heap.size]? = some (.cells #[.int .i64 0, .int .i64 0] 32 (0, 0)) := X1.out
  obtain ⟨w2, hw2⟩ : ∃ w2, w1.drewN nq = w2 := ⟨_, rfl⟩
  have hz2 : w2.heap.size = w1.heap.size := by rw [← hw2]; rfl
  rw [hw2] at HB2' X2' ⊢
  have HB2 := Lib.hid HB2'
  have X2 := Lib.hid X2'
  have HBB : Hid (Below w2.heap.size w2 w2.drew) := (Below.refl _ _).drew
  have HG2 := Lib.hid (HG.out.below HB2.out (Nat.le_refl _))
  have HC2 := Lib.hid (HC.out.below HB2.out)
  have s2 : w.heap.size < w2.heap.size := by omega
  clear hw2 HB2' X2' hlf hlt g1
  go_wp2_with fail
  have hrf := run_far
  have HB02 : Hid (Below w.heap.size w w2) := HB1.out.trans (HB2.out.mono (Nat.le_of_lt s1))
  have HB0D : Hid (Below w.heap.size w w2.drew) := HB02.out.drew
  go_region_with
    (first
      | ((fail_if_success (have gg := tA.out)); (fail_if_success (have gg := tB.out)); go_at_call 33; refine from_any ao vs c b q ax _ _ hl (HC2.out.below HBB.out) HV.out HVA.out (HG2.out.below HBB.out (Nat.le_refl _)) hQ hE2.out ?_; intro gA gA2 gA3 gA4 wA hb hk; have tA : Hid (Below w2.heap.size w2 wA) := HBB.out.trans (hb.mono HBB.out.size); have kA := far_cell hk hP'.out; have lA := hk.lt; have zA0 := cell_of (blk_box X2.out tA.out s2) (j := 0) rfl; have zA1 := cell_of (blk_box X2.out tA.out s2) (j := 1) rfl; have fA0 := frozen_of (blk_box X2.out tA.out s2) 0; have fA1 := frozen_of (blk_box X2.out tA.out s2) 1; rw [hx'.out] at kA; have uL := Lib.hid (HB02.out.trans (tA.out.mono (Nat.le_of_lt s2))); have XL := Lib.hid (blk_box X2.out tA.out s2); clear hb hk)
      | ((fail_if_success (have gg := tA.out)); (have gg := tB.out); go_at_call 33; refine from_any ao vs c b q ax _ _ hl (HC2.out.below tB.out) HV.out HVA.out (HG2.out.below tB.out (Nat.le_refl _)) hQ hE2.out ?_; intro gA gA2 gA3 gA4 wA hb hk; have tA : Hid (Below w2.heap.size w2 wA) := tB.out.trans (hb.mono tB.out.size); have kA := far_cell hk hP'.out; have kB' := cellB hb kB lB; have lA := hk.lt; have zA0 := cell_of (blk_box X2.out tA.out s2) (j := 0) rfl; have zA1 := cell_of (blk_box X2.out tA.out s2) (j := 1) rfl; have fA0 := frozen_of (blk_box X2.out tA.out s2) 0; have fA1 := frozen_of (blk_box X2.out tA.out s2) 1; rw [hx'.out] at kA; have uL := Lib.hid (HB02.out.trans (tA.out.mono (Nat.le_of_lt s2))); have XL := Lib.hid (blk_box X2.out tA.out s2); clear hb hk)
      | ((fail_if_success (have gg := tB.out)); (fail_if_success (have gg := tA.out)); go_at_call 33; refine from_any ao vs c b p ax _ _ hl (HC2.out.below HBB.out) HV.out HVA.out (HG2.out.below HBB.out (Nat.le_refl _)) hP hE1.out ?_; intro gB gB2 gB3 gB4 wB hb hk; have tB : Hid (Below w2.heap.size w2 wB) := HBB.out.trans (hb.mono HBB.out.size); have kB := far_cell hk hQ'.out; have lB := hk.lt; have zB0 := cell_of (blk_box X2.out tB.out s2) (j := 0) rfl; have zB1 := cell_of (blk_box X2.out tB.out s2) (j := 1) rfl; have fB0 := frozen_of (blk_box X2.out tB.out s2) 0; have fB1 := frozen_of (blk_box X2.out tB.out s2) 1; rw [hy'.out] at kB; have uL := Lib.hid (HB02.out.trans (tB.out.mono (Nat.le_of_lt s2))); have XL := Lib.hid (blk_box X2.out tB.out s2); clear hb hk)
      | ((fail_if_success (have gg := tB.out)); (have gg := tA.out); go_at_call 33; refine from_any ao vs c b p ax _ _ hl (HC2.out.below tA.out) HV.out HVA.out (HG2.out.below tA.out (Nat.le_refl _)) hP hE1.out ?_; intro gB gB2 gB3 gB4 wB hb hk; have tB : Hid (Below w2.heap.size w2 wB) := tA.out.trans (hb.mono tA.out.size); have kB := far_cell hk hQ'.out; have kA' := cellB hb kA lA; have lB := hk.lt; have zB0 := cell_of (blk_box X2.out tB.out s2) (j := 0) rfl; have zB1 := cell_of (blk_box X2.out tB.out s2) (j := 1) rfl; have fB0 := frozen_of (blk_box X2.out tB.out s2) 0; have fB1 := frozen_of (blk_box X2.out tB.out s2) 1; rw [hy'.out] at kB; have uL := Lib.hid (HB02.out.trans (tB.out.mono (Nat.le_of_lt s2))); have XL := Lib.hid (blk_box X2.out tB.out s2); clear hb hk))
  all_goals
    have hbx := heap_setCell_same _ w.heap.size 1 _ _ (.int .i64 y) (heap_setCell_same _ w.heap.size 0 _ _ (.int .i64 (-x)) XL.out)
    have t0 := cell_of hbx (j := 0) (v := .int .i64 (-x)) rfl
    have t1 := cell_of hbx (j := 1) (v := .int .i64 y) rfl
    have hB := (uL.out.setCell (p := ⟨w.heap.size, 0, none⟩) (Nat.le_refl _) (.int .i64 (-x))).setCell (p := ⟨w.heap.size, 1, none⟩) (Nat.le_refl _) (.int .i64 y)
    clear hbx
    go_wp2_with fail
    refine bodyPost_ret (v := .agg #[.int .i64 (-x), .int .i64 y]) (by simp [results, Try.results22, go_sem, t0, t1]) rfl ?_
    have h := HR.out _ hB
    rw [hL.out, hH.out] at h; exact h
end Go.Proofs.Ytgngllgknimgkaa
namespace Go.Proofs.Ytgngllgknimgkaa
open Go.RowKit Go.Maps

/-- The distance, and the number of the error. -/
def dsX (vs : List Dm) (ax : Int) (s t : ByteArray) : Int × Int × Int :=
  if giE vs ax = 0 then
    if (inK (nmG vs ax) s && inK (nmG vs ax) t) = true then
      if sameD s t = true then (0, 0, 7)
      else if jnX vs ax s t = true then
        if cfE vs ax = true then (spL vs ax s t, spH vs ax s t, 0) else (0, 0, 16)
      else (0, 0, 13)
    else (0, 0, 6)
  else (0, 0, giE vs ax)
theorem cfL_some {w : World} {base : Nat} {v : Value} {vs : List Dm} {ax : Int} (h : w.ownsRow base 111 2 v (cfL vs ax).length (pC (cfL vs ax))) : ∃ g n c, v = .slice (some ⟨g, 0, none⟩) n c := by
  have hp := cfL_pos vs ax
  rcases h.2 with ⟨_, h1⟩ | ⟨g, cap, cur, h1, _⟩
  · omega
  · exact ⟨g, _, cap, h1⟩
set_option maxRecDepth 100000 in
set_option maxHeartbeats 8000000 in
theorem distance_any (ao : Option Addr) (vs : List Dm) (c : Nat) (ax : Int) (s t : ByteArray) (w : World) (R : Ending → World → Prop) (hl : vs.length ≤ 9223372036854775807) (hc : CellsAt w ao (dC vs)) (hv : DmsOk vs) (hs : s.size ≤ 9223372036854775807) (ht : t.size ≤ 9223372036854775807)
   (hR : ∀ w', Below w.heap.size w w' → R (.returned (.tuple #[.agg #[.int .i64 (dsX vs ax s t).1, .int .i64 (dsX vs ax s t).2.1], .int .i64 (dsX vs ax s t).2.2])) w') :
    Calls Try.prog 7 #[.slice ao vs.length c, .string s, .string t, .int .i64 ax] w R := by
  have HR := Lib.hid hR
  have HV := Lib.hid hv
  obtain ⟨w1, E1, U1, s1, X1⟩ := box_ex w #[.int .i64 0, .int .i64 0] 32
  have HC1 := Lib.hid (hc.below U1.out)
  clear hR hc hv
  have hd : Hid (dsX vs ax s t = if giE vs ax = 0 then
    if (inK (nmG vs ax) s && inK (nmG vs ax) t) = true then
      if sameD s t = true then (0, 0, 7)
      else if jnX vs ax s t = true then
        if cfE vs ax = true then (spL vs ax s t, spH vs ax s t, 0) else (0, 0, 16)
      else (0, 0, 13)
    else (0, 0, 6)
  else (0, 0, giE vs ax)) := rfl
  obtain ⟨E, hE⟩ : ∃ E, giE vs ax = E := ⟨_, rfl⟩
  rw [hE] at hd
  have HE := Lib.hid hE
  clear hE
  go_enter Try.func7, Try.ntmps7
  go_wp2_with (rw [E1])
  refine given_any ao vs c ax _ _ hl HC1.out HV.out ?_
  rw [HE.out]
  intro w2 hb
  have V2 := Lib.hid hb
  have U2 := Lib.hid (U1.out.trans (hb.mono (Nat.le_of_lt s1)))
  have X2 := Lib.hid (blk_box X1.out hb s1)
  have s2 := lt_of_block X2.out
  clear hb E1
  by_cases h0 : E = 0
  · subst h0
    have hl2 := giE_len HE.out
    have HVA := Lib.hid (giE_all HE.out).2
    have hd1 := hd.out
    rw [if_pos rfl] at hd1
    have hd' := Lib.hid hd1
    clear hd1 hd
    go_wp2_with fail
    refine graphX_any ao vs c ax _ _ hl2 (HC1.out.below V2.out) HV.out ?_
    intro w3 hb hg
    have V3 := Lib.hid (V2.out.trans (hb.mono V2.out.size))
    have U3 := Lib.hid (U2.out.trans (hb.mono (Nat.le_of_lt s2)))
    have X3 := Lib.hid (blk_box X2.out hb s2)
    have s3 := lt_of_block X3.out
    have HG3 := Lib.hid hg
    have sV3 := V3.out.size
    have HC3 := Lib.hid (HC1.out.below V3.out)
    obtain ⟨nv, dv, hg0⟩ := hg
    obtain ⟨_, g1, _, _⟩ := hg0.cell
    have sG := hg0.size
    have hls := hg0.map.lookOk (t := 62) Try.underlying9 Try.underlying62 (zeroI22 _) hs
    have hlt := hg0.map.lookOk (t := 62) Try.underlying9 Try.underlying62 (zeroI22 _) ht
    rw [place_all (nmG_nodup vs ax)] at hls hlt
    obtain ⟨b1, hb1⟩ : ∃ b1, inK (nmG vs ax) s = b1 := ⟨_, rfl⟩
    obtain ⟨b2, hb2⟩ : ∃ b2, inK (nmG vs ax) t = b2 := ⟨_, rfl⟩
    rw [hb1] at hls hd'
    rw [hb2] at hlt hd'
    have Hb1 := Lib.hid hb1
    have Hb2 := Lib.hid hb2
    have hls' : ∃ x : Int, (Instr.lookup 62 (.map (some w2.heap.size)) (.string s) true).run Try.prog w3 = .ok (.tuple #[.int .i64 x, .bool b1]) w3 := by cases b1 <;> exact ⟨_, hls⟩
    have hlt' : ∃ x : Int, (Instr.lookup 62 (.map (some w2.heap.size)) (.string t) true).run Try.prog w3 = .ok (.tuple #[.int .i64 x, .bool b2]) w3 := by cases b2 <;> exact ⟨_, hlt⟩
    clear hls hlt hb hg0 hb1 hb2
    obtain ⟨x, hls⟩ := hls'
    obtain ⟨y, hlt⟩ := hlt'
    · skip
      cases b1 with
      | false =>
        have hX := hd'.out
        rw [Bool.false_and, if_neg (by simp)] at hX
        have hX := Lib.hid hX
        cases b2
        all_goals
          have z0 := cell_of X3.out (j := 0) rfl
          have z1 := cell_of X3.out (j := 1) rfl
          have f0 := frozen_of X3.out 0
          have f1 := frozen_of X3.out 1
          go_wp2_with fail
          have hbx := heap_setCell_same _ w.heap.size 1 _ _ (.int .i64 0) (heap_setCell_same _ w.heap.size 0 _ _ (.int .i64 0) X3.out)
          have t0 := cell_of hbx (j := 0) (v := .int .i64 0) rfl
          have t1 := cell_of hbx (j := 1) (v := .int .i64 0) rfl
          have hB := (U3.out.setCell (p := ⟨w.heap.size, 0, none⟩) (Nat.le_refl _) (.int .i64 0)).setCell (p := ⟨w.heap.size, 1, none⟩) (Nat.le_refl _) (.int .i64 0)
          clear hbx
          refine bodyPost_ret (v := .tuple #[.agg #[.int .i64 0, .int .i64 0], .int .i64 6]) (by simp [results, Try.results7, go_sem, t0, t1]) rfl ?_
          have h := HR.out _ hB
          rw [hX.out] at h; exact h
      | true =>
        cases b2 with
        | false =>
          have hX := hd'.out
          rw [Bool.and_false, if_neg (by simp)] at hX
          have hX := Lib.hid hX
          have z0 := cell_of X3.out (j := 0) rfl
          have z1 := cell_of X3.out (j := 1) rfl
          have f0 := frozen_of X3.out 0
          have f1 := frozen_of X3.out 1
          go_wp2_with fail
          have hbx := heap_setCell_same _ w.heap.size 1 _ _ (.int .i64 0) (heap_setCell_same _ w.heap.size 0 _ _ (.int .i64 0) X3.out)
          have t0 := cell_of hbx (j := 0) (v := .int .i64 0) rfl
          have t1 := cell_of hbx (j := 1) (v := .int .i64 0) rfl
          have hB := (U3.out.setCell (p := ⟨w.heap.size, 0, none⟩) (Nat.le_refl _) (.int .i64 0)).setCell (p := ⟨w.heap.size, 1, none⟩) (Nat.le_refl _) (.int .i64 0)
          clear hbx
          refine bodyPost_ret (v := .tuple #[.agg #[.int .i64 0, .int .i64 0], .int .i64 6]) (by simp [results, Try.results7, go_sem, t0, t1]) rfl ?_
          have h := HR.out _ hB
          rw [hX.out] at h; exact h
        | true =>
          have hX := hd'.out
          rw [Bool.and_true, if_pos rfl] at hX
          have hX1 := Lib.hid hX
          clear hX hd'
          have hs2 : s ∈ nmG vs ax := inK_iff.1 Hb1.out
          have ht2 : t ∈ nmG vs ax := inK_iff.1 Hb2.out
          have Hs2 := Lib.hid hs2
          have Ht2 := Lib.hid ht2
          clear hs2 ht2
          cases hst : sameD s t with
          | true =>
            have hq : (s.toList == t.toList) = true := hst
            have hX := hX1.out
            rw [if_pos hst] at hX
            have hX := Lib.hid hX
            clear hst
            have z0 := cell_of X3.out (j := 0) rfl
            have z1 := cell_of X3.out (j := 1) rfl
            have f0 := frozen_of X3.out 0
            have f1 := frozen_of X3.out 1
            go_wp2_with fail
            have hbx := heap_setCell_same _ w.heap.size 1 _ _ (.int .i64 0) (heap_setCell_same _ w.heap.size 0 _ _ (.int .i64 0) X3.out)
            have t0 := cell_of hbx (j := 0) (v := .int .i64 0) rfl
            have t1 := cell_of hbx (j := 1) (v := .int .i64 0) rfl
            have hB := (U3.out.setCell (p := ⟨w.heap.size, 0, none⟩) (Nat.le_refl _) (.int .i64 0)).setCell (p := ⟨w.heap.size, 1, none⟩) (Nat.le_refl _) (.int .i64 0)
            clear hbx
            refine bodyPost_ret (v := .tuple #[.agg #[.int .i64 0, .int .i64 0], .int .i64 7]) (by simp [results, Try.results7, go_sem, t0, t1]) rfl ?_
            have h := HR.out _ hB
            rw [hX.out] at h; exact h
          | false =>
            have hq : (s.toList == t.toList) = false := hst
            have hX := hX1.out
            rw [if_neg (by rw [hst]; simp)] at hX
            have hX2 := Lib.hid hX
            clear hst hX hX1
            go_wp2_with fail
            refine joined_any ao vs c _ ax s t _ _ hl2 HC3.out HV.out HG3.out hs ht ?_
            intro w4 hb
            have V4 := Lib.hid (V3.out.trans (hb.mono V3.out.size))
            have U4 := Lib.hid (U3.out.trans (hb.mono (Nat.le_of_lt s3)))
            have X4 := Lib.hid (blk_box X3.out hb s3)
            have s4 := lt_of_block X4.out
            have HG4 := Lib.hid (HG3.out.below hb (Nat.le_refl _))
            have HC4 := Lib.hid (HC3.out.below hb)
            clear hb hls hlt g1
            cases hj : jnX vs ax s t with
            | false =>
              have hX := hX2.out
              rw [if_neg (by rw [hj]; simp)] at hX
              have hX := Lib.hid hX
              clear hj
              have z0 := cell_of X4.out (j := 0) rfl
              have z1 := cell_of X4.out (j := 1) rfl
              have f0 := frozen_of X4.out 0
              have f1 := frozen_of X4.out 1
              go_wp2_with fail
              have hbx := heap_setCell_same _ w.heap.size 1 _ _ (.int .i64 0) (heap_setCell_same _ w.heap.size 0 _ _ (.int .i64 0) X4.out)
              have t0 := cell_of hbx (j := 0) (v := .int .i64 0) rfl
              have t1 := cell_of hbx (j := 1) (v := .int .i64 0) rfl
              have hB := (U4.out.setCell (p := ⟨w.heap.size, 0, none⟩) (Nat.le_refl _) (.int .i64 0)).setCell (p := ⟨w.heap.size, 1, none⟩) (Nat.le_refl _) (.int .i64 0)
              clear hbx
              refine bodyPost_ret (v := .tuple #[.agg #[.int .i64 0, .int .i64 0], .int .i64 13]) (by simp [results, Try.results7, go_sem, t0, t1]) rfl ?_
              have h := HR.out _ hB
              rw [hX.out] at h; exact h
            | true =>
              have hX := hX2.out
              rw [if_pos hj] at hX
              have hX3 := Lib.hid hX
              clear hj hX hX2
              go_wp2_with fail
              refine conflict_any ao vs c _ ax _ _ hl2 HC4.out HV.out HVA.out HG4.out ?_ ?_
              · intro hcf w5 hb
                have U5 := Lib.hid (U4.out.trans (hb.mono (Nat.le_of_lt s4)))
                have X5 := Lib.hid (blk_box X4.out hb s4)
                have s5 := lt_of_block X5.out
                have HG5 := Lib.hid (HG4.out.below hb (Nat.le_refl _))
                have HC5 := Lib.hid (HC4.out.below hb)
                have hX := hX3.out
                rw [if_pos hcf] at hX
                have hX := Lib.hid hX
                have Hcf := Lib.hid hcf
                clear hb hcf
                go_wp2_with fail
                refine span_any ao vs c _ ax s t _ _ hl2 HC5.out HV.out HVA.out HG5.out Hs2.out Ht2.out Hcf.out ?_
                intro w6 hb
                have U6 := Lib.hid (U5.out.trans (hb.mono (Nat.le_of_lt s5)))
                have X6 := Lib.hid (blk_box X5.out hb s5)
                obtain ⟨lo, hlo⟩ : ∃ lo, spL vs ax s t = lo := ⟨_, rfl⟩
                obtain ⟨hi, hhi⟩ : ∃ hi, spH vs ax s t = hi := ⟨_, rfl⟩
                have hX := hX.out
                rw [hlo, hhi] at hX ⊢
                have hX := Lib.hid hX
                clear hb hlo hhi
                have z0 := cell_of X6.out (j := 0) rfl
                have z1 := cell_of X6.out (j := 1) rfl
                have f0 := frozen_of X6.out 0
                have f1 := frozen_of X6.out 1
                go_wp2_with fail
                have hbx := heap_setCell_same _ w.heap.size 1 _ _ (.int .i64 hi) (heap_setCell_same _ w.heap.size 0 _ _ (.int .i64 lo) X6.out)
                have t0 := cell_of hbx (j := 0) (v := .int .i64 lo) rfl
                have t1 := cell_of hbx (j := 1) (v := .int .i64 hi) rfl
                have hB := (U6.out.setCell (p := ⟨w.heap.size, 0, none⟩) (Nat.le_refl _) (.int .i64 lo)).setCell (p := ⟨w.heap.size, 1, none⟩) (Nat.le_refl _) (.int .i64 hi)
                clear hbx
                refine bodyPost_ret (v := .tuple #[.agg #[.int .i64 lo, .int .i64 hi], .int .i64 0]) (by simp [results, Try.results7, go_sem, t0, t1]) rfl ?_
                have h := HR.out _ hB
                rw [hX.out] at h; exact h
              · intro hcf v w5 hb ho
                have U5 := Lib.hid (U4.out.trans (hb.mono (Nat.le_of_lt s4)))
                have X5 := Lib.hid (blk_box X4.out hb s4)
                have hX := hX3.out
                rw [if_neg (by rw [hcf]; simp)] at hX
                have hX := Lib.hid hX
                obtain ⟨g, n, c', rfl⟩ := cfL_some ho
                clear hb hcf ho
                have z0 := cell_of X5.out (j := 0) rfl
                have z1 := cell_of X5.out (j := 1) rfl
                have f0 := frozen_of X5.out 0
                have f1 := frozen_of X5.out 1
                go_wp2_with fail
                have hbx := heap_setCell_same _ w.heap.size 1 _ _ (.int .i64 0) (heap_setCell_same _ w.heap.size 0 _ _ (.int .i64 0) X5.out)
                have t0 := cell_of hbx (j := 0) (v := .int .i64 0) rfl
                have t1 := cell_of hbx (j := 1) (v := .int .i64 0) rfl
                have hB := (U5.out.setCell (p := ⟨w.heap.size, 0, none⟩) (Nat.le_refl _) (.int .i64 0)).setCell (p := ⟨w.heap.size, 1, none⟩) (Nat.le_refl _) (.int .i64 0)
                clear hbx
                refine bodyPost_ret (v := .tuple #[.agg #[.int .i64 0, .int .i64 0], .int .i64 16]) (by simp [results, Try.results7, go_sem, t0, t1]) rfl ?_
                have h := HR.out _ hB
                rw [hX.out] at h; exact h
  · have K : (E != 0) = true := by simpa using h0
    have hX := hd.out
    rw [if_neg h0] at hX
    have hX := Lib.hid hX
    clear h0 hd
    have z0 := cell_of X2.out (j := 0) rfl
    have z1 := cell_of X2.out (j := 1) rfl
    have f0 := frozen_of X2.out 0
    have f1 := frozen_of X2.out 1
    go_wp2_with fail
    have hbx := heap_setCell_same _ w.heap.size 1 _ _ (.int .i64 0) (heap_setCell_same _ w.heap.size 0 _ _ (.int .i64 0) X2.out)
    have t0 := cell_of hbx (j := 0) (v := .int .i64 0) rfl
    have t1 := cell_of hbx (j := 1) (v := .int .i64 0) rfl
    have hB := (U2.out.setCell (p := ⟨w.heap.size, 0, none⟩) (Nat.le_refl _) (.int .i64 0)).setCell (p := ⟨w.heap.size, 1, none⟩) (Nat.le_refl _) (.int .i64 0)
    clear hbx
    refine bodyPost_ret (v := .tuple #[.agg #[.int .i64 0, .int .i64 0], .int .i64 E]) (by simp [results, Try.results7, go_sem, t0, t1]) rfl ?_
    have h := HR.out _ hB
    rw [hX.out] at h; exact h
end Go.Proofs.Ytgngllgknimgkaa
namespace Go.Proofs.Ytgngllgknimgkaa
open Go.RowKit Go.Maps

theorem Try.infoDm : (Try.prog.info? 44).map (fun i => (i.zero, i.size, i.bytes)) = some (some (.agg #[.string ⟨#[]⟩, .string ⟨#[]⟩, .int .i64 0, .int .i64 0, .int .i64 0]), 5, 56) := by kernel_rfl
theorem eqNilD (w : World) (a : Option Addr) (n c : Nat) : (binOp .eql 22 (.slice a n c) (.slice none 0 0)).run Try.prog w = .ok (.bool a.isNone) w :=
  Lib.run_eql_slice_nil w 22 44 a n c 0 0 Try.underlying22
theorem dC_one (vs : List Dm) : ∀ u ∈ dC vs, u.oneCell' = true := by
  intro u hu
  obtain ⟨x, _, hx⟩ := List.mem_flatMap.1 hu
  simp [Dm.cells] at hx
  rcases hx with rfl | rfl | rfl | rfl | rfl <;> rfl
/-- clear of one dimension. -/
def zC : List Value := [.string ⟨#[]⟩, .string ⟨#[]⟩, .int .i64 0, .int .i64 0, .int .i64 0]
theorem zeroD (w : World) : (zeroValue 44).run Try.prog w = .ok (.agg #[.string ⟨#[]⟩, .string ⟨#[]⟩, .int .i64 0, .int .i64 0, .int .i64 0]) w := by kernel_rfl
theorem run_clearD (w : World) (ty : TypeId) (b o c : Nat) (hc : ∀ j, j < 5 → (w.cell? ⟨b, o + j, none⟩).isSome = true) (hf : ∀ j, j < 5 → w.frozen? ⟨b, o + j, none⟩ = false) :
    (Builtin.clear_ #[22] ty #[.slice (some ⟨b, o, none⟩) 1 c]).run Try.prog w = .ok (.tuple #[]) (w.setCells b o zC) := by
  have hzc : (Builtin.zeroCells (Value.cells (.agg #[.string ⟨#[]⟩, .string ⟨#[]⟩, .int .i64 0, .int .i64 0, .int .i64 0])) 1).toList = zC := by kernel_rfl
  have hst := run_storeCells_cells (P := Try.prog) b o zC 0 w (by simpa [zC] using hc) (by simpa [zC] using hf) (by simp [zC]; decide)
  simp only [Nat.add_zero] at hst
  simp [Builtin.clear_, run_underlying Try.underlying22, hzc, hst]
def wo (vs : List Dm) (i : Nat) : List Dm := vs.take i ++ vs.drop (i + 1)
theorem wo_len {vs : List Dm} {i : Nat} (h : i < vs.length) : (wo vs i).length = vs.length - 1 := by
  unfold wo; rw [List.length_append, List.length_take, List.length_drop]; omega
end Go.Proofs.Ytgngllgknimgkaa
namespace Go.Proofs.Ytgngllgknimgkaa
open Go.RowKit Go.Maps

theorem wo_at {vs : List Dm} {i j : Nat} (hi : i < vs.length) (_hj : j < (wo vs i).length) : dAt (wo vs i) j = dAt vs (if j < i then j else j + 1) := by
  have hl := wo_len hi
  unfold wo dAt
  rw [List.getD_eq_getElem?_getD, List.getD_eq_getElem?_getD]
  by_cases h : j < i
  · rw [if_pos h, List.getElem?_append_left (by rw [List.length_take]; omega), List.getElem?_take, if_pos h]
  · rw [if_neg h, List.getElem?_append_right (by rw [List.length_take]; omega), List.length_take, Nat.min_eq_left (by omega), List.getElem?_drop]
    congr 2
    omega
theorem wo_all {vs : List Dm} {i : Nat} (hi : i < vs.length) {Q : Dm → Prop} (h : ∀ j, j < vs.length → Q (dAt vs j)) : ∀ j, j < (wo vs i).length → Q (dAt (wo vs i) j) := fun j hj => by
  rw [wo_at hi hj]
  have := wo_len hi
  exact h _ (by split <;> omega)
/-- Walks are carried along. -/
theorem Wk.carry {A A' : List Ar} {f : Nat → Nat} (h : ∀ x ∈ A', ∃ y ∈ A, y.a = f x.a ∧ y.b = f x.b ∧ y.w = x.w) {a b k : Nat} {c : Int} (hw : Wk A' a b k c) : Wk A (f a) (f b) k c := by
  induction hw with
  | nil a => exact Wk.nil _
  | cons hx _ ih =>
    obtain ⟨y, hy, e1, e2, e3⟩ := h _ hx
    rw [← e2] at ih
    have := Wk.cons hy ih
    rw [e1, e3] at this
    exact this
theorem NoNeg.carry {A A' : List Ar} {f : Nat → Nat} (hN : NoNeg A) (h : ∀ x ∈ A', ∃ y ∈ A, y.a = f x.a ∧ y.b = f x.b ∧ y.w = x.w) : NoNeg A' := fun _a _k _c hw => hN _ _ _ (hw.carry h)
/-- A place of one list's names in another list's. -/
def moved (us vs : List Dm) (ax : Int) (p : Nat) : Nat := pos (nmG vs ax) (kAt (nmG us ax) p)
theorem moved_arcs {us vs : List Dm} {ax : Int} (h : ∀ j, onD us ax j → ∃ i, onD vs ax i ∧ dAt us j = dAt vs i) : ∀ x ∈ arX us ax, ∃ y ∈ arX vs ax, y.a = moved us vs ax x.a ∧ y.b = moved us vs ax x.b ∧ y.w = x.w := by
  intro x hx
  obtain ⟨j, hj, e⟩ := arX_mem.1 hx
  obtain ⟨i, hi, hd⟩ := h j hj
  have h1 : moved us vs ax (pF us ax j) = pF vs ax i := by unfold moved; rw [pF_name hj, hd]; rfl
  have h2 : moved us vs ax (pT us ax j) = pT vs ax i := by unfold moved; rw [pT_name hj, hd]; rfl
  rcases e with rfl | rfl
  · exact ⟨_, arX_mem.2 ⟨i, hi, .inl rfl⟩, h1.symm, h2.symm, by rw [hd]⟩
  · exact ⟨_, arX_mem.2 ⟨i, hi, .inr rfl⟩, h2.symm, h1.symm, by rw [hd]⟩
theorem wo_on {vs : List Dm} {i : Nat} (hi : i < vs.length) (ax : Int) : ∀ j, onD (wo vs i) ax j → ∃ m, onD vs ax m ∧ dAt (wo vs i) j = dAt vs m := fun j hj => by
  have e := wo_at hi hj.1
  have hl := wo_len hi
  have h1 := hj.1
  refine ⟨_, ⟨?_, by rw [← e]; exact hj.2⟩, e⟩
  split <;> omega
theorem cfE_wo {vs : List Dm} {ax : Int} {i : Nat} (hi : i < vs.length) (h : cfE vs ax = true) : cfE (wo vs i) ax = true :=
  (cfE_iff _ _).2 (((cfE_iff _ _).1 h).carry (moved_arcs (wo_on hi ax)))
/-- Implied dimensions. -/
def imQ (vs : List Dm) (ax : Int) (k : Nat) : Bool :=
  (dAt vs k).x == ax && (jnX (wo vs k) ax (dAt vs k).f (dAt vs k).t && (decide ((dAt vs k).l ≤ spL (wo vs k) ax (dAt vs k).f (dAt vs k).t) && decide (spH (wo vs k) ax (dAt vs k).f (dAt vs k).t ≤ (dAt vs k).h)))
def imF (vs : List Dm) (ax : Int) : Nat → List Nat
  | 0 => []
  | k + 1 => if imQ vs ax k = true then imF vs ax k ++ [k] else imF vs ax k
theorem imF_len (vs : List Dm) (ax : Int) : ∀ k, (imF vs ax k).length ≤ k
  | 0 => Nat.le_refl _
  | k + 1 => by
    have := imF_len vs ax k
    rw [imF]
    split
    · rw [List.length_append]; simp; omega
    · omega
def imE (vs : List Dm) (ax : Int) : Int := if giE vs ax = 0 then (if cfE vs ax = true then 0 else 16) else giE vs ax
def imX (vs : List Dm) (ax : Int) : List Nat := if giE vs ax = 0 then (if cfE vs ax = true then imF vs ax vs.length else []) else []
theorem jnX_mem {vs : List Dm} {ax : Int} {s t : ByteArray} (h : jnX vs ax s t = true) : s ∈ nmG vs ax ∧ t ∈ nmG vs ax := by
  unfold jnX at h
  rw [Bool.and_eq_true, Bool.and_eq_true] at h
  exact ⟨inK_iff.1 h.1.1, inK_iff.1 h.1.2⟩
theorem graphN_any (ao : Option Addr) (vs : List Dm) (n c : Nat) (ax : Int) (w : World) (R : Ending → World → Prop) (hn : vs.length = n) (hl : vs.length ≤ 256) (hc : CellsAt w ao (dC vs)) (hv : DmsOk vs)
   (hR : ∀ w', Below w.heap.size w w' → GrX w' w.heap.size ao c vs ax → R (.returned (.pointer (some ⟨w.heap.size + 1, 0, none⟩))) w') :
    Calls Try.prog 19 #[.slice ao n c, .int .i64 ax] w R := by
  subst hn
  exact graphX_any ao vs c ax w R hl hc hv hR
end Go.Proofs.Ytgngllgknimgkaa
namespace Go.Proofs.Ytgngllgknimgkaa
open Go.RowKit Go.Maps

end Go.Proofs.Ytgngllgknimgkaa
namespace Go.Proofs.Ytgngllgknimgkaa
open Go.RowKit Go.Maps

theorem cell22 {w : World} {b : Nat} {cs : Array Value} {e : TypeId} (h : w.heap[b]? = some (.cells cs e (0, 0))) {j : Nat} {v : Value} (hj : cs[j]? = some v) : w.cell? ⟨b, j, none⟩ = some v := by
  simp [World.cell?, h, hj]
theorem frozen22 {w : World} {b : Nat} {cs : Array Value} {e : TypeId} (h : w.heap[b]? = some (.cells cs e (0, 0))) (j : Nat) : w.frozen? ⟨b, j, none⟩ = false := by
  simp [World.frozen?, h]
theorem zeroB22 (w : World) : (zeroValue 4).run Try.prog w = .ok (.bool false) w := by kernel_rfl
def SeenF (vs : List Dm) (ls : List Sp) (k : Nat) (f : SMap) : Prop := ∀ p, f p = if snF vs ls k p = true then some (.bool true) else none
theorem SeenF.put {vs : List Dm} {ls : List Sp} {k : Nat} {f : SMap} (h : SeenF vs ls k f) : SeenF vs ls (k + 1) (f.put (enF vs (pAt ls k)) (.bool true)) := fun p => by
  unfold SMap.put
  rw [snF]
  by_cases e : p = enF vs (pAt ls k)
  · rw [if_pos e, e, if_pos (by simp [sameD])]
  · rw [if_neg e, h p]
    have : sameD (enF vs (pAt ls k)) p = false := sameB_no.2 (fun e' => e e'.symm)
    rw [this, Bool.or_false]
theorem enF_size {vs : List Dm} (hv : DmsOk vs) {s : Sp} (hk : knS vs.length s = true) : (enF vs s).size ≤ maxLen := by
  obtain ⟨h0, h1⟩ := knS_iff.1 hk
  have h := hv s.i.toNat (by omega)
  unfold enF
  split
  · exact h.2
  · exact h.1
theorem StV.put {W W' : World} {Bl b k : Nat} {lv : Value} {s u : Sp} {f f' : SMap} (h : StV W Bl b lv s k f) (hg : W.grownBy W' (some (b + 1))) (hm : MapIs Try.prog 9 W' (b + 1) (k + 1) f') :
    StV ((W'.setCell ⟨b, 0, none⟩ (.int .i64 u.i)).setCell ⟨b, 1, none⟩ (.bool u.b)) Bl b lv u (k + 1) f' := by
  have hs := h.size
  have hlo := h.lo
  have bb := (hg.block b (by omega) (by intro e; have := Option.some.inj e; omega)).trans h.bb
  have hl : W'.cell? ⟨Bl, 0, none⟩ = some lv := (World.cell?_of_block (hg.block Bl (by omega) (by intro e; have := Option.some.inj e; omega))).trans h.l
  refine ⟨?_, ?_, hm.keep ?_, hlo⟩
  · exact (World.cell?_of_block ((Below.heap_setCell _ _ _ _ (by show Bl ≠ b; omega)).trans (Below.heap_setCell _ _ _ _ (by show Bl ≠ b; omega)))).trans hl
  · exact heap_setCell_same _ b 1 _ _ _ (heap_setCell_same _ b 0 _ _ _ bb)
  · exact (Below.heap_setCell _ _ _ _ (by show b + 1 ≠ b; omega)).trans (Below.heap_setCell _ _ _ _ (by show b + 1 ≠ b; omega))
end Go.Proofs.Ytgngllgknimgkaa
namespace Go.Proofs.Ytgngllgknimgkaa
open Go.RowKit Go.Maps

theorem snF_iff (vs : List Dm) (ls : List Sp) (p : ByteArray) : ∀ k, snF vs ls k p = true ↔ ∃ j, j < k ∧ sameD (enF vs (pAt ls j)) p = true
  | 0 => by simp [snF]
  | k + 1 => by
    rw [snF, Bool.or_eq_true, snF_iff vs ls p k]
    constructor
    · rintro (⟨j, h1, h2⟩ | h)
      · exact ⟨j, by omega, h2⟩
      · exact ⟨k, by omega, h⟩
    · rintro ⟨j, h1, h2⟩
      by_cases e : j = k
      · subst e; exact .inr h2
      · exact .inl ⟨j, by omega, h2⟩
end Go.Proofs.Ytgngllgknimgkaa
namespace Go.Proofs.Ytgngllgknimgkaa
open Go.RowKit Go.Maps

structure Ps where
  n : ByteArray
  a : Int
def Ps.cells (x : Ps) : List Value := [.string x.n, .int .i64 x.a]
def Ps.zero : Ps := ⟨⟨#[]⟩, 0⟩
def poC (xs : List Ps) : List Value := xs.flatMap Ps.cells
theorem poC_length (xs : List Ps) : (poC xs).length = xs.length * 2 := by
  induction xs with
  | nil => rfl
  | cons b bs ih => show (b.cells ++ poC bs).length = _; rw [List.length_append, ih]; simp [Ps.cells]; omega
def psAt (xs : List Ps) (i : Nat) : Ps := xs.getD i Ps.zero
theorem poC_get (xs : List Ps) : ∀ (i : Nat), i < xs.length → (poC xs)[i * 2]? = some (.string (psAt xs i).n) ∧ (poC xs)[i * 2 + 1]? = some (.int .i64 (psAt xs i).a) := by
  induction xs with
  | nil => intro i hi; exact absurd hi (by simp)
  | cons b bs ih =>
    intro i hi
    cases i with
    | zero => exact ⟨rfl, rfl⟩
    | succ i =>
      have h := ih i (by simpa using hi)
      rw [show (i + 1) * 2 = i * 2 + 2 from by omega]
      exact h
theorem poC_set (xs : List Ps) : ∀ (i : Nat) (x : Ps), i < xs.length → ((poC xs).set (i * 2) (.string x.n)).set (i * 2 + 1) (.int .i64 x.a) = poC (xs.set i x) := by
  induction xs with
  | nil => intro i x hi; exact absurd hi (by simp)
  | cons b bs ih =>
    intro i x hi
    cases i with
    | zero => rfl
    | succ i =>
      have h := ih i x (by simpa using hi)
      rw [show (i + 1) * 2 = i * 2 + 2 from by omega]
      show b.cells ++ _ = b.cells ++ poC (bs.set i x)
      rw [← h]; rfl
/-- The position of a place. -/
def poP (vs : List Dm) (ax : Int) (v : Nat) : Ps := ⟨kAt (nmG vs ax) v, (frR vs ax (nAt (grG vs ax) v)).1.f v⟩
/-- The positions of the groups below k, and of the first m places of group k. -/
def soL (vs : List Dm) (ax : Int) (k m : Nat) : List Ps :=
  (List.range (nmG vs ax).length).map fun v => if nAt (grG vs ax) v < k ∨ (nAt (grG vs ax) v = k ∧ v < m) then poP vs ax v else Ps.zero
def soX (vs : List Dm) (ax : Int) : List Ps := (List.range (nmG vs ax).length).map (poP vs ax)
theorem soL_len (vs : List Dm) (ax : Int) (k m : Nat) : (soL vs ax k m).length = (nmG vs ax).length := by simp [soL]
theorem soL_start (vs : List Dm) (ax : Int) : soL vs ax 0 0 = List.replicate (nmG vs ax).length Ps.zero := by
  unfold soL
  apply List.ext_getElem
  · simp
  · intro i h1 h2
    simp
theorem soL_next {vs : List Dm} {ax : Int} {k m : Nat} (hm : (nmG vs ax).length ≤ m) : soL vs ax k m = soL vs ax (k + 1) 0 := by
  unfold soL
  refine List.map_congr_left fun v hv => ?_
  have hv' := List.mem_range.1 hv
  by_cases h : nAt (grG vs ax) v < k ∨ (nAt (grG vs ax) v = k ∧ v < m)
  · rw [if_pos h, if_pos (by omega)]
  · rw [if_neg h, if_neg (by omega)]
theorem soL_skip {vs : List Dm} {ax : Int} {k : Nat} (hk : nAt (grG vs ax) k ≠ k) : soL vs ax k 0 = soL vs ax (k + 1) 0 := by
  unfold soL
  refine List.map_congr_left fun v hv => ?_
  have hv' := List.mem_range.1 hv
  have hne : nAt (grG vs ax) v ≠ k := fun e => hk (by rw [← e]; exact grG_idem hv')
  by_cases h : nAt (grG vs ax) v < k
  · rw [if_pos (.inl h), if_pos (.inl (by omega))]
  · rw [if_neg (by omega), if_neg (by omega)]
theorem soL_put {vs : List Dm} {ax : Int} {k m : Nat} (_hm : m < (nmG vs ax).length) (hk : nAt (grG vs ax) m = k) : (soL vs ax k m).set m ⟨kAt (nmG vs ax) m, (frR vs ax k).1.f m⟩ = soL vs ax k (m + 1) := by
  apply List.ext_getElem
  · simp [soL]
  · intro i h1 h2
    rw [List.getElem_set]
    by_cases e : m = i
    · subst e
      rw [if_pos rfl]
      simp only [soL, List.getElem_map, List.getElem_range]
      rw [if_pos (by omega)]
      unfold poP
      rw [hk]
    · rw [if_neg e]
      simp only [soL, List.getElem_map, List.getElem_range]
      by_cases h : nAt (grG vs ax) i < k ∨ (nAt (grG vs ax) i = k ∧ i < m)
      · rw [if_pos h, if_pos (by omega)]
      · rw [if_neg h, if_neg (by omega)]
theorem soL_stay {vs : List Dm} {ax : Int} {k m : Nat} (hk : nAt (grG vs ax) m ≠ k) : soL vs ax k m = soL vs ax k (m + 1) := by
  unfold soL
  refine List.map_congr_left fun v _ => ?_
  by_cases h : nAt (grG vs ax) v < k ∨ (nAt (grG vs ax) v = k ∧ v < m)
  · rw [if_pos h, if_pos (by omega)]
  · rw [if_neg h, if_neg (by
      rintro (h2 | ⟨h2, h3⟩)
      · exact h (.inl h2)
      · by_cases e : v = m
        · subst e; exact hk h2
        · exact h (.inr ⟨h2, by omega⟩))]
theorem soL_end (vs : List Dm) (ax : Int) : soL vs ax (nmG vs ax).length 0 = soX vs ax := by
  unfold soL soX
  refine List.map_congr_left fun v hv => ?_
  rw [if_pos (.inl (grG_lt (List.mem_range.1 hv)))]
end Go.Proofs.Ytgngllgknimgkaa
namespace Go.Proofs.Ytgngllgknimgkaa
open Go.RowKit Go.Maps

def keyI (x : Int) : Lit := .int .i64 x
theorem keyI_inj {x y : Int} (h : keyI x = keyI y) : x = y := by unfold keyI at h; cases h; rfl
abbrev IMap := Int → Option Value
def IMap.put (f : IMap) (x : Int) (v : Value) : IMap := fun y => if y = x then some v else f y
/-- Block b of w is a map of at most n entries, which is f. -/
def IMapIs (P : Program) (k : TypeId) (w : World) (b n : Nat) (f : IMap) : Prop :=
  ∃ D : DataW Value, w.ownsMap P k heldR b n D ∧ ∀ x z, D.atKey (keyI x) z = match f x with | some v => .held v | none => z
section
variable {P : Program} {k t e : TypeId} {w w' : World} {b n : Nat} {f : IMap}
theorem imapIs_made (w : World) : IMapIs P k (w.alloc (.map #[] 0)) w.heap.size 0 (fun _ => none) :=
  ⟨.map [], World.ownsMap_made w P k heldR, fun _ _ => rfl⟩
theorem IMapIs.lt (h : IMapIs P k w b n f) : b < w.heap.size := by obtain ⟨D, h1, _⟩ := h; exact h1.lt
theorem IMapIs.keep (h : IMapIs P k w b n f) (hb : w'.heap[b]? = w.heap[b]?) : IMapIs P k w' b n f := by
  obtain ⟨D, ⟨es, clock, h1, h3⟩, h2⟩ := h
  exact ⟨D, ⟨es, clock, hb.trans h1, h3⟩, h2⟩
theorem IMapIs.mono (h : IMapIs P k w b n f) {n' : Nat} (hn : n ≤ n') : IMapIs P k w b n' f := by
  obtain ⟨D, h1, h2⟩ := h; exact ⟨D, h1.mono hn, h2⟩
theorem IMapIs.look (h : IMapIs P k w b n f) (hk : P.underlying k = some (.int .i64)) (ht : P.underlying t = some (.map k e)) {z : Value} (hz : (zeroValue e).run P w = .ok z w) {x : Int} (hx : (Lit.int .i64 x).wf = true) :
    (Instr.lookup t (.map (some b)) (.int .i64 x) false).run P w = .ok ((f x).getD z) w := by
  obtain ⟨D, h1, h2⟩ := h
  obtain ⟨v, ps, hrun, hv⟩ := h1.lookup (int_keyed hk) ht hz (zd := .held z) rfl (Maps.keyOf_int_mk hk hx)
  rw [hrun]
  rw [show (Lit.int .i64 x) = keyI x from rfl, h2 x (.held z)] at hv
  cases hf : f x with
  | none =>
    rw [hf] at hv
    simp only [heldR, Option.some.injEq, Prod.mk.injEq, DataW.held.injEq] at hv
    rw [hv.1]; rfl
  | some u =>
    rw [hf] at hv
    simp only [heldR, Option.some.injEq, Prod.mk.injEq, DataW.held.injEq] at hv
    rw [hv.1]; rfl
theorem iput_view {D : DataW Value} (hD : IsMap D) (h2 : ∀ x z, D.atKey (keyI x) z = match f x with | some v => .held v | none => z) (x : Int) (v : Value) :
    ∀ y z, (D.put (keyI x) (.held v)).atKey (keyI y) z = match f.put x v y with | some v => .held v | none => z := by
  intro y z
  unfold IMap.put
  by_cases e : y = x
  · subst e; rw [if_pos rfl]; exact atKey_put_same (k := keyI y) hD trivial _ _
  · rw [if_neg e, atKey_put_other (fun h => e (keyI_inj h)), h2]
theorem wp_imapStore (w : World) {ops : Array Oper} {rest : List Oper} {o : Oper} {a : Act} {Q : Exit → Act → World → Prop}
    (hg : o.guard = none) (m x v : Operand) (t : TypeId) (hop : o.op = Op.mapUpdate t m x v) (k e : TypeId) (hk : P.underlying k = some (.int .i64)) (ht : P.underlying t = some (.map k e)) (b n : Nat) (f : IMap)
    (hm : a.eval m = .map (some b)) (h : IMapIs P k w b n f) (hn : n < maxLen) (s : Int) (val : Value) (hx : a.eval x = .int .i64 s) (hv : a.eval v = val) (hs : (Lit.int .i64 s).wf = true)
    (hK : ∀ w', IMapIs P k w' b (n + 1) (f.put s val) → w.grownBy w' (some b) → wpList P ops Q rest (a.put o.dst undef) w') :
    wpList P ops Q (o :: rest) a w := by
  obtain ⟨D, h1, h2⟩ := h
  exact wpList_mapUpdate_own w hg m x v t hop k e (int_keyed hk) ht heldR b n D hm h1 hn (.int .i64 s) val (keyI s) hx hv (Maps.keyOf_int_mk hk hs) (.held val) [] rfl
    fun w' h3 h4 => hK w' ⟨_, h3, iput_view h1.isMap h2 s val⟩ h4
end

/-! ### slices of slices -/
def vAt (l : List Value) (j : Nat) : Value := l.getD j (.slice none 0 0)
def rAt (l : List (List ByteArray)) (j : Nat) : List ByteArray := l.getD j []
structure NsAt (W : World) (base : Nat) (ov : Value) (vals : List Value) (rows : List (List ByteArray)) : Prop where
  len : vals.length = rows.length
  out : W.ownsRow base 61 1 ov vals.length vals
  row : ∀ j, j < rows.length → W.ownsRow base 9 1 (vAt vals j) (rAt rows j).length (sC (rAt rows j))
  apart : ∀ i j, i ≠ j → i < rows.length → j < rows.length → (vAt vals i).ownBlock = none ∨ (vAt vals i).ownBlock ≠ (vAt vals j).ownBlock
section
variable {W W' : World} {base : Nat} {ov v : Value} {vals : List Value} {rows : List (List ByteArray)}
theorem NsAt.nil (W : World) (base : Nat) : NsAt W base (.slice none 0 0) [] [] :=
  ⟨rfl, World.ownsRow_nil _ _ _ _, fun j h => absurd h (by simp), fun i j _ h => absurd h (by simp)⟩
theorem NsAt.below (h : NsAt W base ov vals rows) (hb : Below W.heap.size W W') : NsAt W' base ov vals rows :=
  ⟨h.len, ownsRow_below h.out hb, fun j hj => ownsRow_below (h.row j hj) hb, h.apart⟩
theorem vAt_app {a b : List Value} {j : Nat} (h : j < a.length) : vAt (a ++ b) j = vAt a j := by
  unfold vAt; rw [List.getD_eq_getElem?_getD, List.getElem?_append_left h, List.getD_eq_getElem?_getD]
theorem rAt_app {a b : List (List ByteArray)} {j : Nat} (h : j < a.length) : rAt (a ++ b) j = rAt a j := by
  unfold rAt; rw [List.getD_eq_getElem?_getD, List.getElem?_append_left h, List.getD_eq_getElem?_getD]
theorem vAt_new (a : List Value) (x : Value) : vAt (a ++ [x]) a.length = x := by
  unfold vAt; rw [List.getD_eq_getElem?_getD, List.getElem?_append_right (Nat.le_refl _), Nat.sub_self]; rfl
theorem rAt_new (a : List (List ByteArray)) (x : List ByteArray) : rAt (a ++ [x]) a.length = x := by
  unfold rAt; rw [List.getD_eq_getElem?_getD, List.getElem?_append_right (Nat.le_refl _), Nat.sub_self]; rfl
theorem vAt_set {a : List Value} {i j : Nat} {x : Value} (h : i < a.length) : vAt (a.set i x) j = if j = i then x else vAt a j := by
  unfold vAt
  rw [List.getD_eq_getElem?_getD, List.getElem?_set]
  by_cases e : i = j
  · subst e; rw [if_pos rfl, if_pos h, if_pos rfl]; rfl
  · rw [if_neg e, if_neg (fun e2 => e e2.symm), List.getD_eq_getElem?_getD]
theorem rAt_set {a : List (List ByteArray)} {i j : Nat} {x : List ByteArray} (h : i < a.length) : rAt (a.set i x) j = if j = i then x else rAt a j := by
  unfold rAt
  rw [List.getD_eq_getElem?_getD, List.getElem?_set]
  by_cases e : i = j
  · subst e; rw [if_pos rfl, if_pos h, if_pos rfl]; rfl
  · rw [if_neg e, if_neg (fun e2 => e e2.symm), List.getD_eq_getElem?_getD]
/-- An empty row more. -/
theorem NsAt.push (h : NsAt W base ov vals rows) (hg : W.grownBy W' ov.ownBlock) (hown : W'.ownsRow base 61 1 v (vals.length + 1) (vals ++ [.slice none 0 0])) : NsAt W' base v (vals ++ [.slice none 0 0]) (rows ++ [[]]) := by
  refine ⟨by simp [h.len], by rw [List.length_append]; exact hown, fun j hj => ?_, fun i j hij hi hj => ?_⟩
  · rw [List.length_append] at hj
    by_cases e : j < rows.length
    · rw [vAt_app (by rw [h.len]; exact e), rAt_app e]
      exact (h.row j e).kept hg (own_ne (h.row j e) h.out (by decide))
    · obtain rfl : j = rows.length := by simp at hj; omega
      rw [rAt_new, ← h.len, vAt_new]; exact World.ownsRow_nil _ _ _ _
  · rw [List.length_append] at hi hj
    by_cases e1 : i < rows.length
    · by_cases e2 : j < rows.length
      · rw [vAt_app (by rw [h.len]; exact e1), vAt_app (by rw [h.len]; exact e2)]; exact h.apart i j hij e1 e2
      · obtain rfl : j = rows.length := by simp at hj; omega
        rw [← h.len, vAt_new]
        cases ho : (vAt (vals ++ [.slice none 0 0]) i).ownBlock with
        | none => exact .inl rfl
        | some g => exact .inr (by simp [Value.ownBlock])
    · obtain rfl : i = rows.length := by simp at hi; omega
      rw [← h.len, vAt_new]; exact .inl rfl
/-- A name more in a row; the new row in the outer one. -/
theorem NsAt.add (h : NsAt W base ov vals rows) {j : Nat} (hj : j < rows.length) {s : ByteArray} (hg : W.grownBy W' (vAt vals j).ownBlock) (hown : W'.ownsRow base 9 1 v ((rAt rows j).length + 1) (sC (rAt rows j) ++ [.string s]))
    {g : Nat} (hv : v.ownBlock = some g) (hf : (vAt vals j).ownBlock = some g ∨ g = W.heap.size) {go c : Nat} (ho : ov = .slice (some ⟨go, 0, none⟩) vals.length c) (_hlt : W.heap.size ≤ W'.heap.size) :
    NsAt (W'.setCell ⟨go, j, none⟩ v) base ov (vals.set j v) (rows.set j (rAt rows j ++ [s])) := by
  have hout := h.out.kept hg (own_ne h.out (h.row j hj) (by decide))
  have hgo : ∃ cur, W'.heap[go]? = some (.cells cur 61 (0, 0)) ∧ vals.length ≤ cur.size := by
    rcases hout.2 with ⟨e, _⟩ | ⟨g2, cap, cur, e, _, h2, h3, _, h4, _⟩
    · rw [ho] at e; cases e
    · rw [ho] at e; cases e; exact ⟨cur, h2, by omega⟩
  obtain ⟨cur, hcur, hcl⟩ := hgo
  have hkeep : ∀ {u : Value} {n : Nat} {xs : List Value}, W'.ownsRow base 9 1 u n xs → (W'.setCell ⟨go, j, none⟩ v).ownsRow base 9 1 u n xs := by
    intro u n xs hu
    refine ⟨hu.1, ?_⟩
    rcases hu.2 with h1 | ⟨g2, cap, cur2, h1, h2, h3, h4⟩
    · exact .inl h1
    · refine .inr ⟨g2, cap, cur2, h1, h2, (Below.heap_setCell _ _ _ _ ?_).trans h3, h4⟩
      show g2 ≠ go
      rintro rfl
      rw [h3] at hcur; cases hcur
  refine ⟨by simp [h.len], ?_, fun i hi => ?_, fun i k hik hi hk => ?_⟩
  · rcases hout.2 with ⟨e, _⟩ | ⟨g2, cap, cur2, e, h1, h2, h3, h4, h5, h6⟩
    · rw [ho] at e; cases e
    · obtain ⟨hg2, hc2⟩ : go = g2 ∧ c = cap := by rw [ho] at e; cases e; exact ⟨rfl, rfl⟩
      subst hg2 hc2
      refine ⟨by simp, .inr ⟨go, c, cur2.setIfInBounds j v, by rw [List.length_set]; exact e, h1, heap_setCell_same W' go j cur2 _ v h2, by rw [List.length_set]; exact h3, h4, by simpa using h5, ?_⟩⟩
      rw [List.length_set, Array.toList_setIfInBounds, List.take_set, h6]
  · rw [List.length_set] at hi
    rw [vAt_set (by rw [h.len]; exact hj), rAt_set hj]
    by_cases e : i = j
    · subst e
      rw [if_pos rfl, if_pos rfl, List.length_append]
      refine hkeep ?_
      have : sC (rAt rows i ++ [s]) = sC (rAt rows i) ++ [.string s] := by simp [sC]
      rw [this]; exact hown
    · rw [if_neg e, if_neg e]
      exact hkeep ((h.row i hi).kept hg (h.apart i j e hi hj))
  · rw [List.length_set] at hi hk
    have hfr : ∀ i, i < rows.length → (vAt vals i).ownBlock = none ∨ (i = j ∨ (vAt vals i).ownBlock ≠ some g) := by
      intro i hi
      by_cases e : i = j
      · exact .inr (.inl e)
      · rcases h.apart i j e hi hj with h1 | h1
        · exact .inl h1
        · rcases hf with h2 | h2
          · exact .inr (.inr (by rw [← h2]; exact h1))
          · refine .inr (.inr fun e2 => ?_)
            have := ((h.row i hi).lt g e2).2
            omega
    rw [vAt_set (by rw [h.len]; exact hj), vAt_set (by rw [h.len]; exact hj)]
    by_cases e1 : i = j
    · subst e1
      rw [if_pos rfl, if_neg (fun e => hik e.symm), hv]
      refine .inr fun e2 => ?_
      rcases hfr k hk with h1 | h1 | h1
      · rw [h1] at e2; cases e2
      · exact hik h1.symm
      · exact h1 e2.symm
    · rw [if_neg e1]
      by_cases e2 : k = j
      · rw [if_pos e2, hv]
        rcases hfr i hi with h1 | h1 | h1
        · exact .inl h1
        · exact absurd h1 e1
        · exact .inr h1
      · rw [if_neg e2]; exact h.apart i k hik hi hk
end
end Go.Proofs.Ytgngllgknimgkaa
