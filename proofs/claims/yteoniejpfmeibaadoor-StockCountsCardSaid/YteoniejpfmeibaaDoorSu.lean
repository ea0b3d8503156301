/- The walks of With, Place, resting, Calibrate, Replace of the reference of package stock. -/
import Derived.Deep.DeepCutAuto
import Derived.Test.YteoniejpfmeibaaDoorSr
import Derived.Test.YteoniejpfmeibaaDoorSn
import Derived.Test.YteoniejpfmeibaaDoorSh
namespace Go.Proofs.YteoniejpfmeibaaDoor
open Go.RowKit Go.Shelf

theorem lit0 (w : World) (base : Nat) (h : base ≤ w.heap.size) : (w.alloc (.cells #[] 78)).ownsRow base 78 4 (.slice (some ⟨w.heap.size, 0, none⟩) 0 0) 0 [] :=
  World.ownsRow_lit w #[] 0 h (by decide) rfl
theorem lit0d (w : World) : ((w.alloc (.cells #[.int .i64 0, .slice none 0 0] 28)).alloc (.cells #[] 78)).drew.ownsRow w.heap.size 78 4 (.slice (some ⟨w.heap.size + 1, 0, none⟩) 0 0) 0 [] := by
  have h := lit0 (w.alloc (.cells #[.int .i64 0, .slice none 0 0] 28)) w.heap.size (by simp)
  rw [World.size_alloc] at h
  exact h.drew
theorem set2_far {w : World} {X B o : Nat} {u v : Value} (h : X ≠ B) : ((w.setCell ⟨X, 0, none⟩ u).setCell ⟨X, 1, none⟩ v).cell? ⟨B, o, none⟩ = w.cell? ⟨B, o, none⟩ :=
  (World.cell?_of_block (w := w.setCell ⟨X, 0, none⟩ u) (Below.heap_setCell _ _ _ _ (fun e => h e.symm))).trans (World.cell?_of_block (w := w) (Below.heap_setCell _ _ _ _ (fun e => h e.symm)))
theorem ownsRow_type {w : World} {base : Nat} {e : TypeId} {size : Nat} {v : Value} {n : Nat} {xs : List Value} (h : w.ownsRow base e size v n xs) {a : Addr} {cs : Array Value} {T : TypeId} (hX : w.heap[a.block]? = some (.cells cs T (0, 0))) (hT : e ≠ T) (u : Value) : (w.setCell a u).ownsRow base e size v n xs := by
  refine ⟨h.1, ?_⟩
  rcases h.2 with h1 | ⟨g, cap, cur, h1, h2, h3, h4⟩
  · exact .inl h1
  · refine .inr ⟨g, cap, cur, h1, h2, (Below.heap_setCell _ _ _ _ ?_).trans h3, h4⟩
    intro e2
    rw [e2] at h3
    have := h3.symm.trans hX
    cases this
    exact hT rfl
theorem box_set2 {w : World} {X : Nat} {x y u v : Value} {T : TypeId} (h : w.heap[X]? = some (.cells #[x, y] T (0, 0))) : ((w.setCell ⟨X, 0, none⟩ u).setCell ⟨X, 1, none⟩ v).heap[X]? = some (.cells #[u, v] T (0, 0)) := by
  have h1 := heap_setCell_same w X 0 _ _ u h
  exact heap_setCell_same _ X 1 _ _ v h1
theorem row_set2 {w : World} {base : Nat} {e : TypeId} {size : Nat} {r : Value} {n : Nat} {xs : List Value} (h : w.ownsRow base e size r n xs) {X : Nat} {x y u v : Value} {T : TypeId} (hX : w.heap[X]? = some (.cells #[x, y] T (0, 0))) (hT : e ≠ T) :
    ((w.setCell ⟨X, 0, none⟩ u).setCell ⟨X, 1, none⟩ v).ownsRow base e size r n xs :=
  ownsRow_type (ownsRow_type h (a := ⟨X, 0, none⟩) hX hT u) (a := ⟨X, 1, none⟩) (heap_setCell_same w X 0 _ _ u hX) hT v
theorem row_put4 {w : World} {base : Nat} {e : TypeId} {g n cap : Nat} {bs : List B5} (h : w.ownsRow base e 4 (.slice (some ⟨g, 0, none⟩) n cap) n (bC bs)) (i : Nat) (hi : i < bs.length) (b : B5) :
    ((((w.setCell ⟨g, i * 4, none⟩ (.int .i64 b.l)).setCell ⟨g, i * 4 + 1, none⟩ (.int .i64 b.w)).setCell ⟨g, i * 4 + 2, none⟩ (.int .i64 b.u)).setCell ⟨g, i * 4 + 3, none⟩ (.string b.h)).ownsRow base e 4 (.slice (some ⟨g, 0, none⟩) n cap) n (bC (bs.set i b)) := by
  rw [bC_set bs i b hi]
  exact (World.ownsRow.stored (World.ownsRow.stored (World.ownsRow.stored (World.ownsRow.stored h (i * 4) (.int .i64 b.l)).1 (i * 4 + 1) (.int .i64 b.w)).1 (i * 4 + 2) (.int .i64 b.u)).1 (i * 4 + 3) (.string b.h)).1
theorem grown_box {W w4 : World} {row : Option Nat} {B X : Nat} {o : Obj} (hg : W.grownBy w4 row) (hr : row = some B) (hX : W.heap[X]? = some o) (hne : B ≠ X) : w4.heap[X]? = some o :=
  (hg.block X (lt_of_block hX) (by rw [hr]; intro e; cases e; exact hne rfl)).trans hX
theorem news_of {w : World} {b o : Nat} {cs : List Value} (h : CellsAt w (some ⟨b, o, none⟩) cs) : ∀ j u, cs[j]? = some u → w.cell? (Addr.add ⟨b, o, none⟩ j) = some u := by
  intro j u hj
  have : (⟨b, o, none⟩ : Addr).add j = ⟨b, o + j, none⟩ := by unfold Addr.add; split <;> simp_all
  rw [this]; exact h.get rfl hj

theorem ownsRow_base {w : World} {base base' : Nat} {e : TypeId} {size : Nat} {v : Value} {n : Nat} {xs : List Value} (h : w.ownsRow base e size v n xs) (hb : base' ≤ base) : w.ownsRow base' e size v n xs := by
  refine ⟨h.1, ?_⟩
  rcases h.2 with h1 | ⟨g, cap, cur, h1, h2, h3⟩
  · exact .inl h1
  · exact .inr ⟨g, cap, cur, h1, by omega, h3⟩

set_option maxRecDepth 100000 in
set_option maxHeartbeats 4000000 in
theorem with_own (m : Int) (ao : Option Addr) (bs : List B5) (c i : Nat) (b : B5) (w : World) (R : Ending → World → Prop) (hl : bs.length ≤ 512) (hi : i < bs.length) (hc : CellsAt w ao (bC bs))
   (hR : ∀ a' c' w', Below w.heap.size w w' → w'.ownsRow w.heap.size 78 4 (.slice a' bs.length c') bs.length (bC (bs.set i b)) → BSl w' a' c' (bs.set i b) → Fresh w.heap.size a' → R (.returned (.agg #[.int .i64 m, .slice a' bs.length c'])) w') :
    Calls Tryd.prog 55 #[.agg #[.int .i64 m, .slice ao bs.length c], .int .i64 i, .agg #[.int .i64 b.l, .int .i64 b.w, .int .i64 b.u, .string b.h]] w R := by
  have HR := Lib.hid hR
  obtain ⟨i0, hi0, hi1, hi2, hi3⟩ := info_parts Tryd.infoRBlk
  obtain ⟨bb, ob, rfl, hbb, _⟩ := hc.blks (by omega)
  obtain ⟨w1, E1, HB1, s1, b0, b1⟩ := box2 w (.int .i64 m) (.slice (some ⟨bb, ob, none⟩) bs.length c) 28
  have hz1 : w1.heap.size = w.heap.size + 1 := by rw [← E1.out, World.size_alloc]
  obtain ⟨w2, E2, HB2, s2, x0, x1, x2, x3⟩ := box4 w1 (.int .i64 b.l) (.int .i64 b.w) (.int .i64 b.u) (.string b.h) 78
  have hz2 : w2.heap.size = w.heap.size + 2 := by rw [← E2.out, World.size_alloc]; omega
  obtain ⟨w3, E3', HB3, s3, X3⟩ := box_ex w2 #[.int .i64 0, .slice none 0 0] 28
  have E3 := Lib.hid E3'
  have hz3 : w3.heap.size = w.heap.size + 3 := by rw [← E3', World.size_alloc]; omega
  clear E3'
  rw [hz1] at x0 x1 x2 x3
  rw [hz2] at X3
  have HV3 : Hid (Below w.heap.size w w3) := (HB1.out.trans (HB2.out.mono (by omega))).trans (HB3.out.mono (by omega))
  have k0 := cellB HB3.out (cellB HB2.out b0 s1) (by omega)
  have k1 := cellB HB3.out (cellB HB2.out b1 s1) (by omega)
  have y0 := Lib.hid (cellB HB3.out x0 (by omega))
  have y1 := Lib.hid (cellB HB3.out x1 (by omega))
  have y2 := Lib.hid (cellB HB3.out x2 (by omega))
  have y3 := Lib.hid (cellB HB3.out x3 (by omega))
  have HC3 := Lib.hid (hc.below HV3.out)
  have hz3a : w.heap.size + 3 ≤ w3.heap.size := by omega
  have HZ3 := Lib.hid hz3
  clear hz1 hz2 hz3
  have hXb : Hid (((w3.alloc (.cells #[] 78)).alloc (.cells #[.int .i64 0, .slice none 0 0] 28)).heap[w3.heap.size + 1]? = some (.cells #[.int .i64 0, .slice none 0 0] 28 (0, 0))) := by
    have h := World.alloc_heap_new (w3.alloc (.cells #[] 78)) (.cells #[.int .i64 0, .slice none 0 0] 28)
    rw [World.size_alloc] at h
    exact h
  have hXa : Hid (((w3.alloc (.cells #[.int .i64 0, .slice none 0 0] 28)).alloc (.cells #[] 78)).heap[w3.heap.size]? = some (.cells #[.int .i64 0, .slice none 0 0] 28 (0, 0))) :=
    (Below.heap_alloc _ _ _ (by simp)).trans (World.alloc_heap_new w3 _)
  have hsA : Hid (w3.heap.size ≤ (w3.alloc (.cells #[.int .i64 0, .slice none 0 0] 28)).heap.size) := by unfold Hid; simp
  clear hR hc b0 b1 x0 x1 x2 x3
  go_enter Tryd.func55, Tryd.ntmps55
  go_upto_region 1 with fail
  rw [E1.out, E2.out, E3.out]
  go_cut [7] (fun s7 wx => ∃ X g cap : Nat, s7 = .pointer (some ⟨X, 0, none⟩) ∧ w3.heap.size ≤ X ∧ Hid (Below w3.heap.size w3 wx) ∧ Hid (wx.heap[X]? = some (.cells #[.int .i64 m, .slice (some ⟨g, 0, none⟩) bs.length cap] 28 (0, 0))) ∧
    Hid (wx.ownsRow w3.heap.size 78 4 (.slice (some ⟨g, 0, none⟩) bs.length cap) bs.length (bC bs)))
  case first =>
    go_region_held3 (fun w' => w'.cell? ⟨w.heap.size, 0, none⟩ = some (.int .i64 m) ∧ w'.cell? ⟨w.heap.size, 1, none⟩ = some (.slice (some ⟨bb, ob, none⟩) bs.length c))
      (first | go_keep | exact ⟨h0, h1⟩ | exact ⟨(set2_far (by omega)).trans h0, (set2_far (by omega)).trans h1⟩)
      ((refine step_append_lies _ (by rfl) (.tmp 10) (.tmp 12) _ (by rfl) w3.heap.size 78 i0 _ 4 40 Tryd.underlying26 hi0 hi1 hi2 hi3 rfl (by omega) _ 0 [] (by rfl) ?own ⟨bb, ob, none⟩ bs.length c (bC bs) (by rfl) (bC_length bs) ?news (bC_one bs) (by omega) (by unfold maxLen; omega) (by omega) (by simp <;> omega) _ rfl ?_; (case own => first | exact (lit0 w3 _ (Nat.le_refl _)).drew | exact ((lit0 w3 _ (Nat.le_refl _)).alloc _).drew | exact lit0d w3); (case news => exact news_of (HC3.out.below (by first | exact ((Below.refl _ _).alloc (Nat.le_refl _) _).drew | exact (((Below.refl _ _).alloc (Nat.le_refl _) _).alloc (by simp) _).drew))); intro gg cap w4 hown1 hgrow hat hlt; have Hb4 : Hid (Below w3.heap.size w3 w4) := (by first | (refine Below.grown (((Below.refl _ _).alloc (Nat.le_refl _) _).drew) hgrow ?_ ?_; (simp <;> omega); (intro j e; cases e; simp <;> omega)) | (refine Below.grown ((((Below.refl _ _).alloc (Nat.le_refl _) _).alloc (by simp) _).drew) hgrow ?_ ?_; (simp <;> omega); (intro j e; cases e; simp <;> omega))); have h0 : w4.cell? ⟨w.heap.size, 0, none⟩ = some (.int .i64 m) := cellB Hb4.out k0 (by omega); have h1 : w4.cell? ⟨w.heap.size, 1, none⟩ = some (.slice (some ⟨bb, ob, none⟩) bs.length c) := cellB Hb4.out k1 (by omega); have H1 : Hid (w4.ownsRow w3.heap.size 78 4 (.slice (some ⟨gg, 0, none⟩) bs.length cap) bs.length (bC bs)) := (by have h := hown1; rw [Nat.zero_add, List.nil_append] at h; exact h); (first | (have X4 : Hid (w4.heap[w3.heap.size + 1]? = some (.cells #[.int .i64 0, .slice none 0 0] 28 (0, 0))) := grown_box (B := w3.heap.size) hgrow rfl hXb.out (by omega)) | (have X4 : Hid (w4.heap[w3.heap.size]? = some (.cells #[.int .i64 0, .slice none 0 0] 28 (0, 0))) := grown_box (B := w3.heap.size + 1) hgrow rfl hXa.out (by omega)) | (have X4 : Hid True := trivial)); clear hown1 hgrow hat hlt; (first | (have q0 := cell_at X4.out (j := 0) (v := .int .i64 0) rfl; have q1 := cell_at X4.out (j := 1) (v := .slice none 0 0) rfl; have f0 := frozen_at X4.out 0; have f1 := frozen_at X4.out 1) | skip)))
    all_goals
      go_wp2_with fail
      go_meet
      first
        | exact ⟨w4.heap.size, gg, cap, rfl, Hb4.out.size, Hb4.out.alloc Hb4.out.size _, World.alloc_heap_new _ _, ownsRow_below H1.out ((Below.refl _ _).alloc (Nat.le_refl _) _)⟩
        | exact ⟨w3.heap.size + 1, gg, cap, rfl, Nat.le_succ _, (Hb4.out.setCell (p := ⟨w3.heap.size + 1, 0, none⟩) (Nat.le_succ _) _).setCell (p := ⟨w3.heap.size + 1, 1, none⟩) (Nat.le_succ _) _, box_set2 X4.out, row_set2 H1.out X4.out (by decide)⟩
        | exact ⟨w3.heap.size, gg, cap, rfl, Nat.le_refl _, (Hb4.out.setCell (p := ⟨w3.heap.size, 0, none⟩) (Nat.le_refl _) _).setCell (p := ⟨w3.heap.size, 1, none⟩) (Nat.le_refl _) _, box_set2 X4.out, row_set2 H1.out X4.out (by decide)⟩
  case rest =>
    obtain ⟨X, g, cap, rfl, hX3, HBx, HX, HO⟩ := hcut
    have q0 : wc.cell? ⟨X, 0, none⟩ = some (.int .i64 m) := cell_at HX.out rfl
    have q1 : wc.cell? ⟨X, 1, none⟩ = some (.slice (some ⟨g, 0, none⟩) bs.length cap) := cell_at HX.out rfl
    obtain ⟨ar, cr, er, rr, _⟩ := ownsRow_read HO.out
    obtain ⟨rfl, -, rfl⟩ := Value.slice.inj er
    obtain ⟨hr0, hr1, hr2, hr3⟩ := bC_get bs i hi
    have d0 : wc.cell? ⟨g, i * 4, none⟩ = some (.int .i64 (bAt bs i).l) := by have := rr.get rfl hr0; rwa [Nat.zero_add] at this
    have d1 : wc.cell? ⟨g, i * 4 + 1, none⟩ = some (.int .i64 (bAt bs i).w) := by have := rr.get rfl hr1; rwa [Nat.zero_add] at this
    have d2 : wc.cell? ⟨g, i * 4 + 2, none⟩ = some (.int .i64 (bAt bs i).u) := by have := rr.get rfl hr2; rwa [Nat.zero_add] at this
    have d3 : wc.cell? ⟨g, i * 4 + 3, none⟩ = some (.string (bAt bs i).h) := by have := rr.get rfl hr3; rwa [Nat.zero_add] at this
    obtain ⟨hgb, hgX, hgf⟩ : w3.heap.size ≤ g ∧ X ≠ g ∧ ∀ j, wc.frozen? ⟨g, j, none⟩ = false := by
      rcases HO.out.2 with ⟨h1, _⟩ | ⟨g', cap', cur, h1, h2, h3, _⟩
      · cases h1
      · obtain ⟨e1, _, _⟩ := Value.slice.inj h1
        cases e1
        refine ⟨h2, ?_, frozen_at h3⟩
        rintro rfl
        have := h3.symm.trans HX.out
        cases this
    have hf0 := hgf (i * 4)
    have hf1 := hgf (i * 4 + 1)
    have hf2 := hgf (i * 4 + 2)
    have hf3 := hgf (i * 4 + 3)
    have e0 := cellB HBx.out y0.out (by omega)
    have e1 := cellB HBx.out y1.out (by omega)
    have e2 := cellB HBx.out y2.out (by omega)
    have e3 := cellB HBx.out y3.out (by omega)
    have X6 : Hid (wc.heap[w.heap.size + 1 + 1]? = some (.cells #[.int .i64 0, .slice none 0 0] 28 (0, 0))) := heap_below X3 HBx.out (by omega)
    have p0 : wc.cell? ⟨w.heap.size + 1 + 1, 0, none⟩ = some (.int .i64 0) := cell_at X6.out rfl
    have p1 : wc.cell? ⟨w.heap.size + 1 + 1, 1, none⟩ = some (.slice none 0 0) := cell_at X6.out rfl
    have pf0 := frozen_at X6.out 0
    have pf1 := frozen_at X6.out 1
    have HW : Hid (Below w.heap.size w wc) := HV3.out.trans (HBx.out.mono (by omega))
    have hXs : w.heap.size + 3 ≤ X := by omega
    have hgs : w.heap.size + 3 ≤ g := by omega
    clear hgf rr hr0 hr1 hr2 hr3 hXa hXb
    go_wp2_with fail
    refine bodyPost_ret (v := .agg #[.int .i64 m, .slice (some ⟨g, 0, none⟩) bs.length cap]) (by simp [results, Tryd.results55, go_sem, p0, p1]) rfl ?_
    have hrow := ownsRow_set (ownsRow_set (row_put4 HO.out i hi b) (a := ⟨w.heap.size + 1 + 1, 0, none⟩) (by show w.heap.size + 1 + 1 < w3.heap.size; omega) (.int .i64 m)) (a := ⟨w.heap.size + 1 + 1, 1, none⟩) (by show w.heap.size + 1 + 1 < w3.heap.size; omega) (.slice (some ⟨g, 0, none⟩) bs.length cap)
    obtain ⟨a', c', e', q1', q2'⟩ := ownsRow_read hrow
    obtain ⟨rfl, -, rfl⟩ := Value.slice.inj e'
    have h4 : Below w.heap.size w ((((wc.setCell ⟨g, i * 4, none⟩ (.int .i64 b.l)).setCell ⟨g, i * 4 + 1, none⟩ (.int .i64 b.w)).setCell ⟨g, i * 4 + 2, none⟩ (.int .i64 b.u)).setCell ⟨g, i * 4 + 3, none⟩ (.string b.h)) := (((HW.out.setCell (by show w.heap.size ≤ g; omega) _).setCell (by show w.heap.size ≤ g; omega) _).setCell (by show w.heap.size ≤ g; omega) _).setCell (by show w.heap.size ≤ g; omega) _
    exact HR.out (some ⟨g, 0, none⟩) cap _ ((h4.setCell (p := ⟨w.heap.size + 1 + 1, 0, none⟩) (by show w.heap.size ≤ w.heap.size + 1 + 1; omega) (.int .i64 m)).setCell (p := ⟨w.heap.size + 1 + 1, 1, none⟩) (by show w.heap.size ≤ w.heap.size + 1 + 1; omega) _) (ownsRow_base hrow (by omega)) ⟨q1', by rw [List.length_set]; exact q2'⟩ (Fresh.blk (by omega))

theorem with_any (m : Int) (ao : Option Addr) (bs : List B5) (c i : Nat) (b : B5) (w : World) (R : Ending → World → Prop) (hl : bs.length ≤ 512) (hi : i < bs.length) (hc : CellsAt w ao (bC bs))
   (hR : ∀ a' c' w', Below w.heap.size w w' → BSl w' a' c' (bs.set i b) → Fresh w.heap.size a' → R (.returned (.agg #[.int .i64 m, .slice a' bs.length c'])) w') :
    Calls Tryd.prog 55 #[.agg #[.int .i64 m, .slice ao bs.length c], .int .i64 i, .agg #[.int .i64 b.l, .int .i64 b.w, .int .i64 b.u, .string b.h]] w R :=
  with_own m ao bs c i b w R hl hi hc (fun a' c' w' h1 _ h2 h3 => hR a' c' w' h1 h2 h3)
end Go.Proofs.YteoniejpfmeibaaDoor
