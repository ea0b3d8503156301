/- The walks of done of package stock, of Done of the reference. -/
import Derived.Test.YteoniejpfmeibaaDoorSaj
import Derived.Test.YteoniejpfmeibaaDoorSaa
import Derived.Test.YteoniejpfmeibaaDoorSm
import Derived.Test.YteoniejpfmeibaaDoorSl
import Derived.Test.YteoniejpfmeibaaDoorSk
import Derived.Test.YteoniejpfmeibaaDoorSw
import Derived.Test.YteoniejpfmeibaaDoorSy
namespace Go.Proofs.YteoniejpfmeibaaDoor
open Go.RowKit Go.Shelf

set_option maxRecDepth 100000 in
set_option maxHeartbeats 4000000 in
theorem done_any (m : Int) (ao : Option Addr) (bs : List B5) (c : Nat) (k l x : Int) (who : ByteArray) (w : World) (R : Ending → World → Prop) (hl : bs.length ≤ 1000000) (hn : ao = none → bs.length = 0 ∧ c = 0) (hc : CellsAt w ao (bC bs)) (hs : StrOk bs) (hw : who.size ≤ 9223372036854775807)
   (hR : ∀ a' c' w', Below w.heap.size w w' → BSl w' a' c' (dnB m bs ⟨k, who, l, x⟩) → Fresh w.heap.size a' → R (.returned (.tuple #[.agg #[.int .i64 (okM m (dnE m bs ⟨k, who, l, x⟩)), .slice a' (dnB m bs ⟨k, who, l, x⟩).length c'], .int .i64 (dnE m bs ⟨k, who, l, x⟩)])) w') :
    Calls Tryd.prog 61 #[.agg #[.int .i64 m, .slice ao bs.length c], .agg #[.int .i64 k, .string who, .int .i64 l, .int .i64 x]] w R := by
  have HR := Lib.hid hR
  have HC := Lib.hid hc
  clear hR hc
  obtain ⟨w1, E1', HB1, s1, X1⟩ := box_ex w #[.int .i64 m, .slice ao bs.length c] 24
  have E1 := Lib.hid E1'
  have hz1 : w1.heap.size = w.heap.size + 1 := by rw [← E1', World.size_alloc]
  obtain ⟨w2, E2', HB2, s2, X2⟩ := box_ex w1 #[.int .i64 k, .string who, .int .i64 l, .int .i64 x] 106
  have E2 := Lib.hid E2'
  have HV : Hid (Below w.heap.size w w2) := HB1.out.trans (HB2.out.mono (by omega))
  rw [hz1] at X2
  have X1' := Lib.hid (heap_below X1.out HB2.out s1)
  obtain ⟨w3, E3', HB3, s3, X3⟩ := box_ex w2 #[.int .i64 0, .slice none 0 0] 24
  have hz2 : w2.heap.size = w.heap.size + 2 := by rw [← E2', World.size_alloc]; omega
  have HV3 : Hid (Below w.heap.size w w3) := HV.out.trans (HB3.out.mono (by omega))
  have HC3 := Lib.hid (HC.out.below HV3.out)
  rw [hz2] at X3
  have X1'' := Lib.hid (heap_below X1'.out HB3.out (by omega))
  have X2'' := Lib.hid (heap_below X2.out HB3.out (by omega))
  have hz3 : w3.heap.size = w.heap.size + 3 := by rw [← E3', World.size_alloc]; omega
  have a0 := cell_at X1''.out (j := 0) (v := .int .i64 m) rfl
  have a1 := cell_at X1''.out (j := 1) (v := .slice ao bs.length c) rfl
  have e0 := cell_at X2''.out (j := 0) (v := .int .i64 k) rfl
  have e1 := cell_at X2''.out (j := 1) (v := .string who) rfl
  have e2 := cell_at X2''.out (j := 2) (v := .int .i64 l) rfl
  have e3 := cell_at X2''.out (j := 3) (v := .int .i64 x) rfl
  have y0 := cell_at X3.out (j := 0) (v := .int .i64 0) rfl
  have y1 := cell_at X3.out (j := 1) (v := .slice none 0 0) rfl
  rw [← E3', ← E2', ← E1'] at a0 a1 e0 e1 e2 e3 y0 y1
  have HZ3 := Lib.hid hz3
  have E3 := Lib.hid E3'
  clear E1' E2' E3' hz1 hz2

  by_cases k0 : k = 0
  case pos =>
    subst k0
    have hE : Hid (dnE m bs ⟨0, who, l, x⟩ = tkE m bs who l) := by unfold Hid dnE; rw [if_pos rfl]
    have hB : Hid (dnB m bs ⟨0, who, l, x⟩ = tkB m bs who l) := by unfold Hid dnB; rw [if_pos rfl]
    rw [hE.out, hB.out] at HR
    go_enter Tryd.func61, Tryd.ntmps61
    go_wp2_with fail
    rw [E1.out, E2.out, E3.out]
    refine takeS_any m ao bs c who l _ _ (by omega) hn (HC3.out) hs hw ?_
    intro a' c' bb dd w4 hb4 hs4 _ hf4 _
    generalize tkE m bs who l = E at HR ⊢
    generalize tkB m bs who l = B at HR hs4 ⊢
    generalize okM m E = M at HR ⊢
    have X4 := Lib.hid (heap_below X3.out hb4 (by omega))
    have B4 : Hid (Below w.heap.size w w4) := HV3.out.trans (hb4.mono HV3.out.size)
    have s4 := hb4.size
    have HF : Hid (Fresh w3.heap.size a') := hf4
    have HS := Lib.hid hs4
    clear hb4 hs4 hf4 y0 y1 a0 a1 e0 e1 e2 e3
    obtain ⟨w5, E5', HB5, s5, X5⟩ := box_ex w4 #[.int .i64 M, .slice a' B.length c'] 24
    have E5 := Lib.hid E5'
    have X5r := Lib.hid (heap_below X4.out HB5.out (by omega))
    have B5' : Hid (Below w.heap.size w w5) := B4.out.trans (HB5.out.mono B4.out.size)
    have HS5 := Lib.hid (HS.out.below HB5.out)
    have g0 := cell_at X5.out (j := 0) (v := .int .i64 M) rfl
    have g1 := cell_at X5.out (j := 1) (v := .slice a' B.length c') rfl
    have f0 := frozen_at X5r.out 0
    have f1 := frozen_at X5r.out 1
    have y0 := cell_at X5r.out (j := 0) (v := .int .i64 0) rfl
    have y1 := cell_at X5r.out (j := 1) (v := .slice none 0 0) rfl
    rw [← E5.out] at g0 g1 f0 f1 y0 y1
    clear E5'
    go_wp2_with fail
    rw [E5.out] at y0 y1 ⊢
    refine bodyPost_ret (v := .tuple #[.agg #[.int .i64 M, .slice a' B.length c'], .int .i64 E]) (by simp [results, Tryd.results61, go_sem, y0, y1]) rfl ?_
    have z3 := HZ3.out
    have hS := (HS5.out.set HF.out (p := ⟨w.heap.size + 2, 0, none⟩) (by show w.heap.size + 2 < w3.heap.size; omega) (.int .i64 M)).set HF.out (p := ⟨w.heap.size + 2, 1, none⟩) (by show w.heap.size + 2 < w3.heap.size; omega) (.slice a' B.length c')
    exact HR.out a' c' _ ((B5'.out.setCell (p := ⟨w.heap.size + 2, 0, none⟩) (by show w.heap.size ≤ w.heap.size + 2; omega) (.int .i64 M)).setCell (p := ⟨w.heap.size + 2, 1, none⟩) (by show w.heap.size ≤ w.heap.size + 2; omega) (.slice a' B.length c')) hS (HF.out.mono (by omega))
  by_cases k1 : k = 1
  case pos =>
    subst k1
    have hE : Hid (dnE m bs ⟨1, who, l, x⟩ = rtE m bs who x) := by unfold Hid dnE; rw [if_neg (by omega), if_pos rfl]
    have hB : Hid (dnB m bs ⟨1, who, l, x⟩ = rtB m bs who x) := by unfold Hid dnB; rw [if_neg (by omega), if_pos rfl]
    rw [hE.out, hB.out] at HR
    go_enter Tryd.func61, Tryd.ntmps61
    go_wp2_with fail
    rw [E1.out, E2.out, E3.out]
    refine returnS_any m ao bs c who x _ _ (by omega) hn (HC3.out) hs hw ?_
    intro a' c' w4 hb4 hs4 hf4
    generalize rtE m bs who x = E at HR ⊢
    generalize rtB m bs who x = B at HR hs4 ⊢
    generalize okM m E = M at HR ⊢
    have X4 := Lib.hid (heap_below X3.out hb4 (by omega))
    have B4 : Hid (Below w.heap.size w w4) := HV3.out.trans (hb4.mono HV3.out.size)
    have s4 := hb4.size
    have HF : Hid (Fresh w3.heap.size a') := hf4
    have HS := Lib.hid hs4
    clear hb4 hs4 hf4 y0 y1 a0 a1 e0 e1 e2 e3
    have f0 := frozen_at X4.out 0
    have f1 := frozen_at X4.out 1
    have y0 := cell_at X4.out (j := 0) (v := .int .i64 0) rfl
    have y1 := cell_at X4.out (j := 1) (v := .slice none 0 0) rfl
    go_wp2_with fail
    refine bodyPost_ret (v := .tuple #[.agg #[.int .i64 M, .slice a' B.length c'], .int .i64 E]) (by simp [results, Tryd.results61, go_sem, y0, y1]) rfl ?_
    have z3 := HZ3.out
    have hS := (HS.out.set HF.out (p := ⟨w.heap.size + 2, 0, none⟩) (by show w.heap.size + 2 < w3.heap.size; omega) (.int .i64 M)).set HF.out (p := ⟨w.heap.size + 2, 1, none⟩) (by show w.heap.size + 2 < w3.heap.size; omega) (.slice a' B.length c')
    exact HR.out a' c' _ ((B4.out.setCell (p := ⟨w.heap.size + 2, 0, none⟩) (by show w.heap.size ≤ w.heap.size + 2; omega) (.int .i64 M)).setCell (p := ⟨w.heap.size + 2, 1, none⟩) (by show w.heap.size ≤ w.heap.size + 2; omega) (.slice a' B.length c')) hS (HF.out.mono (by omega))
  by_cases k2 : k = 2
  case pos =>
    subst k2
    have hE : Hid (dnE m bs ⟨2, who, l, x⟩ = clE m bs l x) := by unfold Hid dnE; rw [if_neg (by omega), if_neg (by omega), if_pos rfl]
    have hB : Hid (dnB m bs ⟨2, who, l, x⟩ = clB m bs l x) := by unfold Hid dnB; rw [if_neg (by omega), if_neg (by omega), if_pos rfl]
    rw [hE.out, hB.out] at HR
    go_enter Tryd.func61, Tryd.ntmps61
    go_wp2_with fail
    rw [E1.out, E2.out, E3.out]
    refine calibrate_any m ao bs c l x _ _ (by omega) hn (HC3.out) hs ?_
    intro a' c' w4 hb4 hs4 hf4
    generalize clE m bs l x = E at HR ⊢
    generalize clB m bs l x = B at HR hs4 ⊢
    generalize okM m E = M at HR ⊢
    have X4 := Lib.hid (heap_below X3.out hb4 (by omega))
    have B4 : Hid (Below w.heap.size w w4) := HV3.out.trans (hb4.mono HV3.out.size)
    have s4 := hb4.size
    have HF : Hid (Fresh w3.heap.size a') := hf4
    have HS := Lib.hid hs4
    clear hb4 hs4 hf4 y0 y1 a0 a1 e0 e1 e2 e3
    have f0 := frozen_at X4.out 0
    have f1 := frozen_at X4.out 1
    have y0 := cell_at X4.out (j := 0) (v := .int .i64 0) rfl
    have y1 := cell_at X4.out (j := 1) (v := .slice none 0 0) rfl
    go_wp2_with fail
    refine bodyPost_ret (v := .tuple #[.agg #[.int .i64 M, .slice a' B.length c'], .int .i64 E]) (by simp [results, Tryd.results61, go_sem, y0, y1]) rfl ?_
    have z3 := HZ3.out
    have hS := (HS.out.set HF.out (p := ⟨w.heap.size + 2, 0, none⟩) (by show w.heap.size + 2 < w3.heap.size; omega) (.int .i64 M)).set HF.out (p := ⟨w.heap.size + 2, 1, none⟩) (by show w.heap.size + 2 < w3.heap.size; omega) (.slice a' B.length c')
    exact HR.out a' c' _ ((B4.out.setCell (p := ⟨w.heap.size + 2, 0, none⟩) (by show w.heap.size ≤ w.heap.size + 2; omega) (.int .i64 M)).setCell (p := ⟨w.heap.size + 2, 1, none⟩) (by show w.heap.size ≤ w.heap.size + 2; omega) (.slice a' B.length c')) hS (HF.out.mono (by omega))
  by_cases k3 : k = 3
  case pos =>
    subst k3
    have hE : Hid (dnE m bs ⟨3, who, l, x⟩ = rsE m bs l) := by unfold Hid dnE; rw [if_neg (by omega), if_neg (by omega), if_neg (by omega), if_pos rfl]
    have hB : Hid (dnB m bs ⟨3, who, l, x⟩ = rpB m bs l) := by unfold Hid dnB; rw [if_neg (by omega), if_neg (by omega), if_neg (by omega), if_pos rfl]
    rw [hE.out, hB.out] at HR
    go_enter Tryd.func61, Tryd.ntmps61
    go_wp2_with fail
    rw [E1.out, E2.out, E3.out]
    refine replace_any m ao bs c l _ _ (by omega) hn (HC3.out) hs ?_
    intro a' c' w4 hb4 hs4 hf4
    generalize rsE m bs l = E at HR ⊢
    generalize rpB m bs l = B at HR hs4 ⊢
    generalize okM m E = M at HR ⊢
    have X4 := Lib.hid (heap_below X3.out hb4 (by omega))
    have B4 : Hid (Below w.heap.size w w4) := HV3.out.trans (hb4.mono HV3.out.size)
    have s4 := hb4.size
    have HF : Hid (Fresh w3.heap.size a') := hf4
    have HS := Lib.hid hs4
    clear hb4 hs4 hf4 y0 y1 a0 a1 e0 e1 e2 e3
    have f0 := frozen_at X4.out 0
    have f1 := frozen_at X4.out 1
    have y0 := cell_at X4.out (j := 0) (v := .int .i64 0) rfl
    have y1 := cell_at X4.out (j := 1) (v := .slice none 0 0) rfl
    go_wp2_with fail
    refine bodyPost_ret (v := .tuple #[.agg #[.int .i64 M, .slice a' B.length c'], .int .i64 E]) (by simp [results, Tryd.results61, go_sem, y0, y1]) rfl ?_
    have z3 := HZ3.out
    have hS := (HS.out.set HF.out (p := ⟨w.heap.size + 2, 0, none⟩) (by show w.heap.size + 2 < w3.heap.size; omega) (.int .i64 M)).set HF.out (p := ⟨w.heap.size + 2, 1, none⟩) (by show w.heap.size + 2 < w3.heap.size; omega) (.slice a' B.length c')
    exact HR.out a' c' _ ((B4.out.setCell (p := ⟨w.heap.size + 2, 0, none⟩) (by show w.heap.size ≤ w.heap.size + 2; omega) (.int .i64 M)).setCell (p := ⟨w.heap.size + 2, 1, none⟩) (by show w.heap.size ≤ w.heap.size + 2; omega) (.slice a' B.length c')) hS (HF.out.mono (by omega))
  have k0' : (k == 0) = false := by simpa using k0
  have k1' : (k == 1) = false := by simpa using k1
  have k2' : (k == 2) = false := by simpa using k2
  have k3' : (k == 3) = false := by simpa using k3
  have hE : Hid (dnE m bs ⟨k, who, l, x⟩ = 1) := by unfold Hid dnE; rw [if_neg k0, if_neg k1, if_neg k2, if_neg k3]
  have hB : Hid (dnB m bs ⟨k, who, l, x⟩ = []) := by unfold Hid dnB; rw [if_neg k0, if_neg k1, if_neg k2, if_neg k3]
  rw [hE.out, hB.out] at HR
  have f0 := frozen_at X3.out 0
  have f1 := frozen_at X3.out 1
  rw [← E3.out, ← E2.out, ← E1.out] at f0 f1
  go_enter Tryd.func61, Tryd.ntmps61
  go_wp2_with fail
  rw [E1.out, E2.out, E3.out] at y0 y1 ⊢
  refine bodyPost_ret (v := .tuple #[.agg #[.int .i64 0, .slice none 0 0], .int .i64 1]) (by simp [results, Tryd.results61, go_sem, y0, y1]) rfl ?_
  exact HR.out none 0 _ HV3.out (BSl.nil _) (Fresh.nil _)

set_option maxRecDepth 100000 in
set_option maxHeartbeats 4000000 in
theorem rdone_any (m : Int) (ao : Option Addr) (bs : List B5) (c : Nat) (k l x : Int) (who : ByteArray) (w : World) (R : Ending → World → Prop) (hl : bs.length ≤ 1000000) (h8 : chkS m bs = 0 → bs.length ≤ 8) (hc : CellsAt w ao (bC bs)) (hs : StrOk bs) (hw : who.size ≤ 9223372036854775807)
   (hR : ∀ a' c' w', Below w.heap.size w w' → BSl w' a' c' (dnB m bs ⟨k, who, l, x⟩) → Fresh w.heap.size a' → R (.returned (.tuple #[.agg #[.int .i64 (okM m (dnE m bs ⟨k, who, l, x⟩)), .slice a' (dnB m bs ⟨k, who, l, x⟩).length c'], .int .i64 (dnE m bs ⟨k, who, l, x⟩)])) w') :
    Calls Tryd.prog 62 #[.agg #[.int .i64 m, .slice ao bs.length c], .agg #[.int .i64 k, .string who, .int .i64 l, .int .i64 x]] w R := by
  have HR := Lib.hid hR
  have HC := Lib.hid hc
  clear hR hc
  obtain ⟨w1, E1', HB1, s1, X1⟩ := box_ex w #[.int .i64 m, .slice ao bs.length c] 28
  have E1 := Lib.hid E1'
  have hz1 : w1.heap.size = w.heap.size + 1 := by rw [← E1', World.size_alloc]
  obtain ⟨w2, E2', HB2, s2, X2⟩ := box_ex w1 #[.int .i64 k, .string who, .int .i64 l, .int .i64 x] 107
  have E2 := Lib.hid E2'
  have HV : Hid (Below w.heap.size w w2) := HB1.out.trans (HB2.out.mono (by omega))
  rw [hz1] at X2
  have X1' := Lib.hid (heap_below X1.out HB2.out s1)
  obtain ⟨w3, E3', HB3, s3, X3⟩ := box_ex w2 #[.int .i64 0, .slice none 0 0] 28
  have hz2 : w2.heap.size = w.heap.size + 2 := by rw [← E2', World.size_alloc]; omega
  have HV3 : Hid (Below w.heap.size w w3) := HV.out.trans (HB3.out.mono (by omega))
  have HC3 := Lib.hid (HC.out.below HV3.out)
  rw [hz2] at X3
  have X1'' := Lib.hid (heap_below X1'.out HB3.out (by omega))
  have X2'' := Lib.hid (heap_below X2.out HB3.out (by omega))
  have hz3 : w3.heap.size = w.heap.size + 3 := by rw [← E3', World.size_alloc]; omega
  have a0 := cell_at X1''.out (j := 0) (v := .int .i64 m) rfl
  have a1 := cell_at X1''.out (j := 1) (v := .slice ao bs.length c) rfl
  have e0 := cell_at X2''.out (j := 0) (v := .int .i64 k) rfl
  have e1 := cell_at X2''.out (j := 1) (v := .string who) rfl
  have e2 := cell_at X2''.out (j := 2) (v := .int .i64 l) rfl
  have e3 := cell_at X2''.out (j := 3) (v := .int .i64 x) rfl
  have y0 := cell_at X3.out (j := 0) (v := .int .i64 0) rfl
  have y1 := cell_at X3.out (j := 1) (v := .slice none 0 0) rfl
  rw [← E3', ← E2', ← E1'] at a0 a1 e0 e1 e2 e3 y0 y1
  have HZ3 := Lib.hid hz3
  have E3 := Lib.hid E3'
  clear E1' E2' E3' hz1 hz2

  by_cases k0 : k = 0
  case pos =>
    subst k0
    have hE : Hid (dnE m bs ⟨0, who, l, x⟩ = tkE m bs who l) := by unfold Hid dnE; rw [if_pos rfl]
    have hB : Hid (dnB m bs ⟨0, who, l, x⟩ = tkB m bs who l) := by unfold Hid dnB; rw [if_pos rfl]
    rw [hE.out, hB.out] at HR
    go_enter Tryd.func62, Tryd.ntmps62
    go_wp2_with fail
    rw [E1.out, E2.out, E3.out]
    refine rtake_any m ao bs c who l _ _ (by omega) h8 (HC3.out) hs hw ?_
    intro a' c' bb dd w4 hb4 hs4 _ hf4 _
    generalize tkE m bs who l = E at HR ⊢
    generalize tkB m bs who l = B at HR hs4 ⊢
    generalize okM m E = M at HR ⊢
    have X4 := Lib.hid (heap_below X3.out hb4 (by omega))
    have B4 : Hid (Below w.heap.size w w4) := HV3.out.trans (hb4.mono HV3.out.size)
    have s4 := hb4.size
    have HF : Hid (Fresh w3.heap.size a') := hf4
    have HS := Lib.hid hs4
    clear hb4 hs4 hf4 y0 y1 a0 a1 e0 e1 e2 e3
    obtain ⟨w5, E5', HB5, s5, X5⟩ := box_ex w4 #[.int .i64 M, .slice a' B.length c'] 28
    have E5 := Lib.hid E5'
    have X5r := Lib.hid (heap_below X4.out HB5.out (by omega))
    have B5' : Hid (Below w.heap.size w w5) := B4.out.trans (HB5.out.mono B4.out.size)
    have HS5 := Lib.hid (HS.out.below HB5.out)
    have g0 := cell_at X5.out (j := 0) (v := .int .i64 M) rfl
    have g1 := cell_at X5.out (j := 1) (v := .slice a' B.length c') rfl
    have f0 := frozen_at X5r.out 0
    have f1 := frozen_at X5r.out 1
    have y0 := cell_at X5r.out (j := 0) (v := .int .i64 0) rfl
    have y1 := cell_at X5r.out (j := 1) (v := .slice none 0 0) rfl
    rw [← E5.out] at g0 g1 f0 f1 y0 y1
    clear E5'
    go_wp2_with fail
    rw [E5.out] at y0 y1 ⊢
    refine bodyPost_ret (v := .tuple #[.agg #[.int .i64 M, .slice a' B.length c'], .int .i64 E]) (by simp [results, Tryd.results62, go_sem, y0, y1]) rfl ?_
    have z3 := HZ3.out
    have hS := (HS5.out.set HF.out (p := ⟨w.heap.size + 2, 0, none⟩) (by show w.heap.size + 2 < w3.heap.size; omega) (.int .i64 M)).set HF.out (p := ⟨w.heap.size + 2, 1, none⟩) (by show w.heap.size + 2 < w3.heap.size; omega) (.slice a' B.length c')
    exact HR.out a' c' _ ((B5'.out.setCell (p := ⟨w.heap.size + 2, 0, none⟩) (by show w.heap.size ≤ w.heap.size + 2; omega) (.int .i64 M)).setCell (p := ⟨w.heap.size + 2, 1, none⟩) (by show w.heap.size ≤ w.heap.size + 2; omega) (.slice a' B.length c')) hS (HF.out.mono (by omega))
  by_cases k1 : k = 1
  case pos =>
    subst k1
    have hE : Hid (dnE m bs ⟨1, who, l, x⟩ = rtE m bs who x) := by unfold Hid dnE; rw [if_neg (by omega), if_pos rfl]
    have hB : Hid (dnB m bs ⟨1, who, l, x⟩ = rtB m bs who x) := by unfold Hid dnB; rw [if_neg (by omega), if_pos rfl]
    rw [hE.out, hB.out] at HR
    go_enter Tryd.func62, Tryd.ntmps62
    go_wp2_with fail
    rw [E1.out, E2.out, E3.out]
    refine rreturn_any m ao bs c who x _ _ (by omega) (HC3.out) hs hw ?_
    intro a' c' w4 hb4 hs4 hf4
    generalize rtE m bs who x = E at HR ⊢
    generalize rtB m bs who x = B at HR hs4 ⊢
    generalize okM m E = M at HR ⊢
    have X4 := Lib.hid (heap_below X3.out hb4 (by omega))
    have B4 : Hid (Below w.heap.size w w4) := HV3.out.trans (hb4.mono HV3.out.size)
    have s4 := hb4.size
    have HF : Hid (Fresh w3.heap.size a') := hf4
    have HS := Lib.hid hs4
    clear hb4 hs4 hf4 y0 y1 a0 a1 e0 e1 e2 e3
    have f0 := frozen_at X4.out 0
    have f1 := frozen_at X4.out 1
    have y0 := cell_at X4.out (j := 0) (v := .int .i64 0) rfl
    have y1 := cell_at X4.out (j := 1) (v := .slice none 0 0) rfl
    go_wp2_with fail
    refine bodyPost_ret (v := .tuple #[.agg #[.int .i64 M, .slice a' B.length c'], .int .i64 E]) (by simp [results, Tryd.results62, go_sem, y0, y1]) rfl ?_
    have z3 := HZ3.out
    have hS := (HS.out.set HF.out (p := ⟨w.heap.size + 2, 0, none⟩) (by show w.heap.size + 2 < w3.heap.size; omega) (.int .i64 M)).set HF.out (p := ⟨w.heap.size + 2, 1, none⟩) (by show w.heap.size + 2 < w3.heap.size; omega) (.slice a' B.length c')
    exact HR.out a' c' _ ((B4.out.setCell (p := ⟨w.heap.size + 2, 0, none⟩) (by show w.heap.size ≤ w.heap.size + 2; omega) (.int .i64 M)).setCell (p := ⟨w.heap.size + 2, 1, none⟩) (by show w.heap.size ≤ w.heap.size + 2; omega) (.slice a' B.length c')) hS (HF.out.mono (by omega))
  by_cases k2 : k = 2
  case pos =>
    subst k2
    have hE : Hid (dnE m bs ⟨2, who, l, x⟩ = clE m bs l x) := by unfold Hid dnE; rw [if_neg (by omega), if_neg (by omega), if_pos rfl]
    have hB : Hid (dnB m bs ⟨2, who, l, x⟩ = clB m bs l x) := by unfold Hid dnB; rw [if_neg (by omega), if_neg (by omega), if_pos rfl]
    rw [hE.out, hB.out] at HR
    go_enter Tryd.func62, Tryd.ntmps62
    go_wp2_with fail
    rw [E1.out, E2.out, E3.out]
    refine rcalibrate_any m ao bs c l x _ _ (by omega) (HC3.out) hs ?_
    intro a' c' w4 hb4 hs4 hf4
    generalize clE m bs l x = E at HR ⊢
    generalize clB m bs l x = B at HR hs4 ⊢
    generalize okM m E = M at HR ⊢
    have X4 := Lib.hid (heap_below X3.out hb4 (by omega))
    have B4 : Hid (Below w.heap.size w w4) := HV3.out.trans (hb4.mono HV3.out.size)
    have s4 := hb4.size
    have HF : Hid (Fresh w3.heap.size a') := hf4
    have HS := Lib.hid hs4
    clear hb4 hs4 hf4 y0 y1 a0 a1 e0 e1 e2 e3
    have f0 := frozen_at X4.out 0
    have f1 := frozen_at X4.out 1
    have y0 := cell_at X4.out (j := 0) (v := .int .i64 0) rfl
    have y1 := cell_at X4.out (j := 1) (v := .slice none 0 0) rfl
    go_wp2_with fail
    refine bodyPost_ret (v := .tuple #[.agg #[.int .i64 M, .slice a' B.length c'], .int .i64 E]) (by simp [results, Tryd.results62, go_sem, y0, y1]) rfl ?_
    have z3 := HZ3.out
    have hS := (HS.out.set HF.out (p := ⟨w.heap.size + 2, 0, none⟩) (by show w.heap.size + 2 < w3.heap.size; omega) (.int .i64 M)).set HF.out (p := ⟨w.heap.size + 2, 1, none⟩) (by show w.heap.size + 2 < w3.heap.size; omega) (.slice a' B.length c')
    exact HR.out a' c' _ ((B4.out.setCell (p := ⟨w.heap.size + 2, 0, none⟩) (by show w.heap.size ≤ w.heap.size + 2; omega) (.int .i64 M)).setCell (p := ⟨w.heap.size + 2, 1, none⟩) (by show w.heap.size ≤ w.heap.size + 2; omega) (.slice a' B.length c')) hS (HF.out.mono (by omega))
  by_cases k3 : k = 3
  case pos =>
    subst k3
    have hE : Hid (dnE m bs ⟨3, who, l, x⟩ = rsE m bs l) := by unfold Hid dnE; rw [if_neg (by omega), if_neg (by omega), if_neg (by omega), if_pos rfl]
    have hB : Hid (dnB m bs ⟨3, who, l, x⟩ = rpB m bs l) := by unfold Hid dnB; rw [if_neg (by omega), if_neg (by omega), if_neg (by omega), if_pos rfl]
    rw [hE.out, hB.out] at HR
    go_enter Tryd.func62, Tryd.ntmps62
    go_wp2_with fail
    rw [E1.out, E2.out, E3.out]
    refine rreplace_any m ao bs c l _ _ (by omega) (HC3.out) hs ?_
    intro a' c' w4 hb4 hs4 hf4
    generalize rsE m bs l = E at HR ⊢
    generalize rpB m bs l = B at HR hs4 ⊢
    generalize okM m E = M at HR ⊢
    have X4 := Lib.hid (heap_below X3.out hb4 (by omega))
    have B4 : Hid (Below w.heap.size w w4) := HV3.out.trans (hb4.mono HV3.out.size)
    have s4 := hb4.size
    have HF : Hid (Fresh w3.heap.size a') := hf4
    have HS := Lib.hid hs4
    clear hb4 hs4 hf4 y0 y1 a0 a1 e0 e1 e2 e3
    have f0 := frozen_at X4.out 0
    have f1 := frozen_at X4.out 1
    have y0 := cell_at X4.out (j := 0) (v := .int .i64 0) rfl
    have y1 := cell_at X4.out (j := 1) (v := .slice none 0 0) rfl
    go_wp2_with fail
    refine bodyPost_ret (v := .tuple #[.agg #[.int .i64 M, .slice a' B.length c'], .int .i64 E]) (by simp [results, Tryd.results62, go_sem, y0, y1]) rfl ?_
    have z3 := HZ3.out
    have hS := (HS.out.set HF.out (p := ⟨w.heap.size + 2, 0, none⟩) (by show w.heap.size + 2 < w3.heap.size; omega) (.int .i64 M)).set HF.out (p := ⟨w.heap.size + 2, 1, none⟩) (by show w.heap.size + 2 < w3.heap.size; omega) (.slice a' B.length c')
    exact HR.out a' c' _ ((B4.out.setCell (p := ⟨w.heap.size + 2, 0, none⟩) (by show w.heap.size ≤ w.heap.size + 2; omega) (.int .i64 M)).setCell (p := ⟨w.heap.size + 2, 1, none⟩) (by show w.heap.size ≤ w.heap.size + 2; omega) (.slice a' B.length c')) hS (HF.out.mono (by omega))
  have k0' : (k == 0) = false := by simpa using k0
  have k1' : (k == 1) = false := by simpa using k1
  have k2' : (k == 2) = false := by simpa using k2
  have k3' : (k == 3) = false := by simpa using k3
  have hE : Hid (dnE m bs ⟨k, who, l, x⟩ = 1) := by unfold Hid dnE; rw [if_neg k0, if_neg k1, if_neg k2, if_neg k3]
  have hB : Hid (dnB m bs ⟨k, who, l, x⟩ = []) := by unfold Hid dnB; rw [if_neg k0, if_neg k1, if_neg k2, if_neg k3]
  rw [hE.out, hB.out] at HR
  have f0 := frozen_at X3.out 0
  have f1 := frozen_at X3.out 1
  rw [← E3.out, ← E2.out, ← E1.out] at f0 f1
  go_enter Tryd.func62, Tryd.ntmps62
  go_wp2_with fail
  rw [E1.out, E2.out, E3.out] at y0 y1 ⊢
  refine bodyPost_ret (v := .tuple #[.agg #[.int .i64 0, .slice none 0 0], .int .i64 1]) (by simp [results, Tryd.results62, go_sem, y0, y1]) rfl ?_
  exact HR.out none 0 _ HV3.out (BSl.nil _) (Fresh.nil _)

end Go.Proofs.YteoniejpfmeibaaDoor
