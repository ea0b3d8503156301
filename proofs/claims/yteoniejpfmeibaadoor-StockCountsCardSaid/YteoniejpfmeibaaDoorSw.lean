/- The walks of Calibrate, Replace of the reference of package stock. -/
import Derived.Test.YteoniejpfmeibaaDoorSu
import Derived.Test.YteoniejpfmeibaaDoorSv
namespace Go.Proofs.YteoniejpfmeibaaDoor
open Go.RowKit Go.Shelf

theorem BSl.set {w : World} {ao : Option Addr} {c : Nat} {bs : List B5} (h : BSl w ao c bs) {n : Nat} (hf : Fresh n ao) {p : Addr} (hp : p.block < n) (u : Value) : BSl (w.setCell p u) ao c bs := by
  refine ⟨fun h0 => ?_, h.2⟩
  obtain ⟨b, o, e, h1, h2⟩ := h.1 h0
  have hn := hf b o e
  have hne : b ≠ p.block := by omega
  exact ⟨b, o, e, by simpa using h1, fun j hj => (World.cell?_of_block (w := w) (Below.heap_setCell _ _ _ _ hne)).trans (h2 j hj)⟩

set_option maxRecDepth 100000 in
set_option maxHeartbeats 4000000 in
theorem rcalibrate_any (most : Int) (ao : Option Addr) (bs : List B5) (c : Nat) (l x : Int) (w : World) (R : Ending → World → Prop) (hl : bs.length ≤ 9223372036854775807) (hc : CellsAt w ao (bC bs)) (hs : StrOk bs)
   (hR : ∀ a' c' w', Below w.heap.size w w' → BSl w' a' c' (clB most bs l x) → Fresh w.heap.size a' → R (.returned (.tuple #[.agg #[.int .i64 (okM most (clE most bs l x)), .slice a' (clB most bs l x).length c'], .int .i64 (clE most bs l x)])) w') :
    Calls Tryd.prog 30 #[.agg #[.int .i64 most, .slice ao bs.length c], .int .i64 l, .int .i64 x] w R := by
  have HR := Lib.hid hR
  have HC := Lib.hid hc
  clear hR hc
  obtain ⟨w1, E1', HB1, s1, X1⟩ := box_ex w #[.int .i64 most, .slice ao bs.length c] 28
  have E1 := Lib.hid E1'
  clear E1'
  have hz1 : w1.heap.size = w.heap.size + 1 := by rw [← E1.out]; simp
  obtain ⟨w2, E2', HB2, s2, X2⟩ := box_ex w1 #[.int .i64 0, .slice none 0 0] 28
  have E2 := Lib.hid E2'
  clear E2'
  have HV2 : Hid (Below w.heap.size w w2) := HB1.out.trans (HB2.out.mono (by omega))
  have X1' : Hid (w2.heap[w.heap.size]? = some (.cells #[.int .i64 most, .slice ao bs.length c] 28 (0, 0))) := heap_below X1.out HB2.out s1
  have X2' : Hid (w2.heap[w.heap.size + 1]? = some (.cells #[.int .i64 0, .slice none 0 0] 28 (0, 0))) := by unfold Hid; rw [← hz1]; exact X2.out
  have k0 : w2.cell? ⟨w.heap.size, 0, none⟩ = some (.int .i64 most) := cell_at X1'.out rfl
  have k1 : w2.cell? ⟨w.heap.size, 1, none⟩ = some (.slice ao bs.length c) := cell_at X1'.out rfl
  have hs2 : w.heap.size + 1 < w2.heap.size := by omega
  by_cases hE : rsE most bs l = 0
  · have HX : Hid (rsX most bs l = (rsI bs l : Nat)) := by unfold Hid rsX; rw [if_pos hE]
    have HE := Lib.hid hE
    cases hx : inB x 0 100000 with
    | true =>
      have HD : Hid (clE most bs l x = 0) := by unfold Hid clE; rw [if_pos hE, if_pos hx]
      have HDB : Hid (clB most bs l x = bs.set (rsI bs l) { bAt bs (rsI bs l) with w := x }) := by unfold Hid clB; rw [if_pos HD.out]
      have hlen := chkS_len (rsE_chk hE)
      have hib0 := rsE_lt hE
      obtain ⟨i, hi⟩ : ∃ i, Hid (rsI bs l = i) := ⟨_, rfl⟩
      rw [hi.out] at hib0
      have hib : i < bs.length := hib0
      clear hE hib0
      go_enter Tryd.func30, Tryd.ntmps30
      go_wp2_with fail
      rw [E1.out, E2.out]
      refine rresting_any most ao bs c l _ _ hl (HC.out.below HV2.out) hs ?_
      rw [HX.out, HE.out, hi.out]
      intro w3 hb3
      have HB3 : Hid (Below w.heap.size w w3) := HV2.out.trans (hb3.mono HV2.out.size)
      have X3 : Hid (w3.heap[w.heap.size + 1]? = some (.cells #[.int .i64 0, .slice none 0 0] 28 (0, 0))) := heap_below X2'.out hb3 hs2
      have hs3 : w.heap.size + 1 < w3.heap.size := Nat.lt_of_lt_of_le hs2 hb3.size
      have e0 := cellB hb3 k0 (by omega)
      have e1 := cellB hb3 k1 (by omega)
      obtain ⟨bb, ob, rfl, _, hcell⟩ := (HC.out.below HB3.out).blks (by omega)
      obtain ⟨q1, q2, q3, q4⟩ := hcell i hib
      obtain ⟨B, hB⟩ : ∃ B, bAt bs i = B := ⟨_, rfl⟩
      have HBB := Lib.hid hB
      rw [hB] at q1 q2 q3 q4
      obtain ⟨w4, E4, HB4, s4, r0, r1, r2, r3⟩ := box4 w3 (.int .i64 B.l) (.int .i64 x) (.int .i64 B.u) (.string B.h) 78
      have HV4 : Hid (Below w.heap.size w w4) := HB3.out.trans (HB4.out.mono (by omega))
      have m0 := cellB HB4.out e0 (by omega)
      have m1 := cellB HB4.out e1 (by omega)
      rw [← E4.out] at m0 m1 r0 r1 r2 r3
      clear hb3 hcell k0 k1 hB
      go_wp2_with fail
      refine length_any _ _ _ _ ?_
      go_wp2_with fail
      rw [E4.out]
      refine with_any most (some ⟨bb, ob, none⟩) bs c i ⟨B.l, x, B.u, B.h⟩ _ _ (by omega) hib (HC.out.below HV4.out) ?_
      intro a5 c5 w5 hb5 hs5 hf5
      have HB5 : Hid (Below w.heap.size w w5) := HV4.out.trans (hb5.mono (by omega))
      have X5 : Hid (w5.heap[w.heap.size + 1]? = some (.cells #[.int .i64 0, .slice none 0 0] 28 (0, 0))) := heap_below (heap_below X3.out HB4.out hs3) hb5 (by omega)
      have f0 := frozen_at X5.out 0
      have f1 := frozen_at X5.out 1
      have y0 : w5.cell? ⟨w.heap.size + 1, 0, none⟩ = some (.int .i64 0) := cell_at X5.out rfl
      have y1 : w5.cell? ⟨w.heap.size + 1, 1, none⟩ = some (.slice none 0 0) := cell_at X5.out rfl
      have HS5 := Lib.hid hs5
      have HF5 := Lib.hid hf5
      clear hb5 hs5 hf5
      go_wp2_with fail
      refine bodyPost_ret (v := .tuple #[.agg #[.int .i64 most, .slice a5 bs.length c5], .int .i64 0]) (by simp [results, Tryd.results30, go_sem, y0, y1]) rfl ?_
      have hS := (HS5.out.set HF5.out (p := ⟨w.heap.size + 1, 0, none⟩) (by show w.heap.size + 1 < w4.heap.size; omega) (.int .i64 most)).set HF5.out (p := ⟨w.heap.size + 1, 1, none⟩) (by show w.heap.size + 1 < w4.heap.size; omega) (.slice a5 bs.length c5)
      have HR' := HR.out a5 c5 _ ((HB5.out.setCell (p := ⟨w.heap.size + 1, 0, none⟩) (by show w.heap.size ≤ w.heap.size + 1; omega) (.int .i64 most)).setCell (p := ⟨w.heap.size + 1, 1, none⟩) (by show w.heap.size ≤ w.heap.size + 1; omega) (.slice a5 bs.length c5)) (by rw [HDB.out, hi.out, HBB.out]; exact hS) (HF5.out.mono (by omega))
      rw [HD.out, HDB.out, List.length_set] at HR'
      exact HR'
    | false =>
      have HD : Hid (clE most bs l x = 2) := by unfold Hid clE; rw [if_pos hE, if_neg (by rw [hx]; simp)]
      have HDB : Hid (clB most bs l x = []) := by unfold Hid clB; rw [if_neg (by rw [HD.out]; omega)]
      clear hE
      go_enter Tryd.func30, Tryd.ntmps30
      go_wp2_with fail
      rw [E1.out, E2.out]
      refine rresting_any most ao bs c l _ _ hl (HC.out.below HV2.out) hs ?_
      rw [HX.out, HE.out]
      intro w3 hb3
      have HB3 : Hid (Below w.heap.size w w3) := HV2.out.trans (hb3.mono HV2.out.size)
      have X3 : Hid (w3.heap[w.heap.size + 1]? = some (.cells #[.int .i64 0, .slice none 0 0] 28 (0, 0))) := heap_below X2'.out hb3 hs2
      have f0 := frozen_at X3.out 0
      have f1 := frozen_at X3.out 1
      have y0 : w3.cell? ⟨w.heap.size + 1, 0, none⟩ = some (.int .i64 0) := cell_at X3.out rfl
      have y1 : w3.cell? ⟨w.heap.size + 1, 1, none⟩ = some (.slice none 0 0) := cell_at X3.out rfl
      clear hb3
      go_wp2_with fail
      refine length_any _ _ _ _ ?_
      go_wp2_with fail
      refine bodyPost_ret (v := .tuple #[.agg #[.int .i64 0, .slice none 0 0], .int .i64 2]) (by simp [results, Tryd.results30, go_sem, y0, y1]) rfl ?_
      have HR' := HR.out none 0 _ ((HB3.out.setCell (p := ⟨w.heap.size + 1, 0, none⟩) (by show w.heap.size ≤ w.heap.size + 1; omega) (.int .i64 0)).setCell (p := ⟨w.heap.size + 1, 1, none⟩) (by show w.heap.size ≤ w.heap.size + 1; omega) (.slice none 0 0)) (by rw [HDB.out]; exact BSl.nil _) (Fresh.nil _)
      rw [HDB.out, HD.out, okM, if_neg (by omega)] at HR'
      exact HR'
  · have HX : Hid (rsX most bs l = 0) := by unfold Hid rsX; rw [if_neg hE]
    have HD : Hid (clE most bs l x = rsE most bs l) := by unfold Hid clE; rw [if_neg hE]
    have HDB : Hid (clB most bs l x = []) := by unfold Hid clB; rw [if_neg (by rw [HD.out]; exact hE)]
    have HE := Lib.hid hE
    have hE' : (rsE most bs l == 0) = false := by simpa using hE
    have hE'' : (rsE most bs l != 0) = true := by simpa using hE
    clear hE
    go_enter Tryd.func30, Tryd.ntmps30
    go_wp2_with fail
    rw [E1.out, E2.out]
    refine rresting_any most ao bs c l _ _ hl (HC.out.below HV2.out) hs ?_
    rw [HX.out]
    intro w3 hb3
    have HB3 : Hid (Below w.heap.size w w3) := HV2.out.trans (hb3.mono HV2.out.size)
    have X3 : Hid (w3.heap[w.heap.size + 1]? = some (.cells #[.int .i64 0, .slice none 0 0] 28 (0, 0))) := heap_below X2'.out hb3 hs2
    have f0 := frozen_at X3.out 0
    have f1 := frozen_at X3.out 1
    have y0 : w3.cell? ⟨w.heap.size + 1, 0, none⟩ = some (.int .i64 0) := cell_at X3.out rfl
    have y1 : w3.cell? ⟨w.heap.size + 1, 1, none⟩ = some (.slice none 0 0) := cell_at X3.out rfl
    clear hb3
    go_wp2_with fail
    refine bodyPost_ret (v := .tuple #[.agg #[.int .i64 0, .slice none 0 0], .int .i64 (rsE most bs l)]) (by simp [results, Tryd.results30, go_sem, y0, y1]) rfl ?_
    have HR' := HR.out none 0 _ ((HB3.out.setCell (p := ⟨w.heap.size + 1, 0, none⟩) (by show w.heap.size ≤ w.heap.size + 1; omega) (.int .i64 0)).setCell (p := ⟨w.heap.size + 1, 1, none⟩) (by show w.heap.size ≤ w.heap.size + 1; omega) (.slice none 0 0)) (by rw [HDB.out]; exact BSl.nil _) (Fresh.nil _)
    rw [HDB.out, HD.out, okM, if_neg (by exact HE.out)] at HR'
    exact HR'
set_option maxRecDepth 100000 in
set_option maxHeartbeats 4000000 in
theorem rreplace_any (most : Int) (ao : Option Addr) (bs : List B5) (c : Nat) (l : Int) (w : World) (R : Ending → World → Prop) (hl : bs.length ≤ 9223372036854775807) (hc : CellsAt w ao (bC bs)) (hs : StrOk bs)
   (hR : ∀ a' c' w', Below w.heap.size w w' → BSl w' a' c' (rpB most bs l) → Fresh w.heap.size a' → R (.returned (.tuple #[.agg #[.int .i64 (okM most (rsE most bs l)), .slice a' (rpB most bs l).length c'], .int .i64 (rsE most bs l)])) w') :
    Calls Tryd.prog 32 #[.agg #[.int .i64 most, .slice ao bs.length c], .int .i64 l] w R := by
  have HR := Lib.hid hR
  have HC := Lib.hid hc
  clear hR hc
  obtain ⟨w1, E1', HB1, s1, X1⟩ := box_ex w #[.int .i64 most, .slice ao bs.length c] 28
  have E1 := Lib.hid E1'
  clear E1'
  have hz1 : w1.heap.size = w.heap.size + 1 := by rw [← E1.out]; simp
  obtain ⟨w2, E2', HB2, s2, X2⟩ := box_ex w1 #[.int .i64 0, .slice none 0 0] 28
  have E2 := Lib.hid E2'
  clear E2'
  have HV2 : Hid (Below w.heap.size w w2) := HB1.out.trans (HB2.out.mono (by omega))
  have X1' : Hid (w2.heap[w.heap.size]? = some (.cells #[.int .i64 most, .slice ao bs.length c] 28 (0, 0))) := heap_below X1.out HB2.out s1
  have X2' : Hid (w2.heap[w.heap.size + 1]? = some (.cells #[.int .i64 0, .slice none 0 0] 28 (0, 0))) := by unfold Hid; rw [← hz1]; exact X2.out
  have k0 : w2.cell? ⟨w.heap.size, 0, none⟩ = some (.int .i64 most) := cell_at X1'.out rfl
  have k1 : w2.cell? ⟨w.heap.size, 1, none⟩ = some (.slice ao bs.length c) := cell_at X1'.out rfl
  have hs2 : w.heap.size + 1 < w2.heap.size := by omega
  by_cases hE : rsE most bs l = 0
  · have HX : Hid (rsX most bs l = (rsI bs l : Nat)) := by unfold Hid rsX; rw [if_pos hE]
    have HE := Lib.hid hE
    have HD : Hid (rsE most bs l = 0) := hE
    have HDB : Hid (rpB most bs l = bs.set (rsI bs l) ⟨l, 0, 0, ⟨#[]⟩⟩) := by unfold Hid rpB; rw [if_pos hE]
    have hlen := chkS_len (rsE_chk hE)
    have hib0 := rsE_lt hE
    obtain ⟨i, hi⟩ : ∃ i, Hid (rsI bs l = i) := ⟨_, rfl⟩
    rw [hi.out] at hib0
    have hib : i < bs.length := hib0
    clear hE hib0
    go_enter Tryd.func32, Tryd.ntmps32
    go_wp2_with fail
    rw [E1.out, E2.out]
    refine rresting_any most ao bs c l _ _ hl (HC.out.below HV2.out) hs ?_
    rw [HX.out, HE.out, hi.out]
    intro w3 hb3
    have HB3 : Hid (Below w.heap.size w w3) := HV2.out.trans (hb3.mono HV2.out.size)
    have X3 : Hid (w3.heap[w.heap.size + 1]? = some (.cells #[.int .i64 0, .slice none 0 0] 28 (0, 0))) := heap_below X2'.out hb3 hs2
    have hs3 : w.heap.size + 1 < w3.heap.size := Nat.lt_of_lt_of_le hs2 hb3.size
    have e0 := cellB hb3 k0 (by omega)
    have e1 := cellB hb3 k1 (by omega)
    obtain ⟨bb, ob, rfl, _, _⟩ := (HC.out.below HB3.out).blks (by omega)
    clear hb3 k0 k1
    go_wp2_with fail
    refine with_any most (some ⟨bb, ob, none⟩) bs c i ⟨l, 0, 0, ⟨#[]⟩⟩ _ _ (by omega) hib (HC.out.below HB3.out) ?_
    intro a5 c5 w5 hb5 hs5 hf5
    have HB5 : Hid (Below w.heap.size w w5) := HB3.out.trans (hb5.mono (by omega))
    have X5 : Hid (w5.heap[w.heap.size + 1]? = some (.cells #[.int .i64 0, .slice none 0 0] 28 (0, 0))) := heap_below X3.out hb5 (by omega)
    have f0 := frozen_at X5.out 0
    have f1 := frozen_at X5.out 1
    have y0 : w5.cell? ⟨w.heap.size + 1, 0, none⟩ = some (.int .i64 0) := cell_at X5.out rfl
    have y1 : w5.cell? ⟨w.heap.size + 1, 1, none⟩ = some (.slice none 0 0) := cell_at X5.out rfl
    have HS5 := Lib.hid hs5
    have HF5 := Lib.hid hf5
    clear hb5 hs5 hf5
    go_wp2_with fail
    refine bodyPost_ret (v := .tuple #[.agg #[.int .i64 most, .slice a5 bs.length c5], .int .i64 0]) (by simp [results, Tryd.results32, go_sem, y0, y1]) rfl ?_
    have hS := (HS5.out.set HF5.out (p := ⟨w.heap.size + 1, 0, none⟩) (by show w.heap.size + 1 < w3.heap.size; omega) (.int .i64 most)).set HF5.out (p := ⟨w.heap.size + 1, 1, none⟩) (by show w.heap.size + 1 < w3.heap.size; omega) (.slice a5 bs.length c5)
    have HR' := HR.out a5 c5 _ ((HB5.out.setCell (p := ⟨w.heap.size + 1, 0, none⟩) (by show w.heap.size ≤ w.heap.size + 1; omega) (.int .i64 most)).setCell (p := ⟨w.heap.size + 1, 1, none⟩) (by show w.heap.size ≤ w.heap.size + 1; omega) (.slice a5 bs.length c5)) (by rw [HDB.out, hi.out]; exact hS) (HF5.out.mono (by omega))
    rw [HD.out, HDB.out, List.length_set] at HR'
    exact HR'
  · have HX : Hid (rsX most bs l = 0) := by unfold Hid rsX; rw [if_neg hE]
    have HDB : Hid (rpB most bs l = []) := by unfold Hid rpB; rw [if_neg hE]
    have HE := Lib.hid hE
    have hE' : (rsE most bs l == 0) = false := by simpa using hE
    have hE'' : (rsE most bs l != 0) = true := by simpa using hE
    clear hE
    go_enter Tryd.func32, Tryd.ntmps32
    go_wp2_with fail
    rw [E1.out, E2.out]
    refine rresting_any most ao bs c l _ _ hl (HC.out.below HV2.out) hs ?_
    rw [HX.out]
    intro w3 hb3
    have HB3 : Hid (Below w.heap.size w w3) := HV2.out.trans (hb3.mono HV2.out.size)
    have X3 : Hid (w3.heap[w.heap.size + 1]? = some (.cells #[.int .i64 0, .slice none 0 0] 28 (0, 0))) := heap_below X2'.out hb3 hs2
    have f0 := frozen_at X3.out 0
    have f1 := frozen_at X3.out 1
    have y0 : w3.cell? ⟨w.heap.size + 1, 0, none⟩ = some (.int .i64 0) := cell_at X3.out rfl
    have y1 : w3.cell? ⟨w.heap.size + 1, 1, none⟩ = some (.slice none 0 0) := cell_at X3.out rfl
    clear hb3
    go_wp2_with fail
    refine bodyPost_ret (v := .tuple #[.agg #[.int .i64 0, .slice none 0 0], .int .i64 (rsE most bs l)]) (by simp [results, Tryd.results32, go_sem, y0, y1]) rfl ?_
    have HR' := HR.out none 0 _ ((HB3.out.setCell (p := ⟨w.heap.size + 1, 0, none⟩) (by show w.heap.size ≤ w.heap.size + 1; omega) (.int .i64 0)).setCell (p := ⟨w.heap.size + 1, 1, none⟩) (by show w.heap.size ≤ w.heap.size + 1; omega) (.slice none 0 0)) (by rw [HDB.out]; exact BSl.nil _) (Fresh.nil _)
    rw [HDB.out, okM, if_neg (by exact HE.out)] at HR'
    exact HR'
end Go.Proofs.YteoniejpfmeibaaDoor
