/- The walk of awake: the examples of the chapter hold. (Printed by gen_awake22.py.) The walk of the law CompleteVerifies. -/
import Derived.Test.YtlgjhjgdmomfoaaMcm
import Derived.Test.YtlgjhjgdmomfoaaMck
import Derived.Test.YtlgjhjgdmomfoaaMda
import Derived.Test.YtlgjhjgdmomfoaaMdh
import Derived.Test.YtlgjhjgdmomfoaaMdl
namespace Go.Proofs.Ytlgjhjgdmomfoaa
open Go.RowKit Go.Maps

/-! ### the chapter's examples -/
def thr (l h : Int) : List Dm := [⟨⟨#[65]⟩, ⟨#[66]⟩, 0, 10, 12⟩, ⟨⟨#[66]⟩, ⟨#[67]⟩, 0, 5, 6⟩, ⟨⟨#[65]⟩, ⟨#[67]⟩, 0, l, h⟩]
theorem thr_ok (l h : Int) : DmsOk (thr l h) := by
  intro i hi
  match i, hi with
  | 0, _ => exact ⟨by show (⟨#[65]⟩ : ByteArray).size ≤ _; decide, by show (⟨#[66]⟩ : ByteArray).size ≤ _; decide⟩
  | 1, _ => exact ⟨by show (⟨#[66]⟩ : ByteArray).size ≤ _; decide, by show (⟨#[67]⟩ : ByteArray).size ≤ _; decide⟩
  | 2, _ => exact ⟨by show (⟨#[65]⟩ : ByteArray).size ≤ _; decide, by show (⟨#[67]⟩ : ByteArray).size ≤ _; decide⟩
theorem nmG_fun : nmG = fun vs ax => alN vs ax vs.length := by funext vs ax; exact (alN_eq vs ax).symm
theorem th_nm : (nmG (thr 16 20) 0).length = 3 := by rw [nmG_fun]; decide +kernel
theorem th_gi : giE (thr 16 20) 0 = 0 := by decide +kernel
theorem th_gi2 : giE (thr 19 20) 0 = 0 := by decide +kernel
theorem th_gi3 : giE (thr 14 20) 0 = 0 := by decide +kernel
theorem th_gs : gsX (thr 16 20) 0 = [[⟨#[65]⟩, ⟨#[66]⟩, ⟨#[67]⟩]] := by
  delta gsX gsF fsL gmL grG pF pT nmN
  rw [nmG_fun]
  decide +kernel
theorem th_rd : rdX (thr 16 20) 0 = [2] := by
  delta rdX rdF rdF._f jnX grG pF pT nmN
  rw [nmG_fun]
  decide +kernel
theorem th_ac : dsX (thr 16 20) 0 ⟨#[65]⟩ ⟨#[67]⟩ = (16, 18, 0) := by
  delta dsX spL spH cfE cfR frR jnX grG arX arcV arcI pF pT nmN
  rw [nmG_fun]
  decide +kernel
theorem th_bc : dsX (thr 16 20) 0 ⟨#[66]⟩ ⟨#[67]⟩ = (5, 6, 0) := by
  delta dsX spL spH cfE cfR frR jnX grG arX arcV arcI pF pT nmN
  rw [nmG_fun]
  decide +kernel
theorem th_cf : cfE (thr 16 20) 0 = true := by
  delta cfE cfR arX arcV arcI pF pT nmN
  rw [nmG_fun]
  decide +kernel
theorem th_cf2 : cfE (thr 19 20) 0 = false := by
  delta cfE cfR arX arcV arcI pF pT nmN
  rw [nmG_fun]
  decide +kernel
theorem th_so : soX (thr 16 20) 0 = [⟨⟨#[65]⟩, 0⟩, ⟨⟨#[66]⟩, 12⟩, ⟨⟨#[67]⟩, 18⟩] := by
  delta soX poP frR grG arX arcV arcI pF pT nmN
  rw [nmG_fun]
  kernel_rfl
theorem th_im : imX (thr 14 20) 0 = [2] := by
  delta imX imF imF._f imQ spL spH cfE cfR frR jnX grG arX arcV arcI pF pT nmN
  rw [nmG_fun]
  decide +kernel
theorem th_ie : imE (thr 14 20) 0 = 0 := by
  delta imE cfE cfR arX arcV arcI pF pT nmN
  rw [nmG_fun]
  decide +kernel
theorem th_vf : vfE (thr 19 20) 0 (cfL (thr 19 20) 0) = 0 := by
  delta cfL cfR arX arcV arcI pF pT nmN
  rw [nmG_fun]
  decide +kernel
theorem th_vf2 : vfE (thr 16 20) 0 (cfL (thr 19 20) 0) = 15 := by
  delta cfL cfR arX arcV arcI pF pT nmN
  rw [nmG_fun]
  decide +kernel
theorem th_len : (cfL (thr 19 20) 0).length = 3 := by
  delta cfL cfR arX arcV arcI pF pT nmN
  rw [nmG_fun]
  decide +kernel
set_option maxRecDepth 100000 in
set_option maxHeartbeats 2000000 in
theorem three_any (l h : Int) (w : World) (R : Ending → World → Prop) (hR : ∀ b w', Below w.heap.size w w' → CellsAt w' (some ⟨b, 0, none⟩) (dC (thr l h)) → R (.returned (.slice (some ⟨b, 0, none⟩) 3 3)) w') :
    Calls Try.prog 43 #[.int .i64 l, .int .i64 h] w R := by
  have HR := Lib.hid hR
  clear hR
  go_enter Try.func43, Try.ntmps43
  go_wp2_with fail
  exact HR.out _ _ ((Below.refl _ _).alloc (Nat.le_refl _) _) (lit_cells w _ _ _ rfl)
/-! ### contracts at the examples -/
theorem groupsAt (b : Nat) (w : World) (R : Ending → World → Prop) (hc : CellsAt w (some ⟨b, 0, none⟩) (dC (thr 16 20)))
   (hR : ∀ ao c w', Below w.heap.size w w' → NsC w' ao [[⟨#[65]⟩, ⟨#[66]⟩, ⟨#[67]⟩]] → R (.returned (.tuple #[.slice ao 1 c, .int .i64 0])) w') :
    Calls Try.prog 26 #[.slice (some ⟨b, 0, none⟩) 3 3, .int .i64 0] w R :=
  groups22_any (some ⟨b, 0, none⟩) (thr 16 20) 3 0 w R (by decide) hc (thr_ok _ _) (fun h => absurd th_gi h) fun _ v vals w' hb hn => by
    rw [th_gs] at hn
    obtain ⟨ao, c, rfl, h⟩ := hn.reads
    exact hR ao c w' hb h
theorem redundantAt (b : Nat) (w : World) (R : Ending → World → Prop) (hc : CellsAt w (some ⟨b, 0, none⟩) (dC (thr 16 20)))
   (hR : ∀ ao c w', Below w.heap.size w w' → CellsAt w' ao (I64s [2]) → R (.returned (.tuple #[.slice ao 1 c, .int .i64 0])) w') :
    Calls Try.prog 28 #[.slice (some ⟨b, 0, none⟩) 3 3, .int .i64 0] w R :=
  redundant_any (some ⟨b, 0, none⟩) (thr 16 20) 3 0 w R (by decide) (by decide) hc (thr_ok _ _) fun v w' hb hn => by
    rw [th_rd] at hn
    obtain ⟨ao, c, rfl, h, _⟩ := ownsRow_read hn
    rw [th_gi]
    exact hR ao c w' hb h
theorem distanceAt (b : Nat) (s t : ByteArray) (lo hi : Int) (w : World) (R : Ending → World → Prop) (hc : CellsAt w (some ⟨b, 0, none⟩) (dC (thr 16 20))) (hs : s.size ≤ 60) (ht : t.size ≤ 60) (hX : dsX (thr 16 20) 0 s t = (lo, hi, 0))
   (hR : ∀ w', Below w.heap.size w w' → R (.returned (.tuple #[.agg #[.int .i64 lo, .int .i64 hi], .int .i64 0])) w') :
    Calls Try.prog 14 #[.slice (some ⟨b, 0, none⟩) 3 3, .string s, .string t, .int .i64 0] w R :=
  distance_any (some ⟨b, 0, none⟩) (thr 16 20) 3 0 s t w R (by decide) hc (thr_ok _ _) (by omega) (by omega) fun w' hb => by
    rw [hX]; exact hR w' hb
theorem solveAt (b : Nat) (w : World) (R : Ending → World → Prop) (hc : CellsAt w (some ⟨b, 0, none⟩) (dC (thr 16 20)))
   (hR : ∀ g w', Below w.heap.size w w' → CellsAt w' (some ⟨g, 0, none⟩) (poC [⟨⟨#[65]⟩, 0⟩, ⟨⟨#[66]⟩, 12⟩, ⟨⟨#[67]⟩, 18⟩]) → R (.returned (.tuple #[.slice (some ⟨g, 0, none⟩) 3 3, .slice none 0 0, .bool true, .int .i64 0])) w') :
    Calls Try.prog 19 #[.slice (some ⟨b, 0, none⟩) 3 3, .int .i64 0] w R :=
  solve_any (some ⟨b, 0, none⟩) (thr 16 20) 3 0 w R (by decide) hc (thr_ok _ _) (fun h => absurd th_gi h) (fun _ h => by rw [th_cf] at h; cases h) fun _ _ g w' _ hb hn => by
    rw [th_so] at hn
    rw [th_nm]
    exact hR g w' hb hn.cellsAt
theorem solveAt2 (b : Nat) (w : World) (R : Ending → World → Prop) (hc : CellsAt w (some ⟨b, 0, none⟩) (dC (thr 19 20)))
   (hR : ∀ ao c w', Below w.heap.size w w' → CellsAt w' ao (pC (cfL (thr 19 20) 0)) → R (.returned (.tuple #[.slice none 0 0, .slice ao 3 c, .bool false, .int .i64 0])) w') :
    Calls Try.prog 19 #[.slice (some ⟨b, 0, none⟩) 3 3, .int .i64 0] w R :=
  solve_any (some ⟨b, 0, none⟩) (thr 19 20) 3 0 w R (by decide) hc (thr_ok _ _) (fun h => absurd th_gi2 h) (fun _ _ v w' hb ho => by
    obtain ⟨ao, c, rfl, h, _⟩ := ownsRow_read ho
    rw [th_len]
    exact hR ao c w' hb h) fun _ h => by rw [th_cf2] at h; cases h
theorem impliedAt (b : Nat) (w : World) (R : Ending → World → Prop) (hc : CellsAt w (some ⟨b, 0, none⟩) (dC (thr 14 20)))
   (hR : ∀ ao c w', Below w.heap.size w w' → CellsAt w' ao (I64s [2]) → R (.returned (.tuple #[.slice ao 1 c, .int .i64 0])) w') :
    Calls Try.prog 16 #[.slice (some ⟨b, 0, none⟩) 3 3, .int .i64 0] w R :=
  implied_any (some ⟨b, 0, none⟩) (thr 14 20) 3 0 w R (by decide) hc (thr_ok _ _) fun v w' hb hn => by
    rw [th_im] at hn
    obtain ⟨ao, c, rfl, h, _⟩ := ownsRow_read hn
    rw [th_ie]
    exact hR ao c w' hb h
theorem verifyAt (b : Nat) (l : Int) (e : Int) (al : Option Addr) (cs : Nat) (w : World) (R : Ending → World → Prop) (hc : CellsAt w (some ⟨b, 0, none⟩) (dC (thr l 20))) (hs : CellsAt w al (pC (cfL (thr 19 20) 0))) (hX : vfE (thr l 20) 0 (cfL (thr 19 20) 0) = e)
   (hR : ∀ w', Below w.heap.size w w' → R (.returned (.int .i64 e)) w') :
    Calls Try.prog 12 #[.slice (some ⟨b, 0, none⟩) 3 3, .int .i64 0, .slice al 3 cs] w R := by
  have h := verify_any (some ⟨b, 0, none⟩) (thr l 20) 3 0 al (cfL (thr 19 20) 0) cs w R (by show 3 ≤ _; decide) (by rw [th_len]; decide) hc (thr_ok _ _) hs fun w' hb => by
    rw [hX]; exact hR w' hb
  rw [th_len] at h
  exact h
theorem nsC_lit {w1 : World} {b : Nat} {r : List ByteArray} {n : Nat} (hr : r.length = n) (h : CellsAt w1 (some ⟨b, 0, none⟩) (sC r)) (g : Nat) (h2 : CellsAt w1 (some ⟨g, 0, none⟩) [.slice (some ⟨b, 0, none⟩) n n]) : NsC w1 (some ⟨g, 0, none⟩) [r] :=
  ⟨[.slice (some ⟨b, 0, none⟩) n n], rfl, h2, fun j hj => by
    obtain rfl : j = 0 := by simp at hj; omega
    exact ⟨some ⟨b, 0, none⟩, n, by rw [show rAt [r] 0 = r from rfl, hr]; rfl, h⟩⟩
set_option maxRecDepth 100000 in
set_option maxHeartbeats 8000000 in
theorem awake22_any (w : World) (R : Ending → World → Prop) (hR : ∀ w', Below w.heap.size w w' → R (.returned (.bool true)) w') : Calls Try.prog 11 #[] w R := by
  have HR := Lib.hid hR
  clear hR
  go_enter Try.func11, Try.ntmps11
  have U0 : Hid (Below w.heap.size w w) := Below.refl _ _
  go_wp2_with fail
  refine three_any 16 20 _ _ ?_
  intro b1 w1 hb hC1
  have U1 := Lib.hid (U0.out.trans (hb.mono U0.out.size))
  have C1 := Lib.hid hC1
  clear hb hC1
  go_wp2_with fail
  refine groupsAt b1 _ _ C1.out ?_
  intro a2 c2 w2 hb hG2
  have U2 := Lib.hid (U1.out.trans (hb.mono U1.out.size))
  have C1 := Lib.hid (C1.out.below hb)
  have G2 := Lib.hid hG2
  clear hb hG2
  go_wp2_with fail
  refine redundantAt b1 _ _ C1.out ?_
  intro a3 c3 w3 hb hR3
  have U3 := Lib.hid (U2.out.trans (hb.mono U2.out.size))
  have C1 := Lib.hid (C1.out.below hb)
  have G2 := Lib.hid (G2.out.below hb)
  have R3 := Lib.hid hR3
  clear hb hR3
  go_wp2_with fail
  refine distanceAt b1 ⟨#[65]⟩ ⟨#[67]⟩ 16 18 _ _ C1.out (by decide) (by decide) th_ac ?_
  intro w4 hb
  have U4 := Lib.hid (U3.out.trans (hb.mono U3.out.size))
  have C1 := Lib.hid (C1.out.below hb)
  have G2 := Lib.hid (G2.out.below hb)
  have R3 := Lib.hid (R3.out.below hb)
  clear hb
  obtain ⟨w5, E5, B5, _, X5⟩ := box_ex w4 #[.int .i64 16, .int .i64 18] 37
  have U5 := Lib.hid (U4.out.trans (B5.out.mono U4.out.size))
  have C1 := Lib.hid (C1.out.below B5.out)
  have G2 := Lib.hid (G2.out.below B5.out)
  have R3 := Lib.hid (R3.out.below B5.out)
  go_wp2_with fail
  refine distanceAt b1 ⟨#[66]⟩ ⟨#[67]⟩ 5 6 _ _ C1.out (by decide) (by decide) th_bc ?_
  intro w6 hb
  have U6 := Lib.hid (U5.out.trans (hb.mono U5.out.size))
  have C1 := Lib.hid (C1.out.below hb)
  have G2 := Lib.hid (G2.out.below hb)
  have R3 := Lib.hid (R3.out.below hb)
  have X5 := Lib.hid (blk_box X5.out hb (lt_of_block X5.out))
  clear hb
  obtain ⟨w7, E7, B7, _, X7⟩ := box_ex w6 #[.int .i64 5, .int .i64 6] 37
  have U7 := Lib.hid (U6.out.trans (B7.out.mono U6.out.size))
  have C1 := Lib.hid (C1.out.below B7.out)
  have G2 := Lib.hid (G2.out.below B7.out)
  have R3 := Lib.hid (R3.out.below B7.out)
  have X5 := Lib.hid (blk_box X5.out B7.out (lt_of_block X5.out))
  go_wp2_with fail
  refine solveAt b1 _ _ C1.out ?_
  intro g8 w8 hb hP8
  have U8 := Lib.hid (U7.out.trans (hb.mono U7.out.size))
  have C1 := Lib.hid (C1.out.below hb)
  have G2 := Lib.hid (G2.out.below hb)
  have R3 := Lib.hid (R3.out.below hb)
  have X5 := Lib.hid (blk_box X5.out hb (lt_of_block X5.out))
  have X7 := Lib.hid (blk_box X7.out hb (lt_of_block X7.out))
  have P8 := Lib.hid hP8
  clear hb hP8
  go_wp2_with fail
  refine three_any 19 20 _ _ ?_
  intro b9 w9 hb hC9
  have U9 := Lib.hid (U8.out.trans (hb.mono U8.out.size))
  have C1 := Lib.hid (C1.out.below hb)
  have G2 := Lib.hid (G2.out.below hb)
  have R3 := Lib.hid (R3.out.below hb)
  have X5 := Lib.hid (blk_box X5.out hb (lt_of_block X5.out))
  have X7 := Lib.hid (blk_box X7.out hb (lt_of_block X7.out))
  have P8 := Lib.hid (P8.out.below hb)
  have C9 := Lib.hid hC9
  clear hb hC9
  go_wp2_with fail
  refine solveAt2 b9 _ _ C9.out ?_
  intro a10 c10 w10 hb hL10
  have U10 := Lib.hid (U9.out.trans (hb.mono U9.out.size))
  have C1 := Lib.hid (C1.out.below hb)
  have G2 := Lib.hid (G2.out.below hb)
  have R3 := Lib.hid (R3.out.below hb)
  have X5 := Lib.hid (blk_box X5.out hb (lt_of_block X5.out))
  have X7 := Lib.hid (blk_box X7.out hb (lt_of_block X7.out))
  have P8 := Lib.hid (P8.out.below hb)
  have C9 := Lib.hid (C9.out.below hb)
  have L10 := Lib.hid hL10
  clear hb hL10
  go_wp2_with fail
  refine three_any 14 20 _ _ ?_
  intro b11 w11 hb hC11
  have U11 := Lib.hid (U10.out.trans (hb.mono U10.out.size))
  have C1 := Lib.hid (C1.out.below hb)
  have G2 := Lib.hid (G2.out.below hb)
  have R3 := Lib.hid (R3.out.below hb)
  have X5 := Lib.hid (blk_box X5.out hb (lt_of_block X5.out))
  have X7 := Lib.hid (blk_box X7.out hb (lt_of_block X7.out))
  have P8 := Lib.hid (P8.out.below hb)
  have C9 := Lib.hid (C9.out.below hb)
  have L10 := Lib.hid (L10.out.below hb)
  have C11 := Lib.hid hC11
  clear hb hC11
  go_wp2_with fail
  refine impliedAt b11 _ _ C11.out ?_
  intro a12 c12 w12 hb hI12
  have U12 := Lib.hid (U11.out.trans (hb.mono U11.out.size))
  have C1 := Lib.hid (C1.out.below hb)
  have G2 := Lib.hid (G2.out.below hb)
  have R3 := Lib.hid (R3.out.below hb)
  have X5 := Lib.hid (blk_box X5.out hb (lt_of_block X5.out))
  have X7 := Lib.hid (blk_box X7.out hb (lt_of_block X7.out))
  have P8 := Lib.hid (P8.out.below hb)
  have C9 := Lib.hid (C9.out.below hb)
  have L10 := Lib.hid (L10.out.below hb)
  have C11 := Lib.hid (C11.out.below hb)
  have I12 := Lib.hid hI12
  clear hb hI12
  go_wp2_with fail
  refine three_any 19 20 _ _ ?_
  intro b13 w13 hb hC13
  have U13 := Lib.hid (U12.out.trans (hb.mono U12.out.size))
  have C1 := Lib.hid (C1.out.below hb)
  have G2 := Lib.hid (G2.out.below hb)
  have R3 := Lib.hid (R3.out.below hb)
  have X5 := Lib.hid (blk_box X5.out hb (lt_of_block X5.out))
  have X7 := Lib.hid (blk_box X7.out hb (lt_of_block X7.out))
  have P8 := Lib.hid (P8.out.below hb)
  have C9 := Lib.hid (C9.out.below hb)
  have L10 := Lib.hid (L10.out.below hb)
  have C11 := Lib.hid (C11.out.below hb)
  have I12 := Lib.hid (I12.out.below hb)
  have C13 := Lib.hid hC13
  clear hb hC13
  go_wp2_with fail
  refine verifyAt b13 19 0 a10 c10 _ _ C13.out L10.out th_vf ?_
  intro w14 hb
  have U14 := Lib.hid (U13.out.trans (hb.mono U13.out.size))
  have C1 := Lib.hid (C1.out.below hb)
  have G2 := Lib.hid (G2.out.below hb)
  have R3 := Lib.hid (R3.out.below hb)
  have X5 := Lib.hid (blk_box X5.out hb (lt_of_block X5.out))
  have X7 := Lib.hid (blk_box X7.out hb (lt_of_block X7.out))
  have P8 := Lib.hid (P8.out.below hb)
  have C9 := Lib.hid (C9.out.below hb)
  have L10 := Lib.hid (L10.out.below hb)
  have C11 := Lib.hid (C11.out.below hb)
  have I12 := Lib.hid (I12.out.below hb)
  have C13 := Lib.hid (C13.out.below hb)
  clear hb
  go_wp2_with fail
  refine verifyAt b1 16 15 a10 c10 _ _ C1.out L10.out th_vf2 ?_
  intro w15 hb
  have U15 := Lib.hid (U14.out.trans (hb.mono U14.out.size))
  have C1 := Lib.hid (C1.out.below hb)
  have G2 := Lib.hid (G2.out.below hb)
  have R3 := Lib.hid (R3.out.below hb)
  have X5 := Lib.hid (blk_box X5.out hb (lt_of_block X5.out))
  have X7 := Lib.hid (blk_box X7.out hb (lt_of_block X7.out))
  have P8 := Lib.hid (P8.out.below hb)
  have C9 := Lib.hid (C9.out.below hb)
  have L10 := Lib.hid (L10.out.below hb)
  have C11 := Lib.hid (C11.out.below hb)
  have I12 := Lib.hid (I12.out.below hb)
  have C13 := Lib.hid (C13.out.below hb)
  clear hb
  obtain ⟨w16, E16, B16, _, _⟩ := box_ex w15 #[.string ⟨#[65]⟩, .string ⟨#[66]⟩, .string ⟨#[67]⟩] 9
  have S16' : CellsAt w16 (some ⟨w15.heap.size, 0, none⟩) (sC [⟨#[65]⟩, ⟨#[66]⟩, ⟨#[67]⟩]) := by rw [← E16]; exact lit_cells w15 _ _ _ rfl
  have U16 := Lib.hid (U15.out.trans (B16.out.mono U15.out.size))
  have G2 := Lib.hid (G2.out.below B16.out)
  have R3 := Lib.hid (R3.out.below B16.out)
  have X5 := Lib.hid (blk_box X5.out B16.out (lt_of_block X5.out))
  have X7 := Lib.hid (blk_box X7.out B16.out (lt_of_block X7.out))
  have P8 := Lib.hid (P8.out.below B16.out)
  have I12 := Lib.hid (I12.out.below B16.out)
  have S16 := Lib.hid S16'
  clear S16'
  obtain ⟨w17, E17, B17, _, _⟩ := box_ex w16 #[.slice (some ⟨w15.heap.size, 0, none⟩) 3 3] 60
  have S17' : CellsAt w17 (some ⟨w16.heap.size, 0, none⟩) [.slice (some ⟨w15.heap.size, 0, none⟩) 3 3] := by rw [← E17]; exact lit_cells w16 _ _ _ rfl
  have U17 := Lib.hid (U16.out.trans (B17.out.mono U16.out.size))
  have G2 := Lib.hid (G2.out.below B17.out)
  have R3 := Lib.hid (R3.out.below B17.out)
  have X5 := Lib.hid (blk_box X5.out B17.out (lt_of_block X5.out))
  have X7 := Lib.hid (blk_box X7.out B17.out (lt_of_block X7.out))
  have P8 := Lib.hid (P8.out.below B17.out)
  have I12 := Lib.hid (I12.out.below B17.out)
  have S16 := Lib.hid (S16.out.below B17.out)
  have S17 := Lib.hid S17'
  clear S17'
  go_wp2_with fail
  refine sameGroups_same a2 _ [[⟨#[65]⟩, ⟨#[66]⟩, ⟨#[67]⟩]] 1 c2 _ _ _ rfl (by decide) (by decide) G2.out (nsC_lit rfl S16.out _ S17.out) ?_
  intro w18 hd
  have hb := hd.below w17.heap.size
  have U18 := Lib.hid (U17.out.trans (hb.mono U17.out.size))
  have G2 := Lib.hid (G2.out.below hb)
  have R3 := Lib.hid (R3.out.below hb)
  have X5 := Lib.hid (blk_box X5.out hb (lt_of_block X5.out))
  have X7 := Lib.hid (blk_box X7.out hb (lt_of_block X7.out))
  have P8 := Lib.hid (P8.out.below hb)
  have I12 := Lib.hid (I12.out.below hb)
  have S16 := Lib.hid (S16.out.below hb)
  have S17 := Lib.hid (S17.out.below hb)
  clear hb hd
  obtain ⟨w19, E19, B19, _, _⟩ := box_ex w18 #[.int .i64 2] 3
  have S19' : CellsAt w19 (some ⟨w18.heap.size, 0, none⟩) (I64s [2]) := by rw [← E19]; exact lit_cells w18 _ _ _ rfl
  have U19 := Lib.hid (U18.out.trans (B19.out.mono U18.out.size))
  have R3 := Lib.hid (R3.out.below B19.out)
  have X5 := Lib.hid (blk_box X5.out B19.out (lt_of_block X5.out))
  have X7 := Lib.hid (blk_box X7.out B19.out (lt_of_block X7.out))
  have P8 := Lib.hid (P8.out.below B19.out)
  have I12 := Lib.hid (I12.out.below B19.out)
  have S19 := Lib.hid S19'
  clear S19'
  go_wp2_with fail
  refine equalI_same a3 _ [2] 1 c3 _ _ _ rfl (by decide) R3.out S19.out ?_
  intro w20 hd
  have hb := hd.below w19.heap.size
  have U20 := Lib.hid (U19.out.trans (hb.mono U19.out.size))
  have R3 := Lib.hid (R3.out.below hb)
  have X5 := Lib.hid (blk_box X5.out hb (lt_of_block X5.out))
  have X7 := Lib.hid (blk_box X7.out hb (lt_of_block X7.out))
  have P8 := Lib.hid (P8.out.below hb)
  have I12 := Lib.hid (I12.out.below hb)
  have S19 := Lib.hid (S19.out.below hb)
  clear hb hd
  have x0 := cell_of X5.out (j := 0) rfl
  have x1 := cell_of X5.out (j := 1) rfl
  have y0 := cell_of X7.out (j := 0) rfl
  have y1 := cell_of X7.out (j := 1) rfl
  obtain ⟨w21, E21, B21, _, _⟩ := box_ex w20 #[.string ⟨#[65]⟩, .int .i64 0, .string ⟨#[66]⟩, .int .i64 12, .string ⟨#[67]⟩, .int .i64 18] 56
  have S21' : CellsAt w21 (some ⟨w20.heap.size, 0, none⟩) (poC [⟨⟨#[65]⟩, 0⟩, ⟨⟨#[66]⟩, 12⟩, ⟨⟨#[67]⟩, 18⟩]) := by rw [← E21]; exact lit_cells w20 _ _ _ rfl
  have U21 := Lib.hid (U20.out.trans (B21.out.mono U20.out.size))
  have X5 := Lib.hid (blk_box X5.out B21.out (lt_of_block X5.out))
  have X7 := Lib.hid (blk_box X7.out B21.out (lt_of_block X7.out))
  have P8 := Lib.hid (P8.out.below B21.out)
  have I12 := Lib.hid (I12.out.below B21.out)
  have S21 := Lib.hid S21'
  clear S21'
  go_wp2_with fail
  refine equalP_same _ _ [⟨⟨#[65]⟩, 0⟩, ⟨⟨#[66]⟩, 12⟩, ⟨⟨#[67]⟩, 18⟩] 3 _ _ _ _ rfl (by decide) P8.out S21.out ?_
  intro w22 hd
  have hb := hd.below w21.heap.size
  have U22 := Lib.hid (U21.out.trans (hb.mono U21.out.size))
  have X5 := Lib.hid (blk_box X5.out hb (lt_of_block X5.out))
  have X7 := Lib.hid (blk_box X7.out hb (lt_of_block X7.out))
  have P8 := Lib.hid (P8.out.below hb)
  have I12 := Lib.hid (I12.out.below hb)
  have S21 := Lib.hid (S21.out.below hb)
  clear hb hd
  obtain ⟨w23, E23, B23, _, _⟩ := box_ex w22 #[.int .i64 2] 3
  have S23' : CellsAt w23 (some ⟨w22.heap.size, 0, none⟩) (I64s [2]) := by rw [← E23]; exact lit_cells w22 _ _ _ rfl
  have U23 := Lib.hid (U22.out.trans (B23.out.mono U22.out.size))
  have X5 := Lib.hid (blk_box X5.out B23.out (lt_of_block X5.out))
  have X7 := Lib.hid (blk_box X7.out B23.out (lt_of_block X7.out))
  have P8 := Lib.hid (P8.out.below B23.out)
  have I12 := Lib.hid (I12.out.below B23.out)
  have S21 := Lib.hid (S21.out.below B23.out)
  have S23 := Lib.hid S23'
  clear S23'
  go_wp2_with fail
  refine equalI_same a12 _ [2] 1 c12 _ _ _ rfl (by decide) I12.out S23.out ?_
  intro w24 hd
  have hb := hd.below w23.heap.size
  have U24 := Lib.hid (U23.out.trans (hb.mono U23.out.size))
  have X5 := Lib.hid (blk_box X5.out hb (lt_of_block X5.out))
  have X7 := Lib.hid (blk_box X7.out hb (lt_of_block X7.out))
  have P8 := Lib.hid (P8.out.below hb)
  have I12 := Lib.hid (I12.out.below hb)
  have S21 := Lib.hid (S21.out.below hb)
  have S23 := Lib.hid (S23.out.below hb)
  clear hb hd
  go_wp2_with fail
  exact HR.out _ U24.out
end Go.Proofs.Ytlgjhjgdmomfoaa
namespace Go.Proofs.Ytlgjhjgdmomfoaa
open Go.RowKit Go.Maps

theorem Try.infoRS : (Try.prog.info? 29).map (fun i => (i.zero, i.size, i.bytes)) = some (some (.agg #[.int .i64 0, .bool false]), 2, 16) := by kernel_rfl
theorem take_succS {ls : List Sp} {k : Nat} (h : k < ls.length) : ls.take (k + 1) = ls.take k ++ [pAt ls k] := by
  rw [List.take_succ_eq_append_getElem h, pAt_lt h]
set_option maxRecDepth 100000 in
set_option maxHeartbeats 8000000 in
theorem lawVerifies_any (ao : Option Addr) (vs : List Dm) (c : Nat) (ax : Int) (al : Option Addr) (ls : List Sp) (cs : Nat) (w : World) (R : Ending → World → Prop) (hl : vs.length ≤ 9223372036854775807) (hll : ls.length ≤ 9223372036854775807) (hc : CellsAt w ao (dC vs)) (hv : DmsOk vs) (hs : CellsAt w al (pC ls))
   (hR : ∀ w', Below w.heap.size w w' → R (.returned (.bool true)) w') :
    Calls Try.prog 3 #[.slice ao vs.length c, .int .i64 ax, .slice al ls.length cs] w R := by
  have HR := Lib.hid hR
  have HC := Lib.hid hc
  have HV := Lib.hid hv
  have HS := Lib.hid hs
  clear hR hc hv hs
  obtain ⟨F, hF⟩ : ∃ F, Hid (fw22 vs = F) := ⟨_, rfl⟩
  go_enter Try.func3, Try.ntmps3
  go_wp2_with fail
  refine rfew22_any ao vs c _ _ hl HC.out HV.out ?_
  rw [hF.out]
  intro w1 hb
  have HB1 := Lib.hid hb
  have sB1 := hb.size
  clear hb
  cases F with
  | false =>
    go_wp2_with fail
    refine awake22_any _ _ ?_
    intro w2 hb
    have HB2 := Lib.hid (HB1.out.trans (hb.mono sB1))
    clear hb
    go_wp2_with fail
    exact HR.out _ HB2.out
  | true =>
    by_cases h12 : 12 < ls.length ∧ ls.length ≤ 256
    · obtain ⟨h1, h2⟩ := h12
      go_wp2_with fail
      refine awake22_any _ _ ?_
      intro w2 hb
      have HB2 := Lib.hid (HB1.out.trans (hb.mono sB1))
      clear hb
      go_wp2_with fail
      exact HR.out _ HB2.out
    · by_cases h512 : 512 < ls.length
      · have h1 : 12 < ls.length := by omega
        have h2 : ¬ ls.length ≤ 256 := by omega
        clear h12
        go_wp2_with fail
        refine awake22_any _ _ ?_
        intro w2 hb
        have HB2 := Lib.hid (HB1.out.trans (hb.mono sB1))
        clear hb
        go_wp2_with fail
        exact HR.out _ HB2.out
      · have main : ls.length ≤ 12 ∨ (12 < ls.length ∧ ¬ ls.length ≤ 256 ∧ ls.length ≤ 512) := by omega
        have hls : ls.length ≤ 512 := by omega
        clear h12 h512
        rcases main with h1 | ⟨h1, h2, h3⟩
        all_goals
          go_wp2_with fail
          go_loopw [31, 7] (fun j v wr => ∃ (k : Nat), k ≤ ls.length ∧ j = .int .i64 k ∧ Hid (Below w.heap.size w wr) ∧ Hid (wr.ownsRow w.heap.size 29 2 v k (pC (ls.take k)))) (fun j _ _ => ls.length - (intOf j).toNat)
          case atStart => exact ⟨0, Nat.zero_le _, rfl, HB1, World.ownsRow_nil _ _ _ _⟩
          case round =>
            obtain ⟨k, hk, rfl, HB, HO⟩ := hrel
            have sB := HB.out.size
            by_cases hlt : k < ls.length
            · obtain ⟨b, o, rfl, hbb, hcell⟩ := HS.out.sps (by omega)
              obtain ⟨c0, c1⟩ := hcell k hlt
              have d0 := cellB HB.out c0 hbb
              have d1 := cellB HB.out c1 hbb
              have htk := take_succS hlt
              obtain ⟨u, hu⟩ : ∃ u, pAt ls k = u := ⟨_, rfl⟩
              obtain ⟨is, his⟩ : ∃ is, ls.take k = is := ⟨_, rfl⟩
              rw [hu] at d0 d1 htk
              rw [his] at HO htk
              have Htk := Lib.hid htk
              have hba : Below wr.heap.size wr (wr.alloc (.cells #[.int .i64 u.i, .bool u.b] 28)) := (Below.refl _ _).alloc (Nat.le_refl _) _
              have HOa := Lib.hid (ownsRow_below HO.out hba)
              have HBa := Lib.hid (HB.out.trans (hba.mono sB))
              clear hcell hu his htk c0 c1 hba
              go_wp2_with (at_builtin; refine wp_appendT rfl (.tmp 35) (.tmp 37) 26 rfl w.heap.size 29 Try.underlying26 Try.infoRS rfl (by decide) u7 k (pC is) rfl (ownsRow_below HOa.out ((Below.refl _ _).alloc (Nat.le_refl _) _)) ⟨wr.heap.size + 1, 0, none⟩ 1 1 (pC [u]) rfl rfl (by have h := lit_cells (wr.alloc (.cells #[.int .i64 u.i, .bool u.b] 28)) #[.int .i64 u.i, .bool u.b] 29 (pC [u]) rfl; simpa using h) (pC_one _) (by omega) (by omega) (by simp; omega) ?_; intro v5 w5 hown hgrow _; have O5 := Lib.hid hown; have B5 := Lib.hid ((HBa.out.alloc (by simp; omega) _).grown hgrow (by simp; omega) (fun j e => (HOa.out.lt j e).1)); clear hown hgrow)
              refine ⟨⟨k + 1, by omega, by go_num, B5, ?_⟩, by simp [intOf]; omega⟩
              rw [Htk.out, pC_append]; exact O5.out
            · obtain rfl : k = ls.length := by omega
              have hO := HO.out
              rw [List.take_length] at hO
              obtain ⟨a7, c7, rfl, hc7, _⟩ := ownsRow_read hO
              have HC7 := Lib.hid hc7
              clear hO hc7 HO
              go_wp2_with fail
              refine awake22_any _ _ ?_
              intro w2 hb
              have HB2 := Lib.hid (HB.out.trans (hb.mono sB))
              have HC7' := Lib.hid (HC7.out.below hb)
              have sB2 := HB2.out.size
              clear hb HC7
              go_wp2_with fail
              refine verify_any ao vs c ax al ls cs _ _ hl hll (HC.out.below HB2.out) HV.out (HS.out.below HB2.out) ?_
              intro w3 hb
              have HB3 := Lib.hid (HB2.out.trans (hb.mono sB2))
              have HC73 := Lib.hid (HC7'.out.below hb)
              have sB3 := HB3.out.size
              clear hb HC7'
              go_wp2_with fail
              refine rverify_any ao vs c ax a7 ls c7 _ _ hl hll (HC.out.below HB3.out) HV.out HC73.out ?_
              obtain ⟨E, hE⟩ : ∃ E, vfE vs ax ls = E := ⟨_, rfl⟩
              rw [hE]
              have K : (E == E) = true := by simp
              intro w4 hb
              have HB4 := Lib.hid (HB3.out.trans (hb.mono sB3))
              clear hb hE
              go_wp2_with fail
              exact HR.out _ HB4.out
end Go.Proofs.Ytlgjhjgdmomfoaa
