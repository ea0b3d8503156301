/- Virtual, Bonus of package frame and of reference 19. (Printed by gen_virt.py.) Texts of frames: what Text writes, what a guess reads. No program in sight. -/
import Derived.Test.YtciokmjhdbcmpaaGreatDoorMfk
import Derived.Lib.SplitLaws
import Derived.Lib.Join
import Derived.Lib.ItoaMem
import Derived.Lib.AtoiTie
import Derived.Test.YtciokmjhdbcmpaaGreatDoorMfe
namespace Go.Proofs.YtciokmjhdbcmpaaGreatDoor
open Go.RowKit

/-- The virtual condition and the error. -/
def viX (f : Ft) (x : Fm) : Int × Int :=
  if fcE f x = 0 then (if x.m = 0 then (0, 14) else (if (hoB f.k == (x.m == 1)) = true then (exX f (mtB f x)).1 - x.t else (exX f (mtB f x)).1 + x.t, 0)) else (0, fcE f x)
/-- The bonus and the error. -/
def boX (f : Ft) (x : Fm) (s : Int) : Int × Int :=
  if fcE f x = 0 then (if f.k = 0 then (0, 14) else if s < f.l ∨ f.h < s then (0, 2) else if x.m = 0 then (0, 0) else (max ((exX f (mtB f x)).1 - s) (s - (exX f (mtB f x)).1), 0)) else (0, fcE f x)
theorem plE_good {x : Fm} (h : plE x = 0) : 0 ≤ x.t ∧ x.t ≤ 100000 ∧ (x.m = 0 ∨ x.m = 1 ∨ x.m = 2) := by
  unfold plE at h
  split at h
  · omega
  · split at h
    · rename_i hm
      unfold mtE at hm
      split at hm
      · omega
      · split at h
        · omega
        · omega
    · rename_i h1; exact absurd h h1
theorem fcE_good {f : Ft} {x : Fm} (h : fcE f x = 0) : ftE f = 0 ∧ plE x = 0 ∧ (x.m ≠ 0 → f.k ≠ 0) := by
  unfold fcE at h
  split at h
  · rename_i h1
    split at h
    · rename_i h2
      refine ⟨h1, h2, fun hm hk => ?_⟩
      split at h
      · rename_i h3
        unfold pmE at h3
        rw [hk] at h3
        have e : mmB (Int.toNat 0) x.k.toNat = false := rfl
        rw [e] at h3
        split at h3
        · split at h3
          · omega
          · split at h3
            · omega
            · rw [if_pos ⟨hm, rfl⟩] at h3; omega
        · omega
      · rename_i h3; exact absurd h h3
    · rename_i h2; exact absurd h h2
  · rename_i h1; exact absurd h h1
theorem inR_bounds {n : Int} (h : inR n = true) : -100000 ≤ n ∧ n ≤ 100000 := by
  unfold inR at h; simpa using h
theorem lmE_good {l h : Int} (e : lmE l h = 0) : -100000 ≤ l ∧ l ≤ h ∧ h ≤ 100000 := by
  unfold lmE at e
  split at e
  · rename_i h1
    have a := inR_bounds h1.1
    have b := inR_bounds h1.2
    split at e <;> omega
  · omega
theorem ftE_lim {f : Ft} (h : ftE f = 0) (hk : f.k ≠ 0) : 1 ≤ f.l ∧ f.l ≤ f.h ∧ f.h ≤ 100000 := by
  unfold ftE at h
  rw [if_neg hk] at h
  by_cases hl : lmE f.l f.h = 0
  · have := lmE_good hl
    rw [if_pos hl] at h
    by_cases h1 : f.l < 1
    · rw [if_pos h1] at h
      repeat' split at h
      all_goals first | omega | contradiction
    · omega
  · rw [if_neg hl] at h
    repeat' split at h
    all_goals first | omega | contradiction
theorem exX_of {f : Ft} (h : ftE f = 0) (hk : f.k ≠ 0) (b : Bool) : exX f b = (if b = true then f.l else f.h, 0) := by
  unfold exX; rw [if_pos h, if_neg hk]
theorem exX_bounds {f : Ft} (h : ftE f = 0) (hk : f.k ≠ 0) (b : Bool) {X Y : Int} (e : exX f b = (X, Y)) : 1 ≤ X ∧ X ≤ 100000 ∧ Y = 0 := by
  have hl := ftE_lim h hk
  rw [exX_of h hk, Prod.mk.injEq] at e
  obtain ⟨e1, e2⟩ := e
  refine ⟨?_, ?_, e2.symm⟩ <;> (subst e1; split <;> omega)
set_option maxRecDepth 100000 in
set_option maxHeartbeats 4000000 in
theorem rhas17b_any (l h v : Int) (w : World) (R : Ending → World → Prop) (hR : ∀ w', Below w.heap.size w w' → R (.returned (.bool (decide (l ≤ v) && decide (v ≤ h)))) w') :
    Calls Tryz.prog 22 #[.agg #[.int .i64 l, .int .i64 h], .int .i64 v] w R := by
  have HR := Lib.hid hR
  obtain ⟨w1, E1, B1, s1, X1⟩ := box_ex w #[.int .i64 l, .int .i64 h] 25
  have z0 := cell_at X1.out (j := 0) (v := .int .i64 l) rfl
  have z1 := cell_at X1.out (j := 1) (v := .int .i64 h) rfl
  clear hR
  by_cases h1 : l ≤ v
  · have e1 := eq_true h1
    by_cases h2 : v ≤ h
    · have e2 := eq_true h2
      have e : Hid ((decide (l ≤ v) && decide (v ≤ h)) = true) := by unfold Hid; simp [h1, h2]
      clear h1 h2
      go_enter Tryz.func22, Tryz.ntmps22
      go_wp2_with (rw [E1])
      exact ret_b (HR.out _ B1.out) rfl e.out
    · have e2 := eq_false h2
      have e : Hid ((decide (l ≤ v) && decide (v ≤ h)) = false) := by unfold Hid; simp [h2]
      clear h1 h2
      go_enter Tryz.func22, Tryz.ntmps22
      go_wp2_with (rw [E1])
      exact ret_b (HR.out _ B1.out) rfl e.out
  · have e1 := eq_false h1
    have e : Hid ((decide (l ≤ v) && decide (v ≤ h)) = false) := by unfold Hid; simp [h1]
    clear h1
    go_enter Tryz.func22, Tryz.ntmps22
    go_wp2_with (rw [E1])
    exact ret_b (HR.out _ B1.out) rfl e.out
set_option maxRecDepth 100000 in
set_option maxHeartbeats 8000000 in
theorem virtual_any (f : Ft) (fo : Option Addr) (fc : Nat) (x : Fm) (da : Option Addr) (dc : Nat) (w : World) (R : Ending → World → Prop) (hok : FtOk w f fo fc) (hox : FmOk w x da dc)
   (hR : ∀ w', Below w.heap.size w w' → R (.returned (.tuple #[.int .i64 (viX f x).1, .int .i64 (viX f x).2])) w') :
    Calls Tryz.prog 17 #[ftV f fo fc, fmV x da dc] w R := by
  have HR := Lib.hid hR
  have HOF := Lib.hid hok
  have HOX := Lib.hid hox
  obtain ⟨E, hE⟩ : ∃ E, fcE f x = E := ⟨_, rfl⟩
  have HE := Lib.hid hE
  have hx : Hid (viX f x = if E = 0 then (if x.m = 0 then (0, 14) else (if (hoB f.k == (x.m == 1)) = true then (exX f (mtB f x)).1 - x.t else (exX f (mtB f x)).1 + x.t, 0)) else (0, E)) := by unfold Hid viX; rw [hE]
  clear hR hok hox hE
  obtain ⟨fn, hfn⟩ : ∃ fn, f.fs.length = fn := ⟨_, rfl⟩
  have HFV : Hid (ftV f fo fc = .agg #[.string f.n, .int .i64 f.k, .int .i64 f.a, .int .i64 f.x, .int .i64 f.y, .int .i64 f.z, .int .i64 f.l, .int .i64 f.h, .slice fo fn fc]) := by unfold Hid ftV; rw [hfn]
  have HXV : Hid (fmV x da dc = .agg #[.int .i64 x.k, .bool x.d, .int .i64 x.t, .int .i64 x.m, .slice da x.ds.length dc]) := rfl
  rw [HFV.out, HXV.out]
  obtain ⟨w1, E1, HB1, s1, X1⟩ := box_ex w #[.string f.n, .int .i64 f.k, .int .i64 f.a, .int .i64 f.x, .int .i64 f.y, .int .i64 f.z, .int .i64 f.l, .int .i64 f.h, .slice fo fn fc] 28
  obtain ⟨w2, E2, HB2, s2, X2⟩ := box_ex w1 #[.int .i64 x.k, .bool x.d, .int .i64 x.t, .int .i64 x.m, .slice da x.ds.length dc] 31
  have BW0 : Hid (Below w.heap.size w w2) := HB1.out.trans (HB2.out.mono (Nat.le_of_lt s1))
  have HX1 := Lib.hid ((HB2.out.block _ s1).trans X1.out)
  have HX2 := X2
  clear hfn X1 X2
  have p0 := cell_at HX1.out (j := 0) (v := .string f.n) rfl
  have p1 := cell_at HX1.out (j := 1) (v := .int .i64 f.k) rfl
  have p2 := cell_at HX1.out (j := 2) (v := .int .i64 f.a) rfl
  have p3 := cell_at HX1.out (j := 3) (v := .int .i64 f.x) rfl
  have p4 := cell_at HX1.out (j := 4) (v := .int .i64 f.y) rfl
  have p5 := cell_at HX1.out (j := 5) (v := .int .i64 f.z) rfl
  have p6 := cell_at HX1.out (j := 6) (v := .int .i64 f.l) rfl
  have p7 := cell_at HX1.out (j := 7) (v := .int .i64 f.h) rfl
  have p8 := cell_at HX1.out (j := 8) (v := .slice fo fn fc) rfl
  have o0 := cell_at HX2.out (j := 0) (v := .int .i64 x.k) rfl
  have o1 := cell_at HX2.out (j := 1) (v := .bool x.d) rfl
  have o2 := cell_at HX2.out (j := 2) (v := .int .i64 x.t) rfl
  have o3 := cell_at HX2.out (j := 3) (v := .int .i64 x.m) rfl
  have o4 := cell_at HX2.out (j := 4) (v := .slice da x.ds.length dc) rfl
  go_enter Tryz.func17, Tryz.ntmps17
  go_wp2_with (first | rw [E1] | rw [E2])
  rw [← HFV.out, ← HXV.out]
  refine fcheck_any f fo fc x da dc _ _ (HOF.out.below BW0.out) (HOX.out.below BW0.out) fun W1 hb => ?_
  rw [HE.out]
  have BW1 : Hid (Below w.heap.size w W1) := BW0.out.trans (hb.mono BW0.out.size)
  have HX11 := Lib.hid ((hb.block _ (lt_of_block HX1.out)).trans HX1.out)
  have HX21 := Lib.hid ((hb.block _ (lt_of_block HX2.out)).trans HX2.out)
  clear hb E1 E2 p0 p1 p2 p3 p4 p5 p6 p7 p8 o0 o1 o2 o3 o4
  have p0 := cell_at HX11.out (j := 0) (v := .string f.n) rfl
  have p1 := cell_at HX11.out (j := 1) (v := .int .i64 f.k) rfl
  have p2 := cell_at HX11.out (j := 2) (v := .int .i64 f.a) rfl
  have p3 := cell_at HX11.out (j := 3) (v := .int .i64 f.x) rfl
  have p4 := cell_at HX11.out (j := 4) (v := .int .i64 f.y) rfl
  have p5 := cell_at HX11.out (j := 5) (v := .int .i64 f.z) rfl
  have p6 := cell_at HX11.out (j := 6) (v := .int .i64 f.l) rfl
  have p7 := cell_at HX11.out (j := 7) (v := .int .i64 f.h) rfl
  have p8 := cell_at HX11.out (j := 8) (v := .slice fo fn fc) rfl
  have o0 := cell_at HX21.out (j := 0) (v := .int .i64 x.k) rfl
  have o1 := cell_at HX21.out (j := 1) (v := .bool x.d) rfl
  have o2 := cell_at HX21.out (j := 2) (v := .int .i64 x.t) rfl
  have o3 := cell_at HX21.out (j := 3) (v := .int .i64 x.m) rfl
  have o4 := cell_at HX21.out (j := 4) (v := .slice da x.ds.length dc) rfl
  by_cases f0 : E = 0
  · subst f0
    rw [if_pos rfl] at hx
    obtain ⟨g1, g2, g3⟩ := fcE_good HE.out
    obtain ⟨t0, t1, gm⟩ := plE_good g2
    by_cases m0 : x.m = 0
    · have K : (x.m == 0) = true := by rw [m0]; rfl
      rw [if_pos m0] at hx
      rw [hx.out] at HR
      clear m0 gm g3
      go_wp2_with fail
      exact HR.out _ BW1.out
    · have K : (x.m == 0) = false := by simpa using m0
      rw [if_neg m0] at hx
      have hk := g3 m0
      have HK := Lib.hid hk
      obtain ⟨b, hb0⟩ : ∃ b, hoB f.k = b := ⟨_, rfl⟩
      obtain ⟨X, Y, hXY⟩ : ∃ X Y, exX f (mtB f x) = (X, Y) := ⟨_, _, rfl⟩
      obtain ⟨x1, x2, rfl⟩ := exX_bounds g1 hk _ hXY
      rw [hb0, hXY] at hx
      have HB0 := Lib.hid hb0
      have HXY := Lib.hid hXY
      have G1 := Lib.hid g1
      clear m0 g3 hk hb0 hXY g1 g2
      go_wp2_with fail
      rw [← HFV.out, ← HXV.out]
      refine material_any f fo fc x da dc _ _ (HOF.out.below BW1.out) G1.out fun W2 hb => ?_
      rw [HB0.out, HXY.out]
      have BW2 : Hid (Below w.heap.size w W2) := BW1.out.trans (hb.mono BW1.out.size)
      have HX12 := Lib.hid ((hb.block _ (lt_of_block HX11.out)).trans HX11.out)
      have HX22 := Lib.hid ((hb.block _ (lt_of_block HX21.out)).trans HX21.out)
      clear hb p0 p1 p2 p3 p4 p5 p6 p7 p8 o0 o1 o2 o3 o4
      have p0 := cell_at HX12.out (j := 0) (v := .string f.n) rfl
      have p1 := cell_at HX12.out (j := 1) (v := .int .i64 f.k) rfl
      have p2 := cell_at HX12.out (j := 2) (v := .int .i64 f.a) rfl
      have p3 := cell_at HX12.out (j := 3) (v := .int .i64 f.x) rfl
      have p4 := cell_at HX12.out (j := 4) (v := .int .i64 f.y) rfl
      have p5 := cell_at HX12.out (j := 5) (v := .int .i64 f.z) rfl
      have p6 := cell_at HX12.out (j := 6) (v := .int .i64 f.l) rfl
      have p7 := cell_at HX12.out (j := 7) (v := .int .i64 f.h) rfl
      have p8 := cell_at HX12.out (j := 8) (v := .slice fo fn fc) rfl
      have o0 := cell_at HX22.out (j := 0) (v := .int .i64 x.k) rfl
      have o1 := cell_at HX22.out (j := 1) (v := .bool x.d) rfl
      have o2 := cell_at HX22.out (j := 2) (v := .int .i64 x.t) rfl
      have o3 := cell_at HX22.out (j := 3) (v := .int .i64 x.m) rfl
      have o4 := cell_at HX22.out (j := 4) (v := .slice da x.ds.length dc) rfl
      have hw1 : IntKind.i64.wrap (X - x.t) = X - x.t := by rw [IntKind.wrap_i64]; omega
      have hw2 : IntKind.i64.wrap (X + x.t) = X + x.t := by rw [IntKind.wrap_i64]; omega
      cases m1 : (x.m == 1) with
      | true =>
        rw [m1] at hx
        cases b with
        | true =>
          have e : Hid (viX f x = (X - x.t, 0)) := hx.out
          rw [e.out] at HR
          go_wp2_with fail
          exact HR.out _ BW2.out
        | false =>
          have e : Hid (viX f x = (X + x.t, 0)) := hx.out
          rw [e.out] at HR
          go_wp2_with fail
          exact HR.out _ BW2.out
      | false =>
        rw [m1] at hx
        cases b with
        | true =>
          have e : Hid (viX f x = (X + x.t, 0)) := hx.out
          rw [e.out] at HR
          go_wp2_with fail
          exact HR.out _ BW2.out
        | false =>
          have e : Hid (viX f x = (X - x.t, 0)) := hx.out
          rw [e.out] at HR
          go_wp2_with fail
          exact HR.out _ BW2.out
  · have K : (E != 0) = true := by simpa using f0
    rw [if_neg f0] at hx
    rw [hx.out] at HR
    clear f0
    go_wp2_with fail
    exact HR.out _ BW1.out
set_option maxRecDepth 100000 in
set_option maxHeartbeats 8000000 in
theorem rvirtual_any (f : Ft) (fo : Option Addr) (fc : Nat) (x : Fm) (da : Option Addr) (dc : Nat) (w : World) (R : Ending → World → Prop) (hok : FtOk w f fo fc) (hox : FmOk w x da dc)
   (hR : ∀ w', Below w.heap.size w w' → R (.returned (.tuple #[.int .i64 (viX f x).1, .int .i64 (viX f x).2])) w') :
    Calls Tryz.prog 18 #[ftV f fo fc, fmV x da dc] w R := by
  have HR := Lib.hid hR
  have HOF := Lib.hid hok
  have HOX := Lib.hid hox
  obtain ⟨E, hE⟩ : ∃ E, fcE f x = E := ⟨_, rfl⟩
  have HE := Lib.hid hE
  have hx : Hid (viX f x = if E = 0 then (if x.m = 0 then (0, 14) else (if (hoB f.k == (x.m == 1)) = true then (exX f (mtB f x)).1 - x.t else (exX f (mtB f x)).1 + x.t, 0)) else (0, E)) := by unfold Hid viX; rw [hE]
  clear hR hok hox hE
  obtain ⟨fn, hfn⟩ : ∃ fn, f.fs.length = fn := ⟨_, rfl⟩
  have HFV : Hid (ftV f fo fc = .agg #[.string f.n, .int .i64 f.k, .int .i64 f.a, .int .i64 f.x, .int .i64 f.y, .int .i64 f.z, .int .i64 f.l, .int .i64 f.h, .slice fo fn fc]) := by unfold Hid ftV; rw [hfn]
  have HXV : Hid (fmV x da dc = .agg #[.int .i64 x.k, .bool x.d, .int .i64 x.t, .int .i64 x.m, .slice da x.ds.length dc]) := rfl
  rw [HFV.out, HXV.out]
  obtain ⟨w1, E1, HB1, s1, X1⟩ := box_ex w #[.string f.n, .int .i64 f.k, .int .i64 f.a, .int .i64 f.x, .int .i64 f.y, .int .i64 f.z, .int .i64 f.l, .int .i64 f.h, .slice fo fn fc] 28
  obtain ⟨w2, E2, HB2, s2, X2⟩ := box_ex w1 #[.int .i64 x.k, .bool x.d, .int .i64 x.t, .int .i64 x.m, .slice da x.ds.length dc] 31
  have BW0 : Hid (Below w.heap.size w w2) := HB1.out.trans (HB2.out.mono (Nat.le_of_lt s1))
  have HX1 := Lib.hid ((HB2.out.block _ s1).trans X1.out)
  have HX2 := X2
  clear hfn X1 X2
  have p0 := cell_at HX1.out (j := 0) (v := .string f.n) rfl
  have p1 := cell_at HX1.out (j := 1) (v := .int .i64 f.k) rfl
  have p2 := cell_at HX1.out (j := 2) (v := .int .i64 f.a) rfl
  have p3 := cell_at HX1.out (j := 3) (v := .int .i64 f.x) rfl
  have p4 := cell_at HX1.out (j := 4) (v := .int .i64 f.y) rfl
  have p5 := cell_at HX1.out (j := 5) (v := .int .i64 f.z) rfl
  have p6 := cell_at HX1.out (j := 6) (v := .int .i64 f.l) rfl
  have p7 := cell_at HX1.out (j := 7) (v := .int .i64 f.h) rfl
  have p8 := cell_at HX1.out (j := 8) (v := .slice fo fn fc) rfl
  have o0 := cell_at HX2.out (j := 0) (v := .int .i64 x.k) rfl
  have o1 := cell_at HX2.out (j := 1) (v := .bool x.d) rfl
  have o2 := cell_at HX2.out (j := 2) (v := .int .i64 x.t) rfl
  have o3 := cell_at HX2.out (j := 3) (v := .int .i64 x.m) rfl
  have o4 := cell_at HX2.out (j := 4) (v := .slice da x.ds.length dc) rfl
  go_enter Tryz.func18, Tryz.ntmps18
  go_wp2_with (first | rw [E1] | rw [E2])
  rw [← HFV.out, ← HXV.out]
  refine rfcheck_any f fo fc x da dc _ _ (HOF.out.below BW0.out) (HOX.out.below BW0.out) fun W1 hb => ?_
  rw [HE.out]
  have BW1 : Hid (Below w.heap.size w W1) := BW0.out.trans (hb.mono BW0.out.size)
  have HX11 := Lib.hid ((hb.block _ (lt_of_block HX1.out)).trans HX1.out)
  have HX21 := Lib.hid ((hb.block _ (lt_of_block HX2.out)).trans HX2.out)
  clear hb E1 E2 p0 p1 p2 p3 p4 p5 p6 p7 p8 o0 o1 o2 o3 o4
  have p0 := cell_at HX11.out (j := 0) (v := .string f.n) rfl
  have p1 := cell_at HX11.out (j := 1) (v := .int .i64 f.k) rfl
  have p2 := cell_at HX11.out (j := 2) (v := .int .i64 f.a) rfl
  have p3 := cell_at HX11.out (j := 3) (v := .int .i64 f.x) rfl
  have p4 := cell_at HX11.out (j := 4) (v := .int .i64 f.y) rfl
  have p5 := cell_at HX11.out (j := 5) (v := .int .i64 f.z) rfl
  have p6 := cell_at HX11.out (j := 6) (v := .int .i64 f.l) rfl
  have p7 := cell_at HX11.out (j := 7) (v := .int .i64 f.h) rfl
  have p8 := cell_at HX11.out (j := 8) (v := .slice fo fn fc) rfl
  have o0 := cell_at HX21.out (j := 0) (v := .int .i64 x.k) rfl
  have o1 := cell_at HX21.out (j := 1) (v := .bool x.d) rfl
  have o2 := cell_at HX21.out (j := 2) (v := .int .i64 x.t) rfl
  have o3 := cell_at HX21.out (j := 3) (v := .int .i64 x.m) rfl
  have o4 := cell_at HX21.out (j := 4) (v := .slice da x.ds.length dc) rfl
  by_cases f0 : E = 0
  · subst f0
    rw [if_pos rfl] at hx
    obtain ⟨g1, g2, g3⟩ := fcE_good HE.out
    obtain ⟨t0, t1, gm⟩ := plE_good g2
    by_cases m0 : x.m = 0
    · have K : (x.m == 0) = true := by rw [m0]; rfl
      rw [if_pos m0] at hx
      rw [hx.out] at HR
      clear m0 gm g3
      go_wp2_with fail
      exact HR.out _ BW1.out
    · have K : (x.m == 0) = false := by simpa using m0
      rw [if_neg m0] at hx
      have hk := g3 m0
      obtain ⟨b, hb0⟩ : ∃ b, hoB f.k = b := ⟨_, rfl⟩
      obtain ⟨X1, Y1, hXY1⟩ : ∃ X Y, exX f b = (X, Y) := ⟨_, _, rfl⟩
      obtain ⟨X2, Y2, hXY2⟩ : ∃ X Y, exX f (!b) = (X, Y) := ⟨_, _, rfl⟩
      obtain ⟨x1, x2, rfl⟩ := exX_bounds g1 hk _ hXY1
      obtain ⟨y1, y2, rfl⟩ := exX_bounds g1 hk _ hXY2
      have HB0 := Lib.hid hb0
      have HXY1 := Lib.hid hXY1
      have HXY2 := Lib.hid hXY2
      rw [hb0] at hx
      have GM := Lib.hid (show x.m = 1 ∨ x.m = 2 from by omega)
      clear m0 gm g3 hk hb0 hXY1 hXY2 g1 g2
      go_wp2_with fail
      rw [← HFV.out]
      refine rmaxi_any f fo fc _ _ (HOF.out.below BW1.out) fun W2 hb => ?_
      rw [HB0.out, HXY1.out]
      have BW2 : Hid (Below w.heap.size w W2) := BW1.out.trans (hb.mono BW1.out.size)
      have HX12 := Lib.hid ((hb.block _ (lt_of_block HX11.out)).trans HX11.out)
      have HX22 := Lib.hid ((hb.block _ (lt_of_block HX21.out)).trans HX21.out)
      clear hb p0 p1 p2 p3 p4 p5 p6 p7 p8 o0 o1 o2 o3 o4
      have p0 := cell_at HX12.out (j := 0) (v := .string f.n) rfl
      have p1 := cell_at HX12.out (j := 1) (v := .int .i64 f.k) rfl
      have p2 := cell_at HX12.out (j := 2) (v := .int .i64 f.a) rfl
      have p3 := cell_at HX12.out (j := 3) (v := .int .i64 f.x) rfl
      have p4 := cell_at HX12.out (j := 4) (v := .int .i64 f.y) rfl
      have p5 := cell_at HX12.out (j := 5) (v := .int .i64 f.z) rfl
      have p6 := cell_at HX12.out (j := 6) (v := .int .i64 f.l) rfl
      have p7 := cell_at HX12.out (j := 7) (v := .int .i64 f.h) rfl
      have p8 := cell_at HX12.out (j := 8) (v := .slice fo fn fc) rfl
      have o0 := cell_at HX22.out (j := 0) (v := .int .i64 x.k) rfl
      have o1 := cell_at HX22.out (j := 1) (v := .bool x.d) rfl
      have o2 := cell_at HX22.out (j := 2) (v := .int .i64 x.t) rfl
      have o3 := cell_at HX22.out (j := 3) (v := .int .i64 x.m) rfl
      have o4 := cell_at HX22.out (j := 4) (v := .slice da x.ds.length dc) rfl
      rcases GM.out with m1 | m2
      · have K2 : (x.m == 2) = false := by rw [m1]; rfl
        have HM : Hid (mtB f x = b) := by unfold Hid mtB; rw [if_neg (by omega), HB0.out]
        have K1 : (x.m == 1) = true := by rw [m1]; rfl
        rw [HM.out, HXY1.out, K1] at hx
        clear m1 K1
        have hw1 : IntKind.i64.wrap (X1 - x.t) = X1 - x.t := by rw [IntKind.wrap_i64]; omega
        have hw2 : IntKind.i64.wrap (X1 + x.t) = X1 + x.t := by rw [IntKind.wrap_i64]; omega
        go_wp2_with fail
        rw [← HFV.out]
        refine rhollow_any f fo fc _ _ fun W3 hb => ?_
        rw [HB0.out]
        have BW3 : Hid (Below w.heap.size w W3) := BW2.out.trans (hb.mono BW2.out.size)
        clear hb p0 p1 p2 p3 p4 p5 p6 p7 p8 o0 o1 o2 o3 o4
        cases b with
        | true =>
          have e : Hid (viX f x = (X1 - x.t, 0)) := hx.out
          rw [e.out] at HR
          go_wp2_with fail
          exact HR.out _ BW3.out
        | false =>
          have e : Hid (viX f x = (X1 + x.t, 0)) := hx.out
          rw [e.out] at HR
          go_wp2_with fail
          exact HR.out _ BW3.out
      · have K2 : (x.m == 2) = true := by rw [m2]; rfl
        have HM : Hid (mtB f x = !b) := by unfold Hid mtB; rw [if_pos m2, HB0.out]
        have K1 : (x.m == 1) = false := by rw [m2]; rfl
        rw [HM.out, HXY2.out, K1] at hx
        clear m2 K1
        have hn : IntKind.i64.wrap (-x.t) = -x.t := by rw [IntKind.wrap_i64]; omega
        have hw1 : IntKind.i64.wrap (X2 - -x.t) = X2 + x.t := by rw [IntKind.wrap_i64]; omega
        have hw2 : IntKind.i64.wrap (X2 + -x.t) = X2 - x.t := by rw [IntKind.wrap_i64]; omega
        go_wp2_with fail
        rw [← HFV.out]
        refine rleas_any f fo fc _ _ (HOF.out.below BW2.out) fun W3 hb => ?_
        rw [HB0.out, HXY2.out]
        have BW3 : Hid (Below w.heap.size w W3) := BW2.out.trans (hb.mono BW2.out.size)
        have HX13 := Lib.hid ((hb.block _ (lt_of_block HX12.out)).trans HX12.out)
        have HX23 := Lib.hid ((hb.block _ (lt_of_block HX22.out)).trans HX22.out)
        clear hb p0 p1 p2 p3 p4 p5 p6 p7 p8 o0 o1 o2 o3 o4
        have p0 := cell_at HX13.out (j := 0) (v := .string f.n) rfl
        have p1 := cell_at HX13.out (j := 1) (v := .int .i64 f.k) rfl
        have p2 := cell_at HX13.out (j := 2) (v := .int .i64 f.a) rfl
        have p3 := cell_at HX13.out (j := 3) (v := .int .i64 f.x) rfl
        have p4 := cell_at HX13.out (j := 4) (v := .int .i64 f.y) rfl
        have p5 := cell_at HX13.out (j := 5) (v := .int .i64 f.z) rfl
        have p6 := cell_at HX13.out (j := 6) (v := .int .i64 f.l) rfl
        have p7 := cell_at HX13.out (j := 7) (v := .int .i64 f.h) rfl
        have p8 := cell_at HX13.out (j := 8) (v := .slice fo fn fc) rfl
        have o0 := cell_at HX23.out (j := 0) (v := .int .i64 x.k) rfl
        have o1 := cell_at HX23.out (j := 1) (v := .bool x.d) rfl
        have o2 := cell_at HX23.out (j := 2) (v := .int .i64 x.t) rfl
        have o3 := cell_at HX23.out (j := 3) (v := .int .i64 x.m) rfl
        have o4 := cell_at HX23.out (j := 4) (v := .slice da x.ds.length dc) rfl
        go_wp2_with fail
        rw [← HFV.out]
        refine rhollow_any f fo fc _ _ fun W4 hb => ?_
        rw [HB0.out]
        have BW4 : Hid (Below w.heap.size w W4) := BW3.out.trans (hb.mono BW3.out.size)
        clear hb p0 p1 p2 p3 p4 p5 p6 p7 p8 o0 o1 o2 o3 o4
        cases b with
        | true =>
          have e : Hid (viX f x = (X2 + x.t, 0)) := hx.out
          rw [e.out] at HR
          go_wp2_with fail
          exact HR.out _ BW4.out
        | false =>
          have e : Hid (viX f x = (X2 - x.t, 0)) := hx.out
          rw [e.out] at HR
          go_wp2_with fail
          exact HR.out _ BW4.out
  · have K : (E != 0) = true := by simpa using f0
    rw [if_neg f0] at hx
    rw [hx.out] at HR
    clear f0
    go_wp2_with fail
    exact HR.out _ BW1.out
set_option maxRecDepth 100000 in
set_option maxHeartbeats 8000000 in
theorem bonus_any (f : Ft) (fo : Option Addr) (fc : Nat) (x : Fm) (da : Option Addr) (dc : Nat) (s : Int) (w : World) (R : Ending → World → Prop) (hok : FtOk w f fo fc) (hox : FmOk w x da dc)
   (hR : ∀ w', Below w.heap.size w w' → R (.returned (.tuple #[.int .i64 (boX f x s).1, .int .i64 (boX f x s).2])) w') :
    Calls Tryz.prog 19 #[ftV f fo fc, fmV x da dc, .int .i64 s] w R := by
  have HR := Lib.hid hR
  have HOF := Lib.hid hok
  have HOX := Lib.hid hox
  obtain ⟨E, hE⟩ : ∃ E, fcE f x = E := ⟨_, rfl⟩
  have HE := Lib.hid hE
  have hx : Hid (boX f x s = if E = 0 then (if f.k = 0 then (0, 14) else if s < f.l ∨ f.h < s then (0, 2) else if x.m = 0 then (0, 0) else (max ((exX f (mtB f x)).1 - s) (s - (exX f (mtB f x)).1), 0)) else (0, E)) := by unfold Hid boX; rw [hE]
  clear hR hok hox hE
  obtain ⟨fn, hfn⟩ : ∃ fn, f.fs.length = fn := ⟨_, rfl⟩
  have HFV : Hid (ftV f fo fc = .agg #[.string f.n, .int .i64 f.k, .int .i64 f.a, .int .i64 f.x, .int .i64 f.y, .int .i64 f.z, .int .i64 f.l, .int .i64 f.h, .slice fo fn fc]) := by unfold Hid ftV; rw [hfn]
  have HXV : Hid (fmV x da dc = .agg #[.int .i64 x.k, .bool x.d, .int .i64 x.t, .int .i64 x.m, .slice da x.ds.length dc]) := rfl
  rw [HFV.out, HXV.out]
  obtain ⟨w1, E1, HB1, s1, X1⟩ := box_ex w #[.string f.n, .int .i64 f.k, .int .i64 f.a, .int .i64 f.x, .int .i64 f.y, .int .i64 f.z, .int .i64 f.l, .int .i64 f.h, .slice fo fn fc] 28
  obtain ⟨w2, E2, HB2, s2, X2⟩ := box_ex w1 #[.int .i64 x.k, .bool x.d, .int .i64 x.t, .int .i64 x.m, .slice da x.ds.length dc] 31
  have BW0 : Hid (Below w.heap.size w w2) := HB1.out.trans (HB2.out.mono (Nat.le_of_lt s1))
  have HX1 := Lib.hid ((HB2.out.block _ s1).trans X1.out)
  have HX2 := X2
  clear hfn X1 X2
  have p0 := cell_at HX1.out (j := 0) (v := .string f.n) rfl
  have p1 := cell_at HX1.out (j := 1) (v := .int .i64 f.k) rfl
  have p2 := cell_at HX1.out (j := 2) (v := .int .i64 f.a) rfl
  have p3 := cell_at HX1.out (j := 3) (v := .int .i64 f.x) rfl
  have p4 := cell_at HX1.out (j := 4) (v := .int .i64 f.y) rfl
  have p5 := cell_at HX1.out (j := 5) (v := .int .i64 f.z) rfl
  have p6 := cell_at HX1.out (j := 6) (v := .int .i64 f.l) rfl
  have p7 := cell_at HX1.out (j := 7) (v := .int .i64 f.h) rfl
  have p8 := cell_at HX1.out (j := 8) (v := .slice fo fn fc) rfl
  have o0 := cell_at HX2.out (j := 0) (v := .int .i64 x.k) rfl
  have o1 := cell_at HX2.out (j := 1) (v := .bool x.d) rfl
  have o2 := cell_at HX2.out (j := 2) (v := .int .i64 x.t) rfl
  have o3 := cell_at HX2.out (j := 3) (v := .int .i64 x.m) rfl
  have o4 := cell_at HX2.out (j := 4) (v := .slice da x.ds.length dc) rfl
  go_enter Tryz.func19, Tryz.ntmps19
  go_wp2_with (first | rw [E1] | rw [E2])
  rw [← HFV.out, ← HXV.out]
  refine fcheck_any f fo fc x da dc _ _ (HOF.out.below BW0.out) (HOX.out.below BW0.out) fun W1 hb => ?_
  rw [HE.out]
  have BW1 : Hid (Below w.heap.size w W1) := BW0.out.trans (hb.mono BW0.out.size)
  have HX11 := Lib.hid ((hb.block _ (lt_of_block HX1.out)).trans HX1.out)
  have HX21 := Lib.hid ((hb.block _ (lt_of_block HX2.out)).trans HX2.out)
  clear hb E1 E2 p0 p1 p2 p3 p4 p5 p6 p7 p8 o0 o1 o2 o3 o4
  have p0 := cell_at HX11.out (j := 0) (v := .string f.n) rfl
  have p1 := cell_at HX11.out (j := 1) (v := .int .i64 f.k) rfl
  have p2 := cell_at HX11.out (j := 2) (v := .int .i64 f.a) rfl
  have p3 := cell_at HX11.out (j := 3) (v := .int .i64 f.x) rfl
  have p4 := cell_at HX11.out (j := 4) (v := .int .i64 f.y) rfl
  have p5 := cell_at HX11.out (j := 5) (v := .int .i64 f.z) rfl
  have p6 := cell_at HX11.out (j := 6) (v := .int .i64 f.l) rfl
  have p7 := cell_at HX11.out (j := 7) (v := .int .i64 f.h) rfl
  have p8 := cell_at HX11.out (j := 8) (v := .slice fo fn fc) rfl
  have o0 := cell_at HX21.out (j := 0) (v := .int .i64 x.k) rfl
  have o1 := cell_at HX21.out (j := 1) (v := .bool x.d) rfl
  have o2 := cell_at HX21.out (j := 2) (v := .int .i64 x.t) rfl
  have o3 := cell_at HX21.out (j := 3) (v := .int .i64 x.m) rfl
  have o4 := cell_at HX21.out (j := 4) (v := .slice da x.ds.length dc) rfl
  by_cases f0 : E = 0
  · subst f0
    rw [if_pos rfl] at hx
    obtain ⟨g1, g2, g3⟩ := fcE_good HE.out
    obtain ⟨t0, t1, gm⟩ := plE_good g2
    by_cases k0 : f.k = 0
    · have K : (f.k == 0) = true := by rw [k0]; rfl
      rw [if_pos k0] at hx
      rw [hx.out] at HR
      clear k0 gm g3
      go_wp2_with fail
      exact HR.out _ BW1.out
    · have K : (f.k == 0) = false := by simpa using k0
      rw [if_neg k0] at hx
      obtain ⟨l1, l2, l3⟩ := ftE_lim g1 k0
      by_cases s1 : s < f.l
      · have K1 : (s < f.l) = True := eq_true s1
        rw [if_pos (.inl s1)] at hx
        rw [hx.out] at HR
        clear k0 gm g3 s1
        go_wp2_with fail
        exact HR.out _ BW1.out
      · have K1 : (s < f.l) = False := eq_false s1
        by_cases s2 : f.h < s
        · have K2 : (f.h < s) = True := eq_true s2
          rw [if_pos (.inr s2)] at hx
          rw [hx.out] at HR
          clear k0 gm g3 s1 s2
          go_wp2_with fail
          exact HR.out _ BW1.out
        · have K2 : (f.h < s) = False := eq_false s2
          rw [if_neg (by omega)] at hx
          by_cases m0 : x.m = 0
          · have K : (x.m == 0) = true := by rw [m0]; rfl
            rw [if_pos m0] at hx
            rw [hx.out] at HR
            clear m0 gm g3 s1 s2 k0
            go_wp2_with fail
            exact HR.out _ BW1.out
          · have K : (x.m == 0) = false := by simpa using m0
            rw [if_neg m0] at hx
            obtain ⟨b, hb0⟩ : ∃ b, hoB f.k = b := ⟨_, rfl⟩
            obtain ⟨X, Y, hXY⟩ : ∃ X Y, exX f (mtB f x) = (X, Y) := ⟨_, _, rfl⟩
            obtain ⟨x1, x2, rfl⟩ := exX_bounds g1 k0 _ hXY
            rw [hXY] at hx
            have HB0 := Lib.hid hb0
            have HXY := Lib.hid hXY
            have G1 := Lib.hid g1
            have hw1 : IntKind.i64.wrap (X - s) = X - s := by rw [IntKind.wrap_i64]; omega
            have hw2 : IntKind.i64.wrap (s - X) = s - X := by rw [IntKind.wrap_i64]; omega
            clear m0 g3 k0 hb0 hXY g1 g2 gm s1 s2
            go_wp2_with fail
            rw [← HFV.out, ← HXV.out]
            refine material_any f fo fc x da dc _ _ (HOF.out.below BW1.out) G1.out fun W2 hb => ?_
            rw [HB0.out, HXY.out]
            have BW2 : Hid (Below w.heap.size w W2) := BW1.out.trans (hb.mono BW1.out.size)
            clear hb p0 p1 p2 p3 p4 p5 p6 p7 p8 o0 o1 o2 o3 o4
            have e : Hid (boX f x s = (max (X - s) (s - X), 0)) := hx.out
            rw [e.out] at HR
            go_wp2_with fail
            exact HR.out _ BW2.out
  · have K : (E != 0) = true := by simpa using f0
    rw [if_neg f0] at hx
    rw [hx.out] at HR
    clear f0
    go_wp2_with fail
    exact HR.out _ BW1.out
set_option maxRecDepth 100000 in
set_option maxHeartbeats 8000000 in
theorem rbonus_any (f : Ft) (fo : Option Addr) (fc : Nat) (x : Fm) (da : Option Addr) (dc : Nat) (s : Int) (w : World) (R : Ending → World → Prop) (hok : FtOk w f fo fc) (hox : FmOk w x da dc)
   (hR : ∀ w', Below w.heap.size w w' → R (.returned (.tuple #[.int .i64 (boX f x s).1, .int .i64 (boX f x s).2])) w') :
    Calls Tryz.prog 20 #[ftV f fo fc, fmV x da dc, .int .i64 s] w R := by
  have HR := Lib.hid hR
  have HOF := Lib.hid hok
  have HOX := Lib.hid hox
  obtain ⟨E, hE⟩ : ∃ E, fcE f x = E := ⟨_, rfl⟩
  have HE := Lib.hid hE
  have hx : Hid (boX f x s = if E = 0 then (if f.k = 0 then (0, 14) else if s < f.l ∨ f.h < s then (0, 2) else if x.m = 0 then (0, 0) else (max ((exX f (mtB f x)).1 - s) (s - (exX f (mtB f x)).1), 0)) else (0, E)) := by unfold Hid boX; rw [hE]
  clear hR hok hox hE
  obtain ⟨fn, hfn⟩ : ∃ fn, f.fs.length = fn := ⟨_, rfl⟩
  have HFV : Hid (ftV f fo fc = .agg #[.string f.n, .int .i64 f.k, .int .i64 f.a, .int .i64 f.x, .int .i64 f.y, .int .i64 f.z, .int .i64 f.l, .int .i64 f.h, .slice fo fn fc]) := by unfold Hid ftV; rw [hfn]
  have HXV : Hid (fmV x da dc = .agg #[.int .i64 x.k, .bool x.d, .int .i64 x.t, .int .i64 x.m, .slice da x.ds.length dc]) := rfl
  rw [HFV.out, HXV.out]
  obtain ⟨w1, E1, HB1, s1, X1⟩ := box_ex w #[.string f.n, .int .i64 f.k, .int .i64 f.a, .int .i64 f.x, .int .i64 f.y, .int .i64 f.z, .int .i64 f.l, .int .i64 f.h, .slice fo fn fc] 28
  obtain ⟨w2, E2, HB2, s2, X2⟩ := box_ex w1 #[.int .i64 x.k, .bool x.d, .int .i64 x.t, .int .i64 x.m, .slice da x.ds.length dc] 31
  have BW0 : Hid (Below w.heap.size w w2) := HB1.out.trans (HB2.out.mono (Nat.le_of_lt s1))
  have HX1 := Lib.hid ((HB2.out.block _ s1).trans X1.out)
  have HX2 := X2
  clear hfn X1 X2
  have p0 := cell_at HX1.out (j := 0) (v := .string f.n) rfl
  have p1 := cell_at HX1.out (j := 1) (v := .int .i64 f.k) rfl
  have p2 := cell_at HX1.out (j := 2) (v := .int .i64 f.a) rfl
  have p3 := cell_at HX1.out (j := 3) (v := .int .i64 f.x) rfl
  have p4 := cell_at HX1.out (j := 4) (v := .int .i64 f.y) rfl
  have p5 := cell_at HX1.out (j := 5) (v := .int .i64 f.z) rfl
  have p6 := cell_at HX1.out (j := 6) (v := .int .i64 f.l) rfl
  have p7 := cell_at HX1.out (j := 7) (v := .int .i64 f.h) rfl
  have p8 := cell_at HX1.out (j := 8) (v := .slice fo fn fc) rfl
  have o0 := cell_at HX2.out (j := 0) (v := .int .i64 x.k) rfl
  have o1 := cell_at HX2.out (j := 1) (v := .bool x.d) rfl
  have o2 := cell_at HX2.out (j := 2) (v := .int .i64 x.t) rfl
  have o3 := cell_at HX2.out (j := 3) (v := .int .i64 x.m) rfl
  have o4 := cell_at HX2.out (j := 4) (v := .slice da x.ds.length dc) rfl
  go_enter Tryz.func20, Tryz.ntmps20
  go_wp2_with (first | rw [E1] | rw [E2])
  rw [← HFV.out, ← HXV.out]
  refine rfcheck_any f fo fc x da dc _ _ (HOF.out.below BW0.out) (HOX.out.below BW0.out) fun W1 hb => ?_
  rw [HE.out]
  have BW1 : Hid (Below w.heap.size w W1) := BW0.out.trans (hb.mono BW0.out.size)
  have HX11 := Lib.hid ((hb.block _ (lt_of_block HX1.out)).trans HX1.out)
  have HX21 := Lib.hid ((hb.block _ (lt_of_block HX2.out)).trans HX2.out)
  clear hb E1 E2 p0 p1 p2 p3 p4 p5 p6 p7 p8 o0 o1 o2 o3 o4
  have p0 := cell_at HX11.out (j := 0) (v := .string f.n) rfl
  have p1 := cell_at HX11.out (j := 1) (v := .int .i64 f.k) rfl
  have p2 := cell_at HX11.out (j := 2) (v := .int .i64 f.a) rfl
  have p3 := cell_at HX11.out (j := 3) (v := .int .i64 f.x) rfl
  have p4 := cell_at HX11.out (j := 4) (v := .int .i64 f.y) rfl
  have p5 := cell_at HX11.out (j := 5) (v := .int .i64 f.z) rfl
  have p6 := cell_at HX11.out (j := 6) (v := .int .i64 f.l) rfl
  have p7 := cell_at HX11.out (j := 7) (v := .int .i64 f.h) rfl
  have p8 := cell_at HX11.out (j := 8) (v := .slice fo fn fc) rfl
  have o0 := cell_at HX21.out (j := 0) (v := .int .i64 x.k) rfl
  have o1 := cell_at HX21.out (j := 1) (v := .bool x.d) rfl
  have o2 := cell_at HX21.out (j := 2) (v := .int .i64 x.t) rfl
  have o3 := cell_at HX21.out (j := 3) (v := .int .i64 x.m) rfl
  have o4 := cell_at HX21.out (j := 4) (v := .slice da x.ds.length dc) rfl
  by_cases f0 : E = 0
  · subst f0
    rw [if_pos rfl] at hx
    obtain ⟨g1, g2, g3⟩ := fcE_good HE.out
    obtain ⟨t0, t1, gm⟩ := plE_good g2
    by_cases k0 : f.k = 0
    · have K : (f.k == 0) = true := by rw [k0]; rfl
      rw [if_pos k0] at hx
      rw [hx.out] at HR
      clear k0 gm g3
      go_wp2_with fail
      exact HR.out _ BW1.out
    · have K : (f.k == 0) = false := by simpa using k0
      rw [if_neg k0] at hx
      obtain ⟨l1, l2, l3⟩ := ftE_lim g1 k0
      obtain ⟨HS, hHS⟩ : ∃ b, (decide (f.l ≤ s) && decide (s ≤ f.h)) = b := ⟨_, rfl⟩
      have HHS := Lib.hid hHS
      clear hHS
      go_wp2_with fail
      refine rhas17b_any f.l f.h s _ _ fun W2 hb => ?_
      rw [HHS.out]
      have BW2 : Hid (Below w.heap.size w W2) := BW1.out.trans (hb.mono BW1.out.size)
      have HX12 := Lib.hid ((hb.block _ (lt_of_block HX11.out)).trans HX11.out)
      have HX22 := Lib.hid ((hb.block _ (lt_of_block HX21.out)).trans HX21.out)
      clear hb p0 p1 p2 p3 p4 p5 p6 p7 p8 o0 o1 o2 o3 o4
      have p0 := cell_at HX12.out (j := 0) (v := .string f.n) rfl
      have p1 := cell_at HX12.out (j := 1) (v := .int .i64 f.k) rfl
      have p2 := cell_at HX12.out (j := 2) (v := .int .i64 f.a) rfl
      have p3 := cell_at HX12.out (j := 3) (v := .int .i64 f.x) rfl
      have p4 := cell_at HX12.out (j := 4) (v := .int .i64 f.y) rfl
      have p5 := cell_at HX12.out (j := 5) (v := .int .i64 f.z) rfl
      have p6 := cell_at HX12.out (j := 6) (v := .int .i64 f.l) rfl
      have p7 := cell_at HX12.out (j := 7) (v := .int .i64 f.h) rfl
      have p8 := cell_at HX12.out (j := 8) (v := .slice fo fn fc) rfl
      have o0 := cell_at HX22.out (j := 0) (v := .int .i64 x.k) rfl
      have o1 := cell_at HX22.out (j := 1) (v := .bool x.d) rfl
      have o2 := cell_at HX22.out (j := 2) (v := .int .i64 x.t) rfl
      have o3 := cell_at HX22.out (j := 3) (v := .int .i64 x.m) rfl
      have o4 := cell_at HX22.out (j := 4) (v := .slice da x.ds.length dc) rfl
      cases HS with
      | false =>
        have hs : s < f.l ∨ f.h < s := by have := HHS.out; simp at this; omega
        rw [if_pos hs] at hx
        rw [hx.out] at HR
        clear k0 gm g3 hs
        go_wp2_with fail
        exact HR.out _ BW2.out
      | true =>
        have hs : f.l ≤ s ∧ s ≤ f.h := by have := HHS.out; simpa using this
        rw [if_neg (by omega)] at hx
        by_cases m0 : x.m = 0
        · have K : (x.m == 0) = true := by rw [m0]; rfl
          rw [if_pos m0] at hx
          rw [hx.out] at HR
          clear m0 gm g3 hs k0
          go_wp2_with fail
          exact HR.out _ BW2.out
        · have K : (x.m == 0) = false := by simpa using m0
          rw [if_neg m0] at hx
          obtain ⟨b, hb0⟩ : ∃ b, hoB f.k = b := ⟨_, rfl⟩
          obtain ⟨X1, Y1, hXY1⟩ : ∃ X Y, exX f b = (X, Y) := ⟨_, _, rfl⟩
          obtain ⟨X2, Y2, hXY2⟩ : ∃ X Y, exX f (!b) = (X, Y) := ⟨_, _, rfl⟩
          obtain ⟨x1, x2, rfl⟩ := exX_bounds g1 k0 _ hXY1
          obtain ⟨y1, y2, rfl⟩ := exX_bounds g1 k0 _ hXY2
          have HB0 := Lib.hid hb0
          have HXY1 := Lib.hid hXY1
          have HXY2 := Lib.hid hXY2
          have GM := Lib.hid (show x.m = 1 ∨ x.m = 2 from by omega)
          have hw1 : IntKind.i64.wrap (X1 - s) = X1 - s := by rw [IntKind.wrap_i64]; omega
          have hw2 : IntKind.i64.wrap (s - X1) = s - X1 := by rw [IntKind.wrap_i64]; omega
          have hw3 : IntKind.i64.wrap (X2 - s) = X2 - s := by rw [IntKind.wrap_i64]; omega
          have hw4 : IntKind.i64.wrap (s - X2) = s - X2 := by rw [IntKind.wrap_i64]; omega
          clear m0 gm g3 k0 hb0 hXY1 hXY2 g1 g2 hs
          go_wp2_with fail
          rw [← HFV.out]
          refine rmaxi_any f fo fc _ _ (HOF.out.below BW2.out) fun W3 hb => ?_
          rw [HB0.out, HXY1.out]
          have BW3 : Hid (Below w.heap.size w W3) := BW2.out.trans (hb.mono BW2.out.size)
          have HX13 := Lib.hid ((hb.block _ (lt_of_block HX12.out)).trans HX12.out)
          have HX23 := Lib.hid ((hb.block _ (lt_of_block HX22.out)).trans HX22.out)
          clear hb p0 p1 p2 p3 p4 p5 p6 p7 p8 o0 o1 o2 o3 o4
          have p0 := cell_at HX13.out (j := 0) (v := .string f.n) rfl
          have p1 := cell_at HX13.out (j := 1) (v := .int .i64 f.k) rfl
          have p2 := cell_at HX13.out (j := 2) (v := .int .i64 f.a) rfl
          have p3 := cell_at HX13.out (j := 3) (v := .int .i64 f.x) rfl
          have p4 := cell_at HX13.out (j := 4) (v := .int .i64 f.y) rfl
          have p5 := cell_at HX13.out (j := 5) (v := .int .i64 f.z) rfl
          have p6 := cell_at HX13.out (j := 6) (v := .int .i64 f.l) rfl
          have p7 := cell_at HX13.out (j := 7) (v := .int .i64 f.h) rfl
          have p8 := cell_at HX13.out (j := 8) (v := .slice fo fn fc) rfl
          have o0 := cell_at HX23.out (j := 0) (v := .int .i64 x.k) rfl
          have o1 := cell_at HX23.out (j := 1) (v := .bool x.d) rfl
          have o2 := cell_at HX23.out (j := 2) (v := .int .i64 x.t) rfl
          have o3 := cell_at HX23.out (j := 3) (v := .int .i64 x.m) rfl
          have o4 := cell_at HX23.out (j := 4) (v := .slice da x.ds.length dc) rfl
          rcases GM.out with m1 | m2
          · have K2 : (x.m == 2) = false := by rw [m1]; rfl
            have HM : Hid (mtB f x = b) := by unfold Hid mtB; rw [if_neg (by omega), HB0.out]
            rw [HM.out, HXY1.out] at hx
            have e : Hid (boX f x s = (max (s - X1) (X1 - s), 0)) := by unfold Hid; rw [hx.out, Int.max_comm]
            rw [e.out] at HR
            clear m1
            go_wp2_with fail
            exact HR.out _ BW3.out
          · have K2 : (x.m == 2) = true := by rw [m2]; rfl
            have HM : Hid (mtB f x = !b) := by unfold Hid mtB; rw [if_pos m2, HB0.out]
            rw [HM.out, HXY2.out] at hx
            have e : Hid (boX f x s = (max (s - X2) (X2 - s), 0)) := by unfold Hid; rw [hx.out, Int.max_comm]
            rw [e.out] at HR
            clear m2
            go_wp2_with fail
            rw [← HFV.out]
            refine rleas_any f fo fc _ _ (HOF.out.below BW3.out) fun W4 hb => ?_
            rw [HB0.out, HXY2.out]
            have BW4 : Hid (Below w.heap.size w W4) := BW3.out.trans (hb.mono BW3.out.size)
            clear hb p0 p1 p2 p3 p4 p5 p6 p7 p8 o0 o1 o2 o3 o4
            go_wp2_with fail
            exact HR.out _ BW4.out
  · have K : (E != 0) = true := by simpa using f0
    rw [if_neg f0] at hx
    rw [hx.out] at HR
    clear f0
    go_wp2_with fail
    exact HR.out _ BW1.out
end Go.Proofs.YtciokmjhdbcmpaaGreatDoor
namespace Go.Proofs.YtciokmjhdbcmpaaGreatDoor
open Go.RowKit

def bsB (l : List UInt8) : ByteArray := ⟨l.toArray⟩
theorem bsB_data (b : ByteArray) : bsB b.data.toList = b := by cases b; rfl
theorem data_bsB (l : List UInt8) : (bsB l).data.toList = l := by simp [bsB]
/-- The mark of a material condition. -/
def mkL (m : Int) : List UInt8 := if m = 1 then [40, 77, 41] else if m = 2 then [40, 76, 41] else []
def wdL (k : Nat) : List UInt8 := (rwAt k).wd.data.toList
def discL : List UInt8 := [100, 105, 115, 99]
def dtL (d : Dt) : List UInt8 := d.n.data.toList ++ mkL d.m
def tlL (x : Fm) : List UInt8 := Lib.itoa x.t ++ mkL x.m
/-- The words of a frame, its text. -/
def wdsL (x : Fm) : List (List UInt8) := wdL x.k.toNat :: ((if x.d = true then [discL] else []) ++ tlL x :: x.ds.map dtL)
def txL (x : Fm) : List UInt8 := Lib.join (wdsL x) [32]

/-! ### splitting at blanks -/
def splL : List UInt8 → List (List UInt8)
  | [] => [[]]
  | c :: r => if c = 32 then [] :: splL r else match splL r with
    | [] => [[c]]
    | h :: t => (c :: h) :: t
theorem splL_ne (s : List UInt8) : splL s ≠ [] := by
  cases s with
  | nil => simp [splL]
  | cons c r =>
    unfold splL
    split
    · simp
    · split <;> simp
theorem splL_word : ∀ {w : List UInt8}, 32 ∉ w → splL w = [w]
  | [], _ => rfl
  | c :: r, h => by
    have h1 : c ≠ 32 := fun e => h (e ▸ List.mem_cons_self)
    have h2 : 32 ∉ r := fun e => h (List.mem_cons_of_mem _ e)
    rw [splL, if_neg h1, splL_word h2]
theorem splL_cut : ∀ {w : List UInt8} (r : List UInt8), 32 ∉ w → splL (w ++ 32 :: r) = w :: splL r
  | [], r, _ => by rw [List.nil_append, splL, if_pos rfl]
  | c :: t, r, h => by
    have h1 : c ≠ 32 := fun e => h (e ▸ List.mem_cons_self)
    have h2 : 32 ∉ t := fun e => h (List.mem_cons_of_mem _ e)
    rw [List.cons_append, splL, if_neg h1, splL_cut r h2]
theorem join_two (x y : List UInt8) (r : List (List UInt8)) (sep : List UInt8) : Lib.join (x :: y :: r) sep = x ++ (sep ++ Lib.join (y :: r) sep) := by
  rw [Lib.join_cons, Lib.join_cons, Lib.joinTail, List.map_cons, List.flatten_cons, List.append_assoc]
  rfl
theorem splL_join : ∀ ws : List (List UInt8), ws ≠ [] → (∀ w ∈ ws, 32 ∉ w) → splL (Lib.join ws [32]) = ws
  | [], h, _ => absurd rfl h
  | [x], _, h => by rw [Lib.join_one, splL_word (h x (by simp))]
  | x :: y :: r, _, h => by
    rw [join_two, List.singleton_append, splL_cut _ (h x (by simp)), splL_join (y :: r) (by simp) (fun w hw => h w (List.mem_cons_of_mem _ hw))]
theorem splL_snoc : ∀ (s : List UInt8) (c : UInt8), splL (s ++ [c]) = if c = 32 then splL s ++ [[]] else (splL s).dropLast ++ [(splL s).getLastD [] ++ [c]]
  | [], c => by
    by_cases h : c = 32
    · simp [splL, h]
    · simp [splL, h]
  | a :: r, c => by
    have ih := splL_snoc r c
    obtain ⟨h, t, e⟩ : ∃ h t, splL r = h :: t := by
      cases hr : splL r with
      | nil => exact absurd hr (splL_ne r)
      | cons h t => exact ⟨h, t, rfl⟩
    rw [e] at ih
    by_cases ha : a = 32
    · rw [List.cons_append, splL, if_pos ha, ih, splL, if_pos ha, e]
      by_cases hc : c = 32
      · simp [hc]
      · rw [if_neg hc, if_neg hc]; simp [List.getLastD]
    · by_cases hc : c = 32
      · rw [if_pos hc] at ih
        rw [List.cons_append, splL, if_neg ha, ih, if_pos hc, splL, if_neg ha, e]; rfl
      · rw [if_neg hc] at ih
        rw [List.cons_append, splL, if_neg ha, ih, if_neg hc, splL, if_neg ha, e]
        cases t with
        | nil => simp [List.getLastD]
        | cons t1 t2 => simp [List.getLastD]
theorem index_none : ∀ {w : List UInt8}, 32 ∉ w → Lib.index w [32] = -1
  | [], _ => by simp [Lib.index]
  | c :: r, h => by
    have h1 : c ≠ 32 := fun e => h (e ▸ List.mem_cons_self)
    have h2 : 32 ∉ r := fun e => h (List.mem_cons_of_mem _ e)
    have hp : ([32] : List UInt8).isPrefixOf (c :: r) = false := by simp [List.isPrefixOf, Ne.symm h1]
    rw [Lib.index, hp, index_none h2]; simp
theorem index_at : ∀ {w : List UInt8} (r : List UInt8), 32 ∉ w → Lib.index (w ++ 32 :: r) [32] = (w.length : Int)
  | [], r, _ => by rw [List.nil_append, Lib.index]; simp [List.isPrefixOf]
  | c :: t, r, h => by
    have h1 : c ≠ 32 := fun e => h (e ▸ List.mem_cons_self)
    have h2 : 32 ∉ t := fun e => h (List.mem_cons_of_mem _ e)
    have hp : ([32] : List UInt8).isPrefixOf (c :: (t ++ 32 :: r)) = false := by simp [List.isPrefixOf, Ne.symm h1]
    rw [List.cons_append, Lib.index, hp, index_at r h2]
    have : ¬ ((t.length : Int) == -1) = true := fun e => by have := beq_iff_eq.1 e; omega
    simp [this]
theorem splitK_splL : ∀ (n : Nat) (s : List UInt8), s.length ≤ n → Lib.splitK [32] 0 (s.count 32) s = splL s
  | 0, s, h => by
    obtain rfl : s = [] := List.length_eq_zero_iff.1 (by omega)
    rfl
  | n + 1, s, h => by
    by_cases hm : 32 ∈ s
    · obtain ⟨w, r, rfl, hw⟩ := List.eq_append_cons_of_mem hm
      have hc : (w ++ 32 :: r).count 32 = r.count 32 + 1 := by
        rw [List.count_append, List.count_cons_self, List.count_eq_zero.2 hw]; omega
      have hne : ¬ (((w.length : Int) == -1) = true) := fun e => by have := beq_iff_eq.1 e; omega
      rw [hc, Lib.splitK, index_at r hw, if_neg hne, splL_cut r hw]
      have e1 : ((w.length : Int).toNat + 0) = w.length := by omega
      have e2 : ((w.length : Int).toNat + ([32] : List UInt8).length) = w.length + 1 := by simp
      rw [e1, e2, List.take_left]
      have e3 : (w ++ 32 :: r).drop (w.length + 1) = r := by rw [List.drop_append]; simp
      rw [e3, splitK_splL n r (by simp at h; omega)]
    · rw [List.count_eq_zero.2 hm, splL_word hm]; rfl

/-! ### numbers -/
theorem digit_val : ∀ d, d < 10 → Lib.digitVal (UInt8.ofNat (48 + d)) = some d := by decide
theorem decFrom_snoc : ∀ (l : List UInt8) (acc n d : Nat) (b : UInt8), Lib.decFrom acc l = some n → Lib.digitVal b = some d → Lib.decFrom acc (l ++ [b]) = some (n * 10 + d)
  | [], acc, n, d, b, h, hb => by simp only [Lib.decFrom, Option.some.injEq] at h; subst h; simp [Lib.decFrom, hb]
  | a :: t, acc, n, d, b, h, hb => by
    simp only [Lib.decFrom, List.cons_append] at h ⊢
    cases ha : Lib.digitVal a with
    | none => simp [ha] at h
    | some e => simp only [ha] at h ⊢; exact decFrom_snoc t _ n d b h hb
theorem decFrom_digits (u : Nat) : Lib.decFrom 0 (Lib.decDigits u) = some u := by
  induction u using Nat.strongRecOn with
  | _ u ih =>
    unfold Lib.decDigits
    split
    · rename_i h
      show (match Lib.digitVal (UInt8.ofNat (48 + u)) with
        | some d => Lib.decFrom (0 * 10 + d) []
        | none => none) = some u
      rw [digit_val u h]
      simp [Lib.decFrom]
    · rename_i h
      rw [decFrom_snoc _ 0 (u / 10) (u % 10) _ (ih (u / 10) (by omega)) (digit_val _ (by omega))]
      congr 1
      omega
theorem digit_byte : ∀ d, d < 10 → 48 ≤ (UInt8.ofNat (48 + d)).toNat ∧ (UInt8.ofNat (48 + d)).toNat ≤ 57 := by decide
theorem digits_bytes (u : Nat) : ∀ b ∈ Lib.decDigits u, 48 ≤ b.toNat ∧ b.toNat ≤ 57 := by
  induction u using Nat.strongRecOn with
  | _ u ih =>
    intro b hb
    unfold Lib.decDigits at hb
    split at hb
    · rename_i h
      simp only [List.mem_singleton] at hb
      subst hb
      exact digit_byte u h
    · rename_i h
      rw [List.mem_append] at hb
      rcases hb with hb | hb
      · exact ih (u / 10) (by omega) b hb
      · simp only [List.mem_singleton] at hb
        subst hb
        exact digit_byte _ (by omega)
theorem digits_ne (u : Nat) : Lib.decDigits u ≠ [] := by
  unfold Lib.decDigits
  split <;> simp
theorem digits_len : ∀ (k u : Nat), u < 10 ^ (k + 1) → (Lib.decDigits u).length ≤ k + 1
  | 0, u, h => by rw [Lib.decDigits_one (by simpa using h)]; simp
  | k + 1, u, h => by
    unfold Lib.decDigits
    split
    · simp
    · rw [List.length_append]
      have := digits_len k (u / 10) (by rw [Nat.pow_succ] at h; omega)
      simp; omega
theorem itoa_nat {t : Int} (h : 0 ≤ t) : Lib.itoa t = Lib.decDigits t.toNat := by unfold Lib.itoa; rw [if_neg (by omega)]
/-- What Atoi returns. -/
def atV (s : List UInt8) : Int := match Lib.atoiAll s with
  | .ok v => v
  | .syntax => 0
  | .range => Lib.atoiSat s
theorem atV_itoa {t : Int} (h0 : 0 ≤ t) (h1 : t ≤ 100000) : atV (Lib.itoa t) = t := by
  rw [itoa_nat h0]
  have hl : (Lib.decDigits t.toNat).length ≤ 6 := digits_len 5 t.toNat (by omega)
  unfold atV
  rw [Lib.atoiAll_short _ (by omega)]
  have : Lib.atoi (Lib.decDigits t.toNat) = some t := by
    have hd := decFrom_digits t.toNat
    have hb := digits_bytes t.toNat
    have hn := digits_ne t.toNat
    cases hl : Lib.decDigits t.toNat with
    | nil => exact absurd hl hn
    | cons c r =>
      rw [hl] at hd hb
      have hc := hb c (by simp)
      have c1 : ¬ (c == 45) = true := fun e => by rw [beq_iff_eq.1 e] at hc; exact absurd hc.1 (by decide)
      have c2 : ¬ (c == 43) = true := fun e => by rw [beq_iff_eq.1 e] at hc; exact absurd hc.1 (by decide)
      rw [Lib.atoi, if_neg c1, if_neg c2]
      unfold Lib.decNat
      rw [if_neg (by simp), hd, Option.map_some, Int.toNat_of_nonneg h0]
  rw [this]
  rfl
/-- What Number of the reference returns. -/
def numL (s : List UInt8) : Int := if s.length = 0 ∨ 6 < s.length then -1 else match Lib.decFrom 0 s with
  | some n => (n : Int)
  | none => -1
theorem numL_itoa {t : Int} (h0 : 0 ≤ t) (h1 : t ≤ 100000) : numL (Lib.itoa t) = t := by
  rw [itoa_nat h0]
  have hl : (Lib.decDigits t.toNat).length ≤ 6 := digits_len 5 t.toNat (by omega)
  have h2 : (Lib.decDigits t.toNat).length ≠ 0 := fun e => digits_ne _ (List.length_eq_zero_iff.1 e)
  unfold numL
  rw [if_neg (by omega), decFrom_digits]
  exact Int.toNat_of_nonneg h0

/-! ### marks -/
def cutW (s : List UInt8) : List UInt8 × Int :=
  if 3 ≤ s.length ∧ s.drop (s.length - 3) = [40, 77, 41] then (s.take (s.length - 3), 1)
  else if 3 ≤ s.length ∧ s.drop (s.length - 3) = [40, 76, 41] then (s.take (s.length - 3), 2) else (s, 0)
theorem cutW_mk {a : List UInt8} {m : Int} (hm : m = 0 ∨ m = 1 ∨ m = 2) (ha : 41 ∉ a) : cutW (a ++ mkL m) = (a, m) := by
  have key : ∀ b : UInt8, (a ++ [40, b, 41]).length - 3 = a.length := fun b => by simp
  rcases hm with rfl | rfl | rfl
  · have e : a ++ mkL 0 = a := by unfold mkL; simp
    rw [e]
    unfold cutW
    rw [if_neg, if_neg]
    · rintro ⟨_, h⟩
      exact ha (List.mem_of_mem_drop (i := a.length - 3) (by rw [h]; simp))
    · rintro ⟨_, h⟩
      exact ha (List.mem_of_mem_drop (i := a.length - 3) (by rw [h]; simp))
  · have e : a ++ mkL 1 = a ++ [40, 77, 41] := by unfold mkL; simp
    rw [e]
    unfold cutW
    rw [key 77, if_pos ⟨by simp, by simp⟩]
    simp
  · have e : a ++ mkL 2 = a ++ [40, 76, 41] := by unfold mkL; simp
    rw [e]
    unfold cutW
    rw [key 76, if_neg (by rintro ⟨_, h⟩; simp at h), if_pos ⟨by simp, by simp⟩]
    simp
theorem mk_bytes (m : Int) : 32 ∉ mkL m := by
  unfold mkL
  split
  · decide
  · split <;> decide

/-! ### names -/
theorem nmE_bytes {s : ByteArray} (h : nmE s = 0) : ∀ b ∈ s.data.toList, letC b = true ∨ digC b = true := by
  intro b hb
  unfold nmE at h
  split at h
  · omega
  · split at h
    · omega
    · split at h
      · obtain ⟨j, hj, rfl⟩ := List.getElem_of_mem hb
        cases hx : loopE (ndF s) s.size 0 () with
        | inr r =>
          obtain ⟨k, _, _, hk⟩ := loopE_unit_inr _ _ hx
          rw [hx] at h
          unfold ndF at hk
          split at hk
          · exact absurd hk (by simp)
          · split at hk
            · exact absurd hk (by simp)
            · have e : r = 3 := by injection hk with hk; exact hk.symm
              rw [e] at h
              exact absurd h (by decide)
        | inl u =>
          have hsz : s.size = s.data.toList.length := by rw [Array.length_toList]; rfl
          have hk := (loopE_unit _ _).1 hx j (Nat.zero_le _) (by omega)
          have e : s.data.toList.getD j 0 = s.data.toList[j] := by rw [List.getD_eq_getElem?_getD, List.getElem?_eq_getElem hj]; rfl
          unfold ndF at hk
          rw [e] at hk
          split at hk
          · exact .inl ‹_›
          · split at hk
            · exact .inr ‹_›
            · exact absurd hk (by simp)
      · omega
theorem name_not (c : UInt8) (h : letC c = false) (h2 : digC c = false) {s : ByteArray} (hs : nmE s = 0) : c ∉ s.data.toList := fun hm => by
  rcases nmE_bytes hs c hm with e | e
  · rw [h] at e; exact absurd e (by simp)
  · rw [h2] at e; exact absurd e (by simp)
theorem mtE_good {m : Int} (h : mtE m = 0) : m = 0 ∨ m = 1 ∨ m = 2 := by
  unfold mtE at h
  split at h
  · omega
  · omega
theorem plD_good {ds : List Dt} (h : plD ds = 0) : ∀ d ∈ ds, nmE d.n = 0 ∧ (d.m = 0 ∨ d.m = 1 ∨ d.m = 2) := by
  intro d hd
  obtain ⟨j, hj, rfl⟩ := List.getElem_of_mem hd
  unfold plD at h
  split at h
  · omega
  · cases hx : loopE (pdF ds) ds.length 0 () with
    | inr r =>
      rw [hx] at h
      obtain ⟨k, _, _, hk⟩ := loopE_unit_inr _ _ hx
      have hr : r = 0 := h
      unfold pdF at hk
      split at hk
      · split at hk
        · injection hk with hk; omega
        · split at hk
          · exact absurd hk (by simp)
          · rename_i h1; injection hk with hk; exact absurd (hk.trans hr) h1
      · rename_i h1; injection hk with hk; exact absurd (hk.trans hr) h1
    | inl u =>
      have hk := (loopE_unit _ _).1 hx j (Nat.zero_le _) (by omega)
      unfold pdF at hk
      rw [dtAt_lt hj] at hk
      split at hk
      · rename_i h1
        split at hk
        · exact absurd hk (by simp)
        · split at hk
          · rename_i h2; exact ⟨h1, mtE_good h2⟩
          · exact absurd hk (by simp)
      · exact absurd hk (by simp)
theorem plE_all {x : Fm} (h : plE x = 0) : 0 ≤ x.k ∧ x.k < 9 ∧ 0 ≤ x.t ∧ x.t ≤ 100000 ∧ (x.m = 0 ∨ x.m = 1 ∨ x.m = 2) ∧ ∀ d ∈ x.ds, nmE d.n = 0 ∧ (d.m = 0 ∨ d.m = 1 ∨ d.m = 2) := by
  unfold plE at h
  split at h
  · omega
  · split at h
    · rename_i h1 h2
      split at h
      · omega
      · rename_i h3
        exact ⟨by omega, by omega, by omega, by omega, mtE_good h2, plD_good h⟩
    · rename_i h1; exact absurd h h1

/-! ### what a text is read as -/
def gsF (w : List UInt8) (i : Nat) (_ : Unit) : Unit ⊕ Int := if (wdL i == w) = true then .inr (i : Int) else .inl ()
/-- The kind with a word. -/
def kdW (w : List UInt8) : Int := match loopE (gsF w) 9 0 () with
  | .inl _ => -1
  | .inr r => r
theorem kdW_wdL : ∀ k, k < 9 → kdW (wdL k) = k := by decide +kernel
def gdW (s : List UInt8) : Dt := ⟨bsB (cutW s).1, (cutW s).2⟩
def gsR (k : Int) (d : Bool) : List (List UInt8) → Fm
  | [] => ⟨k, d, 0, 0, []⟩
  | t :: r => ⟨k, d, atV (cutW t).1, (cutW t).2, r.map gdW⟩
def gsW : List (List UInt8) → Fm
  | [] => Fm.zero
  | h :: r => if r.head? = some discL then gsR (kdW h) true r.tail else gsR (kdW h) false r
theorem gdW_dtL {d : Dt} (h : nmE d.n = 0) (hm : d.m = 0 ∨ d.m = 1 ∨ d.m = 2) : gdW (dtL d) = d := by
  unfold gdW dtL
  rw [cutW_mk hm (name_not 41 (by decide) (by decide) h), bsB_data]
theorem itoa_not (c : UInt8) (hc : c.toNat < 48 ∨ 57 < c.toNat) {t : Int} (h : 0 ≤ t) : c ∉ Lib.itoa t := fun hm => by
  rw [itoa_nat h] at hm
  have := digits_bytes _ c hm
  omega
theorem tlL_head {x : Fm} (h : 0 ≤ x.t) : tlL x ≠ discL := by
  unfold tlL
  rw [itoa_nat h]
  have hb := digits_bytes x.t.toNat
  cases hd : Lib.decDigits x.t.toNat with
  | nil => exact absurd hd (digits_ne _)
  | cons c r =>
    rw [hd] at hb
    have hc := hb c (by simp)
    intro e
    unfold discL at e
    rw [List.cons_append] at e
    injection e with e _
    rw [e] at hc
    exact absurd hc.2 (by decide)
theorem gsR_words {x : Fm} (h : plE x = 0) (k : Int) (d : Bool) : gsR k d (tlL x :: x.ds.map dtL) = ⟨k, d, x.t, x.m, x.ds⟩ := by
  obtain ⟨_, _, h1, h2, h3, h4⟩ := plE_all h
  show (⟨k, d, atV (cutW (tlL x)).1, (cutW (tlL x)).2, (x.ds.map dtL).map gdW⟩ : Fm) = _
  unfold tlL
  rw [cutW_mk h3 (itoa_not 41 (by decide) h1), atV_itoa h1 h2, List.map_map]
  have e : x.ds.map (gdW ∘ dtL) = x.ds := by
    conv => rhs; rw [← List.map_id x.ds]
    exact List.map_congr_left fun d hd => gdW_dtL (h4 d hd).1 (h4 d hd).2
  rw [e]
theorem gsW_wds {x : Fm} (h : plE x = 0) : gsW (wdsL x) = x := by
  obtain ⟨k0, k9, h1, _⟩ := plE_all h
  have hk : kdW (wdL x.k.toNat) = x.k := by rw [kdW_wdL _ (by omega)]; omega
  have hg : ∀ h r, gsW (h :: r) = if r.head? = some discL then gsR (kdW h) true r.tail else gsR (kdW h) false r := fun _ _ => rfl
  unfold wdsL
  rw [hg]
  cases hd : x.d with
  | true =>
    rw [if_pos rfl, List.singleton_append, List.head?_cons, if_pos rfl, List.tail_cons, gsR_words h, hk, ← hd]
  | false =>
    have e0 : (if false = true then [discL] else ([] : List (List UInt8))) = [] := if_neg (by simp)
    rw [e0, List.nil_append, List.head?_cons, if_neg (fun e => tlL_head h1 (Option.some.inj e)), gsR_words h, hk, ← hd]
theorem wdL_not : ∀ k, k < 9 → 32 ∉ wdL k := by decide +kernel
theorem wds_not {x : Fm} (h : plE x = 0) : ∀ w ∈ wdsL x, 32 ∉ w := by
  obtain ⟨k0, k9, h1, _, _, h4⟩ := plE_all h
  intro w hw
  unfold wdsL at hw
  rw [List.mem_cons, List.mem_append, List.mem_cons, List.mem_map] at hw
  rcases hw with rfl | hw | rfl | ⟨d, hd, rfl⟩
  · exact wdL_not _ (by omega)
  · split at hw
    · rw [List.mem_singleton] at hw; subst hw; decide
    · exact absurd hw (by simp)
  · unfold tlL
    rw [List.mem_append]
    rintro (e | e)
    · exact itoa_not 32 (by decide) h1 e
    · exact mk_bytes _ e
  · unfold dtL
    rw [List.mem_append]
    rintro (e | e)
    · exact name_not 32 (by decide) (by decide) (h4 d hd).1 e
    · exact mk_bytes _ e
theorem spl_txL {x : Fm} (h : plE x = 0) : splL (txL x) = wdsL x := splL_join _ (by unfold wdsL; simp) (wds_not h)
/-- The texts tell the plain frames apart. -/
theorem txL_inj {x y : Fm} (hx : plE x = 0) (hy : plE y = 0) (e : txL x = txL y) : x = y := by
  rw [← gsW_wds hx, ← gsW_wds hy, ← spl_txL hx, ← spl_txL hy, e]
/-- What Parse returns. -/
noncomputable def paX (s : List UInt8) : Fm := open Classical in if h : ∃ x, plE x = 0 ∧ txL x = s then h.choose else Fm.zero
noncomputable def paE (s : List UInt8) : Int := open Classical in if 4096 < s.length then 17 else if ∃ x, plE x = 0 ∧ txL x = s then 0 else 4
theorem pa_hit {x : Fm} (hx : plE x = 0) (hl : (txL x).length ≤ 4096) : paX (txL x) = x ∧ paE (txL x) = 0 := by
  have h : ∃ y, plE y = 0 ∧ txL y = txL x := ⟨x, hx, rfl⟩
  unfold paX paE
  rw [dif_pos h, if_neg (by omega), if_pos h]
  exact ⟨txL_inj h.choose_spec.1 hx h.choose_spec.2, rfl⟩
end Go.Proofs.YtciokmjhdbcmpaaGreatDoor
