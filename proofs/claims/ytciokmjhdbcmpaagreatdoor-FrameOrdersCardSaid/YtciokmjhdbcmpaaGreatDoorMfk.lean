/- Check of package frame and of reference 19. Check of reference 19. inner, Inner, extreme of package feature; Hollow, sized of reference 18. (Printed by gen_inner.py.) Maximum, Least of package feature. (Printed by gen_maxi.py.) Hollow, sized, Maximum, Least of reference 18. (Printed by gen_rmaxi.py.) material of package frame. (Printed by gen_material.py.) -/
import Derived.Test.YtciokmjhdbcmpaaGreatDoorMfi
import Derived.Test.YtciokmjhdbcmpaaGreatDoorMlib
namespace Go.Proofs.YtciokmjhdbcmpaaGreatDoor
open Go.RowKit

set_option maxRecDepth 100000 in
set_option maxHeartbeats 4000000 in
theorem fcheck_any (f : Ft) (fo : Option Addr) (fc : Nat) (x : Fm) (da : Option Addr) (dc : Nat) (w : World) (R : Ending → World → Prop) (hok : FtOk w f fo fc) (hox : FmOk w x da dc)
   (hR : ∀ w', Below w.heap.size w w' → R (.returned (.int .i64 (fcE f x))) w') :
    Calls Tryz.prog 13 #[ftV f fo fc, fmV x da dc] w R := by
  by_cases hf0 : ftE f = 0
  · by_cases hx0 : plE x = 0
    · exact fcheck_good f fo fc x da dc w R hok hox hf0 hx0 hR
    · have HR := Lib.hid hR
      have HOF := Lib.hid hok
      have HOX := Lib.hid hox
      have HF0 := Lib.hid hf0
      obtain ⟨E, hE⟩ : ∃ E, plE x = E := ⟨_, rfl⟩
      have HE := Lib.hid hE
      have e : Hid (fcE f x = E) := by unfold Hid fcE; rw [if_pos hf0, if_neg hx0, hE]
      have K : (E != 0) = true := by simpa using (hE ▸ hx0)
      obtain ⟨fn, hfn⟩ : ∃ fn, f.fs.length = fn := ⟨_, rfl⟩
      have HFV : Hid (ftV f fo fc = .agg #[.string f.n, .int .i64 f.k, .int .i64 f.a, .int .i64 f.x, .int .i64 f.y, .int .i64 f.z, .int .i64 f.l, .int .i64 f.h, .slice fo fn fc]) := by unfold Hid ftV; rw [hfn]
      have HXV : Hid (fmV x da dc = .agg #[.int .i64 x.k, .bool x.d, .int .i64 x.t, .int .i64 x.m, .slice da x.ds.length dc]) := rfl
      rw [HFV.out, HXV.out]
      clear hR hok hox hf0 hx0 hE hfn
      obtain ⟨w1, E1, HB1, s1, X1⟩ := box_ex w #[.string f.n, .int .i64 f.k, .int .i64 f.a, .int .i64 f.x, .int .i64 f.y, .int .i64 f.z, .int .i64 f.l, .int .i64 f.h, .slice fo fn fc] 28
      obtain ⟨w2, E2, HB2, s2, X2⟩ := box_ex w1 #[.int .i64 x.k, .bool x.d, .int .i64 x.t, .int .i64 x.m, .slice da x.ds.length dc] 31
      have HX1 := Lib.hid ((HB2.out.block _ s1).trans X1.out)
      have BW0 : Hid (Below w.heap.size w w2) := HB1.out.trans (HB2.out.mono (Nat.le_of_lt s1))
      have p0 := cell_at HX1.out (j := 0) (v := .string f.n) rfl
      have p1 := cell_at HX1.out (j := 1) (v := .int .i64 f.k) rfl
      have p2 := cell_at HX1.out (j := 2) (v := .int .i64 f.a) rfl
      have p3 := cell_at HX1.out (j := 3) (v := .int .i64 f.x) rfl
      have p4 := cell_at HX1.out (j := 4) (v := .int .i64 f.y) rfl
      have p5 := cell_at HX1.out (j := 5) (v := .int .i64 f.z) rfl
      have p6 := cell_at HX1.out (j := 6) (v := .int .i64 f.l) rfl
      have p7 := cell_at HX1.out (j := 7) (v := .int .i64 f.h) rfl
      have p8 := cell_at HX1.out (j := 8) (v := .slice fo fn fc) rfl
      go_enter Tryz.func13, Tryz.ntmps13
      go_wp2_with (first | rw [E1] | rw [E2])
      rw [← HFV.out]
      refine check18_any f fo fc _ _ HOF.out.name fun W1 hb => ?_
      rw [HF0.out]
      have BW1 : Hid (Below w.heap.size w W1) := BW0.out.trans (hb.mono BW0.out.size)
      have HX21 := Lib.hid ((hb.block _ s2).trans X2.out)
      clear p0 p1 p2 p3 p4 p5 p6 p7 p8 hb E1 E2
      have o0 := cell_at HX21.out (j := 0) (v := .int .i64 x.k) rfl
      have o1 := cell_at HX21.out (j := 1) (v := .bool x.d) rfl
      have o2 := cell_at HX21.out (j := 2) (v := .int .i64 x.t) rfl
      have o3 := cell_at HX21.out (j := 3) (v := .int .i64 x.m) rfl
      have o4 := cell_at HX21.out (j := 4) (v := .slice da x.ds.length dc) rfl
      go_wp2_with fail
      rw [← HXV.out]
      refine plain_any x da dc _ _ (HOX.out.below BW1.out) fun V hb => ?_
      rw [HE.out]
      have BV : Hid (Below w.heap.size w V) := BW1.out.trans (hb.mono BW1.out.size)
      clear hb o0 o1 o2 o3 o4
      go_wp2_with fail
      exact ret_i (HR.out _ BV.out) rfl e.out
  · have HR := Lib.hid hR
    have HOF := Lib.hid hok
    obtain ⟨E, hE⟩ : ∃ E, ftE f = E := ⟨_, rfl⟩
    have HE := Lib.hid hE
    have e : Hid (fcE f x = E) := by unfold Hid fcE; rw [if_neg hf0, hE]
    have K : (E != 0) = true := by simpa using (hE ▸ hf0)
    obtain ⟨fn, hfn⟩ : ∃ fn, f.fs.length = fn := ⟨_, rfl⟩
    have HFV : Hid (ftV f fo fc = .agg #[.string f.n, .int .i64 f.k, .int .i64 f.a, .int .i64 f.x, .int .i64 f.y, .int .i64 f.z, .int .i64 f.l, .int .i64 f.h, .slice fo fn fc]) := by unfold Hid ftV; rw [hfn]
    have HXV : Hid (fmV x da dc = .agg #[.int .i64 x.k, .bool x.d, .int .i64 x.t, .int .i64 x.m, .slice da x.ds.length dc]) := rfl
    rw [HFV.out, HXV.out]
    clear hR hok hox hf0 hE hfn
    obtain ⟨w1, E1, HB1, s1, X1⟩ := box_ex w #[.string f.n, .int .i64 f.k, .int .i64 f.a, .int .i64 f.x, .int .i64 f.y, .int .i64 f.z, .int .i64 f.l, .int .i64 f.h, .slice fo fn fc] 28
    obtain ⟨w2, E2, HB2, s2, X2⟩ := box_ex w1 #[.int .i64 x.k, .bool x.d, .int .i64 x.t, .int .i64 x.m, .slice da x.ds.length dc] 31
    have HX1 := Lib.hid ((HB2.out.block _ s1).trans X1.out)
    have BW0 : Hid (Below w.heap.size w w2) := HB1.out.trans (HB2.out.mono (Nat.le_of_lt s1))
    have p0 := cell_at HX1.out (j := 0) (v := .string f.n) rfl
    have p1 := cell_at HX1.out (j := 1) (v := .int .i64 f.k) rfl
    have p2 := cell_at HX1.out (j := 2) (v := .int .i64 f.a) rfl
    have p3 := cell_at HX1.out (j := 3) (v := .int .i64 f.x) rfl
    have p4 := cell_at HX1.out (j := 4) (v := .int .i64 f.y) rfl
    have p5 := cell_at HX1.out (j := 5) (v := .int .i64 f.z) rfl
    have p6 := cell_at HX1.out (j := 6) (v := .int .i64 f.l) rfl
    have p7 := cell_at HX1.out (j := 7) (v := .int .i64 f.h) rfl
    have p8 := cell_at HX1.out (j := 8) (v := .slice fo fn fc) rfl
    go_enter Tryz.func13, Tryz.ntmps13
    go_wp2_with (first | rw [E1] | rw [E2])
    rw [← HFV.out]
    refine check18_any f fo fc _ _ HOF.out.name fun W1 hb => ?_
    rw [HE.out]
    have BW1 : Hid (Below w.heap.size w W1) := BW0.out.trans (hb.mono BW0.out.size)
    clear p0 p1 p2 p3 p4 p5 p6 p7 p8 hb E1 E2
    go_wp2_with fail
    exact ret_i (HR.out _ BW1.out) rfl e.out
end Go.Proofs.YtciokmjhdbcmpaaGreatDoor
namespace Go.Proofs.YtciokmjhdbcmpaaGreatDoor
open Go.RowKit

set_option maxRecDepth 100000 in
set_option maxHeartbeats 4000000 in
theorem rfcheck_any (f : Ft) (fo : Option Addr) (fc : Nat) (x : Fm) (da : Option Addr) (dc : Nat) (w : World) (R : Ending → World → Prop) (hok : FtOk w f fo fc) (hox : FmOk w x da dc)
   (hR : ∀ w', Below w.heap.size w w' → R (.returned (.int .i64 (fcE f x))) w') :
    Calls Tryz.prog 14 #[ftV f fo fc, fmV x da dc] w R := by
  have HR := Lib.hid hR
  have HOF := Lib.hid hok
  have HOX := Lib.hid hox
  obtain ⟨EF, hEF⟩ : ∃ E, ftE f = E := ⟨_, rfl⟩
  obtain ⟨EX, hEX⟩ : ∃ E, plE x = E := ⟨_, rfl⟩
  have HEF := Lib.hid hEF
  have HEX := Lib.hid hEX
  obtain ⟨E, hE0⟩ : ∃ E, fcE f x = E := ⟨_, rfl⟩
  have hE : Hid (E = if EF = 0 then (if EX = 0 then (if pmE f.k.toNat x.k.toNat x.d x.t x.m x.ds.length = 0 then (if anyN (fun i => dnQ f.n (dtAt x.ds i)) x.ds.length = true then 7 else 0) else pmE f.k.toNat x.k.toNat x.d x.t x.m x.ds.length) else EX) else EF) := by unfold Hid; rw [← hE0, ← hEF, ← hEX]; rfl
  rw [hE0] at HR
  obtain ⟨fn, hfn⟩ : ∃ fn, f.fs.length = fn := ⟨_, rfl⟩
  have HFV : Hid (ftV f fo fc = .agg #[.string f.n, .int .i64 f.k, .int .i64 f.a, .int .i64 f.x, .int .i64 f.y, .int .i64 f.z, .int .i64 f.l, .int .i64 f.h, .slice fo fn fc]) := by unfold Hid ftV; rw [hfn]
  have HXV : Hid (fmV x da dc = .agg #[.int .i64 x.k, .bool x.d, .int .i64 x.t, .int .i64 x.m, .slice da x.ds.length dc]) := rfl
  rw [HFV.out, HXV.out]
  clear hR hok hox hfn hE0 hEF hEX
  obtain ⟨w1, E1, HB1, s1, X1⟩ := box_ex w #[.string f.n, .int .i64 f.k, .int .i64 f.a, .int .i64 f.x, .int .i64 f.y, .int .i64 f.z, .int .i64 f.l, .int .i64 f.h, .slice fo fn fc] 28
  obtain ⟨w2, E2, HB2, s2, X2⟩ := box_ex w1 #[.int .i64 x.k, .bool x.d, .int .i64 x.t, .int .i64 x.m, .slice da x.ds.length dc] 31
  have HX1 := Lib.hid ((HB2.out.block _ s1).trans X1.out)
  have BW0 : Hid (Below w.heap.size w w2) := HB1.out.trans (HB2.out.mono (Nat.le_of_lt s1))
  have p0 := cell_at HX1.out (j := 0) (v := .string f.n) rfl
  have p1 := cell_at HX1.out (j := 1) (v := .int .i64 f.k) rfl
  have p2 := cell_at HX1.out (j := 2) (v := .int .i64 f.a) rfl
  have p3 := cell_at HX1.out (j := 3) (v := .int .i64 f.x) rfl
  have p4 := cell_at HX1.out (j := 4) (v := .int .i64 f.y) rfl
  have p5 := cell_at HX1.out (j := 5) (v := .int .i64 f.z) rfl
  have p6 := cell_at HX1.out (j := 6) (v := .int .i64 f.l) rfl
  have p7 := cell_at HX1.out (j := 7) (v := .int .i64 f.h) rfl
  have p8 := cell_at HX1.out (j := 8) (v := .slice fo fn fc) rfl
  go_enter Tryz.func14, Tryz.ntmps14
  go_wp2_with (first | rw [E1] | rw [E2])
  rw [← HFV.out]
  refine rcheck18_any f fo fc _ _ HOF.out.name fun W1 hb => ?_
  rw [HEF.out]
  have BW1 : Hid (Below w.heap.size w W1) := BW0.out.trans (hb.mono BW0.out.size)
  have HX11 := Lib.hid ((hb.block _ (lt_of_block HX1.out)).trans HX1.out)
  have HX21 := Lib.hid ((hb.block _ s2).trans X2.out)
  clear p0 p1 p2 p3 p4 p5 p6 p7 p8 hb E1 E2
  by_cases f0 : EF = 0
  · subst f0
    have hE1 : Hid (E = if EX = 0 then (if pmE f.k.toNat x.k.toNat x.d x.t x.m x.ds.length = 0 then (if anyN (fun i => dnQ f.n (dtAt x.ds i)) x.ds.length = true then 7 else 0) else pmE f.k.toNat x.k.toNat x.d x.t x.m x.ds.length) else EX) := by unfold Hid; rw [hE.out, if_pos rfl]
    have o0 := cell_at HX21.out (j := 0) (v := .int .i64 x.k) rfl
    have o1 := cell_at HX21.out (j := 1) (v := .bool x.d) rfl
    have o2 := cell_at HX21.out (j := 2) (v := .int .i64 x.t) rfl
    have o3 := cell_at HX21.out (j := 3) (v := .int .i64 x.m) rfl
    have o4 := cell_at HX21.out (j := 4) (v := .slice da x.ds.length dc) rfl
    go_wp2_with fail
    rw [← HXV.out]
    refine rplain_any x da dc _ _ (HOX.out.below BW1.out) fun V hb => ?_
    rw [HEX.out]
    have BV : Hid (Below w.heap.size w V) := BW1.out.trans (hb.mono BW1.out.size)
    have HX12 := Lib.hid ((hb.block _ (lt_of_block HX11.out)).trans HX11.out)
    have HX22 := Lib.hid ((hb.block _ (lt_of_block HX21.out)).trans HX21.out)
    clear hb o0 o1 o2 o3 o4
    by_cases x0 : EX = 0
    · subst x0
      obtain ⟨PM, hPM⟩ : ∃ PM, pmE f.k.toNat x.k.toNat x.d x.t x.m x.ds.length = PM := ⟨_, rfl⟩
      have hE2 : Hid (E = if PM = 0 then (if anyN (fun i => dnQ f.n (dtAt x.ds i)) x.ds.length = true then 7 else 0) else PM) := by unfold Hid; rw [hE1.out, if_pos rfl, hPM]
      have HPM := Lib.hid hPM
      obtain ⟨hk0, hk5⟩ := ftE_kind HEF.out
      obtain ⟨hx1, hx9⟩ := plE_kind HEX.out
      have hl := plE_few HEX.out
      clear hPM hE hE1
      have p0 := cell_at HX12.out (j := 0) (v := .string f.n) rfl
      have p1 := cell_at HX12.out (j := 1) (v := .int .i64 f.k) rfl
      have p2 := cell_at HX12.out (j := 2) (v := .int .i64 f.a) rfl
      have p3 := cell_at HX12.out (j := 3) (v := .int .i64 f.x) rfl
      have p4 := cell_at HX12.out (j := 4) (v := .int .i64 f.y) rfl
      have p5 := cell_at HX12.out (j := 5) (v := .int .i64 f.z) rfl
      have p6 := cell_at HX12.out (j := 6) (v := .int .i64 f.l) rfl
      have p7 := cell_at HX12.out (j := 7) (v := .int .i64 f.h) rfl
      have p8 := cell_at HX12.out (j := 8) (v := .slice fo fn fc) rfl
      have o0 := cell_at HX22.out (j := 0) (v := .int .i64 x.k) rfl
      have o1 := cell_at HX22.out (j := 1) (v := .bool x.d) rfl
      have o2 := cell_at HX22.out (j := 2) (v := .int .i64 x.t) rfl
      have o3 := cell_at HX22.out (j := 3) (v := .int .i64 x.m) rfl
      have o4 := cell_at HX22.out (j := 4) (v := .slice da x.ds.length dc) rfl
      have hkd : f.k = (f.k.toNat : Int) := (Int.toNat_of_nonneg hk0).symm
      have hkx : x.k = (x.k.toNat : Int) := (Int.toNat_of_nonneg hx1).symm
      have HKD := Lib.hid hkd
      have HKX := Lib.hid hkx
      have hk5' : f.k.toNat < 5 := by omega
      have hx9' : x.k.toNat < 9 := by omega
      clear hkd hkx hk0 hk5 hx1 hx9
      go_wp2_with fail
      rw [← HXV.out, ← HFV.out]
      refine rpermitted_any f fo fc x da dc f.k.toNat x.k.toNat HKD.out hk5' HKX.out hx9' hl _ _ fun W3 hb => ?_
      rw [HPM.out]
      have B3 : Hid (Below w.heap.size w W3) := BV.out.trans (hb.mono BV.out.size)
      have q0 := cellB hb p0 (lt_of_cell p0)
      have q4 := cellB hb o4 (lt_of_cell o4)
      clear hb p0 p1 p2 p3 p4 p5 p6 p7 p8 o0 o1 o2 o3 o4
      by_cases m0 : PM = 0
      · subst m0
        have hE3 : Hid (E = if anyN (fun i => dnQ f.n (dtAt x.ds i)) x.ds.length = true then 7 else 0) := by unfold Hid; rw [hE2.out, if_pos rfl]
        have HCD := Lib.hid (HOX.out.cells.below B3.out)
        clear hE2
        go_wp2_with fail
        go_loopw [8] (fun j wr => ∃ i : Nat, i ≤ x.ds.length ∧ j = .int .i64 i ∧ Hid (Below W3.heap.size W3 wr) ∧ Hid (anyN (fun i => dnQ f.n (dtAt x.ds i)) i = false)) (fun j _ => x.ds.length - (intOf j).toNat)
        case atStart => exact ⟨0, Nat.zero_le _, rfl, Below.refl _ _, rfl⟩
        case round =>
          obtain ⟨i, hi, rfl, HB, HA⟩ := hrel
          have r0 := cellB HB.out q0 (lt_of_cell q0)
          have r4 := cellB HB.out q4 (lt_of_cell q4)
          have BR : Hid (Below w.heap.size w wr) := B3.out.trans (HB.out.mono B3.out.size)
          clear q0 q4
          by_cases hlt : i < x.ds.length
          · obtain ⟨bd, od, rfl, hbd, hdc⟩ := HCD.out.dts (by omega)
            obtain ⟨b0, _⟩ := hdc i hlt
            have d0 := cellB HB.out b0 hbd
            have hq : Hid (dnQ f.n (dtAt x.ds i) = ((dtAt x.ds i).n.toList == f.n.toList)) := rfl
            obtain ⟨v, hv⟩ : ∃ v, (dtAt x.ds i).n = v := ⟨_, rfl⟩
            rw [hv] at d0 hq
            clear hdc b0 hv
            cases hvu : (v.toList == f.n.toList) with
            | true =>
              rw [hvu] at hq
              have e : Hid (E = 7) := by unfold Hid; rw [hE3.out, if_pos (anyN_true hlt hq.out)]
              go_wp2_with fail
              go_quiet (fail)
              go_wp2_with fail
              exact ret_i (HR.out _ (BR.out.trans ⟨rfl, rfl, rfl, Nat.le_refl _, fun _ _ => rfl⟩)) rfl e.out
            | false =>
              rw [hvu] at hq
              go_wp2_with fail
              go_quiet (fail)
              go_wp2_with fail
              exact ⟨⟨i + 1, by omega, by go_num, HB.out.trans ⟨rfl, rfl, rfl, Nat.le_refl _, fun _ _ => rfl⟩, anyN_step HA.out hq.out⟩, by simp [intOf]; omega⟩
          · obtain rfl : i = x.ds.length := by omega
            have e : Hid (E = 0) := by unfold Hid; rw [hE3.out, if_neg (by rw [HA.out]; simp)]
            go_wp2_with fail
            exact ret_i (HR.out _ BR.out) rfl e.out
      · have K : (PM != 0) = true := by simpa using m0
        have e : Hid (E = PM) := by unfold Hid; rw [hE2.out, if_neg m0]
        clear m0
        go_wp2_with fail
        exact ret_i (HR.out _ B3.out) rfl e.out
    · have K : (EX != 0) = true := by simpa using x0
      have e : Hid (E = EX) := by unfold Hid; rw [hE1.out, if_neg x0]
      clear x0
      go_wp2_with fail
      exact ret_i (HR.out _ BV.out) rfl e.out
  · have K : (EF != 0) = true := by simpa using f0
    have e : Hid (E = EF) := by unfold Hid; rw [hE.out, if_neg f0]
    clear f0
    go_wp2_with fail
    exact ret_i (HR.out _ BW1.out) rfl e.out
end Go.Proofs.YtciokmjhdbcmpaaGreatDoor
namespace Go.Proofs.YtciokmjhdbcmpaaGreatDoor
open Go.RowKit

def hoB (k : Int) : Bool := k == 1 || k == 3
/-- The limit of a size, and the error. -/
def exX (f : Ft) (least : Bool) : Int × Int := if ftE f = 0 then (if f.k = 0 then (0, 14) else (if least = true then f.l else f.h, 0)) else (0, ftE f)
theorem inner_any (k : Int) (w : World) (R : Ending → World → Prop) (hR : R (.returned (.bool (hoB k))) w) : Calls Tryz.prog 56 #[.int .i64 k] w R := by
  have HR := Lib.hid hR
  have e0 : Hid (hoB k = (k == 1 || k == 3)) := rfl
  clear hR
  cases k1 : (k == 1) with
  | true =>
    have e : Hid (hoB k = true) := by unfold Hid; rw [e0.out, k1]; rfl
    go_enter Tryz.func56, Tryz.ntmps56
    go_wp2_with fail
    exact ret_b HR.out rfl e.out
  | false =>
    cases k3 : (k == 3) with
    | true =>
      have e : Hid (hoB k = true) := by unfold Hid; rw [e0.out, k1, k3]; rfl
      go_enter Tryz.func56, Tryz.ntmps56
      go_wp2_with fail
      exact ret_b HR.out rfl e.out
    | false =>
      have e : Hid (hoB k = false) := by unfold Hid; rw [e0.out, k1, k3]; rfl
      go_enter Tryz.func56, Tryz.ntmps56
      go_wp2_with fail
      exact ret_b HR.out rfl e.out
set_option maxRecDepth 100000 in
set_option maxHeartbeats 4000000 in
theorem inner18_any (f : Ft) (fo : Option Addr) (fc : Nat) (w : World) (R : Ending → World → Prop) (hok : FtOk w f fo fc) (hR : ∀ w', Below w.heap.size w w' → R (.returned (.tuple #[.bool (decide (ftE f = 0) && hoB f.k), .int .i64 (ftE f)])) w') :
    Calls Tryz.prog 21 #[ftV f fo fc] w R := by
  have HR := Lib.hid hR
  obtain ⟨EF, hEF⟩ : ∃ E, ftE f = E := ⟨_, rfl⟩
  have HEF := Lib.hid hEF
  rw [hEF] at HR
  have HOF := Lib.hid hok
  obtain ⟨fn, hfn⟩ : ∃ fn, f.fs.length = fn := ⟨_, rfl⟩
  have HFV : Hid (ftV f fo fc = .agg #[.string f.n, .int .i64 f.k, .int .i64 f.a, .int .i64 f.x, .int .i64 f.y, .int .i64 f.z, .int .i64 f.l, .int .i64 f.h, .slice fo fn fc]) := by unfold Hid ftV; rw [hfn]
  rw [HFV.out]
  obtain ⟨w1, E1, HB1, s1, X1⟩ := box_ex w #[.string f.n, .int .i64 f.k, .int .i64 f.a, .int .i64 f.x, .int .i64 f.y, .int .i64 f.z, .int .i64 f.l, .int .i64 f.h, .slice fo fn fc] 28
  have p0 := cell_at X1.out (j := 0) (v := .string f.n) rfl
  have p1 := cell_at X1.out (j := 1) (v := .int .i64 f.k) rfl
  have p2 := cell_at X1.out (j := 2) (v := .int .i64 f.a) rfl
  have p3 := cell_at X1.out (j := 3) (v := .int .i64 f.x) rfl
  have p4 := cell_at X1.out (j := 4) (v := .int .i64 f.y) rfl
  have p5 := cell_at X1.out (j := 5) (v := .int .i64 f.z) rfl
  have p6 := cell_at X1.out (j := 6) (v := .int .i64 f.l) rfl
  have p7 := cell_at X1.out (j := 7) (v := .int .i64 f.h) rfl
  have p8 := cell_at X1.out (j := 8) (v := .slice fo fn fc) rfl
  clear hR hfn
  clear hok hEF
  go_enter Tryz.func21, Tryz.ntmps21
  go_wp2_with (rw [E1])
  rw [← HFV.out]
  refine check18_any f fo fc _ _ HOF.out.name fun w2 hb => ?_
  rw [HEF.out]
  have B2 : Hid (Below w.heap.size w w2) := HB1.out.trans (hb.mono (Nat.le_of_lt s1))
  have q1 := cellB hb p1 s1
  clear hb E1 X1 p0 p1 p2 p3 p4 p5 p6 p7 p8
  by_cases f0 : EF = 0
  · subst f0
    obtain ⟨b, hb⟩ : ∃ b, hoB f.k = b := ⟨_, rfl⟩
    have HBb := Lib.hid hb
    have H2 : Hid ((decide ((0 : Int) = 0) && hoB f.k) = b) := by unfold Hid; rw [hb]; simp
    rw [H2.out] at HR
    clear hb
    go_wp2_with fail
    refine inner_any f.k _ _ ?_
    rw [HBb.out]
    go_wp2_with fail
    exact HR.out _ B2.out
  · have K : (EF != 0) = true := by simpa using f0
    have H2 : Hid ((decide (EF = 0) && hoB f.k) = false) := by unfold Hid; rw [decide_eq_false f0]; rfl
    rw [H2.out] at HR
    clear f0
    go_wp2_with fail
    exact HR.out _ B2.out
set_option maxRecDepth 100000 in
set_option maxHeartbeats 4000000 in
theorem extreme_any (f : Ft) (fo : Option Addr) (fc : Nat) (b : Bool) (w : World) (R : Ending → World → Prop) (hok : FtOk w f fo fc) (hR : ∀ w', Below w.heap.size w w' → R (.returned (.tuple #[.int .i64 (exX f b).1, .int .i64 (exX f b).2])) w') :
    Calls Tryz.prog 112 #[ftV f fo fc, .bool b] w R := by
  have HR := Lib.hid hR
  obtain ⟨EF, hEF⟩ : ∃ E, ftE f = E := ⟨_, rfl⟩
  have HEF := Lib.hid hEF
  have hx : Hid (exX f b = if EF = 0 then (if f.k = 0 then (0, 14) else (if b = true then f.l else f.h, 0)) else (0, EF)) := by unfold Hid exX; rw [hEF]
  have HOF := Lib.hid hok
  obtain ⟨fn, hfn⟩ : ∃ fn, f.fs.length = fn := ⟨_, rfl⟩
  have HFV : Hid (ftV f fo fc = .agg #[.string f.n, .int .i64 f.k, .int .i64 f.a, .int .i64 f.x, .int .i64 f.y, .int .i64 f.z, .int .i64 f.l, .int .i64 f.h, .slice fo fn fc]) := by unfold Hid ftV; rw [hfn]
  rw [HFV.out]
  obtain ⟨w1, E1, HB1, s1, X1⟩ := box_ex w #[.string f.n, .int .i64 f.k, .int .i64 f.a, .int .i64 f.x, .int .i64 f.y, .int .i64 f.z, .int .i64 f.l, .int .i64 f.h, .slice fo fn fc] 28
  have p0 := cell_at X1.out (j := 0) (v := .string f.n) rfl
  have p1 := cell_at X1.out (j := 1) (v := .int .i64 f.k) rfl
  have p2 := cell_at X1.out (j := 2) (v := .int .i64 f.a) rfl
  have p3 := cell_at X1.out (j := 3) (v := .int .i64 f.x) rfl
  have p4 := cell_at X1.out (j := 4) (v := .int .i64 f.y) rfl
  have p5 := cell_at X1.out (j := 5) (v := .int .i64 f.z) rfl
  have p6 := cell_at X1.out (j := 6) (v := .int .i64 f.l) rfl
  have p7 := cell_at X1.out (j := 7) (v := .int .i64 f.h) rfl
  have p8 := cell_at X1.out (j := 8) (v := .slice fo fn fc) rfl
  clear hR hfn
  clear hok hEF
  go_enter Tryz.func112, Tryz.ntmps112
  go_wp2_with (rw [E1])
  rw [← HFV.out]
  refine check18_any f fo fc _ _ HOF.out.name fun w2 hb => ?_
  rw [HEF.out]
  have B2 : Hid (Below w.heap.size w w2) := HB1.out.trans (hb.mono (Nat.le_of_lt s1))
  have q1 := cellB hb p1 s1
  have q6 := cellB hb p6 s1
  have q7 := cellB hb p7 s1
  clear hb E1 X1 p0 p1 p2 p3 p4 p5 p6 p7 p8
  by_cases f0 : EF = 0
  · subst f0
    rw [if_pos rfl] at hx
    by_cases k0 : f.k = 0
    · have K : (f.k == 0) = true := by rw [k0]; rfl
      rw [if_pos k0] at hx
      rw [hx.out] at HR
      clear k0
      go_wp2_with fail
      exact HR.out _ B2.out
    · have K : (f.k == 0) = false := by simpa using k0
      rw [if_neg k0] at hx
      clear k0
      cases b with
      | true =>
        rw [hx.out] at HR
        go_wp2_with fail
        exact HR.out _ B2.out
      | false =>
        rw [hx.out] at HR
        go_wp2_with fail
        exact HR.out _ B2.out
  · have K : (EF != 0) = true := by simpa using f0
    rw [if_neg f0] at hx
    rw [hx.out] at HR
    clear f0
    go_wp2_with fail
    exact HR.out _ B2.out
end Go.Proofs.YtciokmjhdbcmpaaGreatDoor
namespace Go.Proofs.YtciokmjhdbcmpaaGreatDoor
open Go.RowKit

set_option maxRecDepth 100000 in
set_option maxHeartbeats 4000000 in
theorem maxi_any (f : Ft) (fo : Option Addr) (fc : Nat) (w : World) (R : Ending → World → Prop) (hok : FtOk w f fo fc) (hR : ∀ w', Below w.heap.size w w' → R (.returned (.tuple #[.int .i64 (exX f (hoB f.k)).1, .int .i64 (exX f (hoB f.k)).2])) w') :
    Calls Tryz.prog 88 #[ftV f fo fc] w R := by
  have HR := Lib.hid hR
  have HOF := Lib.hid hok
  obtain ⟨b, hb0⟩ : ∃ b, hoB f.k = b := ⟨_, rfl⟩
  have HB0 := Lib.hid hb0
  rw [hb0] at HR
  obtain ⟨fn, hfn⟩ : ∃ fn, f.fs.length = fn := ⟨_, rfl⟩
  have HFV : Hid (ftV f fo fc = .agg #[.string f.n, .int .i64 f.k, .int .i64 f.a, .int .i64 f.x, .int .i64 f.y, .int .i64 f.z, .int .i64 f.l, .int .i64 f.h, .slice fo fn fc]) := by unfold Hid ftV; rw [hfn]
  rw [HFV.out]
  obtain ⟨w1, E1, HB1, s1, X1⟩ := box_ex w #[.string f.n, .int .i64 f.k, .int .i64 f.a, .int .i64 f.x, .int .i64 f.y, .int .i64 f.z, .int .i64 f.l, .int .i64 f.h, .slice fo fn fc] 28
  have p0 : w1.drew.cell? ⟨w.heap.size, 0, none⟩ = some (.string f.n) := cell_at X1.out (j := 0) rfl
  have p1 : w1.drew.cell? ⟨w.heap.size, 1, none⟩ = some (.int .i64 f.k) := cell_at X1.out (j := 1) rfl
  have p2 : w1.drew.cell? ⟨w.heap.size, 2, none⟩ = some (.int .i64 f.a) := cell_at X1.out (j := 2) rfl
  have p3 : w1.drew.cell? ⟨w.heap.size, 3, none⟩ = some (.int .i64 f.x) := cell_at X1.out (j := 3) rfl
  have p4 : w1.drew.cell? ⟨w.heap.size, 4, none⟩ = some (.int .i64 f.y) := cell_at X1.out (j := 4) rfl
  have p5 : w1.drew.cell? ⟨w.heap.size, 5, none⟩ = some (.int .i64 f.z) := cell_at X1.out (j := 5) rfl
  have p6 : w1.drew.cell? ⟨w.heap.size, 6, none⟩ = some (.int .i64 f.l) := cell_at X1.out (j := 6) rfl
  have p7 : w1.drew.cell? ⟨w.heap.size, 7, none⟩ = some (.int .i64 f.h) := cell_at X1.out (j := 7) rfl
  have p8 : w1.drew.cell? ⟨w.heap.size, 8, none⟩ = some (.slice fo fn fc) := cell_at X1.out (j := 8) rfl
  have BD : Hid (Below w.heap.size w w1.drew) := HB1.out.drew
  clear hR hok hb0 hfn
  go_enter Tryz.func88, Tryz.ntmps88
  go_wp2_with (rw [E1])
  refine regionQ (fun w' => w'.cell? ⟨w.heap.size, 0, none⟩ = some (.string f.n) ∧ w'.cell? ⟨w.heap.size, 1, none⟩ = some (.int .i64 f.k) ∧ w'.cell? ⟨w.heap.size, 2, none⟩ = some (.int .i64 f.a) ∧ w'.cell? ⟨w.heap.size, 3, none⟩ = some (.int .i64 f.x) ∧ w'.cell? ⟨w.heap.size, 4, none⟩ = some (.int .i64 f.y) ∧ w'.cell? ⟨w.heap.size, 5, none⟩ = some (.int .i64 f.z) ∧ w'.cell? ⟨w.heap.size, 6, none⟩ = some (.int .i64 f.l) ∧ w'.cell? ⟨w.heap.size, 7, none⟩ = some (.int .i64 f.h) ∧ w'.cell? ⟨w.heap.size, 8, none⟩ = some (.slice fo fn fc)) (by kernel_rfl) (⟨p0, p1, p2, p3, p4, p5, p6, p7, p8⟩) (fun Qn hPQ hQn hS0 => ?_)
  refine takeQ (i := 0) (d := some 4) (v := ?_) rfl rfl (by kernel_rfl) (by kernel_rfl) (by kernel_rfl) hPQ hS0 (by kernel_rfl) ?_ ?_
  rotate_left
  · (intro w hSw; (try dsimp only at hSw); obtain ⟨k0, k1, k2, k3, k4, k5, k6, k7, k8⟩ := hSw; go_simp; (try with_reducible rfl))
  (try simp only [Act.put, List.setIfInBounds_toArray, List.set_cons_zero, List.set_cons_succ])
  refine takeQ (i := 1) (d := some 5) (v := ?_) rfl rfl (by kernel_rfl) (by kernel_rfl) (by kernel_rfl) hPQ hS0 (by kernel_rfl) ?_ ?_
  rotate_left
  · (intro w hSw; (try dsimp only at hSw); obtain ⟨k0, k1, k2, k3, k4, k5, k6, k7, k8⟩ := hSw; go_simp; (try with_reducible rfl))
  (try simp only [Act.put, List.setIfInBounds_toArray, List.set_cons_zero, List.set_cons_succ])
  refine takeQ (i := 2) (d := some 6) (v := ?_) rfl rfl (by kernel_rfl) (by kernel_rfl) (by kernel_rfl) hPQ hS0 (by kernel_rfl) ?_ ?_
  rotate_left
  · (intro w hSw; (try dsimp only at hSw); obtain ⟨k0, k1, k2, k3, k4, k5, k6, k7, k8⟩ := hSw; go_simp; (try with_reducible rfl))
  (try simp only [Act.put, List.setIfInBounds_toArray, List.set_cons_zero, List.set_cons_succ])
  refine wpAnyH_ready (rs := [3]) (by kernel_rfl) (by simp) ?_
  refine AllReadyH.cons (o := _) rfl (fun K hK => ?_) AllReadyH.nil
  go_simp
  refine inner_any f.k _ _ ?_
  rw [HB0.out]
  refine hK.out _ _ (⟨p0, p1, p2, p3, p4, p5, p6, p7, p8⟩) (fun hS1 => ?_)
  clear hK K hS0
  (try simp only [Act.put, List.setIfInBounds_toArray, List.set_cons_zero, List.set_cons_succ])
  refine wpAnyH_ready (rs := [4]) (by kernel_rfl) (by simp) ?_
  refine AllReadyH.cons (o := _) rfl (fun K hK => ?_) AllReadyH.nil
  go_simp
  rw [← HFV.out]
  refine extreme_any f fo fc b _ _ (HOF.out.below BD.out) fun w3 hb => ?_
  have B3 : Hid (Below w.heap.size w w3) := BD.out.trans (hb.mono BD.out.size)
  have q0 := cellB hb p0 (lt_of_cell p0)
  have q1 := cellB hb p1 (lt_of_cell p1)
  have q2 := cellB hb p2 (lt_of_cell p2)
  have q3 := cellB hb p3 (lt_of_cell p3)
  have q4 := cellB hb p4 (lt_of_cell p4)
  have q5 := cellB hb p5 (lt_of_cell p5)
  have q6 := cellB hb p6 (lt_of_cell p6)
  have q7 := cellB hb p7 (lt_of_cell p7)
  have q8 := cellB hb p8 (lt_of_cell p8)
  clear hb p0 p1 p2 p3 p4 p5 p6 p7 p8
  obtain ⟨X, Y, hXY⟩ : ∃ X Y, exX f (b) = (X, Y) := ⟨_, _, rfl⟩
  have HXY := Lib.hid hXY
  rw [hXY]
  clear hXY
  refine hK.out _ _ (⟨q0, q1, q2, q3, q4, q5, q6, q7, q8⟩) (fun hS2 => ?_)
  clear hK K hS1
  (try simp only [])
  refine takeQ (i := 5) (d := some 9) (v := ?_) rfl rfl (by kernel_rfl) (by kernel_rfl) (by kernel_rfl) hPQ hS2 (by kernel_rfl) ?_ ?_
  rotate_left
  · (intro w hSw; (try dsimp only at hSw); obtain ⟨k0, k1, k2, k3, k4, k5, k6, k7, k8⟩ := hSw; go_simp; (try with_reducible rfl))
  (try simp only [Act.put, List.setIfInBounds_toArray, List.set_cons_zero, List.set_cons_succ])
  refine takeQ (i := 6) (d := some 10) (v := ?_) rfl rfl (by kernel_rfl) (by kernel_rfl) (by kernel_rfl) hPQ hS2 (by kernel_rfl) ?_ ?_
  rotate_left
  · (intro w hSw; (try dsimp only at hSw); obtain ⟨k0, k1, k2, k3, k4, k5, k6, k7, k8⟩ := hSw; go_simp; (try with_reducible rfl))
  (try simp only [Act.put, List.setIfInBounds_toArray, List.set_cons_zero, List.set_cons_succ])
  refine takeQ (i := 7) (d := some 2) (v := ?_) rfl rfl (by kernel_rfl) (by kernel_rfl) (by kernel_rfl) hPQ hS2 (by kernel_rfl) ?_ ?_
  rotate_left
  · (intro w hSw; (try dsimp only at hSw); obtain ⟨k0, k1, k2, k3, k4, k5, k6, k7, k8⟩ := hSw; go_simp; (try with_reducible rfl))
  (try simp only [Act.put, List.setIfInBounds_toArray, List.set_cons_zero, List.set_cons_succ])
  refine takeQ (i := 8) (d := some 3) (v := ?_) rfl rfl (by kernel_rfl) (by kernel_rfl) (by kernel_rfl) hPQ hS2 (by kernel_rfl) ?_ ?_
  rotate_left
  · (intro w hSw; (try dsimp only at hSw); obtain ⟨k0, k1, k2, k3, k4, k5, k6, k7, k8⟩ := hSw; go_simp; (try with_reducible rfl))
  (try simp only [Act.put, List.setIfInBounds_toArray, List.set_cons_zero, List.set_cons_succ])
  refine wpAnyH_done (by kernel_rfl) (hQn.out _ _ ?_) _
  clear hS2 hPQ hQn Qn
  go_wp2_with fail
  have h := HR.out _ B3.out
  rw [HXY.out] at h
  exact h
set_option maxRecDepth 100000 in
set_option maxHeartbeats 4000000 in
theorem leas_any (f : Ft) (fo : Option Addr) (fc : Nat) (w : World) (R : Ending → World → Prop) (hok : FtOk w f fo fc) (hR : ∀ w', Below w.heap.size w w' → R (.returned (.tuple #[.int .i64 (exX f (!(hoB f.k))).1, .int .i64 (exX f (!(hoB f.k))).2])) w') :
    Calls Tryz.prog 89 #[ftV f fo fc] w R := by
  have HR := Lib.hid hR
  have HOF := Lib.hid hok
  obtain ⟨b, hb0⟩ : ∃ b, hoB f.k = b := ⟨_, rfl⟩
  have HB0 := Lib.hid hb0
  rw [hb0] at HR
  obtain ⟨fn, hfn⟩ : ∃ fn, f.fs.length = fn := ⟨_, rfl⟩
  have HFV : Hid (ftV f fo fc = .agg #[.string f.n, .int .i64 f.k, .int .i64 f.a, .int .i64 f.x, .int .i64 f.y, .int .i64 f.z, .int .i64 f.l, .int .i64 f.h, .slice fo fn fc]) := by unfold Hid ftV; rw [hfn]
  rw [HFV.out]
  obtain ⟨w1, E1, HB1, s1, X1⟩ := box_ex w #[.string f.n, .int .i64 f.k, .int .i64 f.a, .int .i64 f.x, .int .i64 f.y, .int .i64 f.z, .int .i64 f.l, .int .i64 f.h, .slice fo fn fc] 28
  have p0 : w1.drew.cell? ⟨w.heap.size, 0, none⟩ = some (.string f.n) := cell_at X1.out (j := 0) rfl
  have p1 : w1.drew.cell? ⟨w.heap.size, 1, none⟩ = some (.int .i64 f.k) := cell_at X1.out (j := 1) rfl
  have p2 : w1.drew.cell? ⟨w.heap.size, 2, none⟩ = some (.int .i64 f.a) := cell_at X1.out (j := 2) rfl
  have p3 : w1.drew.cell? ⟨w.heap.size, 3, none⟩ = some (.int .i64 f.x) := cell_at X1.out (j := 3) rfl
  have p4 : w1.drew.cell? ⟨w.heap.size, 4, none⟩ = some (.int .i64 f.y) := cell_at X1.out (j := 4) rfl
  have p5 : w1.drew.cell? ⟨w.heap.size, 5, none⟩ = some (.int .i64 f.z) := cell_at X1.out (j := 5) rfl
  have p6 : w1.drew.cell? ⟨w.heap.size, 6, none⟩ = some (.int .i64 f.l) := cell_at X1.out (j := 6) rfl
  have p7 : w1.drew.cell? ⟨w.heap.size, 7, none⟩ = some (.int .i64 f.h) := cell_at X1.out (j := 7) rfl
  have p8 : w1.drew.cell? ⟨w.heap.size, 8, none⟩ = some (.slice fo fn fc) := cell_at X1.out (j := 8) rfl
  have BD : Hid (Below w.heap.size w w1.drew) := HB1.out.drew
  clear hR hok hb0 hfn
  go_enter Tryz.func89, Tryz.ntmps89
  go_wp2_with (rw [E1])
  refine regionQ (fun w' => w'.cell? ⟨w.heap.size, 0, none⟩ = some (.string f.n) ∧ w'.cell? ⟨w.heap.size, 1, none⟩ = some (.int .i64 f.k) ∧ w'.cell? ⟨w.heap.size, 2, none⟩ = some (.int .i64 f.a) ∧ w'.cell? ⟨w.heap.size, 3, none⟩ = some (.int .i64 f.x) ∧ w'.cell? ⟨w.heap.size, 4, none⟩ = some (.int .i64 f.y) ∧ w'.cell? ⟨w.heap.size, 5, none⟩ = some (.int .i64 f.z) ∧ w'.cell? ⟨w.heap.size, 6, none⟩ = some (.int .i64 f.l) ∧ w'.cell? ⟨w.heap.size, 7, none⟩ = some (.int .i64 f.h) ∧ w'.cell? ⟨w.heap.size, 8, none⟩ = some (.slice fo fn fc)) (by kernel_rfl) (⟨p0, p1, p2, p3, p4, p5, p6, p7, p8⟩) (fun Qn hPQ hQn hS0 => ?_)
  refine takeQ (i := 0) (d := some 4) (v := ?_) rfl rfl (by kernel_rfl) (by kernel_rfl) (by kernel_rfl) hPQ hS0 (by kernel_rfl) ?_ ?_
  rotate_left
  · (intro w hSw; (try dsimp only at hSw); obtain ⟨k0, k1, k2, k3, k4, k5, k6, k7, k8⟩ := hSw; go_simp; (try with_reducible rfl))
  (try simp only [Act.put, List.setIfInBounds_toArray, List.set_cons_zero, List.set_cons_succ])
  refine takeQ (i := 1) (d := some 5) (v := ?_) rfl rfl (by kernel_rfl) (by kernel_rfl) (by kernel_rfl) hPQ hS0 (by kernel_rfl) ?_ ?_
  rotate_left
  · (intro w hSw; (try dsimp only at hSw); obtain ⟨k0, k1, k2, k3, k4, k5, k6, k7, k8⟩ := hSw; go_simp; (try with_reducible rfl))
  (try simp only [Act.put, List.setIfInBounds_toArray, List.set_cons_zero, List.set_cons_succ])
  refine takeQ (i := 2) (d := some 6) (v := ?_) rfl rfl (by kernel_rfl) (by kernel_rfl) (by kernel_rfl) hPQ hS0 (by kernel_rfl) ?_ ?_
  rotate_left
  · (intro w hSw; (try dsimp only at hSw); obtain ⟨k0, k1, k2, k3, k4, k5, k6, k7, k8⟩ := hSw; go_simp; (try with_reducible rfl))
  (try simp only [Act.put, List.setIfInBounds_toArray, List.set_cons_zero, List.set_cons_succ])
  refine wpAnyH_ready (rs := [3]) (by kernel_rfl) (by simp) ?_
  refine AllReadyH.cons (o := _) rfl (fun K hK => ?_) AllReadyH.nil
  go_simp
  refine inner_any f.k _ _ ?_
  rw [HB0.out]
  refine hK.out _ _ (⟨p0, p1, p2, p3, p4, p5, p6, p7, p8⟩) (fun hS1 => ?_)
  clear hK K hS0
  (try simp only [Act.put, List.setIfInBounds_toArray, List.set_cons_zero, List.set_cons_succ])
  refine takeQ (i := 4) (d := some 8) (v := ?_) rfl rfl (by kernel_rfl) (by kernel_rfl) (by kernel_rfl) hPQ hS1 (by kernel_rfl) ?_ ?_
  rotate_left
  · (intro w hSw; (try dsimp only at hSw); obtain ⟨k0, k1, k2, k3, k4, k5, k6, k7, k8⟩ := hSw; go_simp; (try with_reducible rfl))
  (try simp only [Act.put, List.setIfInBounds_toArray, List.set_cons_zero, List.set_cons_succ])
  refine wpAnyH_ready (rs := [5]) (by kernel_rfl) (by simp) ?_
  refine AllReadyH.cons (o := _) rfl (fun K hK => ?_) AllReadyH.nil
  go_simp
  rw [← HFV.out]
  refine extreme_any f fo fc (!b) _ _ (HOF.out.below BD.out) fun w3 hb => ?_
  have B3 : Hid (Below w.heap.size w w3) := BD.out.trans (hb.mono BD.out.size)
  have q0 := cellB hb p0 (lt_of_cell p0)
  have q1 := cellB hb p1 (lt_of_cell p1)
  have q2 := cellB hb p2 (lt_of_cell p2)
  have q3 := cellB hb p3 (lt_of_cell p3)
  have q4 := cellB hb p4 (lt_of_cell p4)
  have q5 := cellB hb p5 (lt_of_cell p5)
  have q6 := cellB hb p6 (lt_of_cell p6)
  have q7 := cellB hb p7 (lt_of_cell p7)
  have q8 := cellB hb p8 (lt_of_cell p8)
  clear hb p0 p1 p2 p3 p4 p5 p6 p7 p8
  obtain ⟨X, Y, hXY⟩ : ∃ X Y, exX f ((!b)) = (X, Y) := ⟨_, _, rfl⟩
  have HXY := Lib.hid hXY
  rw [hXY]
  clear hXY
  refine hK.out _ _ (⟨q0, q1, q2, q3, q4, q5, q6, q7, q8⟩) (fun hS2 => ?_)
  clear hK K hS1
  (try simp only [])
  refine takeQ (i := 6) (d := some 10) (v := ?_) rfl rfl (by kernel_rfl) (by kernel_rfl) (by kernel_rfl) hPQ hS2 (by kernel_rfl) ?_ ?_
  rotate_left
  · (intro w hSw; (try dsimp only at hSw); obtain ⟨k0, k1, k2, k3, k4, k5, k6, k7, k8⟩ := hSw; go_simp; (try with_reducible rfl))
  (try simp only [Act.put, List.setIfInBounds_toArray, List.set_cons_zero, List.set_cons_succ])
  refine takeQ (i := 7) (d := some 11) (v := ?_) rfl rfl (by kernel_rfl) (by kernel_rfl) (by kernel_rfl) hPQ hS2 (by kernel_rfl) ?_ ?_
  rotate_left
  · (intro w hSw; (try dsimp only at hSw); obtain ⟨k0, k1, k2, k3, k4, k5, k6, k7, k8⟩ := hSw; go_simp; (try with_reducible rfl))
  (try simp only [Act.put, List.setIfInBounds_toArray, List.set_cons_zero, List.set_cons_succ])
  refine takeQ (i := 8) (d := some 2) (v := ?_) rfl rfl (by kernel_rfl) (by kernel_rfl) (by kernel_rfl) hPQ hS2 (by kernel_rfl) ?_ ?_
  rotate_left
  · (intro w hSw; (try dsimp only at hSw); obtain ⟨k0, k1, k2, k3, k4, k5, k6, k7, k8⟩ := hSw; go_simp; (try with_reducible rfl))
  (try simp only [Act.put, List.setIfInBounds_toArray, List.set_cons_zero, List.set_cons_succ])
  refine takeQ (i := 9) (d := some 3) (v := ?_) rfl rfl (by kernel_rfl) (by kernel_rfl) (by kernel_rfl) hPQ hS2 (by kernel_rfl) ?_ ?_
  rotate_left
  · (intro w hSw; (try dsimp only at hSw); obtain ⟨k0, k1, k2, k3, k4, k5, k6, k7, k8⟩ := hSw; go_simp; (try with_reducible rfl))
  (try simp only [Act.put, List.setIfInBounds_toArray, List.set_cons_zero, List.set_cons_succ])
  refine wpAnyH_done (by kernel_rfl) (hQn.out _ _ ?_) _
  clear hS2 hPQ hQn Qn
  go_wp2_with fail
  have h := HR.out _ B3.out
  rw [HXY.out] at h
  exact h
end Go.Proofs.YtciokmjhdbcmpaaGreatDoor
namespace Go.Proofs.YtciokmjhdbcmpaaGreatDoor
open Go.RowKit

def szE (f : Ft) : Int := if ftE f = 0 then (if f.k = 0 then 14 else 0) else ftE f
theorem exX_szE (f : Ft) (b : Bool) : exX f b = if szE f = 0 then (if b = true then f.l else f.h, 0) else (0, szE f) := by
  unfold exX szE
  by_cases h : ftE f = 0
  · rw [if_pos h, if_pos h]
    by_cases k : f.k = 0
    · rw [if_pos k, if_pos k]; rfl
    · rw [if_neg k, if_neg k]; rfl
  · rw [if_neg h, if_neg h, if_neg h]
set_option maxRecDepth 100000 in
set_option maxHeartbeats 4000000 in
theorem rhollow_any (f : Ft) (fo : Option Addr) (fc : Nat) (w : World) (R : Ending → World → Prop) (hR : ∀ w', Below w.heap.size w w' → R (.returned (.bool (hoB f.k))) w') :
    Calls Tryz.prog 55 #[ftV f fo fc] w R := by
  have HR := Lib.hid hR
  have e0 : Hid (hoB f.k = (f.k == 1 || f.k == 3)) := rfl
  obtain ⟨fn, hfn⟩ : ∃ fn, f.fs.length = fn := ⟨_, rfl⟩
  have HFV : Hid (ftV f fo fc = .agg #[.string f.n, .int .i64 f.k, .int .i64 f.a, .int .i64 f.x, .int .i64 f.y, .int .i64 f.z, .int .i64 f.l, .int .i64 f.h, .slice fo fn fc]) := by unfold Hid ftV; rw [hfn]
  rw [HFV.out]
  obtain ⟨w1, E1, HB1, s1, X1⟩ := box_ex w #[.string f.n, .int .i64 f.k, .int .i64 f.a, .int .i64 f.x, .int .i64 f.y, .int .i64 f.z, .int .i64 f.l, .int .i64 f.h, .slice fo fn fc] 28
  have p0 := cell_at X1.out (j := 0) (v := .string f.n) rfl
  have p1 := cell_at X1.out (j := 1) (v := .int .i64 f.k) rfl
  have p2 := cell_at X1.out (j := 2) (v := .int .i64 f.a) rfl
  have p3 := cell_at X1.out (j := 3) (v := .int .i64 f.x) rfl
  have p4 := cell_at X1.out (j := 4) (v := .int .i64 f.y) rfl
  have p5 := cell_at X1.out (j := 5) (v := .int .i64 f.z) rfl
  have p6 := cell_at X1.out (j := 6) (v := .int .i64 f.l) rfl
  have p7 := cell_at X1.out (j := 7) (v := .int .i64 f.h) rfl
  have p8 := cell_at X1.out (j := 8) (v := .slice fo fn fc) rfl
  clear hR hfn X1
  cases k1 : (f.k == 1) with
  | true =>
    have e : Hid (hoB f.k = true) := by unfold Hid; rw [e0.out, k1]; rfl
    go_enter Tryz.func55, Tryz.ntmps55
    go_wp2_with (rw [E1])
    exact ret_b (HR.out _ HB1.out) rfl e.out
  | false =>
    cases k3 : (f.k == 3) with
    | true =>
      have e : Hid (hoB f.k = true) := by unfold Hid; rw [e0.out, k1, k3]; rfl
      go_enter Tryz.func55, Tryz.ntmps55
      go_wp2_with (rw [E1])
      exact ret_b (HR.out _ HB1.out) rfl e.out
    | false =>
      have e : Hid (hoB f.k = false) := by unfold Hid; rw [e0.out, k1, k3]; rfl
      go_enter Tryz.func55, Tryz.ntmps55
      go_wp2_with (rw [E1])
      exact ret_b (HR.out _ HB1.out) rfl e.out
set_option maxRecDepth 100000 in
set_option maxHeartbeats 4000000 in
theorem rsized_any (f : Ft) (fo : Option Addr) (fc : Nat) (w : World) (R : Ending → World → Prop) (hok : FtOk w f fo fc) (hR : ∀ w', Below w.heap.size w w' → R (.returned (.int .i64 (szE f))) w') :
    Calls Tryz.prog 90 #[ftV f fo fc] w R := by
  have HR := Lib.hid hR
  obtain ⟨EF, hEF⟩ : ∃ E, ftE f = E := ⟨_, rfl⟩
  have HEF := Lib.hid hEF
  have hx : Hid (szE f = if EF = 0 then (if f.k = 0 then 14 else 0) else EF) := by unfold Hid szE; rw [hEF]
  have HOF := Lib.hid hok
  obtain ⟨fn, hfn⟩ : ∃ fn, f.fs.length = fn := ⟨_, rfl⟩
  have HFV : Hid (ftV f fo fc = .agg #[.string f.n, .int .i64 f.k, .int .i64 f.a, .int .i64 f.x, .int .i64 f.y, .int .i64 f.z, .int .i64 f.l, .int .i64 f.h, .slice fo fn fc]) := by unfold Hid ftV; rw [hfn]
  rw [HFV.out]
  obtain ⟨w1, E1, HB1, s1, X1⟩ := box_ex w #[.string f.n, .int .i64 f.k, .int .i64 f.a, .int .i64 f.x, .int .i64 f.y, .int .i64 f.z, .int .i64 f.l, .int .i64 f.h, .slice fo fn fc] 28
  have p0 := cell_at X1.out (j := 0) (v := .string f.n) rfl
  have p1 := cell_at X1.out (j := 1) (v := .int .i64 f.k) rfl
  have p2 := cell_at X1.out (j := 2) (v := .int .i64 f.a) rfl
  have p3 := cell_at X1.out (j := 3) (v := .int .i64 f.x) rfl
  have p4 := cell_at X1.out (j := 4) (v := .int .i64 f.y) rfl
  have p5 := cell_at X1.out (j := 5) (v := .int .i64 f.z) rfl
  have p6 := cell_at X1.out (j := 6) (v := .int .i64 f.l) rfl
  have p7 := cell_at X1.out (j := 7) (v := .int .i64 f.h) rfl
  have p8 := cell_at X1.out (j := 8) (v := .slice fo fn fc) rfl
  clear hR hfn X1
  clear hok hEF
  go_enter Tryz.func90, Tryz.ntmps90
  go_wp2_with (rw [E1])
  rw [← HFV.out]
  refine rcheck18_any f fo fc _ _ HOF.out.name fun w2 hb => ?_
  rw [HEF.out]
  have B2 : Hid (Below w.heap.size w w2) := HB1.out.trans (hb.mono (Nat.le_of_lt s1))
  have q1 := cellB hb p1 s1
  clear hb E1 p0 p1 p2 p3 p4 p5 p6 p7 p8
  by_cases f0 : EF = 0
  · subst f0
    by_cases k0 : f.k = 0
    · have K : (f.k == 0) = true := by rw [k0]; rfl
      have e : Hid (szE f = 14) := by unfold Hid; rw [hx.out, if_pos rfl, if_pos k0]
      clear k0
      go_wp2_with fail
      exact ret_i (HR.out _ B2.out) rfl e.out
    · have K : (f.k == 0) = false := by simpa using k0
      have e : Hid (szE f = 0) := by unfold Hid; rw [hx.out, if_pos rfl, if_neg k0]
      clear k0
      go_wp2_with fail
      exact ret_i (HR.out _ B2.out) rfl e.out
  · have K : (EF != 0) = true := by simpa using f0
    have e : Hid (szE f = EF) := by unfold Hid; rw [hx.out, if_neg f0]
    clear f0
    go_wp2_with fail
    exact ret_i (HR.out _ B2.out) rfl e.out
set_option maxRecDepth 100000 in
set_option maxHeartbeats 4000000 in
theorem rmaxi_any (f : Ft) (fo : Option Addr) (fc : Nat) (w : World) (R : Ending → World → Prop) (hok : FtOk w f fo fc) (hR : ∀ w', Below w.heap.size w w' → R (.returned (.tuple #[.int .i64 (exX f (hoB f.k)).1, .int .i64 (exX f (hoB f.k)).2])) w') :
    Calls Tryz.prog 53 #[ftV f fo fc] w R := by
  have HR := Lib.hid hR
  have HOF := Lib.hid hok
  obtain ⟨b, hb0⟩ : ∃ b, hoB f.k = b := ⟨_, rfl⟩
  have HB0 := Lib.hid hb0
  rw [hb0] at HR
  obtain ⟨SE, hSE⟩ : ∃ E, szE f = E := ⟨_, rfl⟩
  have HSE := Lib.hid hSE
  have hx : Hid (exX f b = if SE = 0 then (if b = true then f.l else f.h, 0) else (0, SE)) := by unfold Hid; rw [exX_szE, hSE]
  obtain ⟨fn, hfn⟩ : ∃ fn, f.fs.length = fn := ⟨_, rfl⟩
  have HFV : Hid (ftV f fo fc = .agg #[.string f.n, .int .i64 f.k, .int .i64 f.a, .int .i64 f.x, .int .i64 f.y, .int .i64 f.z, .int .i64 f.l, .int .i64 f.h, .slice fo fn fc]) := by unfold Hid ftV; rw [hfn]
  rw [HFV.out]
  obtain ⟨w1, E1, HB1, s1, X1⟩ := box_ex w #[.string f.n, .int .i64 f.k, .int .i64 f.a, .int .i64 f.x, .int .i64 f.y, .int .i64 f.z, .int .i64 f.l, .int .i64 f.h, .slice fo fn fc] 28
  have p0 := cell_at X1.out (j := 0) (v := .string f.n) rfl
  have p1 := cell_at X1.out (j := 1) (v := .int .i64 f.k) rfl
  have p2 := cell_at X1.out (j := 2) (v := .int .i64 f.a) rfl
  have p3 := cell_at X1.out (j := 3) (v := .int .i64 f.x) rfl
  have p4 := cell_at X1.out (j := 4) (v := .int .i64 f.y) rfl
  have p5 := cell_at X1.out (j := 5) (v := .int .i64 f.z) rfl
  have p6 := cell_at X1.out (j := 6) (v := .int .i64 f.l) rfl
  have p7 := cell_at X1.out (j := 7) (v := .int .i64 f.h) rfl
  have p8 := cell_at X1.out (j := 8) (v := .slice fo fn fc) rfl
  clear hR hfn X1
  clear hok hb0 hSE
  go_enter Tryz.func53, Tryz.ntmps53
  go_wp2_with (rw [E1])
  rw [← HFV.out]
  refine rsized_any f fo fc _ _ (HOF.out.below HB1.out) fun w2 hb => ?_
  rw [HSE.out]
  have B2 : Hid (Below w.heap.size w w2) := HB1.out.trans (hb.mono (Nat.le_of_lt s1))
  have q0 := cellB hb p0 s1
  have q1 := cellB hb p1 s1
  have q2 := cellB hb p2 s1
  have q3 := cellB hb p3 s1
  have q4 := cellB hb p4 s1
  have q5 := cellB hb p5 s1
  have q6 := cellB hb p6 s1
  have q7 := cellB hb p7 s1
  have q8 := cellB hb p8 s1
  clear hb E1 p0 p1 p2 p3 p4 p5 p6 p7 p8
  by_cases f0 : SE = 0
  · subst f0
    rw [if_pos rfl] at hx
    go_wp2_with fail
    rw [← HFV.out]
    refine rhollow_any f fo fc _ _ fun w3 hb => ?_
    rw [HB0.out]
    have B3 : Hid (Below w.heap.size w w3) := B2.out.trans (hb.mono B2.out.size)
    have r6 := cellB hb q6 (lt_of_cell q6)
    have r7 := cellB hb q7 (lt_of_cell q7)
    clear hb q0 q1 q2 q3 q4 q5 q6 q7 q8
    cases b with
    | true =>
      rw [hx.out] at HR
      go_wp2_with fail
      exact HR.out _ B3.out
    | false =>
      rw [hx.out] at HR
      go_wp2_with fail
      exact HR.out _ B3.out
  · have K : (SE != 0) = true := by simpa using f0
    rw [if_neg f0] at hx
    rw [hx.out] at HR
    clear f0
    go_wp2_with fail
    exact HR.out _ B2.out
set_option maxRecDepth 100000 in
set_option maxHeartbeats 4000000 in
theorem rleas_any (f : Ft) (fo : Option Addr) (fc : Nat) (w : World) (R : Ending → World → Prop) (hok : FtOk w f fo fc) (hR : ∀ w', Below w.heap.size w w' → R (.returned (.tuple #[.int .i64 (exX f (!(hoB f.k))).1, .int .i64 (exX f (!(hoB f.k))).2])) w') :
    Calls Tryz.prog 54 #[ftV f fo fc] w R := by
  have HR := Lib.hid hR
  have HOF := Lib.hid hok
  obtain ⟨b, hb0⟩ : ∃ b, hoB f.k = b := ⟨_, rfl⟩
  have HB0 := Lib.hid hb0
  rw [hb0] at HR
  obtain ⟨SE, hSE⟩ : ∃ E, szE f = E := ⟨_, rfl⟩
  have HSE := Lib.hid hSE
  have hx : Hid (exX f (!b) = if SE = 0 then (if (!b) = true then f.l else f.h, 0) else (0, SE)) := by unfold Hid; rw [exX_szE, hSE]
  obtain ⟨fn, hfn⟩ : ∃ fn, f.fs.length = fn := ⟨_, rfl⟩
  have HFV : Hid (ftV f fo fc = .agg #[.string f.n, .int .i64 f.k, .int .i64 f.a, .int .i64 f.x, .int .i64 f.y, .int .i64 f.z, .int .i64 f.l, .int .i64 f.h, .slice fo fn fc]) := by unfold Hid ftV; rw [hfn]
  rw [HFV.out]
  obtain ⟨w1, E1, HB1, s1, X1⟩ := box_ex w #[.string f.n, .int .i64 f.k, .int .i64 f.a, .int .i64 f.x, .int .i64 f.y, .int .i64 f.z, .int .i64 f.l, .int .i64 f.h, .slice fo fn fc] 28
  have p0 := cell_at X1.out (j := 0) (v := .string f.n) rfl
  have p1 := cell_at X1.out (j := 1) (v := .int .i64 f.k) rfl
  have p2 := cell_at X1.out (j := 2) (v := .int .i64 f.a) rfl
  have p3 := cell_at X1.out (j := 3) (v := .int .i64 f.x) rfl
  have p4 := cell_at X1.out (j := 4) (v := .int .i64 f.y) rfl
  have p5 := cell_at X1.out (j := 5) (v := .int .i64 f.z) rfl
  have p6 := cell_at X1.out (j := 6) (v := .int .i64 f.l) rfl
  have p7 := cell_at X1.out (j := 7) (v := .int .i64 f.h) rfl
  have p8 := cell_at X1.out (j := 8) (v := .slice fo fn fc) rfl
  clear hR hfn X1
  clear hok hb0 hSE
  go_enter Tryz.func54, Tryz.ntmps54
  go_wp2_with (rw [E1])
  rw [← HFV.out]
  refine rsized_any f fo fc _ _ (HOF.out.below HB1.out) fun w2 hb => ?_
  rw [HSE.out]
  have B2 : Hid (Below w.heap.size w w2) := HB1.out.trans (hb.mono (Nat.le_of_lt s1))
  have q0 := cellB hb p0 s1
  have q1 := cellB hb p1 s1
  have q2 := cellB hb p2 s1
  have q3 := cellB hb p3 s1
  have q4 := cellB hb p4 s1
  have q5 := cellB hb p5 s1
  have q6 := cellB hb p6 s1
  have q7 := cellB hb p7 s1
  have q8 := cellB hb p8 s1
  clear hb E1 p0 p1 p2 p3 p4 p5 p6 p7 p8
  by_cases f0 : SE = 0
  · subst f0
    rw [if_pos rfl] at hx
    go_wp2_with fail
    rw [← HFV.out]
    refine rhollow_any f fo fc _ _ fun w3 hb => ?_
    rw [HB0.out]
    have B3 : Hid (Below w.heap.size w w3) := B2.out.trans (hb.mono B2.out.size)
    have r6 := cellB hb q6 (lt_of_cell q6)
    have r7 := cellB hb q7 (lt_of_cell q7)
    clear hb q0 q1 q2 q3 q4 q5 q6 q7 q8
    cases b with
    | true =>
      rw [hx.out] at HR
      go_wp2_with fail
      exact HR.out _ B3.out
    | false =>
      rw [hx.out] at HR
      go_wp2_with fail
      exact HR.out _ B3.out
  · have K : (SE != 0) = true := by simpa using f0
    rw [if_neg f0] at hx
    rw [hx.out] at HR
    clear f0
    go_wp2_with fail
    exact HR.out _ B2.out
end Go.Proofs.YtciokmjhdbcmpaaGreatDoor
namespace Go.Proofs.YtciokmjhdbcmpaaGreatDoor
open Go.RowKit

/-- Whether the lesser limit is the size at the material of a frame. -/
def mtB (f : Ft) (x : Fm) : Bool := if x.m = 2 then !(hoB f.k) else hoB f.k
set_option maxRecDepth 100000 in
set_option maxHeartbeats 4000000 in
theorem material_any (f : Ft) (fo : Option Addr) (fc : Nat) (x : Fm) (da : Option Addr) (dc : Nat) (w : World) (R : Ending → World → Prop) (hok : FtOk w f fo fc) (hf0 : ftE f = 0)
   (hR : ∀ w', Below w.heap.size w w' → R (.returned (.tuple #[.int .i64 (exX f (mtB f x)).1, .bool (hoB f.k), .int .i64 (exX f (mtB f x)).2])) w') :
    Calls Tryz.prog 52 #[ftV f fo fc, fmV x da dc] w R := by
  have HR := Lib.hid hR
  have HOF := Lib.hid hok
  have HF0 := Lib.hid hf0
  obtain ⟨b, hb0⟩ : ∃ b, hoB f.k = b := ⟨_, rfl⟩
  have HI : Hid ((decide (ftE f = 0) && hoB f.k) = b) := by unfold Hid; rw [hf0, hb0]; simp
  have HB0 := Lib.hid hb0
  rw [hb0] at HR
  obtain ⟨fn, hfn⟩ : ∃ fn, f.fs.length = fn := ⟨_, rfl⟩
  have HFV : Hid (ftV f fo fc = .agg #[.string f.n, .int .i64 f.k, .int .i64 f.a, .int .i64 f.x, .int .i64 f.y, .int .i64 f.z, .int .i64 f.l, .int .i64 f.h, .slice fo fn fc]) := by unfold Hid ftV; rw [hfn]
  have HXV : Hid (fmV x da dc = .agg #[.int .i64 x.k, .bool x.d, .int .i64 x.t, .int .i64 x.m, .slice da x.ds.length dc]) := rfl
  rw [HFV.out, HXV.out]
  obtain ⟨w1, E1, HB1, s1, X1⟩ := box_ex w #[.string f.n, .int .i64 f.k, .int .i64 f.a, .int .i64 f.x, .int .i64 f.y, .int .i64 f.z, .int .i64 f.l, .int .i64 f.h, .slice fo fn fc] 28
  obtain ⟨w2, E2, HB2, s2, X2⟩ := box_ex w1 #[.int .i64 x.k, .bool x.d, .int .i64 x.t, .int .i64 x.m, .slice da x.ds.length dc] 31
  have B2 : Hid (Below w.heap.size w w2) := HB1.out.trans (HB2.out.mono (Nat.le_of_lt s1))
  have HX1 := Lib.hid ((HB2.out.block _ s1).trans X1.out)
  have p0 := cell_at HX1.out (j := 0) (v := .string f.n) rfl
  have p1 := cell_at HX1.out (j := 1) (v := .int .i64 f.k) rfl
  have p2 := cell_at HX1.out (j := 2) (v := .int .i64 f.a) rfl
  have p3 := cell_at HX1.out (j := 3) (v := .int .i64 f.x) rfl
  have p4 := cell_at HX1.out (j := 4) (v := .int .i64 f.y) rfl
  have p5 := cell_at HX1.out (j := 5) (v := .int .i64 f.z) rfl
  have p6 := cell_at HX1.out (j := 6) (v := .int .i64 f.l) rfl
  have p7 := cell_at HX1.out (j := 7) (v := .int .i64 f.h) rfl
  have p8 := cell_at HX1.out (j := 8) (v := .slice fo fn fc) rfl
  have y3 := cell_at X2.out (j := 3) (v := .int .i64 x.m) rfl
  clear hR hok hf0 hb0 hfn X1 X2
  go_enter Tryz.func52, Tryz.ntmps52
  go_wp2_with (first | rw [E1] | rw [E2])
  rw [← HFV.out]
  refine inner18_any f fo fc _ _ (HOF.out.below B2.out) fun w3 hb => ?_
  rw [HI.out, HF0.out]
  have B3 : Hid (Below w.heap.size w w3) := B2.out.trans (hb.mono B2.out.size)
  have z3 := cellB hb y3 s2
  have q0 := cellB hb p0 (lt_of_cell p0)
  have q1 := cellB hb p1 (lt_of_cell p1)
  have q2 := cellB hb p2 (lt_of_cell p2)
  have q3 := cellB hb p3 (lt_of_cell p3)
  have q4 := cellB hb p4 (lt_of_cell p4)
  have q5 := cellB hb p5 (lt_of_cell p5)
  have q6 := cellB hb p6 (lt_of_cell p6)
  have q7 := cellB hb p7 (lt_of_cell p7)
  have q8 := cellB hb p8 (lt_of_cell p8)
  clear hb E1 E2 y3 p0 p1 p2 p3 p4 p5 p6 p7 p8
  by_cases m2 : x.m = 2
  · have K : (x.m == 2) = true := by rw [m2]; rfl
    have HM : Hid (mtB f x = !b) := by unfold Hid mtB; rw [if_pos m2, HB0.out]
    clear m2
    go_wp2_with fail
    rw [← HFV.out]
    refine leas_any f fo fc _ _ (HOF.out.below B3.out) fun w4 hb => ?_
    rw [HB0.out]
    have B4 : Hid (Below w.heap.size w w4) := B3.out.trans (hb.mono B3.out.size)
    rw [HM.out] at HR
    obtain ⟨X, Y, hXY⟩ : ∃ X Y, exX f (!b) = (X, Y) := ⟨_, _, rfl⟩
    have HXY := Lib.hid hXY
    rw [hXY] at HR ⊢
    clear hb hXY
    go_wp2_with fail
    go_ret3
    exact HR.out _ B4.out
  · have K : (x.m == 2) = false := by simpa using m2
    have HM : Hid (mtB f x = b) := by unfold Hid mtB; rw [if_neg m2, HB0.out]
    clear m2
    go_wp2_with fail
    rw [← HFV.out]
    refine maxi_any f fo fc _ _ (HOF.out.below B3.out) fun w4 hb => ?_
    rw [HB0.out]
    have B4 : Hid (Below w.heap.size w w4) := B3.out.trans (hb.mono B3.out.size)
    rw [HM.out] at HR
    obtain ⟨X, Y, hXY⟩ : ∃ X Y, exX f b = (X, Y) := ⟨_, _, rfl⟩
    have HXY := Lib.hid hXY
    rw [hXY] at HR ⊢
    clear hb hXY
    go_wp2_with fail
    go_ret3
    exact HR.out _ B4.out
end Go.Proofs.YtciokmjhdbcmpaaGreatDoor
