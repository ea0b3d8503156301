/- Same of the library and of reference 19: whether two frames are one. Same of the library: whether two frames are one. (Printed by gen_same.py.) Same of reference 19: whether two frames are one. (Printed by gen_rsame.py.) Same of reference 19, whole. (Printed by gen_rsame27.py.) Texts of frames are read back, different frames have different texts: the law FrameReads of layer 19. (Printed by gen_law19b.py.) -/
import Derived.Test.YtciokmjhdbcmpaaGreatDoorMfzd
import Derived.Laws.StructEq
namespace Go.Proofs.YtciokmjhdbcmpaaGreatDoor
open Go.RowKit

def dtQ (u v : Dt) : Bool := u.n.toList == v.n.toList && u.m == v.m
def neD (xs ys : List Dt) (i : Nat) : Bool := !(dtQ (dtAt xs i) (dtAt ys i))
theorem eq_dat (a b : ByteArray) (c d : Int) (w : World) : (Op.equalIn 10000 76 (.agg #[.string a, .int .i64 c]) (.agg #[.string b, .int .i64 d])).run Tryz.prog w = .ok (a.toList == b.toList && c == d) w := by
  have hS : Tryz.prog.underlying 76 = some (.struct (Tryz.prog.fieldsOf 76)) := by kernel_rfl
  have hp : Tryz.prog.stoodInHeld 76 = false := by kernel_rfl
  rw [show (10000 : Nat) = 9999 + 1 from rfl, run_equalIn_agg w 9999 76 _ _ hS hp]
  have us : Tryz.prog.underlying 9 = some .string := by kernel_rfl
  have ui : Tryz.prog.underlying 3 = some (.int .i64) := by kernel_rfl
  simp only [Program.fieldsOf, Tryz.underlying76]
  go_simp
  by_cases h1 : a.toList = b.toList <;> by_cases h2 : c = d <;> simp [h1, h2]
theorem guard_dat : Tryz.prog.eqGuardType Tryz.prog.depth 76 = false := by kernel_rfl
attribute [-go_sem] run_equalIn_agg run_equalIn_int run_equalIn_string run_equalIn_bool' Program.fieldsOf Op.eqFields
/-- The two lists are one. -/
def lsD (xs ys : List Dt) : Bool := decide (xs.length = ys.length) && !(anyN (neD xs ys) xs.length)
set_option maxRecDepth 100000 in
set_option maxHeartbeats 2000000 in
theorem equalD_any (xs ys : List Dt) (ao bo : Option Addr) (ca cb : Nat) (w : World) (R : Ending → World → Prop) (hlx : xs.length ≤ 1000000) (_hly : ys.length ≤ 1000000) (hx : CellsAt w ao (dtC xs)) (hy : CellsAt w bo (dtC ys)) (hR : ∀ w', Below w.heap.size w w' → R (.returned (.bool (lsD xs ys))) w') :
    Calls Tryz.prog 70 #[.slice ao xs.length ca, .slice bo ys.length cb] w R := by
  have HR := Lib.hid hR
  have HX := Lib.hid hx
  have HY := Lib.hid hy
  obtain ⟨E, hE⟩ : ∃ E, lsD xs ys = E := ⟨_, rfl⟩
  have HE : Hid ((decide (xs.length = ys.length) && !(anyN (neD xs ys) xs.length)) = E) := hE
  rw [hE] at HR
  clear hR hx hy hE
  go_enter Tryz.func70, Tryz.ntmps70
  by_cases hl : xs.length = ys.length
  · obtain ⟨n, hn⟩ : ∃ n, ys.length = n := ⟨_, rfl⟩
    rw [hn] at hl
    have HL := Lib.hid hl
    have hnl : n ≤ 1000000 := by omega
    have HN := Lib.hid hn
    have HE2 : Hid ((!(anyN (neD xs ys) n)) = E) := by unfold Hid; rw [← HE.out, hl, hn, decide_eq_true rfl]; rfl
    rw [hl, hn]
    clear hl hn HE
    go_wp2_with fail
    go_loopw [13] (fun j wr => ∃ i : Nat, i ≤ n ∧ j = .int .i64 i ∧ Hid (Below w.heap.size w wr) ∧ Hid (anyN (neD xs ys) i = false)) (fun j _ => n - (intOf j).toNat)
    case atStart => exact ⟨0, Nat.zero_le _, rfl, Below.refl _ _, rfl⟩
    case round =>
      obtain ⟨i, hi, rfl, HB, HA⟩ := hrel
      by_cases hlt : i < n
      · obtain ⟨bx, ox, ex, hbx, hdx⟩ := HX.out.dts (by rw [HL.out]; omega)
        obtain ⟨bY, oY, eY, hbY, hdY⟩ := HY.out.dts (by rw [HN.out]; omega)
        obtain ⟨a0, a1⟩ := hdx i (by rw [HL.out]; exact hlt)
        obtain ⟨b0, b1⟩ := hdY i (by rw [HN.out]; exact hlt)
        have p0 := cellB HB.out a0 hbx
        have p1 := cellB HB.out a1 hbx
        have o0 := cellB HB.out b0 hbY
        have o1 := cellB HB.out b1 hbY
        have hq : Hid (neD xs ys i = !((dtAt xs i).n.toList == (dtAt ys i).n.toList && (dtAt xs i).m == (dtAt ys i).m)) := rfl
        obtain ⟨u, hu⟩ : ∃ u, (dtAt xs i).n = u := ⟨_, rfl⟩
        obtain ⟨v, hv⟩ : ∃ u, (dtAt ys i).n = u := ⟨_, rfl⟩
        obtain ⟨s, hs⟩ : ∃ u, (dtAt xs i).m = u := ⟨_, rfl⟩
        obtain ⟨t, ht⟩ : ∃ u, (dtAt ys i).m = u := ⟨_, rfl⟩
        rw [hu] at p0
        rw [hs] at p1
        rw [hv] at o0
        rw [ht] at o1
        rw [hu, hv, hs, ht] at hq
        clear hu hv hs ht a0 a1 b0 b1 hdx hdY
        subst ex eY
        have eqd := eq_dat u v s t
        have egd := guard_dat
        cases hb : (u.toList == v.toList && s == t) with
        | true =>
          rw [hb] at eqd hq
          go_wp2_with fail
          go_quiet (fail)
          go_wp2_with fail
          exact ⟨⟨i + 1, by omega, by go_num, HB.out.trans ⟨rfl, rfl, rfl, Nat.le_refl _, fun _ _ => rfl⟩, anyN_step HA.out hq⟩, by simp [intOf]; omega⟩
        | false =>
          rw [hb] at eqd hq
          have e3 : Hid (E = false) := by unfold Hid; rw [← HE2.out, anyN_true hlt hq]; rfl
          go_wp2_with fail
          go_quiet (fail)
          go_wp2_with fail
          exact ret_b (HR.out _ (HB.out.trans ⟨rfl, rfl, rfl, Nat.le_refl _, fun _ _ => rfl⟩)) rfl e3.out
      · obtain rfl : i = n := by omega
        have e3 : Hid (E = true) := by unfold Hid; rw [← HE2.out, HA.out]; rfl
        go_wp2_with fail
        exact ret_b (HR.out _ HB.out) rfl e3.out
  · have K : ((xs.length : Int) != (ys.length : Int)) = true := by simpa using (by omega : ¬ (xs.length : Int) = (ys.length : Int))
    have e3 : Hid (E = false) := by unfold Hid; rw [← HE.out, decide_eq_false hl]; rfl
    clear hl
    go_wp2_with fail
    exact ret_b (HR.out _ (Below.refl _ _)) rfl e3.out
end Go.Proofs.YtciokmjhdbcmpaaGreatDoor
namespace Go.Proofs.YtciokmjhdbcmpaaGreatDoor
open Go.RowKit

def smB (x y : Fm) : Bool := (x.k == y.k) && ((x.d == y.d) && ((x.t == y.t) && ((x.m == y.m) && lsD x.ds y.ds)))
set_option maxRecDepth 100000 in
set_option maxHeartbeats 4000000 in
theorem fsame_any (x y : Fm) (da ea : Option Addr) (dc ec : Nat) (w : World) (R : Ending → World → Prop) (hox : FmOk w x da dc) (hoy : FmOk w y ea ec) (hdx : x.ds.length ≤ 1000000) (hdy : y.ds.length ≤ 1000000)
   (hR : ∀ w', Below w.heap.size w w' → R (.returned (.bool (smB x y))) w') :
    Calls Tryz.prog 28 #[fmV x da dc, fmV y ea ec] w R := by
  have HR := Lib.hid hR
  have HOX := Lib.hid hox
  have HOY := Lib.hid hoy
  clear hR hox hoy
  obtain ⟨E, hE⟩ : ∃ E, smB x y = E := ⟨_, rfl⟩
  rw [hE] at HR
  have HE : Hid (((x.k == y.k) && ((x.d == y.d) && ((x.t == y.t) && ((x.m == y.m) && lsD x.ds y.ds)))) = E) := hE
  clear hE
  have HXV : Hid (fmV x da dc = .agg #[.int .i64 x.k, .bool x.d, .int .i64 x.t, .int .i64 x.m, .slice da x.ds.length dc]) := rfl
  have HYV : Hid (fmV y ea ec = .agg #[.int .i64 y.k, .bool y.d, .int .i64 y.t, .int .i64 y.m, .slice ea y.ds.length ec]) := rfl
  rw [HXV.out, HYV.out]
  obtain ⟨w1, E1, HB1, s1, X1⟩ := box_ex w #[.int .i64 x.k, .bool x.d, .int .i64 x.t, .int .i64 x.m, .slice da x.ds.length dc] 31
  obtain ⟨w2, E2, HB2, s2, X2⟩ := box_ex w1 #[.int .i64 y.k, .bool y.d, .int .i64 y.t, .int .i64 y.m, .slice ea y.ds.length ec] 31
  have BW0 : Hid (Below w.heap.size w w2) := HB1.out.trans (HB2.out.mono (Nat.le_of_lt s1))
  have HX1 := Lib.hid ((HB2.out.block _ s1).trans X1.out)
  have HX2 := X2
  clear X1 X2
  have p0 := cell_at HX1.out (j := 0) (v := .int .i64 x.k) rfl
  have p1 := cell_at HX1.out (j := 1) (v := .bool x.d) rfl
  have p2 := cell_at HX1.out (j := 2) (v := .int .i64 x.t) rfl
  have p3 := cell_at HX1.out (j := 3) (v := .int .i64 x.m) rfl
  have p4 := cell_at HX1.out (j := 4) (v := .slice da x.ds.length dc) rfl
  have o0 := cell_at HX2.out (j := 0) (v := .int .i64 y.k) rfl
  have o1 := cell_at HX2.out (j := 1) (v := .bool y.d) rfl
  have o2 := cell_at HX2.out (j := 2) (v := .int .i64 y.t) rfl
  have o3 := cell_at HX2.out (j := 3) (v := .int .i64 y.m) rfl
  have o4 := cell_at HX2.out (j := 4) (v := .slice ea y.ds.length ec) rfl
  go_enter Tryz.func28, Tryz.ntmps28
  cases hc0 : (x.k == y.k) with
  | false =>
    have e3 : Hid (E = false) := by unfold Hid; rw [← HE.out, hc0]; simp
    go_wp2_with (first | rw [E1] | rw [E2])
    exact ret_b (HR.out _ BW0.out) rfl e3.out
  | true =>
    cases hc1 : (x.d == y.d) with
    | false =>
      have e3 : Hid (E = false) := by unfold Hid; rw [← HE.out, hc0, hc1]; simp
      go_wp2_with (first | rw [E1] | rw [E2])
      exact ret_b (HR.out _ BW0.out) rfl e3.out
    | true =>
      cases hc2 : (x.t == y.t) with
      | false =>
        have e3 : Hid (E = false) := by unfold Hid; rw [← HE.out, hc0, hc1, hc2]; simp
        go_wp2_with (first | rw [E1] | rw [E2])
        exact ret_b (HR.out _ BW0.out) rfl e3.out
      | true =>
        cases hc3 : (x.m == y.m) with
        | false =>
          have e3 : Hid (E = false) := by unfold Hid; rw [← HE.out, hc0, hc1, hc2, hc3]; simp
          go_wp2_with (first | rw [E1] | rw [E2])
          exact ret_b (HR.out _ BW0.out) rfl e3.out
        | true =>
          have e3 : Hid (E = lsD x.ds y.ds) := by unfold Hid; rw [← HE.out, hc0, hc1, hc2, hc3]; simp
          go_wp2_with (first | rw [E1] | rw [E2])
          refine equalD_any x.ds y.ds da ea dc ec _ _ hdx hdy (HOX.out.below BW0.out).cells (HOY.out.below BW0.out).cells fun W1 hb => ?_
          rw [← e3.out]
          have BW1 : Hid (Below w.heap.size w W1) := BW0.out.trans (hb.mono BW0.out.size)
          clear hb p0 o0 p1 o1 p2 o2 p3 o3 p4 o4 E1 E2
          go_wp2_with fail
          exact HR.out _ BW1.out
end Go.Proofs.YtciokmjhdbcmpaaGreatDoor
namespace Go.Proofs.YtciokmjhdbcmpaaGreatDoor
open Go.RowKit

set_option maxRecDepth 100000 in
set_option maxHeartbeats 8000000 in
theorem rsame1_any (x y : Fm) (da ea : Option Addr) (dc ec ba bb ca cb : Nat) (w : World) (R : Ending → World → Prop) (hox : FmOk w x da dc) (hoy : FmOk w y ea ec) (hdx : x.ds.length ≤ 1000000) (hdy : y.ds.length ≤ 1000000)
   (hxb : w.heap[ba]? = some (.cells #[.int .i64 x.k, .bool x.d, .int .i64 x.t, .int .i64 x.m, .slice da x.ds.length dc] 31 (0, 0))) (hyb : w.heap[bb]? = some (.cells #[.int .i64 y.k, .bool y.d, .int .i64 y.t, .int .i64 y.m, .slice ea y.ds.length ec] 31 (0, 0)))
   (hR : ∀ w', Below w.heap.size w w' → R (.returned (.bool (smB x y))) w') :
    Calls Tryz.prog 69 #[.slice (some ⟨ba, 0, none⟩) 1 ca, .slice (some ⟨bb, 0, none⟩) 1 cb] w R := by
  have HR := Lib.hid hR
  have HOX := Lib.hid hox
  have HOY := Lib.hid hoy
  have HX1 := Lib.hid hxb
  have HX2 := Lib.hid hyb
  have lba := lt_of_block hxb
  have lbb := lt_of_block hyb
  clear hR hox hoy hxb hyb
  obtain ⟨E, hE⟩ : ∃ E, smB x y = E := ⟨_, rfl⟩
  rw [hE] at HR
  have HE : Hid (((x.k == y.k) && ((x.d == y.d) && ((x.t == y.t) && ((x.m == y.m) && lsD x.ds y.ds)))) = E) := hE
  clear hE
  go_enter Tryz.func69, Tryz.ntmps69
  go_wp2_with fail
  go_loopw [5] (fun j wr => (j = .int .i64 0 ∧ wr = w) ∨ (j = .int .i64 1 ∧ Hid (Below w.heap.size w wr) ∧ E = true)) (fun j _ => 1 - (intOf j).toNat)
  case atStart => exact .inl ⟨rfl, rfl⟩
  case round =>
    rcases hrel with ⟨rfl, hw⟩ | ⟨rfl, HB, he⟩
    rotate_left
    · go_wp2_with fail
      exact ret_b (HR.out _ HB.out) rfl he
    subst hw
    go_wp2_with fail
    have BD : Hid (Below wr.heap.size wr wr.drew) := (Below.refl _ _).drew
    have p0 : wr.drew.cell? ⟨ba, 0, none⟩ = some (.int .i64 x.k) := cell_at HX1.out (j := 0) rfl
    have p1 : wr.drew.cell? ⟨ba, 1, none⟩ = some (.bool x.d) := cell_at HX1.out (j := 1) rfl
    have p2 : wr.drew.cell? ⟨ba, 2, none⟩ = some (.int .i64 x.t) := cell_at HX1.out (j := 2) rfl
    have p3 : wr.drew.cell? ⟨ba, 3, none⟩ = some (.int .i64 x.m) := cell_at HX1.out (j := 3) rfl
    have p4 : wr.drew.cell? ⟨ba, 4, none⟩ = some (.slice da x.ds.length dc) := cell_at HX1.out (j := 4) rfl
    have o0 : wr.drew.cell? ⟨bb, 0, none⟩ = some (.int .i64 y.k) := cell_at HX2.out (j := 0) rfl
    have o1 : wr.drew.cell? ⟨bb, 1, none⟩ = some (.bool y.d) := cell_at HX2.out (j := 1) rfl
    have o2 : wr.drew.cell? ⟨bb, 2, none⟩ = some (.int .i64 y.t) := cell_at HX2.out (j := 2) rfl
    have o3 : wr.drew.cell? ⟨bb, 3, none⟩ = some (.int .i64 y.m) := cell_at HX2.out (j := 3) rfl
    have o4 : wr.drew.cell? ⟨bb, 4, none⟩ = some (.slice ea y.ds.length ec) := cell_at HX2.out (j := 4) rfl
    refine regionQ (fun w' => w'.cell? ⟨ba, 0, none⟩ = some (.int .i64 x.k) ∧ w'.cell? ⟨ba, 1, none⟩ = some (.bool x.d) ∧ w'.cell? ⟨ba, 2, none⟩ = some (.int .i64 x.t) ∧ w'.cell? ⟨ba, 3, none⟩ = some (.int .i64 x.m) ∧ w'.cell? ⟨ba, 4, none⟩ = some (.slice da x.ds.length dc) ∧ w'.cell? ⟨bb, 0, none⟩ = some (.int .i64 y.k) ∧ w'.cell? ⟨bb, 1, none⟩ = some (.bool y.d) ∧ w'.cell? ⟨bb, 2, none⟩ = some (.int .i64 y.t) ∧ w'.cell? ⟨bb, 3, none⟩ = some (.int .i64 y.m) ∧ w'.cell? ⟨bb, 4, none⟩ = some (.slice ea y.ds.length ec)) (by kernel_rfl) (⟨p0, p1, p2, p3, p4, o0, o1, o2, o3, o4⟩) (fun Qn hPQ hQn hS0 => ?_)
    refine takeQ (i := 0) (d := some 20) (v := ?_) rfl rfl (by kernel_rfl) (by kernel_rfl) (by kernel_rfl) hPQ hS0 (by kernel_rfl) ?_ ?_
    rotate_left
    · (intro w hSw; (try dsimp only at hSw); obtain ⟨k0, k1, k2, k3, k4, l0, l1, l2, l3, l4⟩ := hSw; go_simp; (try with_reducible rfl))
    (try simp only [Act.put, List.setIfInBounds_toArray, List.set_cons_zero, List.set_cons_succ])
    refine takeQ (i := 1) (d := some 21) (v := ?_) rfl rfl (by kernel_rfl) (by kernel_rfl) (by kernel_rfl) hPQ hS0 (by kernel_rfl) ?_ ?_
    rotate_left
    · (intro w hSw; (try dsimp only at hSw); obtain ⟨k0, k1, k2, k3, k4, l0, l1, l2, l3, l4⟩ := hSw; go_simp; (try with_reducible rfl))
    (try simp only [Act.put, List.setIfInBounds_toArray, List.set_cons_zero, List.set_cons_succ])
    refine takeQ (i := 2) (d := some 22) (v := ?_) rfl rfl (by kernel_rfl) (by kernel_rfl) (by kernel_rfl) hPQ hS0 (by kernel_rfl) ?_ ?_
    rotate_left
    · (intro w hSw; (try dsimp only at hSw); obtain ⟨k0, k1, k2, k3, k4, l0, l1, l2, l3, l4⟩ := hSw; go_simp; (try with_reducible rfl))
    (try simp only [Act.put, List.setIfInBounds_toArray, List.set_cons_zero, List.set_cons_succ])
    refine takeQ (i := 3) (d := some 23) (v := ?_) rfl rfl (by kernel_rfl) (by kernel_rfl) (by kernel_rfl) hPQ hS0 (by kernel_rfl) ?_ ?_
    rotate_left
    · (intro w hSw; (try dsimp only at hSw); obtain ⟨k0, k1, k2, k3, k4, l0, l1, l2, l3, l4⟩ := hSw; go_simp; (try with_reducible rfl))
    (try simp only [Act.put, List.setIfInBounds_toArray, List.set_cons_zero, List.set_cons_succ])
    refine takeQ (i := 4) (d := some 24) (v := ?_) rfl rfl (by kernel_rfl) (by kernel_rfl) (by kernel_rfl) hPQ hS0 (by kernel_rfl) ?_ ?_
    rotate_left
    · (intro w hSw; (try dsimp only at hSw); obtain ⟨k0, k1, k2, k3, k4, l0, l1, l2, l3, l4⟩ := hSw; go_simp; (try with_reducible rfl))
    (try simp only [Act.put, List.setIfInBounds_toArray, List.set_cons_zero, List.set_cons_succ])
    refine takeQ (i := 5) (d := some 25) (v := ?_) rfl rfl (by kernel_rfl) (by kernel_rfl) (by kernel_rfl) hPQ hS0 (by kernel_rfl) ?_ ?_
    rotate_left
    · (intro w hSw; (try dsimp only at hSw); obtain ⟨k0, k1, k2, k3, k4, l0, l1, l2, l3, l4⟩ := hSw; go_simp; (try with_reducible rfl))
    (try simp only [Act.put, List.setIfInBounds_toArray, List.set_cons_zero, List.set_cons_succ])
    refine takeQ (i := 6) (d := some 26) (v := ?_) rfl rfl (by kernel_rfl) (by kernel_rfl) (by kernel_rfl) hPQ hS0 (by kernel_rfl) ?_ ?_
    rotate_left
    · (intro w hSw; (try dsimp only at hSw); obtain ⟨k0, k1, k2, k3, k4, l0, l1, l2, l3, l4⟩ := hSw; go_simp; (try with_reducible rfl))
    (try simp only [Act.put, List.setIfInBounds_toArray, List.set_cons_zero, List.set_cons_succ])
    refine takeQ (i := 7) (d := some 27) (v := ?_) rfl rfl (by kernel_rfl) (by kernel_rfl) (by kernel_rfl) hPQ hS0 (by kernel_rfl) ?_ ?_
    rotate_left
    · (intro w hSw; (try dsimp only at hSw); obtain ⟨k0, k1, k2, k3, k4, l0, l1, l2, l3, l4⟩ := hSw; go_simp; (try with_reducible rfl))
    (try simp only [Act.put, List.setIfInBounds_toArray, List.set_cons_zero, List.set_cons_succ])
    refine wpAnyH_ready (rs := [8, 9]) (by kernel_rfl) (by simp) ?_
    refine AllReadyH.cons (o := _) rfl (fun K hK => ?_) (AllReadyH.cons (o := _) rfl (fun K hK => ?_) AllReadyH.nil)
    go_simp
    have BA : Hid (Below wr.heap.size wr ((wr.alloc (.cells #[.int .i64 0, .bool false, .int .i64 0, .int .i64 0, .slice none 0 0] 31)).drew)) := ((Below.refl _ _).alloc (Nat.le_refl _) _).drew
    have XA : ((wr.alloc (.cells #[.int .i64 0, .bool false, .int .i64 0, .int .i64 0, .slice none 0 0] 31)).drew).heap[wr.heap.size]? = some (.cells #[.int .i64 0, .bool false, .int .i64 0, .int .i64 0, .slice none 0 0] 31 (0, 0)) := World.alloc_heap_new wr _
    obtain ⟨V1, hV1⟩ : ∃ v, (wr.alloc (.cells #[.int .i64 0, .bool false, .int .i64 0, .int .i64 0, .slice none 0 0] 31)).drew = v := ⟨_, rfl⟩
    rw [hV1] at BA XA ⊢
    clear hV1
    obtain ⟨P6, hP6⟩ : ∃ b, wr.heap.size = b := ⟨_, rfl⟩
    have gP6 : wr.heap.size ≤ P6 := by omega
    have L1 := lt_of_block XA
    rw [hP6] at XA L1 ⊢
    have XP6 := Lib.hid XA
    clear XA hP6
    have r0 := cellB BA.out p0 lba
    have r1 := cellB BA.out p1 lba
    have r2 := cellB BA.out p2 lba
    have r3 := cellB BA.out p3 lba
    have r4 := cellB BA.out p4 lba
    have s0 := cellB BA.out o0 lbb
    have s1 := cellB BA.out o1 lbb
    have s2 := cellB BA.out o2 lbb
    have s3 := cellB BA.out o3 lbb
    have s4 := cellB BA.out o4 lbb
    refine hK.out _ _ (⟨r0, r1, r2, r3, r4, s0, s1, s2, s3, s4⟩) (fun hS1 => ?_)
    clear hK K hS0
    (try simp only [Act.put, List.setIfInBounds_toArray, List.set_cons_zero, List.set_cons_succ])
    refine wpAnyH_ready (rs := [9]) (by kernel_rfl) (by simp) ?_
    refine AllReadyH.cons (o := _) rfl (fun K hK => ?_) AllReadyH.nil
    go_simp
    have BC : Hid (Below wr.heap.size wr (V1.alloc (.cells #[.int .i64 0, .bool false, .int .i64 0, .int .i64 0, .slice none 0 0] 31))) := BA.out.alloc BA.out.size _
    have XC := World.alloc_heap_new V1 (.cells #[.int .i64 0, .bool false, .int .i64 0, .int .i64 0, .slice none 0 0] 31)
    have XP6 := Lib.hid ((((Below.refl V1.heap.size V1).alloc (Nat.le_refl _) (.cells #[.int .i64 0, .bool false, .int .i64 0, .int .i64 0, .slice none 0 0] 31)).block P6 L1).trans XP6.out)
    obtain ⟨V2, hV2⟩ : ∃ v, V1.alloc (.cells #[.int .i64 0, .bool false, .int .i64 0, .int .i64 0, .slice none 0 0] 31) = v := ⟨_, rfl⟩
    rw [hV2] at BC XC XP6 ⊢
    clear hV2
    obtain ⟨Q7, hQ7⟩ : ∃ b, V1.heap.size = b := ⟨_, rfl⟩
    have gQ7 : wr.heap.size ≤ Q7 := by have := BA.out.size; omega
    have hne : Q7 ≠ P6 := by omega
    rw [hQ7] at XC ⊢
    have XQ7 := Lib.hid XC
    clear XC hQ7 L1
    have t0 := cellB BC.out p0 lba
    have t1 := cellB BC.out p1 lba
    have t2 := cellB BC.out p2 lba
    have t3 := cellB BC.out p3 lba
    have t4 := cellB BC.out p4 lba
    have u0 := cellB BC.out o0 lbb
    have u1 := cellB BC.out o1 lbb
    have u2 := cellB BC.out o2 lbb
    have u3 := cellB BC.out o3 lbb
    have u4 := cellB BC.out o4 lbb
    have a0 := cell_at XP6.out (j := 0) (v := .int .i64 0) rfl
    have a1 := cell_at XP6.out (j := 1) (v := .bool false) rfl
    have a2 := cell_at XP6.out (j := 2) (v := .int .i64 0) rfl
    have a3 := cell_at XP6.out (j := 3) (v := .int .i64 0) rfl
    have a4 := cell_at XP6.out (j := 4) (v := .slice none 0 0) rfl
    have f0 := frozen_at XP6.out 0
    have f1 := frozen_at XP6.out 1
    have f2 := frozen_at XP6.out 2
    have f3 := frozen_at XP6.out 3
    have f4 := frozen_at XP6.out 4
    refine hK.out _ _ (⟨t0, t1, t2, t3, t4, u0, u1, u2, u3, u4⟩) (fun hS2 => ?_)
    clear hK K hS1
    (try simp only [Act.put, List.setIfInBounds_toArray, List.set_cons_zero, List.set_cons_succ])
    refine wpAnyH_ready (rs := [10]) (by kernel_rfl) (by simp) ?_
    refine AllReadyH.cons (o := _) rfl (fun K hK => ?_) AllReadyH.nil
    go_simp
    obtain ⟨V3, EF, BF, KF, XF⟩ := set5 V2 P6 _ _ _ _ _ (.int .i64 x.k) (.bool x.d) (.int .i64 x.t) (.int .i64 x.m) (.slice da x.ds.length dc) _ XP6.out
    rw [EF]
    have BG : Hid (Below wr.heap.size wr V3) := BC.out.trans (BF.out.mono gP6)
    have XQ7v := Lib.hid ((KF.out Q7 (by omega)).trans XQ7.out)
    have XFv := XF
    clear EF BF KF XF a0 a1 a2 a3 a4 f0 f1 f2 f3 f4
    have v0 := cellB BG.out p0 lba
    have v1 := cellB BG.out p1 lba
    have v2 := cellB BG.out p2 lba
    have v3 := cellB BG.out p3 lba
    have v4 := cellB BG.out p4 lba
    have z0 := cellB BG.out o0 lbb
    have z1 := cellB BG.out o1 lbb
    have z2 := cellB BG.out o2 lbb
    have z3 := cellB BG.out o3 lbb
    have z4 := cellB BG.out o4 lbb
    have a0 := cell_at XQ7v.out (j := 0) (v := .int .i64 0) rfl
    have a1 := cell_at XQ7v.out (j := 1) (v := .bool false) rfl
    have a2 := cell_at XQ7v.out (j := 2) (v := .int .i64 0) rfl
    have a3 := cell_at XQ7v.out (j := 3) (v := .int .i64 0) rfl
    have a4 := cell_at XQ7v.out (j := 4) (v := .slice none 0 0) rfl
    have f0 := frozen_at XQ7v.out 0
    have f1 := frozen_at XQ7v.out 1
    have f2 := frozen_at XQ7v.out 2
    have f3 := frozen_at XQ7v.out 3
    have f4 := frozen_at XQ7v.out 4
    have XP6w := XFv
    clear XFv XP6 XQ7
    refine hK.out _ _ (⟨v0, v1, v2, v3, v4, z0, z1, z2, z3, z4⟩) (fun hS3 => ?_)
    clear hK K hS2
    (try simp only [Act.put, List.setIfInBounds_toArray, List.set_cons_zero, List.set_cons_succ])
    refine wpAnyH_ready (rs := [11]) (by kernel_rfl) (by simp) ?_
    refine AllReadyH.cons (o := _) rfl (fun K hK => ?_) AllReadyH.nil
    go_simp
    have XP6 := XP6w
    have XQ7 := XQ7v
    clear XP6w XQ7v
    obtain ⟨V4, EF, BF, KF, XF⟩ := set5 V3 Q7 _ _ _ _ _ (.int .i64 y.k) (.bool y.d) (.int .i64 y.t) (.int .i64 y.m) (.slice ea y.ds.length ec) _ XQ7.out
    rw [EF]
    have BH : Hid (Below wr.heap.size wr V4) := BG.out.trans (BF.out.mono gQ7)
    have XP6v := Lib.hid ((KF.out P6 (by omega)).trans XP6.out)
    have XFv := XF
    clear EF BF KF XF a0 a1 a2 a3 a4 f0 f1 f2 f3 f4
    have v0 := cellB BH.out p0 lba
    have v1 := cellB BH.out p1 lba
    have v2 := cellB BH.out p2 lba
    have v3 := cellB BH.out p3 lba
    have v4 := cellB BH.out p4 lba
    have z0 := cellB BH.out o0 lbb
    have z1 := cellB BH.out o1 lbb
    have z2 := cellB BH.out o2 lbb
    have z3 := cellB BH.out o3 lbb
    have z4 := cellB BH.out o4 lbb
    have XQ7w := XFv
    clear XFv XP6 XQ7
    refine hK.out _ _ (⟨v0, v1, v2, v3, v4, z0, z1, z2, z3, z4⟩) (fun hS4 => ?_)
    clear hK K hS3
    (try simp only [Act.put, List.setIfInBounds_toArray, List.set_cons_zero, List.set_cons_succ])
    refine wpAnyH_done (by kernel_rfl) (hQn.out _ _ ?_) _
    clear hS4 hPQ hQn Qn
    rotate_left
    go_simp
    have BA : Hid (Below wr.heap.size wr ((wr.alloc (.cells #[.int .i64 0, .bool false, .int .i64 0, .int .i64 0, .slice none 0 0] 31)).drew)) := ((Below.refl _ _).alloc (Nat.le_refl _) _).drew
    have XA : ((wr.alloc (.cells #[.int .i64 0, .bool false, .int .i64 0, .int .i64 0, .slice none 0 0] 31)).drew).heap[wr.heap.size]? = some (.cells #[.int .i64 0, .bool false, .int .i64 0, .int .i64 0, .slice none 0 0] 31 (0, 0)) := World.alloc_heap_new wr _
    obtain ⟨V1, hV1⟩ : ∃ v, (wr.alloc (.cells #[.int .i64 0, .bool false, .int .i64 0, .int .i64 0, .slice none 0 0] 31)).drew = v := ⟨_, rfl⟩
    rw [hV1] at BA XA ⊢
    clear hV1
    obtain ⟨Q7, hQ7⟩ : ∃ b, wr.heap.size = b := ⟨_, rfl⟩
    have gQ7 : wr.heap.size ≤ Q7 := by omega
    have L1 := lt_of_block XA
    rw [hQ7] at XA L1 ⊢
    have XQ7 := Lib.hid XA
    clear XA hQ7
    have r0 := cellB BA.out p0 lba
    have r1 := cellB BA.out p1 lba
    have r2 := cellB BA.out p2 lba
    have r3 := cellB BA.out p3 lba
    have r4 := cellB BA.out p4 lba
    have s0 := cellB BA.out o0 lbb
    have s1 := cellB BA.out o1 lbb
    have s2 := cellB BA.out o2 lbb
    have s3 := cellB BA.out o3 lbb
    have s4 := cellB BA.out o4 lbb
    refine hK.out _ _ (⟨r0, r1, r2, r3, r4, s0, s1, s2, s3, s4⟩) (fun hS1 => ?_)
    clear hK K hS0
    (try simp only [Act.put, List.setIfInBounds_toArray, List.set_cons_zero, List.set_cons_succ])
    refine wpAnyH_ready (rs := [8]) (by kernel_rfl) (by simp) ?_
    refine AllReadyH.cons (o := _) rfl (fun K hK => ?_) AllReadyH.nil
    go_simp
    have BC : Hid (Below wr.heap.size wr (V1.alloc (.cells #[.int .i64 0, .bool false, .int .i64 0, .int .i64 0, .slice none 0 0] 31))) := BA.out.alloc BA.out.size _
    have XC := World.alloc_heap_new V1 (.cells #[.int .i64 0, .bool false, .int .i64 0, .int .i64 0, .slice none 0 0] 31)
    have XQ7 := Lib.hid ((((Below.refl V1.heap.size V1).alloc (Nat.le_refl _) (.cells #[.int .i64 0, .bool false, .int .i64 0, .int .i64 0, .slice none 0 0] 31)).block Q7 L1).trans XQ7.out)
    obtain ⟨V2, hV2⟩ : ∃ v, V1.alloc (.cells #[.int .i64 0, .bool false, .int .i64 0, .int .i64 0, .slice none 0 0] 31) = v := ⟨_, rfl⟩
    rw [hV2] at BC XC XQ7 ⊢
    clear hV2
    obtain ⟨P6, hP6⟩ : ∃ b, V1.heap.size = b := ⟨_, rfl⟩
    have gP6 : wr.heap.size ≤ P6 := by have := BA.out.size; omega
    have hne : P6 ≠ Q7 := by omega
    rw [hP6] at XC ⊢
    have XP6 := Lib.hid XC
    clear XC hP6 L1
    have t0 := cellB BC.out p0 lba
    have t1 := cellB BC.out p1 lba
    have t2 := cellB BC.out p2 lba
    have t3 := cellB BC.out p3 lba
    have t4 := cellB BC.out p4 lba
    have u0 := cellB BC.out o0 lbb
    have u1 := cellB BC.out o1 lbb
    have u2 := cellB BC.out o2 lbb
    have u3 := cellB BC.out o3 lbb
    have u4 := cellB BC.out o4 lbb
    have a0 := cell_at XP6.out (j := 0) (v := .int .i64 0) rfl
    have a1 := cell_at XP6.out (j := 1) (v := .bool false) rfl
    have a2 := cell_at XP6.out (j := 2) (v := .int .i64 0) rfl
    have a3 := cell_at XP6.out (j := 3) (v := .int .i64 0) rfl
    have a4 := cell_at XP6.out (j := 4) (v := .slice none 0 0) rfl
    have f0 := frozen_at XP6.out 0
    have f1 := frozen_at XP6.out 1
    have f2 := frozen_at XP6.out 2
    have f3 := frozen_at XP6.out 3
    have f4 := frozen_at XP6.out 4
    refine hK.out _ _ (⟨t0, t1, t2, t3, t4, u0, u1, u2, u3, u4⟩) (fun hS2 => ?_)
    clear hK K hS1
    (try simp only [Act.put, List.setIfInBounds_toArray, List.set_cons_zero, List.set_cons_succ])
    refine wpAnyH_ready (rs := [10]) (by kernel_rfl) (by simp) ?_
    refine AllReadyH.cons (o := _) rfl (fun K hK => ?_) AllReadyH.nil
    go_simp
    obtain ⟨V3, EF, BF, KF, XF⟩ := set5 V2 P6 _ _ _ _ _ (.int .i64 x.k) (.bool x.d) (.int .i64 x.t) (.int .i64 x.m) (.slice da x.ds.length dc) _ XP6.out
    rw [EF]
    have BG : Hid (Below wr.heap.size wr V3) := BC.out.trans (BF.out.mono gP6)
    have XQ7v := Lib.hid ((KF.out Q7 (by omega)).trans XQ7.out)
    have XFv := XF
    clear EF BF KF XF a0 a1 a2 a3 a4 f0 f1 f2 f3 f4
    have v0 := cellB BG.out p0 lba
    have v1 := cellB BG.out p1 lba
    have v2 := cellB BG.out p2 lba
    have v3 := cellB BG.out p3 lba
    have v4 := cellB BG.out p4 lba
    have z0 := cellB BG.out o0 lbb
    have z1 := cellB BG.out o1 lbb
    have z2 := cellB BG.out o2 lbb
    have z3 := cellB BG.out o3 lbb
    have z4 := cellB BG.out o4 lbb
    have a0 := cell_at XQ7v.out (j := 0) (v := .int .i64 0) rfl
    have a1 := cell_at XQ7v.out (j := 1) (v := .bool false) rfl
    have a2 := cell_at XQ7v.out (j := 2) (v := .int .i64 0) rfl
    have a3 := cell_at XQ7v.out (j := 3) (v := .int .i64 0) rfl
    have a4 := cell_at XQ7v.out (j := 4) (v := .slice none 0 0) rfl
    have f0 := frozen_at XQ7v.out 0
    have f1 := frozen_at XQ7v.out 1
    have f2 := frozen_at XQ7v.out 2
    have f3 := frozen_at XQ7v.out 3
    have f4 := frozen_at XQ7v.out 4
    have XP6w := XFv
    clear XFv XP6 XQ7
    refine hK.out _ _ (⟨v0, v1, v2, v3, v4, z0, z1, z2, z3, z4⟩) (fun hS3 => ?_)
    clear hK K hS2
    (try simp only [Act.put, List.setIfInBounds_toArray, List.set_cons_zero, List.set_cons_succ])
    refine wpAnyH_ready (rs := [11]) (by kernel_rfl) (by simp) ?_
    refine AllReadyH.cons (o := _) rfl (fun K hK => ?_) AllReadyH.nil
    go_simp
    have XP6 := XP6w
    have XQ7 := XQ7v
    clear XP6w XQ7v
    obtain ⟨V4, EF, BF, KF, XF⟩ := set5 V3 Q7 _ _ _ _ _ (.int .i64 y.k) (.bool y.d) (.int .i64 y.t) (.int .i64 y.m) (.slice ea y.ds.length ec) _ XQ7.out
    rw [EF]
    have BH : Hid (Below wr.heap.size wr V4) := BG.out.trans (BF.out.mono gQ7)
    have XP6v := Lib.hid ((KF.out P6 (by omega)).trans XP6.out)
    have XFv := XF
    clear EF BF KF XF a0 a1 a2 a3 a4 f0 f1 f2 f3 f4
    have v0 := cellB BH.out p0 lba
    have v1 := cellB BH.out p1 lba
    have v2 := cellB BH.out p2 lba
    have v3 := cellB BH.out p3 lba
    have v4 := cellB BH.out p4 lba
    have z0 := cellB BH.out o0 lbb
    have z1 := cellB BH.out o1 lbb
    have z2 := cellB BH.out o2 lbb
    have z3 := cellB BH.out o3 lbb
    have z4 := cellB BH.out o4 lbb
    have XQ7w := XFv
    clear XFv XP6 XQ7
    refine hK.out _ _ (⟨v0, v1, v2, v3, v4, z0, z1, z2, z3, z4⟩) (fun hS4 => ?_)
    clear hK K hS3
    (try simp only [Act.put, List.setIfInBounds_toArray, List.set_cons_zero, List.set_cons_succ])
    refine wpAnyH_done (by kernel_rfl) (hQn.out _ _ ?_) _
    clear hS4 hPQ hQn Qn
    rotate_left
    all_goals
      clear r0 r1 r2 r3 r4
      clear s0 s1 s2 s3 s4
      clear t0 t1 t2 t3 t4
      clear u0 u1 u2 u3 u4
      clear v0 v1 v2 v3 v4
      clear z0 z1 z2 z3 z4
      clear p0 p1 p2 p3 p4
      clear o0 o1 o2 o3 o4
      clear BA BC BG BD
      have p0 := cell_at XP6v.out (j := 0) (v := .int .i64 x.k) rfl
      have p1 := cell_at XP6v.out (j := 1) (v := .bool x.d) rfl
      have p2 := cell_at XP6v.out (j := 2) (v := .int .i64 x.t) rfl
      have p3 := cell_at XP6v.out (j := 3) (v := .int .i64 x.m) rfl
      have p4 := cell_at XP6v.out (j := 4) (v := .slice da x.ds.length dc) rfl
      have o0 := cell_at XQ7w.out (j := 0) (v := .int .i64 y.k) rfl
      have o1 := cell_at XQ7w.out (j := 1) (v := .bool y.d) rfl
      have o2 := cell_at XQ7w.out (j := 2) (v := .int .i64 y.t) rfl
      have o3 := cell_at XQ7w.out (j := 3) (v := .int .i64 y.m) rfl
      have o4 := cell_at XQ7w.out (j := 4) (v := .slice ea y.ds.length ec) rfl
      cases hc0 : (x.k == y.k) with
      | false =>
        have K : (x.k != y.k) = true := by simp [bne, hc0]
        have e3 : Hid (E = false) := by unfold Hid; rw [← HE.out, hc0]; simp
        go_wp2_with fail
        exact ret_b (HR.out _ BH.out) rfl e3.out
      | true =>
        have K0 : (x.k != y.k) = false := by simp [bne, hc0]
        cases hc1 : (x.d == y.d) with
        | false =>
          have K : (x.d != y.d) = true := by simp [bne, hc1]
          have e3 : Hid (E = false) := by unfold Hid; rw [← HE.out, hc0, hc1]; simp
          go_wp2_with fail
          exact ret_b (HR.out _ BH.out) rfl e3.out
        | true =>
          have K1 : (x.d != y.d) = false := by simp [bne, hc1]
          cases hc2 : (x.t == y.t) with
          | false =>
            have K : (x.t != y.t) = true := by simp [bne, hc2]
            have e3 : Hid (E = false) := by unfold Hid; rw [← HE.out, hc0, hc1, hc2]; simp
            go_wp2_with fail
            exact ret_b (HR.out _ BH.out) rfl e3.out
          | true =>
            have K2 : (x.t != y.t) = false := by simp [bne, hc2]
            cases hc3 : (x.m == y.m) with
            | false =>
              have K : (x.m != y.m) = true := by simp [bne, hc3]
              have e3 : Hid (E = false) := by unfold Hid; rw [← HE.out, hc0, hc1, hc2, hc3]; simp
              go_wp2_with fail
              exact ret_b (HR.out _ BH.out) rfl e3.out
            | true =>
              have K3 : (x.m != y.m) = false := by simp [bne, hc3]
              have HE2 : Hid (lsD x.ds y.ds = E) := by unfold Hid; rw [← HE.out, hc0, hc1, hc2, hc3]; simp
              clear HE
              by_cases hl : x.ds.length = y.ds.length
              rotate_left
              · have K : ((x.ds.length : Int) != (y.ds.length : Int)) = true := by simpa using (by omega : ¬ (x.ds.length : Int) = (y.ds.length : Int))
                have e3 : Hid (E = false) := by unfold Hid; rw [← HE2.out]; unfold lsD; rw [decide_eq_false hl]; rfl
                clear hl
                go_wp2_with fail
                exact ret_b (HR.out _ BH.out) rfl e3.out
              have XQ8 : Hid (V4.heap[Q7]? = some (.cells #[.int .i64 y.k, .bool y.d, .int .i64 y.t, .int .i64 y.m, .slice ea x.ds.length ec] 31 (0, 0))) := by unfold Hid; rw [hl]; exact XQ7w.out
              clear XQ7w o4
              have o4 := cell_at XQ8.out (j := 4) (v := .slice ea x.ds.length ec) rfl
              have HE3 : Hid ((!(anyN (neD x.ds y.ds) x.ds.length)) = E) := by unfold Hid; rw [← HE2.out]; unfold lsD; rw [decide_eq_true hl]; rfl
              have HL := Lib.hid hl
              clear hl HE2 hc0 hc2 hc3
              go_wp2_with fail
              clear hc1 K0 K1 K2 K3 p0 o0 p1 o1 p2 o2 p3 o3 p4 o4
              obtain ⟨wo, hwo⟩ : ∃ wo, wo = wr := ⟨_, rfl⟩
              subst hwo
              go_loopw [8] (fun j wr => ∃ i : Nat, i ≤ x.ds.length ∧ j = .int .i64 i ∧ Hid (Below V4.heap.size V4 wr) ∧ Hid (anyN (neD x.ds y.ds) i = false)) (fun j _ => x.ds.length - (intOf j).toNat)
              case atStart => exact ⟨0, Nat.zero_le _, rfl, Below.refl _ _, rfl⟩
              case round =>
                obtain ⟨i, hi, rfl, HB2, HA⟩ := hrel
                have k0 := cell_at XP6v.out (j := 0) (v := .int .i64 x.k) rfl
                have k1 := cell_at XP6v.out (j := 1) (v := .bool x.d) rfl
                have k2 := cell_at XP6v.out (j := 2) (v := .int .i64 x.t) rfl
                have k3 := cell_at XP6v.out (j := 3) (v := .int .i64 x.m) rfl
                have k4 := cell_at XP6v.out (j := 4) (v := .slice da x.ds.length dc) rfl
                have l0 := cell_at XQ8.out (j := 0) (v := .int .i64 y.k) rfl
                have l1 := cell_at XQ8.out (j := 1) (v := .bool y.d) rfl
                have l2 := cell_at XQ8.out (j := 2) (v := .int .i64 y.t) rfl
                have l3 := cell_at XQ8.out (j := 3) (v := .int .i64 y.m) rfl
                have l4 := cell_at XQ8.out (j := 4) (v := .slice ea x.ds.length ec) rfl
                have p4 := cellB HB2.out k4 (lt_of_cell k4)
                have o4 := cellB HB2.out l4 (lt_of_cell l4)
                clear k0 l0 k1 l1 k2 l2 k3 l3 k4 l4
                have B2 : Hid (Below wo.heap.size wo wr) := BH.out.trans (HB2.out.mono BH.out.size)
                by_cases hlt : i < x.ds.length
                · obtain ⟨bx, ox, ex, hbx, hdX⟩ := HOX.out.cells.dts (by omega)
                  have hlt2 : i < y.ds.length := by have := HL.out; omega
                  obtain ⟨bY, oY, eY, hbY, hdY⟩ := HOY.out.cells.dts (by omega)
                  obtain ⟨a0, a1⟩ := hdX i hlt
                  obtain ⟨b0, b1⟩ := hdY i hlt2
                  have g0 := cellB B2.out a0 hbx
                  have g1 := cellB B2.out a1 hbx
                  have h0 := cellB B2.out b0 hbY
                  have h1 := cellB B2.out b1 hbY
                  have hq : Hid (neD x.ds y.ds i = !((dtAt x.ds i).n.toList == (dtAt y.ds i).n.toList && (dtAt x.ds i).m == (dtAt y.ds i).m)) := rfl
                  obtain ⟨u, hu⟩ : ∃ u, (dtAt x.ds i).n = u := ⟨_, rfl⟩
                  obtain ⟨v, hv⟩ : ∃ u, (dtAt y.ds i).n = u := ⟨_, rfl⟩
                  obtain ⟨s, hs⟩ : ∃ u, (dtAt x.ds i).m = u := ⟨_, rfl⟩
                  obtain ⟨t, ht⟩ : ∃ u, (dtAt y.ds i).m = u := ⟨_, rfl⟩
                  rw [hu] at g0
                  rw [hs] at g1
                  rw [hv] at h0
                  rw [ht] at h1
                  rw [hu, hv, hs, ht] at hq
                  clear hu hv hs ht a0 a1 b0 b1 hdX hdY
                  rw [ex] at p4
                  rw [eY] at o4
                  clear ex eY
                  have eqd := eq_dat u v s t
                  have egd := guard_dat
                  cases hb : (u.toList == v.toList && s == t) with
                  | true =>
                    rw [hb] at eqd hq
                    go_wp2_with fail
                    go_quiet (fail)
                    go_wp2_with fail
                    exact ⟨⟨i + 1, by omega, by go_num, HB2.out.trans ⟨rfl, rfl, rfl, Nat.le_refl _, fun _ _ => rfl⟩, anyN_step HA.out hq⟩, by simp [intOf]; omega⟩
                  | false =>
                    rw [hb] at eqd hq
                    have e3 : Hid (E = false) := by unfold Hid; rw [← HE3.out, anyN_true hlt hq]; rfl
                    go_wp2_with fail
                    go_quiet (fail)
                    go_wp2_with fail
                    exact ret_b (HR.out _ (B2.out.trans ⟨rfl, rfl, rfl, Nat.le_refl _, fun _ _ => rfl⟩)) rfl e3.out
                · obtain rfl : i = x.ds.length := by omega
                  have e3 : E = true := by rw [← HE3.out, HA.out]; rfl
                  go_wp2_with fail
                  exact ⟨.inr ⟨by go_num, B2, e3⟩, by simp [intOf]⟩
end Go.Proofs.YtciokmjhdbcmpaaGreatDoor
namespace Go.Proofs.YtciokmjhdbcmpaaGreatDoor
open Go.RowKit

set_option maxRecDepth 100000 in
set_option maxHeartbeats 4000000 in
theorem rsame_any (x y : Fm) (da ea : Option Addr) (dc ec : Nat) (w : World) (R : Ending → World → Prop) (hox : FmOk w x da dc) (hoy : FmOk w y ea ec) (hdx : x.ds.length ≤ 1000000) (hdy : y.ds.length ≤ 1000000)
   (hR : ∀ w', Below w.heap.size w w' → R (.returned (.bool (smB x y))) w') :
    Calls Tryz.prog 27 #[fmV x da dc, fmV y ea ec] w R := by
  have HR := Lib.hid hR
  have HOX := Lib.hid hox
  have HOY := Lib.hid hoy
  clear hR hox hoy
  have HXV : Hid (fmV x da dc = .agg #[.int .i64 x.k, .bool x.d, .int .i64 x.t, .int .i64 x.m, .slice da x.ds.length dc]) := rfl
  have HYV : Hid (fmV y ea ec = .agg #[.int .i64 y.k, .bool y.d, .int .i64 y.t, .int .i64 y.m, .slice ea y.ds.length ec]) := rfl
  rw [HXV.out, HYV.out]
  obtain ⟨w1, E1, HB1, s1, X1⟩ := box_ex w #[.int .i64 x.k, .bool x.d, .int .i64 x.t, .int .i64 x.m, .slice da x.ds.length dc] 31
  obtain ⟨w2, E2, HB2, s2, X2⟩ := box_ex w1 #[.int .i64 y.k, .bool y.d, .int .i64 y.t, .int .i64 y.m, .slice ea y.ds.length ec] 31
  have BW0 : Hid (Below w.heap.size w w2) := HB1.out.trans (HB2.out.mono (Nat.le_of_lt s1))
  have HX1 := Lib.hid ((HB2.out.block _ s1).trans X1.out)
  have HX2 := X2
  clear X1 X2
  have p0 := cell_at HX1.out (j := 0) (v := .int .i64 x.k) rfl
  have p1 := cell_at HX1.out (j := 1) (v := .bool x.d) rfl
  have p2 := cell_at HX1.out (j := 2) (v := .int .i64 x.t) rfl
  have p3 := cell_at HX1.out (j := 3) (v := .int .i64 x.m) rfl
  have p4 := cell_at HX1.out (j := 4) (v := .slice da x.ds.length dc) rfl
  have o0 := cell_at HX2.out (j := 0) (v := .int .i64 y.k) rfl
  have o1 := cell_at HX2.out (j := 1) (v := .bool y.d) rfl
  have o2 := cell_at HX2.out (j := 2) (v := .int .i64 y.t) rfl
  have o3 := cell_at HX2.out (j := 3) (v := .int .i64 y.m) rfl
  have o4 := cell_at HX2.out (j := 4) (v := .slice ea y.ds.length ec) rfl
  obtain ⟨w3, E3, HB3, s3, X3⟩ := box_ex w2 #[.int .i64 x.k, .bool x.d, .int .i64 x.t, .int .i64 x.m, .slice da x.ds.length dc] 31
  obtain ⟨w4, E4, HB4, s4, X4⟩ := box_ex w3 #[.int .i64 y.k, .bool y.d, .int .i64 y.t, .int .i64 y.m, .slice ea y.ds.length ec] 31
  have BW4 : Hid (Below w.heap.size w w4) := BW0.out.trans ((HB3.out.trans (HB4.out.mono (Nat.le_of_lt s3))).mono BW0.out.size)
  have q0 := cellB HB3.out o0 (lt_of_cell o0)
  have q1 := cellB HB3.out o1 (lt_of_cell o1)
  have q2 := cellB HB3.out o2 (lt_of_cell o2)
  have q3 := cellB HB3.out o3 (lt_of_cell o3)
  have q4 := cellB HB3.out o4 (lt_of_cell o4)
  have X3b := Lib.hid ((HB4.out.block _ s3).trans X3.out)
  have X4b := X4
  clear X3 X4 s3 s4
  go_enter Tryz.func27, Tryz.ntmps27
  skip
  go_wp2_with (first | rw [E1] | rw [E2] | rw [E3] | rw [E4])
  (try rw [E3])
  (try rw [E4])
  refine rsame1_any x y da ea dc ec _ _ _ _ _ _ (HOX.out.below BW4.out) (HOY.out.below BW4.out) hdx hdy X3b.out X4b.out fun W1 hb => ?_
  have BW5 : Hid (Below w.heap.size w W1) := BW4.out.trans (hb.mono BW4.out.size)
  clear hb E1 E2 E3 E4 q0 q1 q2 q3 q4 p0 o0 p1 o1 p2 o2 p3 o3 p4 o4
  go_wp2_with fail
  exact HR.out _ BW5.out
end Go.Proofs.YtciokmjhdbcmpaaGreatDoor
namespace Go.Proofs.YtciokmjhdbcmpaaGreatDoor
open Go.RowKit

theorem anyN_none {q : Nat → Bool} : ∀ {n : Nat}, (∀ i, i < n → q i = false) → anyN q n = false
  | 0, _ => rfl
  | n + 1, h => by rw [anyN, anyN_none (fun i hi => h i (by omega)), h n (by omega)]; rfl
theorem anyN_each {q : Nat → Bool} : ∀ {n : Nat}, anyN q n = false → ∀ i, i < n → q i = false
  | n + 1, h, i, hi => by
    rw [anyN, Bool.or_eq_false_iff] at h
    by_cases e : i = n
    · subst e; exact h.2
    · exact anyN_each h.1 i (by omega)
theorem dt_eq {u v : Dt} (h : (u.n.toList == v.n.toList && u.m == v.m) = true) : u = v := by
  obtain ⟨a, b⟩ := u
  obtain ⟨c, d⟩ := v
  simp only [Bool.and_eq_true, beq_iff_eq] at h
  obtain ⟨h1, rfl⟩ := h
  rw [ByteArray.toList_eq, ByteArray.toList_eq] at h1
  rw [bsB_eq h1]
theorem lsD_self (xs : List Dt) : lsD xs xs = true := by
  unfold lsD
  rw [decide_eq_true rfl, anyN_none (fun i _ => by unfold neD dtQ; simp)]
  rfl
theorem lsD_eq {xs ys : List Dt} (h : lsD xs ys = true) : xs = ys := by
  unfold lsD at h
  rw [Bool.and_eq_true, decide_eq_true_eq, Bool.not_eq_true'] at h
  refine List.ext_getElem h.1 fun i h1 h2 => ?_
  have e := anyN_each h.2 i h1
  unfold neD dtQ at e
  rw [Bool.not_eq_false'] at e
  have e2 := dt_eq e
  rwa [dtAt_lt h1, dtAt_lt h2] at e2
theorem smB_self (x : Fm) : smB x x = true := by unfold smB; rw [lsD_self]; simp
theorem smB_eq {x y : Fm} (h : smB x y = true) : x = y := by
  obtain ⟨a, b, c, d, e⟩ := x
  obtain ⟨a', b', c', d', e'⟩ := y
  unfold smB at h
  simp only [Bool.and_eq_true, beq_iff_eq] at h
  obtain ⟨rfl, rfl, rfl, rfl, h5⟩ := h
  rw [lsD_eq h5]
theorem tx_same {x y : Fm} (hx : plE x = 0) (hy : plE y = 0) : ((bsB (txL x)).toList == (bsB (txL y)).toList) = smB x y := by
  rw [ByteArray.toList_eq, ByteArray.toList_eq, data_bsB, data_bsB]
  cases h : smB x y with
  | true => rw [smB_eq h]; simp
  | false =>
    rw [beq_eq_false_iff_ne]
    intro e
    rw [txL_inj hx hy e, smB_self] at h
    cases h
theorem fewF_len {x : Fm} (h : fewF x = true) : x.ds.length ≤ 6 := by
  unfold fewF fewB at h
  simp [anyN, lfQ, fmAt] at h
  omega
set_option maxRecDepth 100000 in
set_option maxHeartbeats 16000000 in
theorem lawFrameReads (x y : Fm) (da ea : Option Addr) (dc ec : Nat) (w : World) (R : Ending → World → Prop) (hox : FmOk w x da dc) (hoy : FmOk w y ea ec) (hE : Env w)
   (hR : ∀ w', Below w.heap.size w w' → R (.returned (.bool true)) w') :
    Calls Tryz.prog 7 #[fmV x da dc, fmV y ea ec] w R := by
  have HR := Lib.hid hR
  have HOX := Lib.hid hox
  have HOY := Lib.hid hoy
  have HEV := Lib.hid hE
  clear hR hox hoy hE
  have HXV : Hid (fmV x da dc = .agg #[.int .i64 x.k, .bool x.d, .int .i64 x.t, .int .i64 x.m, .slice da x.ds.length dc]) := rfl
  have HYV : Hid (fmV y ea ec = .agg #[.int .i64 y.k, .bool y.d, .int .i64 y.t, .int .i64 y.m, .slice ea y.ds.length ec]) := rfl
  rw [HXV.out, HYV.out]
  obtain ⟨w1, E1, HB1, s1, X1⟩ := box_ex w #[.int .i64 x.k, .bool x.d, .int .i64 x.t, .int .i64 x.m, .slice da x.ds.length dc] 31
  obtain ⟨w2, E2, HB2, s2, X2⟩ := box_ex w1 #[.int .i64 y.k, .bool y.d, .int .i64 y.t, .int .i64 y.m, .slice ea y.ds.length ec] 31
  have BW0 : Hid (Below w.heap.size w w2) := HB1.out.trans (HB2.out.mono (Nat.le_of_lt s1))
  have HX1 := Lib.hid ((HB2.out.block _ s1).trans X1.out)
  have HX2 := X2
  clear X1 X2
  have p0 := cell_at HX1.out (j := 0) (v := .int .i64 x.k) rfl
  have p1 := cell_at HX1.out (j := 1) (v := .bool x.d) rfl
  have p2 := cell_at HX1.out (j := 2) (v := .int .i64 x.t) rfl
  have p3 := cell_at HX1.out (j := 3) (v := .int .i64 x.m) rfl
  have p4 := cell_at HX1.out (j := 4) (v := .slice da x.ds.length dc) rfl
  have o0 := cell_at HX2.out (j := 0) (v := .int .i64 y.k) rfl
  have o1 := cell_at HX2.out (j := 1) (v := .bool y.d) rfl
  have o2 := cell_at HX2.out (j := 2) (v := .int .i64 y.t) rfl
  have o3 := cell_at HX2.out (j := 3) (v := .int .i64 y.m) rfl
  have o4 := cell_at HX2.out (j := 4) (v := .slice ea y.ds.length ec) rfl
  go_enter Tryz.func7, Tryz.ntmps7
  obtain ⟨FX, hFX⟩ : ∃ b, fewF x = b := ⟨_, rfl⟩
  obtain ⟨FY, hFY⟩ : ∃ b, fewF y = b := ⟨_, rfl⟩
  have HFX := Lib.hid hFX
  have HFY := Lib.hid hFY
  clear hFX hFY
  obtain ⟨E, hEE⟩ : ∃ E, plE x = E := ⟨_, rfl⟩
  obtain ⟨G, hG⟩ : ∃ E, plE y = E := ⟨_, rfl⟩
  have HEE := Lib.hid hEE
  have HG := Lib.hid hG
  clear hEE hG
  go_wp2_with (first | rw [E1] | rw [E2])
  rw [← HXV.out]
  refine few19_any x da dc _ _ (HOX.out.below BW0.out) fun W1 hb => ?_
  rw [HFX.out]
  have BW1 : Hid (Below w.heap.size w W1) := BW0.out.trans (hb.mono BW0.out.size)
  have HX1 := Lib.hid ((hb.block _ (lt_of_block HX1.out)).trans HX1.out)
  have HX2 := Lib.hid ((hb.block _ (lt_of_block HX2.out)).trans HX2.out)
  clear hb
  clear p0 p1 p2 p3 p4 o0 o1 o2 o3 o4
  have p0 := cell_at HX1.out (j := 0) (v := .int .i64 x.k) rfl
  have p1 := cell_at HX1.out (j := 1) (v := .bool x.d) rfl
  have p2 := cell_at HX1.out (j := 2) (v := .int .i64 x.t) rfl
  have p3 := cell_at HX1.out (j := 3) (v := .int .i64 x.m) rfl
  have p4 := cell_at HX1.out (j := 4) (v := .slice da x.ds.length dc) rfl
  have o0 := cell_at HX2.out (j := 0) (v := .int .i64 y.k) rfl
  have o1 := cell_at HX2.out (j := 1) (v := .bool y.d) rfl
  have o2 := cell_at HX2.out (j := 2) (v := .int .i64 y.t) rfl
  have o3 := cell_at HX2.out (j := 3) (v := .int .i64 y.m) rfl
  have o4 := cell_at HX2.out (j := 4) (v := .slice ea y.ds.length ec) rfl
  clear E1 E2
  cases FX with
  | false =>
    go_wp2_with fail
    refine awake19_any _ _ (HEV.out.below BW1.out) fun WZ hb => ?_
    have BZ : Hid (Below w.heap.size w WZ) := BW1.out.trans (hb.mono BW1.out.size)
    clear p0 p1 p2 p3 p4 o0 o1 o2 o3 o4
    clear hb
    go_wp2_with fail
    exact HR.out _ BZ.out
  | true =>
    go_wp2_with fail
    rw [← HYV.out]
    refine few19_any y ea ec _ _ (HOY.out.below BW1.out) fun W2 hb => ?_
    rw [HFY.out]
    have BW2 : Hid (Below w.heap.size w W2) := BW1.out.trans (hb.mono BW1.out.size)
    have HX1 := Lib.hid ((hb.block _ (lt_of_block HX1.out)).trans HX1.out)
    have HX2 := Lib.hid ((hb.block _ (lt_of_block HX2.out)).trans HX2.out)
    clear hb
    clear p0 p1 p2 p3 p4 o0 o1 o2 o3 o4
    have p0 := cell_at HX1.out (j := 0) (v := .int .i64 x.k) rfl
    have p1 := cell_at HX1.out (j := 1) (v := .bool x.d) rfl
    have p2 := cell_at HX1.out (j := 2) (v := .int .i64 x.t) rfl
    have p3 := cell_at HX1.out (j := 3) (v := .int .i64 x.m) rfl
    have p4 := cell_at HX1.out (j := 4) (v := .slice da x.ds.length dc) rfl
    have o0 := cell_at HX2.out (j := 0) (v := .int .i64 y.k) rfl
    have o1 := cell_at HX2.out (j := 1) (v := .bool y.d) rfl
    have o2 := cell_at HX2.out (j := 2) (v := .int .i64 y.t) rfl
    have o3 := cell_at HX2.out (j := 3) (v := .int .i64 y.m) rfl
    have o4 := cell_at HX2.out (j := 4) (v := .slice ea y.ds.length ec) rfl
    cases FY with
    | false =>
      go_wp2_with fail
      refine awake19_any _ _ (HEV.out.below BW2.out) fun WZ hb => ?_
      have BZ : Hid (Below w.heap.size w WZ) := BW2.out.trans (hb.mono BW2.out.size)
      clear p0 p1 p2 p3 p4 o0 o1 o2 o3 o4
      clear hb
      go_wp2_with fail
      exact HR.out _ BZ.out
    | true =>
      go_wp2_with fail
      rw [← HXV.out]
      refine rplain_any x da dc _ _ (HOX.out.below BW2.out) fun W3 hb => ?_
      rw [HEE.out]
      have BW3 : Hid (Below w.heap.size w W3) := BW2.out.trans (hb.mono BW2.out.size)
      have HX1 := Lib.hid ((hb.block _ (lt_of_block HX1.out)).trans HX1.out)
      have HX2 := Lib.hid ((hb.block _ (lt_of_block HX2.out)).trans HX2.out)
      clear hb
      clear p0 p1 p2 p3 p4 o0 o1 o2 o3 o4
      have p0 := cell_at HX1.out (j := 0) (v := .int .i64 x.k) rfl
      have p1 := cell_at HX1.out (j := 1) (v := .bool x.d) rfl
      have p2 := cell_at HX1.out (j := 2) (v := .int .i64 x.t) rfl
      have p3 := cell_at HX1.out (j := 3) (v := .int .i64 x.m) rfl
      have p4 := cell_at HX1.out (j := 4) (v := .slice da x.ds.length dc) rfl
      have o0 := cell_at HX2.out (j := 0) (v := .int .i64 y.k) rfl
      have o1 := cell_at HX2.out (j := 1) (v := .bool y.d) rfl
      have o2 := cell_at HX2.out (j := 2) (v := .int .i64 y.t) rfl
      have o3 := cell_at HX2.out (j := 3) (v := .int .i64 y.m) rfl
      have o4 := cell_at HX2.out (j := 4) (v := .slice ea y.ds.length ec) rfl
      by_cases e0 : E = 0
      rotate_left
      · have K : (E != 0) = true := by simpa using e0
        clear e0
        go_wp2_with fail
        refine awake19_any _ _ (HEV.out.below BW3.out) fun WZ hb => ?_
        have BZ : Hid (Below w.heap.size w WZ) := BW3.out.trans (hb.mono BW3.out.size)
        clear p0 p1 p2 p3 p4 o0 o1 o2 o3 o4
        clear hb
        go_wp2_with fail
        exact HR.out _ BZ.out
      subst e0
      go_wp2_with fail
      rw [← HYV.out]
      refine rplain_any y ea ec _ _ (HOY.out.below BW3.out) fun W4 hb => ?_
      rw [HG.out]
      have BW4 : Hid (Below w.heap.size w W4) := BW3.out.trans (hb.mono BW3.out.size)
      have HX1 := Lib.hid ((hb.block _ (lt_of_block HX1.out)).trans HX1.out)
      have HX2 := Lib.hid ((hb.block _ (lt_of_block HX2.out)).trans HX2.out)
      clear hb
      clear p0 p1 p2 p3 p4 o0 o1 o2 o3 o4
      have p0 := cell_at HX1.out (j := 0) (v := .int .i64 x.k) rfl
      have p1 := cell_at HX1.out (j := 1) (v := .bool x.d) rfl
      have p2 := cell_at HX1.out (j := 2) (v := .int .i64 x.t) rfl
      have p3 := cell_at HX1.out (j := 3) (v := .int .i64 x.m) rfl
      have p4 := cell_at HX1.out (j := 4) (v := .slice da x.ds.length dc) rfl
      have o0 := cell_at HX2.out (j := 0) (v := .int .i64 y.k) rfl
      have o1 := cell_at HX2.out (j := 1) (v := .bool y.d) rfl
      have o2 := cell_at HX2.out (j := 2) (v := .int .i64 y.t) rfl
      have o3 := cell_at HX2.out (j := 3) (v := .int .i64 y.m) rfl
      have o4 := cell_at HX2.out (j := 4) (v := .slice ea y.ds.length ec) rfl
      by_cases g0 : G = 0
      rotate_left
      · have K : (G != 0) = true := by simpa using g0
        clear g0
        go_wp2_with fail
        refine awake19_any _ _ (HEV.out.below BW4.out) fun WZ hb => ?_
        have BZ : Hid (Below w.heap.size w WZ) := BW4.out.trans (hb.mono BW4.out.size)
        clear p0 p1 p2 p3 p4 o0 o1 o2 o3 o4
        clear hb
        go_wp2_with fail
        exact HR.out _ BZ.out
      subst g0
      have hlx := plE_few HEE.out
      have hly := plE_few HG.out
      have hts := tx_same HEE.out HG.out
      have hpa := pa_hit HEE.out (by have := txL_len HEE.out; omega)
      rw [← data_bsB (txL x)] at hpa
      have hsz : (bsB (txL x)).size ≤ 1000000 := by rw [Lib.size_eq, data_bsB]; have := txL_len HEE.out; omega
      have htx : teS x = bsB (txL x) := by unfold teS; rw [HEE.out, if_pos rfl]
      have hty : teS y = bsB (txL y) := by unfold teS; rw [HG.out, if_pos rfl]
      obtain ⟨TX, hTX⟩ : ∃ t, bsB (txL x) = t := ⟨_, rfl⟩
      obtain ⟨TY, hTY⟩ : ∃ t, bsB (txL y) = t := ⟨_, rfl⟩
      rw [hTX] at hts hpa hsz htx
      rw [hTY] at hts hty
      have HTX := Lib.hid htx
      have HTY := Lib.hid hty
      have HPX := Lib.hid hpa.1
      have HPE := Lib.hid hpa.2
      have HSX := Lib.hid (smB_self x)
      obtain ⟨Q, hQ⟩ : ∃ q, smB x y = q := ⟨_, rfl⟩
      rw [hQ] at hts
      have HQ := Lib.hid hQ
      have HTS := Lib.hid hts
      clear htx hty hpa hTX hTY hQ hts
      go_wp2_with fail
      rw [← HXV.out]
      refine ftext_any x da dc _ _ (HOX.out.below BW4.out) (HEV.out.below BW4.out) fun W5 hb => ?_
      rw [HTX.out, HEE.out]
      have BW5 : Hid (Below w.heap.size w W5) := BW4.out.trans (hb.mono BW4.out.size)
      have HX1 := Lib.hid ((hb.block _ (lt_of_block HX1.out)).trans HX1.out)
      have HX2 := Lib.hid ((hb.block _ (lt_of_block HX2.out)).trans HX2.out)
      clear hb
      clear p0 p1 p2 p3 p4 o0 o1 o2 o3 o4
      have p0 := cell_at HX1.out (j := 0) (v := .int .i64 x.k) rfl
      have p1 := cell_at HX1.out (j := 1) (v := .bool x.d) rfl
      have p2 := cell_at HX1.out (j := 2) (v := .int .i64 x.t) rfl
      have p3 := cell_at HX1.out (j := 3) (v := .int .i64 x.m) rfl
      have p4 := cell_at HX1.out (j := 4) (v := .slice da x.ds.length dc) rfl
      have o0 := cell_at HX2.out (j := 0) (v := .int .i64 y.k) rfl
      have o1 := cell_at HX2.out (j := 1) (v := .bool y.d) rfl
      have o2 := cell_at HX2.out (j := 2) (v := .int .i64 y.t) rfl
      have o3 := cell_at HX2.out (j := 3) (v := .int .i64 y.m) rfl
      have o4 := cell_at HX2.out (j := 4) (v := .slice ea y.ds.length ec) rfl
      go_wp2_with fail
      rw [← HYV.out]
      refine ftext_any y ea ec _ _ (HOY.out.below BW5.out) (HEV.out.below BW5.out) fun W6 hb => ?_
      rw [HTY.out, HG.out]
      have BW6 : Hid (Below w.heap.size w W6) := BW5.out.trans (hb.mono BW5.out.size)
      have HX1 := Lib.hid ((hb.block _ (lt_of_block HX1.out)).trans HX1.out)
      have HX2 := Lib.hid ((hb.block _ (lt_of_block HX2.out)).trans HX2.out)
      clear hb
      clear p0 p1 p2 p3 p4 o0 o1 o2 o3 o4
      have p0 := cell_at HX1.out (j := 0) (v := .int .i64 x.k) rfl
      have p1 := cell_at HX1.out (j := 1) (v := .bool x.d) rfl
      have p2 := cell_at HX1.out (j := 2) (v := .int .i64 x.t) rfl
      have p3 := cell_at HX1.out (j := 3) (v := .int .i64 x.m) rfl
      have p4 := cell_at HX1.out (j := 4) (v := .slice da x.ds.length dc) rfl
      have o0 := cell_at HX2.out (j := 0) (v := .int .i64 y.k) rfl
      have o1 := cell_at HX2.out (j := 1) (v := .bool y.d) rfl
      have o2 := cell_at HX2.out (j := 2) (v := .int .i64 y.t) rfl
      have o3 := cell_at HX2.out (j := 3) (v := .int .i64 y.m) rfl
      have o4 := cell_at HX2.out (j := 4) (v := .slice ea y.ds.length ec) rfl
      go_wp2_with fail
      refine fparse_any TX _ _ hsz (HEV.out.below BW6.out) fun ba bc W7 hb hfm => ?_
      rw [HPX.out, HPE.out]
      rw [HPX.out] at hfm
      have HOB := Lib.hid hfm
      clear hfm
      have HBV : Hid (fmV x ba bc = .agg #[.int .i64 x.k, .bool x.d, .int .i64 x.t, .int .i64 x.m, .slice ba x.ds.length bc]) := rfl
      rw [HBV.out]
      have BW7 : Hid (Below w.heap.size w W7) := BW6.out.trans (hb.mono BW6.out.size)
      have HX1 := Lib.hid ((hb.block _ (lt_of_block HX1.out)).trans HX1.out)
      have HX2 := Lib.hid ((hb.block _ (lt_of_block HX2.out)).trans HX2.out)
      clear hb
      clear p0 p1 p2 p3 p4 o0 o1 o2 o3 o4
      have p0 := cell_at HX1.out (j := 0) (v := .int .i64 x.k) rfl
      have p1 := cell_at HX1.out (j := 1) (v := .bool x.d) rfl
      have p2 := cell_at HX1.out (j := 2) (v := .int .i64 x.t) rfl
      have p3 := cell_at HX1.out (j := 3) (v := .int .i64 x.m) rfl
      have p4 := cell_at HX1.out (j := 4) (v := .slice da x.ds.length dc) rfl
      have o0 := cell_at HX2.out (j := 0) (v := .int .i64 y.k) rfl
      have o1 := cell_at HX2.out (j := 1) (v := .bool y.d) rfl
      have o2 := cell_at HX2.out (j := 2) (v := .int .i64 y.t) rfl
      have o3 := cell_at HX2.out (j := 3) (v := .int .i64 y.m) rfl
      have o4 := cell_at HX2.out (j := 4) (v := .slice ea y.ds.length ec) rfl
      obtain ⟨wA, EA, HBA, sA, XA⟩ := box_ex W7 #[.int .i64 0, .bool false, .int .i64 0, .int .i64 0, .slice none 0 0] 31
      obtain ⟨wB, EB, HBB, KB, XB⟩ := set5 wA W7.heap.size _ _ _ _ _ (.int .i64 x.k) (.bool x.d) (.int .i64 x.t) (.int .i64 x.m) (.slice ba x.ds.length bc) _ XA.out
      have z0 := cell_at XA.out (j := 0) (v := .int .i64 0) rfl
      have z1 := cell_at XA.out (j := 1) (v := .bool false) rfl
      have z2 := cell_at XA.out (j := 2) (v := .int .i64 0) rfl
      have z3 := cell_at XA.out (j := 3) (v := .int .i64 0) rfl
      have z4 := cell_at XA.out (j := 4) (v := .slice none 0 0) rfl
      have y0 := frozen_at XA.out 0
      have y1 := frozen_at XA.out 1
      have y2 := frozen_at XA.out 2
      have y3 := frozen_at XA.out 3
      have y4 := frozen_at XA.out 4
      have BWA : Hid (Below W7.heap.size W7 wB) := HBA.out.trans HBB.out
      have BW8 : Hid (Below w.heap.size w wB) := BW7.out.trans (BWA.out.mono BW7.out.size)
      have HOB2 := Lib.hid (HOB.out.below BWA.out)
      clear p0 o0 p1 o1 p2 o2 p3 o3 p4 o4
      have HX1 := Lib.hid ((BWA.out.block _ (lt_of_block HX1.out)).trans HX1.out)
      have HX2 := Lib.hid ((BWA.out.block _ (lt_of_block HX2.out)).trans HX2.out)
      have HX3 := XB
      clear XB KB HBA HBB HOB
      skip
      have p0 := cell_at HX1.out (j := 0) (v := .int .i64 x.k) rfl
      have p1 := cell_at HX1.out (j := 1) (v := .bool x.d) rfl
      have p2 := cell_at HX1.out (j := 2) (v := .int .i64 x.t) rfl
      have p3 := cell_at HX1.out (j := 3) (v := .int .i64 x.m) rfl
      have p4 := cell_at HX1.out (j := 4) (v := .slice da x.ds.length dc) rfl
      have o0 := cell_at HX2.out (j := 0) (v := .int .i64 y.k) rfl
      have o1 := cell_at HX2.out (j := 1) (v := .bool y.d) rfl
      have o2 := cell_at HX2.out (j := 2) (v := .int .i64 y.t) rfl
      have o3 := cell_at HX2.out (j := 3) (v := .int .i64 y.m) rfl
      have o4 := cell_at HX2.out (j := 4) (v := .slice ea y.ds.length ec) rfl
      have v0 := cell_at HX3.out (j := 0) (v := .int .i64 x.k) rfl
      have v1 := cell_at HX3.out (j := 1) (v := .bool x.d) rfl
      have v2 := cell_at HX3.out (j := 2) (v := .int .i64 x.t) rfl
      have v3 := cell_at HX3.out (j := 3) (v := .int .i64 x.m) rfl
      have v4 := cell_at HX3.out (j := 4) (v := .slice ba x.ds.length bc) rfl
      go_wp2_with (first | rw [EA] | rw [EB])
      clear EA EB z0 y0 z1 y1 z2 y2 z3 y3 z4 y4
      rw [← HBV.out]
      rw [← HXV.out]
      refine rsame_any x x ba da bc dc _ _ (HOB2.out) (HOX.out.below BW8.out) (by omega) (by omega) fun W9 hb => ?_
      rw [HSX.out]
      have BW9 : Hid (Below w.heap.size w W9) := BW8.out.trans (hb.mono BW8.out.size)
      have HX1 := Lib.hid ((hb.block _ (lt_of_block HX1.out)).trans HX1.out)
      have HX2 := Lib.hid ((hb.block _ (lt_of_block HX2.out)).trans HX2.out)
      have HX3 := Lib.hid ((hb.block _ (lt_of_block HX3.out)).trans HX3.out)
      clear hb
      clear p0 p1 p2 p3 p4 o0 o1 o2 o3 o4 v0 v1 v2 v3 v4
      have p0 := cell_at HX1.out (j := 0) (v := .int .i64 x.k) rfl
      have p1 := cell_at HX1.out (j := 1) (v := .bool x.d) rfl
      have p2 := cell_at HX1.out (j := 2) (v := .int .i64 x.t) rfl
      have p3 := cell_at HX1.out (j := 3) (v := .int .i64 x.m) rfl
      have p4 := cell_at HX1.out (j := 4) (v := .slice da x.ds.length dc) rfl
      have o0 := cell_at HX2.out (j := 0) (v := .int .i64 y.k) rfl
      have o1 := cell_at HX2.out (j := 1) (v := .bool y.d) rfl
      have o2 := cell_at HX2.out (j := 2) (v := .int .i64 y.t) rfl
      have o3 := cell_at HX2.out (j := 3) (v := .int .i64 y.m) rfl
      have o4 := cell_at HX2.out (j := 4) (v := .slice ea y.ds.length ec) rfl
      have v0 := cell_at HX3.out (j := 0) (v := .int .i64 x.k) rfl
      have v1 := cell_at HX3.out (j := 1) (v := .bool x.d) rfl
      have v2 := cell_at HX3.out (j := 2) (v := .int .i64 x.t) rfl
      have v3 := cell_at HX3.out (j := 3) (v := .int .i64 x.m) rfl
      have v4 := cell_at HX3.out (j := 4) (v := .slice ba x.ds.length bc) rfl
      go_wp2_with fail
      rw [← HXV.out]
      refine fsame_any x x da da dc dc _ _ (HOX.out.below BW9.out) (HOX.out.below BW9.out) (by omega) (by omega) fun W10 hb => ?_
      rw [HSX.out]
      have BW10 : Hid (Below w.heap.size w W10) := BW9.out.trans (hb.mono BW9.out.size)
      have HX1 := Lib.hid ((hb.block _ (lt_of_block HX1.out)).trans HX1.out)
      have HX2 := Lib.hid ((hb.block _ (lt_of_block HX2.out)).trans HX2.out)
      have HX3 := Lib.hid ((hb.block _ (lt_of_block HX3.out)).trans HX3.out)
      clear hb
      clear p0 p1 p2 p3 p4 o0 o1 o2 o3 o4 v0 v1 v2 v3 v4
      have p0 := cell_at HX1.out (j := 0) (v := .int .i64 x.k) rfl
      have p1 := cell_at HX1.out (j := 1) (v := .bool x.d) rfl
      have p2 := cell_at HX1.out (j := 2) (v := .int .i64 x.t) rfl
      have p3 := cell_at HX1.out (j := 3) (v := .int .i64 x.m) rfl
      have p4 := cell_at HX1.out (j := 4) (v := .slice da x.ds.length dc) rfl
      have o0 := cell_at HX2.out (j := 0) (v := .int .i64 y.k) rfl
      have o1 := cell_at HX2.out (j := 1) (v := .bool y.d) rfl
      have o2 := cell_at HX2.out (j := 2) (v := .int .i64 y.t) rfl
      have o3 := cell_at HX2.out (j := 3) (v := .int .i64 y.m) rfl
      have o4 := cell_at HX2.out (j := 4) (v := .slice ea y.ds.length ec) rfl
      have v0 := cell_at HX3.out (j := 0) (v := .int .i64 x.k) rfl
      have v1 := cell_at HX3.out (j := 1) (v := .bool x.d) rfl
      have v2 := cell_at HX3.out (j := 2) (v := .int .i64 x.t) rfl
      have v3 := cell_at HX3.out (j := 3) (v := .int .i64 x.m) rfl
      have v4 := cell_at HX3.out (j := 4) (v := .slice ba x.ds.length bc) rfl
      have K := HTS.out
      cases Q with
      | true =>
        go_wp2_with fail
        rw [← HXV.out]
        rw [← HYV.out]
        refine rsame_any x y da ea dc ec _ _ (HOX.out.below BW10.out) (HOY.out.below BW10.out) (by omega) (by omega) fun W11 hb => ?_
        rw [HQ.out]
        have BW11 : Hid (Below w.heap.size w W11) := BW10.out.trans (hb.mono BW10.out.size)
        have HX1 := Lib.hid ((hb.block _ (lt_of_block HX1.out)).trans HX1.out)
        have HX2 := Lib.hid ((hb.block _ (lt_of_block HX2.out)).trans HX2.out)
        have HX3 := Lib.hid ((hb.block _ (lt_of_block HX3.out)).trans HX3.out)
        clear hb
        clear p0 p1 p2 p3 p4 o0 o1 o2 o3 o4 v0 v1 v2 v3 v4
        have p0 := cell_at HX1.out (j := 0) (v := .int .i64 x.k) rfl
        have p1 := cell_at HX1.out (j := 1) (v := .bool x.d) rfl
        have p2 := cell_at HX1.out (j := 2) (v := .int .i64 x.t) rfl
        have p3 := cell_at HX1.out (j := 3) (v := .int .i64 x.m) rfl
        have p4 := cell_at HX1.out (j := 4) (v := .slice da x.ds.length dc) rfl
        have o0 := cell_at HX2.out (j := 0) (v := .int .i64 y.k) rfl
        have o1 := cell_at HX2.out (j := 1) (v := .bool y.d) rfl
        have o2 := cell_at HX2.out (j := 2) (v := .int .i64 y.t) rfl
        have o3 := cell_at HX2.out (j := 3) (v := .int .i64 y.m) rfl
        have o4 := cell_at HX2.out (j := 4) (v := .slice ea y.ds.length ec) rfl
        have v0 := cell_at HX3.out (j := 0) (v := .int .i64 x.k) rfl
        have v1 := cell_at HX3.out (j := 1) (v := .bool x.d) rfl
        have v2 := cell_at HX3.out (j := 2) (v := .int .i64 x.t) rfl
        have v3 := cell_at HX3.out (j := 3) (v := .int .i64 x.m) rfl
        have v4 := cell_at HX3.out (j := 4) (v := .slice ba x.ds.length bc) rfl
        go_wp2_with fail
        refine awake19_any _ _ (HEV.out.below BW11.out) fun WZ hb => ?_
        have BZ : Hid (Below w.heap.size w WZ) := BW11.out.trans (hb.mono BW11.out.size)
        clear p0 p1 p2 p3 p4 o0 o1 o2 o3 o4 v0 v1 v2 v3 v4
        clear hb
        go_wp2_with fail
        exact HR.out _ BZ.out
      | false =>
        go_wp2_with fail
        rw [← HXV.out]
        rw [← HYV.out]
        refine rsame_any x y da ea dc ec _ _ (HOX.out.below BW10.out) (HOY.out.below BW10.out) (by omega) (by omega) fun W11 hb => ?_
        rw [HQ.out]
        have BW11 : Hid (Below w.heap.size w W11) := BW10.out.trans (hb.mono BW10.out.size)
        have HX1 := Lib.hid ((hb.block _ (lt_of_block HX1.out)).trans HX1.out)
        have HX2 := Lib.hid ((hb.block _ (lt_of_block HX2.out)).trans HX2.out)
        have HX3 := Lib.hid ((hb.block _ (lt_of_block HX3.out)).trans HX3.out)
        clear hb
        clear p0 p1 p2 p3 p4 o0 o1 o2 o3 o4 v0 v1 v2 v3 v4
        have p0 := cell_at HX1.out (j := 0) (v := .int .i64 x.k) rfl
        have p1 := cell_at HX1.out (j := 1) (v := .bool x.d) rfl
        have p2 := cell_at HX1.out (j := 2) (v := .int .i64 x.t) rfl
        have p3 := cell_at HX1.out (j := 3) (v := .int .i64 x.m) rfl
        have p4 := cell_at HX1.out (j := 4) (v := .slice da x.ds.length dc) rfl
        have o0 := cell_at HX2.out (j := 0) (v := .int .i64 y.k) rfl
        have o1 := cell_at HX2.out (j := 1) (v := .bool y.d) rfl
        have o2 := cell_at HX2.out (j := 2) (v := .int .i64 y.t) rfl
        have o3 := cell_at HX2.out (j := 3) (v := .int .i64 y.m) rfl
        have o4 := cell_at HX2.out (j := 4) (v := .slice ea y.ds.length ec) rfl
        have v0 := cell_at HX3.out (j := 0) (v := .int .i64 x.k) rfl
        have v1 := cell_at HX3.out (j := 1) (v := .bool x.d) rfl
        have v2 := cell_at HX3.out (j := 2) (v := .int .i64 x.t) rfl
        have v3 := cell_at HX3.out (j := 3) (v := .int .i64 x.m) rfl
        have v4 := cell_at HX3.out (j := 4) (v := .slice ba x.ds.length bc) rfl
        go_wp2_with fail
        refine awake19_any _ _ (HEV.out.below BW11.out) fun WZ hb => ?_
        have BZ : Hid (Below w.heap.size w WZ) := BW11.out.trans (hb.mono BW11.out.size)
        clear p0 p1 p2 p3 p4 o0 o1 o2 o3 o4 v0 v1 v2 v3 v4
        clear hb
        go_wp2_with fail
        exact HR.out _ BZ.out
end Go.Proofs.YtciokmjhdbcmpaaGreatDoor
