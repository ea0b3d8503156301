/- The walk of the law CompleteMeasures. (Printed by gen_measlaw.py.) -/
import Derived.Test.YtlgjhjgdmomfoaaMdn
import Derived.Test.YtlgjhjgdmomfoaaMck
import Derived.Test.YtlgjhjgdmomfoaaDza
namespace Go.Proofs.Ytlgjhjgdmomfoaa
open Go.RowKit Go.Maps

theorem imX_len (vs : List Dm) (ax : Int) : (imX vs ax).length ≤ 1000 := by
  unfold imX
  by_cases e : giE vs ax = 0
  · rw [if_pos e]
    split
    · have := imF_len vs ax vs.length; have := giE_len e; omega
    · simp
  · rw [if_neg e]; simp
theorem impliedY_any (ao : Option Addr) (vs : List Dm) (c : Nat) (ax : Int) (w : World) (R : Ending → World → Prop) (hl : vs.length ≤ 9223372036854775807) (hc : CellsAt w ao (dC vs)) (hv : DmsOk vs)
   (hR : ∀ a c' w', Below w.heap.size w w' → CellsAt w' a (dI (imX vs ax)) → R (.returned (.tuple #[.slice a (imX vs ax).length c', .int .i64 (imE vs ax)])) w') :
    Calls Try.prog 16 #[.slice ao vs.length c, .int .i64 ax] w R :=
  implied_any ao vs c ax w R hl hc hv fun v w' hb ho => by
    obtain ⟨a, c', rfl, h, _⟩ := ownsRow_read ho
    exact hR a c' w' hb h
theorem rimpliedY_any (ao : Option Addr) (vs : List Dm) (c : Nat) (ax : Int) (w : World) (R : Ending → World → Prop) (hl : vs.length ≤ 9223372036854775807) (hcl : vs.length ≤ c) (hc : CellsAt w ao (dC vs)) (hv : DmsOk vs)
   (hR : ∀ a c' w', Below w.heap.size w w' → CellsAt w' a (dI (imX vs ax)) → R (.returned (.tuple #[.slice a (imX vs ax).length c', .int .i64 (imE vs ax)])) w') :
    Calls Try.prog 17 #[.slice ao vs.length c, .int .i64 ax] w R :=
  rimplied_any ao vs c ax w R hl hcl hc hv fun v w' hb ho => by
    obtain ⟨a, c', rfl, h, _⟩ := ownsRow_read ho
    exact hR a c' w' hb h
set_option maxRecDepth 100000 in
set_option maxHeartbeats 8000000 in
theorem lawMeasures_any (ao : Option Addr) (vs : List Dm) (c : Nat) (s t : ByteArray) (ax : Int) (w : World) (R : Ending → World → Prop) (hl : vs.length ≤ 9223372036854775807) (hcl : vs.length ≤ c) (hs : s.size ≤ 9223372036854775807) (ht : t.size ≤ 9223372036854775807) (hc : CellsAt w ao (dC vs)) (hv : DmsOk vs)
   (hR : ∀ w', Below w.heap.size w w' → R (.returned (.bool true)) w') :
    Calls Try.prog 4 #[.slice ao vs.length c, .agg #[.string s, .string t], .int .i64 ax] w R := by
  have HR := Lib.hid hR
  have HV := Lib.hid hv
  obtain ⟨w0, E0, U0, s0, X⟩ := box_ex w #[.string s, .string t] 35
  have D := Lib.hid (hc.below U0.out)
  clear hR hc hv
  obtain ⟨F, hF⟩ : ∃ F, Hid (fw22 vs = F) := ⟨_, rfl⟩
  have l3 := imX_len vs ax
  go_enter Try.func4, Try.ntmps4
  go_wp2_with (rw [E0])
  refine rfew22_any ao vs c _ _ hl D.out HV.out ?_
  rw [hF.out]
  intro w1 hb
  have U1 := Lib.hid (U0.out.trans (hb.mono U0.out.size))
  have D := Lib.hid (D.out.below hb)
  have X := Lib.hid (blk_box X.out hb s0)
  have q0 := cell_of X.out (j := 0) (v := .string s) rfl
  have q1 := cell_of X.out (j := 1) (v := .string t) rfl
  clear hb E0
  cases F with
  | false =>
    go_wp2_with fail
    refine awake22_any _ _ ?_
    intro w2 hb
    have U2 := Lib.hid (U1.out.trans (hb.mono U1.out.size))
    clear hb
    go_wp2_with fail
    exact HR.out _ U2.out
  | true =>
    by_cases h1 : 60 < s.size
    · have e1 : (60 : Int) < (s.size : Int) := by omega
      go_wp2_with fail
      refine awake22_any _ _ ?_
      intro w2 hb
      have U2 := Lib.hid (U1.out.trans (hb.mono U1.out.size))
      clear hb
      go_wp2_with fail
      exact HR.out _ U2.out
    · by_cases h2 : 60 < t.size
      · have e1 : (60 : Int) < (t.size : Int) := by omega
        go_wp2_with fail
        refine awake22_any _ _ ?_
        intro w2 hb
        have U2 := Lib.hid (U1.out.trans (hb.mono U1.out.size))
        clear hb
        go_wp2_with fail
        exact HR.out _ U2.out
      · obtain ⟨d1, hd1⟩ : ∃ d, (dsX vs ax s t).1 = d := ⟨_, rfl⟩
        obtain ⟨d2, hd2⟩ : ∃ d, (dsX vs ax s t).2.1 = d := ⟨_, rfl⟩
        obtain ⟨d3, hd3⟩ : ∃ d, (dsX vs ax s t).2.2 = d := ⟨_, rfl⟩
        have K1 : (d1 == d1) = true := by simp
        have K2 : (d2 == d2) = true := by simp
        have K3 : (d3 == d3) = true := by simp
        go_wp2_with fail
        refine distance_any ao vs c ax s t _ _ hl D.out HV.out (by omega) (by omega) ?_
        rw [hd1, hd2, hd3]
        intro w2 hb
        have U2 := Lib.hid (U1.out.trans (hb.mono U1.out.size))
        have D := Lib.hid (D.out.below hb)
        have X := Lib.hid (blk_box X.out hb (lt_of_block X.out))
        clear hb
        obtain ⟨w3, E3, B3, s3, Y⟩ := box_ex w2 #[.int .i64 d1, .int .i64 d2] 37
        have hb := B3.out
        have U3 := Lib.hid (U2.out.trans (hb.mono U2.out.size))
        have D := Lib.hid (D.out.below hb)
        have X := Lib.hid (blk_box X.out hb (lt_of_block X.out))
        clear hb B3
        have q0 := cell_of X.out (j := 0) (v := .string s) rfl
        have q1 := cell_of X.out (j := 1) (v := .string t) rfl
        go_wp2_with (rw [E3])
        refine rdistance_any ao vs c ax s t _ _ hl D.out HV.out ?_
        rw [hd1, hd2, hd3]
        intro w4 hb
        have U4 := Lib.hid (U3.out.trans (hb.mono U3.out.size))
        have D := Lib.hid (D.out.below hb)
        have X := Lib.hid (blk_box X.out hb (lt_of_block X.out))
        have Y := Lib.hid (blk_box Y.out hb (lt_of_block Y.out))
        clear hb
        obtain ⟨w5, E5, B5, s5, Z⟩ := box_ex w4 #[.int .i64 d1, .int .i64 d2] 37
        have hb := B5.out
        have U5 := Lib.hid (U4.out.trans (hb.mono U4.out.size))
        have D := Lib.hid (D.out.below hb)
        have X := Lib.hid (blk_box X.out hb (lt_of_block X.out))
        have Y := Lib.hid (blk_box Y.out hb (lt_of_block Y.out))
        clear hb B5
        have q0 := cell_of X.out (j := 0) (v := .string s) rfl
        have q1 := cell_of X.out (j := 1) (v := .string t) rfl
        clear hd1 hd2 hd3 E3
        go_wp2_with (rw [E5])
        refine impliedY_any ao vs c ax _ _ hl D.out HV.out ?_
        intro a6 c6 w6 hb hR6
        have U6 := Lib.hid (U5.out.trans (hb.mono U5.out.size))
        have D := Lib.hid (D.out.below hb)
        have X := Lib.hid (blk_box X.out hb (lt_of_block X.out))
        have Y := Lib.hid (blk_box Y.out hb (lt_of_block Y.out))
        have Z := Lib.hid (blk_box Z.out hb (lt_of_block Z.out))
        have R6 := Lib.hid hR6
        clear hb hR6
        clear E5
        go_wp2_with fail
        refine rimpliedY_any ao vs c ax _ _ hl hcl D.out HV.out ?_
        intro a7 c7 w7 hb hR7
        have U7 := Lib.hid (U6.out.trans (hb.mono U6.out.size))
        have D := Lib.hid (D.out.below hb)
        have X := Lib.hid (blk_box X.out hb (lt_of_block X.out))
        have Y := Lib.hid (blk_box Y.out hb (lt_of_block Y.out))
        have Z := Lib.hid (blk_box Z.out hb (lt_of_block Z.out))
        have R6 := Lib.hid (R6.out.below hb)
        have R7 := Lib.hid hR7
        clear hb hR7
        have hng : (dI (imX vs ax)).length = (imX vs ax).length := dI_length _
        obtain ⟨E, hE⟩ : ∃ E, imE vs ax = E := ⟨_, rfl⟩
        rw [hE]
        have K : (E == E) = true := by simp
        clear hE
        go_wp2_with fail
        refine awake22_any _ _ ?_
        intro w8 hb
        have U8 := Lib.hid (U7.out.trans (hb.mono U7.out.size))
        have Y := Lib.hid (blk_box Y.out hb (lt_of_block Y.out))
        have Z := Lib.hid (blk_box Z.out hb (lt_of_block Z.out))
        have R6 := Lib.hid (R6.out.below hb)
        have R7 := Lib.hid (R7.out.below hb)
        clear hb
        have y0 := cell_of Y.out (j := 0) (v := .int .i64 d1) rfl
        have y1 := cell_of Y.out (j := 1) (v := .int .i64 d2) rfl
        have z0 := cell_of Z.out (j := 0) (v := .int .i64 d1) rfl
        have z1 := cell_of Z.out (j := 1) (v := .int .i64 d2) rfl
        go_wp2_with fail
        refine equalI_same a6 a7 ((imX vs ax).map fun (y : Nat) => (y : Int)) _ c6 c7 _ _ (by simp) (by omega) R6.out R7.out ?_
        intro w9 hd
        have hb := hd.below w8.heap.size
        have U9 := Lib.hid (U8.out.trans (hb.mono U8.out.size))
        have Y := Lib.hid (blk_box Y.out hb (lt_of_block Y.out))
        have Z := Lib.hid (blk_box Z.out hb (lt_of_block Z.out))
        have R6 := Lib.hid (R6.out.below hb)
        have R7 := Lib.hid (R7.out.below hb)
        clear hb hd
        go_wp2_with fail
        exact HR.out _ U9.out
end Go.Proofs.Ytlgjhjgdmomfoaa
