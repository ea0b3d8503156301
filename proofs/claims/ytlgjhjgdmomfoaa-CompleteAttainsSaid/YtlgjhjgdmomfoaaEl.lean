/- The walk of the law CompleteAttains. (Printed by gen_attlaw.py.) -/
import Derived.Test.YtlgjhjgdmomfoaaMej
import Derived.Test.YtlgjhjgdmomfoaaMdu
namespace Go.Proofs.Ytlgjhjgdmomfoaa
open Go.RowKit Go.Maps

theorem contS22_any (ao : Option Addr) (ks : List ByteArray) (c : Nat) (s : ByteArray) (b : Bool) (w : World) (R : Ending → World → Prop) (h0 : 0 < ks.length) (hl : ks.length ≤ 1000000) (hb : hasL ks s = b) (hc : CellsAt w ao (sC ks)) (hR : R (.returned (.bool b)) w) :
    Calls Try.prog 34 #[.slice ao ks.length c, .string s] w R := by
  subst hb
  obtain ⟨bb, o, rfl, _, _⟩ := hc (by rw [sC_length]; exact h0)
  refine (Try.slices_Contains_string bb o ks.length c ks s w (Nat.le_refl _) (by omega) (fun j hj => ?_)).mono ?_
  · refine hc.get rfl ?_
    rw [sC_get hj]; rfl
  · rintro e w' ⟨rfl, rfl⟩
    rw [List.take_length]
    have : Lib.containsS ks s = hasL ks s := by rw [Bool.eq_iff_iff, hasL_iff, Lib.containsS_iff]
    rw [this]
    exact hR
theorem solveT_any (ao : Option Addr) (vs : List Dm) (n c N : Nat) (ax : Int) (w : World) (R : Ending → World → Prop) (hn : vs.length = n) (hN : (nmG vs ax).length = N) (hl : n ≤ 9223372036854775807) (hg : giE vs ax = 0) (hE : cfE vs ax = true) (hc : CellsAt w ao (dC vs)) (hv : DmsOk vs)
   (hR : ∀ g w', Below w.heap.size w w' → CellsAt w' (some ⟨g, 0, none⟩) (poC (soX vs ax)) → R (.returned (.tuple #[.slice (some ⟨g, 0, none⟩) N N, .slice none 0 0, .bool true, .int .i64 0])) w') :
    Calls Try.prog 19 #[.slice ao n c, .int .i64 ax] w R := by
  subst hn hN
  refine solve_any ao vs c ax w R hl hc hv (fun h => absurd hg h) (fun _ h => absurd hE (by rw [h]; simp)) (fun _ _ g w' _ hb hk => hR g w' hb hk.cellsAt)
theorem tn_ok {vs : List Dm} (h : DmsOk vs) : DmsOk (tn vs) := fun i hi => by
  rw [tn_len] at hi
  rw [tn_at]; exact h i hi
theorem tn_take {vs : List Dm} {k : Nat} (h : k < vs.length) : dC ((tn vs).take (k + 1)) = dC ((tn vs).take k) ++ dC [tnD (dAt vs k)] := by
  have h' : k < (tn vs).length := by rw [tn_len]; exact h
  have e : (tn vs)[k]'h' = tnD (dAt vs k) := by
    have e2 : dAt (tn vs) k = (tn vs)[k]'h' := by unfold dAt; rw [List.getD_eq_getElem?_getD, List.getElem?_eq_getElem h']; rfl
    rw [← e2, tn_at]
  rw [List.take_succ_eq_append_getElem h', dC_append, e]
set_option maxRecDepth 100000 in
set_option maxHeartbeats 16000000 in
theorem lawAttains_any (ao : Option Addr) (vs : List Dm) (c : Nat) (m : Nat) (w : World) (R : Ending → World → Prop) (hl : vs.length ≤ 9223372036854775807) (hm : m ≤ 255) (hc : CellsAt w ao (dC vs)) (hv : DmsOk vs)
   (hR : ∀ w', Below w.heap.size w w' → R (.returned (.bool true)) w') :
    Calls Try.prog 7 #[.slice ao vs.length c, .int .u8 m] w R := by
  have HR := Lib.hid hR
  have D := Lib.hid hc
  have HV := Lib.hid hv
  clear hR hc hv
  have hm1 : Int.tmod (m : Int) 3 = ((m % 3 : Nat) : Int) := by rw [Int.tmod_eq_emod_of_nonneg (by omega)]; omega
  have hm2 : (m : Int) % 3 = ((m % 3 : Nat) : Int) := by omega
  have e4 : IntKind.i64.wrap (m : Int) = (m : Int) := by rw [IntKind.wrap_i64]; omega
  obtain ⟨ax, hax⟩ : ∃ ax : Int, ((m % 3 : Nat) : Int) = ax := ⟨_, rfl⟩
  rw [hax] at hm1 hm2
  clear hax
  obtain ⟨F, hF⟩ : ∃ F, Hid (rtB vs ax = F) := ⟨_, rfl⟩
  have U0 : Hid (Below w.heap.size w w) := Below.refl _ _
  go_enter Try.func7, Try.ntmps7
  go_wp2_with fail
  refine right22_any ao vs c ax _ _ hl D.out HV.out ?_
  rw [hF.out]
  intro w1 hb
  have U1 := Lib.hid (U0.out.trans (hb.mono U0.out.size))
  have D := Lib.hid (D.out.below hb)
  clear hb
  cases F with
  | false =>
    go_wp2_with fail
    refine awake22_any _ _ ?_
    intro w2 hb
    have U2 := Lib.hid (U1.out.trans (hb.mono U1.out.size))
    clear hb
    go_wp2_with fail
    exact HR.out _ U2.out
  | true =>
    have hFB := hF.out
    unfold rtB at hFB
    rw [Bool.and_eq_true, beq_iff_eq] at hFB
    have hg := hFB.2
    obtain ⟨hl2, hva⟩ := giE_all hg
    have HG := Lib.hid hg
    have HVA := Lib.hid hva
    clear hFB hF hva hm1 hm2 e4
    cases hcf : cfE vs ax with
    | false =>
      go_wp2_with fail
      refine solve_any ao vs c ax _ _ hl D.out HV.out (fun h => absurd HG.out h) ?_ (fun _ h => absurd h (by rw [hcf]; simp))
      intro _ _ v w2 hb _
      have U2 := Lib.hid (U1.out.trans (hb.mono U1.out.size))
      clear hb
      go_wp2_with fail
      refine awake22_any _ _ ?_
      intro w3 hb
      have U3 := Lib.hid (U2.out.trans (hb.mono U2.out.size))
      clear hb
      go_wp2_with fail
      exact HR.out _ U3.out
    | true =>
      have Hcf := Lib.hid hcf
      have hNl := nmG_len (ax := ax) hl2
      have Hso : Hid (∀ v, v < (nmG vs ax).length → psAt (soX vs ax) v = ⟨kAt (nmG vs ax) v, waV vs ax (fsN vs ax v) (kAt (nmG vs ax) v)⟩) := fun v hv => so_at hcf hv
      have Htn : Hid (∀ v, v < (nmG vs ax).length → psAt (soX (tn vs) ax) v = ⟨kAt (nmG vs ax) v, waV vs ax (kAt (nmG vs ax) v) (fsN vs ax v)⟩) := fun v hv => so_tn hcf hv
      have Kt := Lib.hid (kept_there hcf)
      have Kb := Lib.hid (kept_back hcf)
      have Dd := Lib.hid (fun i => dist_dim (i := i) hg hcf)
      have Ar := Lib.hid (fun i j => attain_row (i := i) (j := j) hg hcf)
      have Wb : Hid (∀ s t, -51200000 ≤ waV vs ax s t ∧ waV vs ax s t ≤ 51200000) := fun s t => waV_bd hl2 HVA.out
      have Nn : Hid (∀ i j, i < (nmG vs ax).length → j < (nmG vs ax).length → kAt (nmG vs ax) i = kAt (nmG vs ax) j → i = j) := fun i j hi hj e => by
        have h2 := congrArg (pos (nmG vs ax)) e
        rw [pos_kAt (nmG_nodup vs ax) hi, pos_kAt (nmG_nodup vs ax) hj] at h2; exact h2
      have Nz : Hid (∀ i, i < (nmG vs ax).length → (kAt (nmG vs ax) i).size ≤ 9223372036854775807) := fun i hi => nmG_size HV.out (kAt_mem hi)
      have hsl := soX_len vs ax
      have hsl2 := soX_len (tn vs) ax
      rw [tn_nm] at hsl2
      have HNt : Hid ((nmG (tn vs) ax).length = (nmG vs ax).length) := by unfold Hid; rw [tn_nm]
      have HGr : Hid (∀ j, j < (gsX vs ax).length → (rAt (gsX vs ax) j).length ≤ 1000000) := fun j hj => by
        have h := gsY_row vs ax j
        have e : gsY vs ax = gsX vs ax := by unfold gsY; rw [if_pos hg]
        rw [e] at h; exact h hj
      have hGl := gsY_len vs ax
      have eG : gsY vs ax = gsX vs ax := by unfold gsY; rw [if_pos hg]
      rw [eG] at hGl
      obtain ⟨N, hN⟩ : ∃ N, (nmG vs ax).length = N := ⟨_, rfl⟩
      rw [hN] at hNl hsl hsl2 HNt Hso Htn Kt Kb Ar Nn Nz
      have HN := Lib.hid hN
      clear hcf hg hN
      go_wp2_with fail
      refine solveT_any ao vs _ c N ax _ _ rfl HN.out hl HG.out Hcf.out D.out HV.out ?_
      intro g w2 hb hP
      have U2 := Lib.hid (U1.out.trans (hb.mono U1.out.size))
      have D := Lib.hid (D.out.below hb)
      have P := Lib.hid hP
      clear hb hP
      have s2 := U2.out.size
      go_wp2_with fail
      go_loopw [52, 10] (fun j v wr => ∃ (k : Nat), k ≤ vs.length ∧ j = .int .i64 k ∧ Hid (Below w2.heap.size w2 wr) ∧ Hid (wr.ownsRow w2.heap.size 73 5 v k (dC ((tn vs).take k)))) (fun j _ _ => vs.length - (intOf j).toNat)
      case atStart => exact ⟨0, Nat.zero_le _, rfl, Below.refl _ _, World.ownsRow_nil _ _ _ _⟩
      case round =>
        obtain ⟨k, hk, rfl, HB, HO⟩ := hrel
        have sB := HB.out.size
        by_cases hlt : k < vs.length
        · obtain ⟨b, o, rfl, hbb, hcell⟩ := D.out.dms (by omega)
          obtain ⟨c0, c1, c2, c3, c4⟩ := hcell k hlt
          have d0 := cellB HB.out c0 hbb
          have d1 := cellB HB.out c1 hbb
          have d2 := cellB HB.out c2 hbb
          have d3 := cellB HB.out c3 hbb
          have d4 := cellB HB.out c4 hbb
          have htk := Lib.hid (tn_take hlt)
          have hbd := vaE_bounds (HVA.out k hlt)
          obtain ⟨u, hu⟩ : ∃ u, dAt vs k = u := ⟨_, rfl⟩
          obtain ⟨L, hL⟩ : ∃ L, dC ((tn vs).take k) = L := ⟨_, rfl⟩
          rw [hu] at d0 d1 d2 d3 d4 htk hbd
          rw [hL] at HO htk
          have n1 : IntKind.i64.wrap (-u.h) = -u.h := by rw [IntKind.wrap_i64]; omega
          have n2 : IntKind.i64.wrap (-u.l) = -u.l := by rw [IntKind.wrap_i64]; omega
          obtain ⟨wA, EA, BA, sA, XA⟩ := box_ex wr #[.string u.f, .string u.t, .int .i64 u.x, .int .i64 u.l, .int .i64 u.h] 73
          have x3 := cell_of XA.out (j := 3) (v := .int .i64 u.l) rfl
          have x4 := cell_of XA.out (j := 4) (v := .int .i64 u.h) rfl
          have f3 := frozen_of XA.out 3
          have f4 := frozen_of XA.out 4
          have XB := heap_setCell_same _ wr.heap.size 4 _ _ (.int .i64 (-u.l)) (heap_setCell_same _ wr.heap.size 3 _ _ (.int .i64 (-u.h)) XA.out)
          have BB := (BA.out.setCell (p := ⟨wr.heap.size, 3, none⟩) (Nat.le_refl _) (.int .i64 (-u.h))).setCell (p := ⟨wr.heap.size, 4, none⟩) (Nat.le_refl _) (.int .i64 (-u.l))
          obtain ⟨wB, EB⟩ : ∃ wB, (wA.setCell ⟨wr.heap.size, 3, none⟩ (.int .i64 (-u.h))).setCell ⟨wr.heap.size, 4, none⟩ (.int .i64 (-u.l)) = wB := ⟨_, rfl⟩
          rw [EB] at XB BB
          have y0 := cell_of XB (j := 0) (v := .string u.f) rfl
          have y1 := cell_of XB (j := 1) (v := .string u.t) rfl
          have y2 := cell_of XB (j := 2) (v := .int .i64 u.x) rfl
          have y3 := cell_of XB (j := 3) (v := .int .i64 (-u.h)) rfl
          have y4 := cell_of XB (j := 4) (v := .int .i64 (-u.l)) rfl
          have OB := Lib.hid (ownsRow_below HO.out BB)
          have B2 := Lib.hid (HB.out.trans (BB.mono sB))
          have sB2 := B2.out.size
          clear hcell hu hL c0 c1 c2 c3 c4 hbd HO XB BB BA XA
          go_wp2_with (first | (rw [EA]) | (rw [EB]) | (at_builtin; refine wp_appendF rfl (.tmp 66) (.tmp 68) 22 rfl w2.heap.size 73 Try.underlying22 Try.infoDm rfl (by decide) u10 k L rfl (ownsRow_below OB.out ((Below.refl _ _).alloc (Nat.le_refl _) _)) ⟨wB.heap.size, 0, none⟩ 1 1 (dC [tnD u]) rfl rfl (lit_cells wB #[.string u.f, .string u.t, .int .i64 u.x, .int .i64 (-u.h), .int .i64 (-u.l)] 73 (dC [tnD u]) rfl) (dC_one _) (by omega) (by omega) (by simp only [World.size_alloc]; omega) ?_; intro v5 w5 hown hb5; have O5 := Lib.hid hown; have B5 := Lib.hid ((B2.out.alloc sB2 _).trans hb5); clear hown hb5))
          refine ⟨⟨k + 1, by omega, by go_num, B5, ?_⟩, by simp [intOf]; omega⟩
          rw [htk.out]; exact O5.out
        · obtain rfl : k = vs.length := by omega
          have hO := HO.out
          rw [List.take_of_length_le (by rw [tn_len]; exact Nat.le_refl _)] at hO
          obtain ⟨aT, cT, rfl, hcT, _⟩ := ownsRow_read hO
          have T := Lib.hid hcT
          have hb := HB.out
          obtain ⟨w3, hw3⟩ : ∃ w3, wr = w3 := ⟨_, rfl⟩
          rw [hw3] at hb T ⊢
          clear hO hcT HO HB hw3 sB
          have U3 := Lib.hid (U2.out.trans (hb.mono U2.out.size))
          have D := Lib.hid (D.out.below hb)
          have P := Lib.hid (P.out.below hb)
          clear hb
          go_wp2_with fail
          refine solveT_any aT (tn vs) _ cT N ax _ _ (tn_len vs) HNt.out hl (tn_gi HG.out) (tn_cf Hcf.out) T.out (tn_ok HV.out) ?_
          intro gq w4 hb hQ
          have U4 := Lib.hid (U3.out.trans (hb.mono U3.out.size))
          have D := Lib.hid (D.out.below hb)
          have P := Lib.hid (P.out.below hb)
          have T := Lib.hid (T.out.below hb)
          have Q := Lib.hid hQ
          clear hb hQ
          go_wp2_with fail
          refine groupsY_any ao vs c ax _ _ hl D.out HV.out ?_
          intro aG cG w5 hb hGs
          have U5 := Lib.hid (U4.out.trans (hb.mono U4.out.size))
          have D := Lib.hid (D.out.below hb)
          have P := Lib.hid (P.out.below hb)
          have Q := Lib.hid (Q.out.below hb)
          have Gs := Lib.hid hGs
          clear hb hGs
          rw [HG.out, eG]
          have Gs' := Gs.out
          rw [eG] at Gs'
          have Gs := Lib.hid Gs'
          clear Gs' eG T
          have Kt2 := Lib.hid (fun i hi => Kt.out i hi)
          go_wp2_with fail
          refine kept_any ao vs c ax (some ⟨g, 0, none⟩) (soX vs ax) N N 1 _ _ hl2 D.out HV.out hsl (by omega) P.out (.inl rfl) (fun i j hi hj e => by rw [Hso.out i hi, Hso.out j hj] at e; exact Nn.out i j hi hj e) (fun i hi => by rw [Hso.out i hi]; exact Nz.out i hi) (fun i hi => by rw [Hso.out i hi]; have := Wb.out (fsN vs ax i) (kAt (nmG vs ax) i); dsimp only; omega) Kt.out ?_
          intro w6 hb
          have U6 := Lib.hid (U5.out.trans (hb.mono U5.out.size))
          have D := Lib.hid (D.out.below hb)
          have P := Lib.hid (P.out.below hb)
          have Q := Lib.hid (Q.out.below hb)
          have Gs := Lib.hid (Gs.out.below hb)
          clear hb
          go_wp2_with fail
          refine kept_any ao vs c ax (some ⟨gq, 0, none⟩) (soX (tn vs) ax) N N (-1) _ _ hl2 D.out HV.out hsl2 (by omega) Q.out (.inr rfl) (fun i j hi hj e => by rw [Htn.out i hi, Htn.out j hj] at e; exact Nn.out i j hi hj e) (fun i hi => by rw [Htn.out i hi]; exact Nz.out i hi) (fun i hi => by rw [Htn.out i hi]; have := Wb.out (kAt (nmG vs ax) i) (fsN vs ax i); dsimp only; omega) Kb.out ?_
          intro w7 hb
          have U7 := Lib.hid (U6.out.trans (hb.mono U6.out.size))
          have D := Lib.hid (D.out.below hb)
          have P := Lib.hid (P.out.below hb)
          have Q := Lib.hid (Q.out.below hb)
          have Gs := Lib.hid (Gs.out.below hb)
          clear hb
          clear Kt Kb Kt2
          have s7 := U7.out.size
          go_wp2_with fail
          go_loopw [116] (fun j wr => ∃ (k : Nat), k ≤ vs.length ∧ j = .int .i64 k ∧ Hid (Below w7.heap.size w7 wr)) (fun j _ => vs.length - (intOf j).toNat)
          case atStart => exact ⟨0, Nat.zero_le _, rfl, Below.refl _ _⟩
          case round =>
            obtain ⟨k, hk, rfl, HB⟩ := hrel
            have sB := HB.out.size
            by_cases hlt : k < vs.length
            · obtain ⟨b, o, rfl, hbb, hcell⟩ := D.out.dms (by omega)
              obtain ⟨c0, c1, c2, c3, c4⟩ := hcell k hlt
              have d0 := cellB HB.out c0 hbb
              have d1 := cellB HB.out c1 hbb
              have d2 := cellB HB.out c2 hbb
              have d3 := cellB HB.out c3 hbb
              have d4 := cellB HB.out c4 hbb
              have hok := HV.out k hlt
              have hdd := Lib.hid (fun (hx : (dAt vs k).x = ax) => Dd.out k ⟨hlt, hx⟩)
              obtain ⟨u, hu⟩ : ∃ u, dAt vs k = u := ⟨_, rfl⟩
              rw [hu] at d0 d1 d2 d3 d4 hok hdd
              have U8 := HB
              have hb := HB.out
              have D := Lib.hid (D.out.below hb)
              clear hb hcell hu c0 c1 c2 c3 c4
              obtain ⟨w9, E9, B9, s9, X⟩ := box_ex wr #[.string u.f, .string u.t, .int .i64 u.x, .int .i64 u.l, .int .i64 u.h] 73
              have hb := B9.out
              have U9 := Lib.hid (U8.out.trans (hb.mono U8.out.size))
              have D := Lib.hid (D.out.below hb)
              clear hb B9
              have q0 := cell_of X.out (j := 0) (v := .string u.f) rfl
              have q1 := cell_of X.out (j := 1) (v := .string u.t) rfl
              have q2 := cell_of X.out (j := 2) (v := .int .i64 u.x) rfl
              have q3 := cell_of X.out (j := 3) (v := .int .i64 u.l) rfl
              have q4 := cell_of X.out (j := 4) (v := .int .i64 u.h) rfl
              cases hx : (u.x == ax) with
              | false =>
                have K : (u.x != ax) = true := by rw [bne, hx]; rfl
                clear hx
                go_wp2_with (rw [E9])
                exact ⟨⟨k + 1, by omega, by go_num, U9⟩, by simp [intOf]; omega⟩
              | true =>
                have K : (u.x != ax) = false := by rw [bne, hx]; rfl
                obtain ⟨lo, hi, e1, e2, l1, l2, l3, l4, l5⟩ := hdd.out (by simpa using hx)
                have k1 := eq_false (show ¬ (hi < lo) by omega)
                have k2 := eq_false (show ¬ (lo < u.l) by omega)
                have k3 := eq_false (show ¬ (u.h < hi) by omega)
                have k4 : IntKind.i64.wrap (-hi) = -hi := by rw [IntKind.wrap_i64]; omega
                have k5 : IntKind.i64.wrap (-lo) = -lo := by rw [IntKind.wrap_i64]; omega
                have k6 : ((-hi) != (-hi)) = false := by simp
                have k7 : ((-lo) != (-lo)) = false := by simp
                have H1 := Lib.hid e1
                have H2 := Lib.hid e2
                clear hx e1 e2 l1 l2 l3 l4 l5 hdd
                go_wp2_with (rw [E9])
                refine distN_any _ vs _ c ax u.f u.t lo hi 0 _ _ rfl hl D.out HV.out hok.1 hok.2 H1.out ?_
                intro w10 hb
                have U10 := Lib.hid (U9.out.trans (hb.mono U9.out.size))
                have D := Lib.hid (D.out.below hb)
                have X := Lib.hid (blk_box X.out hb (lt_of_block X.out))
                clear hb
                clear E9 d0 d1 d2 d3 d4
                obtain ⟨w11, E11, B11, s11, Y⟩ := box_ex w10 #[.int .i64 lo, .int .i64 hi] 37
                have hb := B11.out
                have U11 := Lib.hid (U10.out.trans (hb.mono U10.out.size))
                have D := Lib.hid (D.out.below hb)
                have X := Lib.hid (blk_box X.out hb (lt_of_block X.out))
                clear hb B11
                have q0 := cell_of X.out (j := 0) (v := .string u.f) rfl
                have q1 := cell_of X.out (j := 1) (v := .string u.t) rfl
                have q2 := cell_of X.out (j := 2) (v := .int .i64 u.x) rfl
                have q3 := cell_of X.out (j := 3) (v := .int .i64 u.l) rfl
                have q4 := cell_of X.out (j := 4) (v := .int .i64 u.h) rfl
                go_wp2_with (rw [E11])
                refine distN_any _ vs _ c ax u.t u.f (-hi) (-lo) 0 _ _ rfl hl D.out HV.out hok.2 hok.1 H2.out ?_
                intro w12 hb
                have U12 := Lib.hid (U11.out.trans (hb.mono U11.out.size))
                have D := Lib.hid (D.out.below hb)
                have X := Lib.hid (blk_box X.out hb (lt_of_block X.out))
                have Y := Lib.hid (blk_box Y.out hb (lt_of_block Y.out))
                clear hb
                clear E11
                obtain ⟨w13, E13, B13, s13, Z⟩ := box_ex w12 #[.int .i64 (-hi), .int .i64 (-lo)] 37
                have hb := B13.out
                have U13 := Lib.hid (U12.out.trans (hb.mono U12.out.size))
                have D := Lib.hid (D.out.below hb)
                have X := Lib.hid (blk_box X.out hb (lt_of_block X.out))
                have Y := Lib.hid (blk_box Y.out hb (lt_of_block Y.out))
                clear hb B13
                have q0 := cell_of X.out (j := 0) (v := .string u.f) rfl
                have q1 := cell_of X.out (j := 1) (v := .string u.t) rfl
                have q2 := cell_of X.out (j := 2) (v := .int .i64 u.x) rfl
                have q3 := cell_of X.out (j := 3) (v := .int .i64 u.l) rfl
                have q4 := cell_of X.out (j := 4) (v := .int .i64 u.h) rfl
                have y0 := cell_of Y.out (j := 0) (v := .int .i64 lo) rfl
                have y1 := cell_of Y.out (j := 1) (v := .int .i64 hi) rfl
                have z0 := cell_of Z.out (j := 0) (v := .int .i64 (-hi)) rfl
                have z1 := cell_of Z.out (j := 1) (v := .int .i64 (-lo)) rfl
                go_wp2_with (rw [E13])
                exact ⟨⟨k + 1, by omega, by go_num, U13⟩, by simp [intOf]; omega⟩
            · obtain rfl : k = vs.length := by omega
              have hb := HB.out
              obtain ⟨w8, hw8⟩ : ∃ w8, wr = w8 := ⟨_, rfl⟩
              rw [hw8] at hb ⊢
              clear HB hw8 sB Dd
              have U8 := Lib.hid (U7.out.trans (hb.mono U7.out.size))
              have D := Lib.hid (D.out.below hb)
              have P := Lib.hid (P.out.below hb)
              have Q := Lib.hid (Q.out.below hb)
              have Gs := Lib.hid (Gs.out.below hb)
              have s8 := U8.out.size
              clear hb
              obtain ⟨NG, hNG⟩ : ∃ NG, (gsX vs ax).length = NG := ⟨_, rfl⟩
              rw [hNG] at Ar HGr hGl ⊢
              have HNG := Lib.hid hNG
              clear hNG
              go_wp2_with fail
              go_loopw [190] (fun j wr => ∃ (i : Nat), i ≤ N ∧ j = .int .i64 i ∧ Hid (Below w8.heap.size w8 wr)) (fun j _ => N - (intOf j).toNat)
              case atStart => exact ⟨0, Nat.zero_le _, rfl, Below.refl _ _⟩
              case round =>
                obtain ⟨i, hi, rfl, HB⟩ := hrel
                by_cases hlt : i < N
                · have pi := Hso.out i hlt
                  have qi := Htn.out i hlt
                  have Ari := Lib.hid (fun j (hj : j < NG) => Ar.out i j hlt hj)
                  have nz := Nz.out i hlt
                  obtain ⟨bp, op, e, hbp, hcell⟩ := P.out.poss (by omega)
                  cases e
                  obtain ⟨p0, p1⟩ := hcell i (by omega)
                  obtain ⟨bq, oq, e, hbq, hcell2⟩ := Q.out.poss (by omega)
                  cases e
                  obtain ⟨_, p3⟩ := hcell2 i (by omega)
                  rw [Nat.zero_add] at p0 p1 p3
                  have b1 := Wb.out (kAt (nmG vs ax) i) (fsN vs ax i)
                  obtain ⟨nm, hnm⟩ : ∃ nm, kAt (nmG vs ax) i = nm := ⟨_, rfl⟩
                  rw [hnm] at pi qi b1 nz Ari
                  obtain ⟨pa, hpa⟩ : ∃ pa, waV vs ax (fsN vs ax i) nm = pa := ⟨_, rfl⟩
                  obtain ⟨qa, hqa⟩ : ∃ qa, waV vs ax nm (fsN vs ax i) = qa := ⟨_, rfl⟩
                  rw [hpa] at pi
                  rw [hqa] at qi b1
                  rw [pi] at p0 p1
                  rw [qi] at p3
                  rw [pi, qi] at Ari
                  dsimp only at p0 p1 p3
                  have w1 : IntKind.i64.wrap (-qa) = -qa := by rw [IntKind.wrap_i64]; omega
                  have w2' : (pa != pa) = false := by simp
                  have w3' : ((-qa) != (-qa)) = false := by simp
                  have P0 := Lib.hid p0
                  have P1 := Lib.hid p1
                  have P3 := Lib.hid p3
                  clear pi qi b1 hpa hqa hnm hcell hcell2 p0 p1 p3
                  go_wp2_with fail
                  go_loopw [195] (fun j wr => ∃ (q : Nat), q ≤ NG ∧ j = .int .i64 q ∧ Hid (Below w8.heap.size w8 wr)) (fun j _ => NG - (intOf j).toNat)
                  case atStart => exact ⟨0, Nat.zero_le _, rfl, HB⟩
                  case round =>
                    clear HB
                    obtain ⟨q, hq, rfl, HB⟩ := hrel
                    have sB := HB.out.size
                    by_cases hlq : q < NG
                    · obtain ⟨hpos, hatt⟩ := Ari.out q hlq
                      obtain ⟨b, o, a, c', e, h1, h2⟩ := Gs.out.at (j := q) (by rw [HNG.out]; exact hlq)
                      subst e
                      have hrl := HGr.out q hlq
                      obtain ⟨row, hrow⟩ : ∃ row, rAt (gsX vs ax) q = row := ⟨_, rfl⟩
                      rw [hrow] at hpos hatt h1 h2 hrl
                      have hbw : b < w8.heap.size := Nat.lt_of_not_le fun h => by rw [World.cell?] at h1; simp [Array.getElem?_eq_none h] at h1
                      have d1 := cellB HB.out h1 hbw
                      obtain ⟨rb, ro, rfl, hrb, _⟩ := h2 (by rw [sC_length]; exact hpos)
                      have r0 := h2.get rfl (sC_get hpos)
                      rw [Nat.add_zero] at r0
                      obtain ⟨fst, hfst⟩ : ∃ fst, kAt row 0 = fst := ⟨_, rfl⟩
                      rw [hfst] at r0 hatt
                      obtain ⟨rn, hrn⟩ : ∃ rn, row.length = rn := ⟨_, rfl⟩
                      rw [hrn] at hpos hrl d1
                      have Hrn := Lib.hid hrn
                      have Hatt := Lib.hid hatt
                      have Hrow := Lib.hid (h2.below HB.out)
                      have c0 := cellB HB.out r0 hrb
                      have c1 := cellB HB.out P0.out hbp
                      have c2 := cellB HB.out P1.out hbp
                      have c3 := cellB HB.out P3.out hbq
                      have hD := D.out.below HB.out
                      have HD := Lib.hid hD
                      have lb1 : rb < wr.heap.size := by omega
                      have lb2 : g < wr.heap.size := by omega
                      have lb3 : gq < wr.heap.size := by omega
                      have hrn0 : ((rn : Int) == 0) = false := by rw [beq_eq_false_iff_ne]; omega
                      have hfz : Hid (fst.size ≤ 9223372036854775807 ∨ ¬ (fst ≠ nm ∧ nm ∈ row)) := by
                        by_cases hcase : fst ≠ nm ∧ nm ∈ row
                        · refine .inl ?_
                          have hd := hatt hcase.1 hcase.2
                          by_cases hz : fst.size ≤ 9223372036854775807
                          · exact hz
                          · exfalso
                            have hin : fst ∈ nmG vs ax := by
                              unfold dsX at hd
                              rw [if_pos HG.out] at hd
                              by_cases hb : (inK (nmG vs ax) fst && inK (nmG vs ax) nm) = true
                              · rw [Bool.and_eq_true, inK_iff] at hb; exact hb.1
                              · rw [if_neg hb] at hd; simp at hd
                            exact hz (nmG_size HV.out hin)
                        · exact .inr hcase
                      clear hrow hfst hrn hatt h1 h2 r0 hD
                      have HBB : Hid (Below wr.heap.size wr wr.drew) := (Below.refl _ _).drew
                      cases hsn : sameD fst nm with
                      | true =>
                        have K1 : (fst.toList == nm.toList) = true := hsn
                        clear hsn
                        go_wp2_with fail
                        refine regionQ (fun w' => w'.cell? ⟨rb, ro, none⟩ = some (.string fst) ∧ w'.cell? ⟨g, i * 2, none⟩ = some (.string nm)) (by kernel_rfl) (⟨c0, c1⟩) (fun Qn hPQ hQn hS0 => ?_)
                        refine takeQ (i := 0) (d := some 199) (v := ?_) rfl rfl (by kernel_rfl) (by kernel_rfl) (by kernel_rfl) hPQ hS0 (by kernel_rfl) ?_ ?_
                        rotate_left
                        · (intro w hSw; (try dsimp only at hSw); obtain ⟨k0, k1⟩ := hSw; go_simp; (try with_reducible rfl))
                        (try simp only [Act.put, List.setIfInBounds_toArray, List.set_cons_zero, List.set_cons_succ])
                        refine takeQ (i := 1) (d := some 200) (v := ?_) rfl rfl (by kernel_rfl) (by kernel_rfl) (by kernel_rfl) hPQ hS0 (by kernel_rfl) ?_ ?_
                        rotate_left
                        · (intro w hSw; (try dsimp only at hSw); obtain ⟨k0, k1⟩ := hSw; go_simp; (try with_reducible rfl))
                        (try simp only [Act.put, List.setIfInBounds_toArray, List.set_cons_zero, List.set_cons_succ])
                        refine takeQ (i := 2) (d := some 201) (v := ?_) rfl rfl (by kernel_rfl) (by kernel_rfl) (by kernel_rfl) hPQ hS0 (by kernel_rfl) ?_ ?_
                        rotate_left
                        · (intro w hSw; (try dsimp only at hSw); obtain ⟨k0, k1⟩ := hSw; go_simp; (try with_reducible rfl))
                        (try simp only [Act.put, List.setIfInBounds_toArray, List.set_cons_zero, List.set_cons_succ])
                        refine takeQ (i := 3) (d := some 202) (v := ?_) rfl rfl (by kernel_rfl) (by kernel_rfl) (by kernel_rfl) hPQ hS0 (by kernel_rfl) ?_ ?_
                        rotate_left
                        · (intro w hSw; (try dsimp only at hSw); obtain ⟨k0, k1⟩ := hSw; go_simp; (try with_reducible rfl))
                        (try simp only [Act.put, List.setIfInBounds_toArray, List.set_cons_zero, List.set_cons_succ])
                        refine takeQ (i := 4) (d := some 203) (v := ?_) rfl rfl (by kernel_rfl) (by kernel_rfl) (by kernel_rfl) hPQ hS0 (by kernel_rfl) ?_ ?_
                        rotate_left
                        · (intro w hSw; (try dsimp only at hSw); obtain ⟨k0, k1⟩ := hSw; go_simp; (try with_reducible rfl))
                        (try simp only [Act.put, List.setIfInBounds_toArray, List.set_cons_zero, List.set_cons_succ])
                        refine takeQ (i := 5) (d := some 204) (v := ?_) rfl rfl (by kernel_rfl) (by kernel_rfl) (by kernel_rfl) hPQ hS0 (by kernel_rfl) ?_ ?_
                        rotate_left
                        · (intro w hSw; (try dsimp only at hSw); obtain ⟨k0, k1⟩ := hSw; go_simp; (try with_reducible rfl))
                        (try simp only [Act.put, List.setIfInBounds_toArray, List.set_cons_zero, List.set_cons_succ])
                        refine takeQ (i := 6) (d := some 205) (v := ?_) rfl rfl (by kernel_rfl) (by kernel_rfl) (by kernel_rfl) hPQ hS0 (by kernel_rfl) ?_ ?_
                        rotate_left
                        · (intro w hSw; (try dsimp only at hSw); obtain ⟨k0, k1⟩ := hSw; go_simp; (try with_reducible rfl))
                        (try simp only [Act.put, List.setIfInBounds_toArray, List.set_cons_zero, List.set_cons_succ])
                        refine takeQ (i := 7) (d := some 206) (v := ?_) rfl rfl (by kernel_rfl) (by kernel_rfl) (by kernel_rfl) hPQ hS0 (by kernel_rfl) ?_ ?_
                        rotate_left
                        · (intro w hSw; (try dsimp only at hSw); obtain ⟨k0, k1⟩ := hSw; go_simp; (try with_reducible rfl))
                        (try simp only [Act.put, List.setIfInBounds_toArray, List.set_cons_zero, List.set_cons_succ])
                        refine takeQ (i := 8) (d := some 207) (v := ?_) rfl rfl (by kernel_rfl) (by kernel_rfl) (by kernel_rfl) hPQ hS0 (by kernel_rfl) ?_ ?_
                        rotate_left
                        · (intro w hSw; (try dsimp only at hSw); obtain ⟨k0, k1⟩ := hSw; go_simp; (try with_reducible rfl))
                        (try simp only [Act.put, List.setIfInBounds_toArray, List.set_cons_zero, List.set_cons_succ])
                        refine takeQ (i := 9) (d := some 208) (v := ?_) rfl rfl (by kernel_rfl) (by kernel_rfl) (by kernel_rfl) hPQ hS0 (by kernel_rfl) ?_ ?_
                        rotate_left
                        · (intro w hSw; (try dsimp only at hSw); obtain ⟨k0, k1⟩ := hSw; go_simp; (try with_reducible rfl))
                        (try simp only [Act.put, List.setIfInBounds_toArray, List.set_cons_zero, List.set_cons_succ])
                        refine takeQ (i := 10) (d := some 209) (v := ?_) rfl rfl (by kernel_rfl) (by kernel_rfl) (by kernel_rfl) hPQ hS0 (by kernel_rfl) ?_ ?_
                        rotate_left
                        · (intro w hSw; (try dsimp only at hSw); obtain ⟨k0, k1⟩ := hSw; go_simp; (try with_reducible rfl))
                        (try simp only [Act.put, List.setIfInBounds_toArray, List.set_cons_zero, List.set_cons_succ])
                        refine takeQ (i := 11) (d := some 210) (v := ?_) rfl rfl (by kernel_rfl) (by kernel_rfl) (by kernel_rfl) hPQ hS0 (by kernel_rfl) ?_ ?_
                        rotate_left
                        · (intro w hSw; (try dsimp only at hSw); obtain ⟨k0, k1⟩ := hSw; go_simp; (try with_reducible rfl))
                        (try simp only [Act.put, List.setIfInBounds_toArray, List.set_cons_zero, List.set_cons_succ])
                        refine takeQ (i := 12) (d := some 211) (v := ?_) rfl rfl (by kernel_rfl) (by kernel_rfl) (by kernel_rfl) hPQ hS0 (by kernel_rfl) ?_ ?_
                        rotate_left
                        · (intro w hSw; (try dsimp only at hSw); obtain ⟨k0, k1⟩ := hSw; go_simp; (try with_reducible rfl))
                        (try simp only [Act.put, List.setIfInBounds_toArray, List.set_cons_zero, List.set_cons_succ])
                        refine takeQ (i := 13) (d := some 212) (v := ?_) rfl rfl (by kernel_rfl) (by kernel_rfl) (by kernel_rfl) hPQ hS0 (by kernel_rfl) ?_ ?_
                        rotate_left
                        · (intro w hSw; (try dsimp only at hSw); obtain ⟨k0, k1⟩ := hSw; go_simp; (try with_reducible rfl))
                        (try simp only [Act.put, List.setIfInBounds_toArray, List.set_cons_zero, List.set_cons_succ])
                        refine takeQ (i := 14) (d := some 213) (v := ?_) rfl rfl (by kernel_rfl) (by kernel_rfl) (by kernel_rfl) hPQ hS0 (by kernel_rfl) ?_ ?_
                        rotate_left
                        · (intro w hSw; (try dsimp only at hSw); obtain ⟨k0, k1⟩ := hSw; go_simp; (try with_reducible rfl))
                        (try simp only [Act.put, List.setIfInBounds_toArray, List.set_cons_zero, List.set_cons_succ])
                        refine skipQ (i := 15) (d := some 214) rfl rfl (by kernel_rfl) (by kernel_rfl) (by kernel_rfl) hPQ hS0 (by kernel_rfl) ?_
                        (try simp only [Act.put, List.setIfInBounds_toArray, List.set_cons_zero, List.set_cons_succ])
                        refine skipQ (i := 16) (d := some 215) rfl rfl (by kernel_rfl) (by kernel_rfl) (by kernel_rfl) hPQ hS0 (by kernel_rfl) ?_
                        (try simp only [Act.put, List.setIfInBounds_toArray, List.set_cons_zero, List.set_cons_succ])
                        refine skipQ (i := 17) (d := some 216) rfl rfl (by kernel_rfl) (by kernel_rfl) (by kernel_rfl) hPQ hS0 (by kernel_rfl) ?_
                        (try simp only [Act.put, List.setIfInBounds_toArray, List.set_cons_zero, List.set_cons_succ])
                        refine skipQ (i := 18) (d := some 217) rfl rfl (by kernel_rfl) (by kernel_rfl) (by kernel_rfl) hPQ hS0 (by kernel_rfl) ?_
                        (try simp only [Act.put, List.setIfInBounds_toArray, List.set_cons_zero, List.set_cons_succ])
                        refine skipQ (i := 19) (d := some 218) rfl rfl (by kernel_rfl) (by kernel_rfl) (by kernel_rfl) hPQ hS0 (by kernel_rfl) ?_
                        (try simp only [Act.put, List.setIfInBounds_toArray, List.set_cons_zero, List.set_cons_succ])
                        refine skipQ (i := 20) (d := some 219) rfl rfl (by kernel_rfl) (by kernel_rfl) (by kernel_rfl) hPQ hS0 (by kernel_rfl) ?_
                        (try simp only [Act.put, List.setIfInBounds_toArray, List.set_cons_zero, List.set_cons_succ])
                        refine skipQ (i := 21) (d := some 220) rfl rfl (by kernel_rfl) (by kernel_rfl) (by kernel_rfl) hPQ hS0 (by kernel_rfl) ?_
                        (try simp only [Act.put, List.setIfInBounds_toArray, List.set_cons_zero, List.set_cons_succ])
                        refine skipQ (i := 22) (d := some 221) rfl rfl (by kernel_rfl) (by kernel_rfl) (by kernel_rfl) hPQ hS0 (by kernel_rfl) ?_
                        (try simp only [Act.put, List.setIfInBounds_toArray, List.set_cons_zero, List.set_cons_succ])
                        refine takeQ (i := 23) (d := some 222) (v := ?_) rfl rfl (by kernel_rfl) (by kernel_rfl) (by kernel_rfl) hPQ hS0 (by kernel_rfl) ?_ ?_
                        rotate_left
                        · (intro w hSw; (try dsimp only at hSw); obtain ⟨k0, k1⟩ := hSw; go_simp; (try with_reducible rfl))
                        (try simp only [Act.put, List.setIfInBounds_toArray, List.set_cons_zero, List.set_cons_succ])
                        refine wpAnyH_done (by kernel_rfl) (hQn.out _ _ ?_) _
                        clear hS0 hPQ hQn Qn
                        go_wp2_with fail
                        exact ⟨⟨q + 1, by omega, by go_num, HB.out.trans (HBB.out.mono sB)⟩, by simp [intOf]; omega⟩
                      | false =>
                        have K1 : (fst.toList == nm.toList) = false := hsn
                        have hne : fst ≠ nm := sameB_no.1 hsn
                        clear hsn
                        obtain ⟨B, hB⟩ : ∃ B, hasL row nm = B := ⟨_, rfl⟩
                        have HBm := Lib.hid hB
                        cases B with
                        | false =>
                          clear hB
                          go_wp2_with fail
                          refine regionQ (fun w' => w'.cell? ⟨rb, ro, none⟩ = some (.string fst) ∧ w'.cell? ⟨g, i * 2, none⟩ = some (.string nm)) (by kernel_rfl) (⟨c0, c1⟩) (fun Qn hPQ hQn hS0 => ?_)
                          refine takeQ (i := 0) (d := some 199) (v := ?_) rfl rfl (by kernel_rfl) (by kernel_rfl) (by kernel_rfl) hPQ hS0 (by kernel_rfl) ?_ ?_
                          rotate_left
                          · (intro w hSw; (try dsimp only at hSw); obtain ⟨k0, k1⟩ := hSw; go_simp; (try with_reducible rfl))
                          (try simp only [Act.put, List.setIfInBounds_toArray, List.set_cons_zero, List.set_cons_succ])
                          refine takeQ (i := 1) (d := some 200) (v := ?_) rfl rfl (by kernel_rfl) (by kernel_rfl) (by kernel_rfl) hPQ hS0 (by kernel_rfl) ?_ ?_
                          rotate_left
                          · (intro w hSw; (try dsimp only at hSw); obtain ⟨k0, k1⟩ := hSw; go_simp; (try with_reducible rfl))
                          (try simp only [Act.put, List.setIfInBounds_toArray, List.set_cons_zero, List.set_cons_succ])
                          refine takeQ (i := 2) (d := some 201) (v := ?_) rfl rfl (by kernel_rfl) (by kernel_rfl) (by kernel_rfl) hPQ hS0 (by kernel_rfl) ?_ ?_
                          rotate_left
                          · (intro w hSw; (try dsimp only at hSw); obtain ⟨k0, k1⟩ := hSw; go_simp; (try with_reducible rfl))
                          (try simp only [Act.put, List.setIfInBounds_toArray, List.set_cons_zero, List.set_cons_succ])
                          refine takeQ (i := 3) (d := some 202) (v := ?_) rfl rfl (by kernel_rfl) (by kernel_rfl) (by kernel_rfl) hPQ hS0 (by kernel_rfl) ?_ ?_
                          rotate_left
                          · (intro w hSw; (try dsimp only at hSw); obtain ⟨k0, k1⟩ := hSw; go_simp; (try with_reducible rfl))
                          (try simp only [Act.put, List.setIfInBounds_toArray, List.set_cons_zero, List.set_cons_succ])
                          refine takeQ (i := 4) (d := some 203) (v := ?_) rfl rfl (by kernel_rfl) (by kernel_rfl) (by kernel_rfl) hPQ hS0 (by kernel_rfl) ?_ ?_
                          rotate_left
                          · (intro w hSw; (try dsimp only at hSw); obtain ⟨k0, k1⟩ := hSw; go_simp; (try with_reducible rfl))
                          (try simp only [Act.put, List.setIfInBounds_toArray, List.set_cons_zero, List.set_cons_succ])
                          refine takeQ (i := 5) (d := some 204) (v := ?_) rfl rfl (by kernel_rfl) (by kernel_rfl) (by kernel_rfl) hPQ hS0 (by kernel_rfl) ?_ ?_
                          rotate_left
                          · (intro w hSw; (try dsimp only at hSw); obtain ⟨k0, k1⟩ := hSw; go_simp; (try with_reducible rfl))
                          (try simp only [Act.put, List.setIfInBounds_toArray, List.set_cons_zero, List.set_cons_succ])
                          refine takeQ (i := 6) (d := some 205) (v := ?_) rfl rfl (by kernel_rfl) (by kernel_rfl) (by kernel_rfl) hPQ hS0 (by kernel_rfl) ?_ ?_
                          rotate_left
                          · (intro w hSw; (try dsimp only at hSw); obtain ⟨k0, k1⟩ := hSw; go_simp; (try with_reducible rfl))
                          (try simp only [Act.put, List.setIfInBounds_toArray, List.set_cons_zero, List.set_cons_succ])
                          refine takeQ (i := 7) (d := some 206) (v := ?_) rfl rfl (by kernel_rfl) (by kernel_rfl) (by kernel_rfl) hPQ hS0 (by kernel_rfl) ?_ ?_
                          rotate_left
                          · (intro w hSw; (try dsimp only at hSw); obtain ⟨k0, k1⟩ := hSw; go_simp; (try with_reducible rfl))
                          (try simp only [Act.put, List.setIfInBounds_toArray, List.set_cons_zero, List.set_cons_succ])
                          refine takeQ (i := 8) (d := some 207) (v := ?_) rfl rfl (by kernel_rfl) (by kernel_rfl) (by kernel_rfl) hPQ hS0 (by kernel_rfl) ?_ ?_
                          rotate_left
                          · (intro w hSw; (try dsimp only at hSw); obtain ⟨k0, k1⟩ := hSw; go_simp; (try with_reducible rfl))
                          (try simp only [Act.put, List.setIfInBounds_toArray, List.set_cons_zero, List.set_cons_succ])
                          refine takeQ (i := 9) (d := some 208) (v := ?_) rfl rfl (by kernel_rfl) (by kernel_rfl) (by kernel_rfl) hPQ hS0 (by kernel_rfl) ?_ ?_
                          rotate_left
                          · (intro w hSw; (try dsimp only at hSw); obtain ⟨k0, k1⟩ := hSw; go_simp; (try with_reducible rfl))
                          (try simp only [Act.put, List.setIfInBounds_toArray, List.set_cons_zero, List.set_cons_succ])
                          refine takeQ (i := 10) (d := some 209) (v := ?_) rfl rfl (by kernel_rfl) (by kernel_rfl) (by kernel_rfl) hPQ hS0 (by kernel_rfl) ?_ ?_
                          rotate_left
                          · (intro w hSw; (try dsimp only at hSw); obtain ⟨k0, k1⟩ := hSw; go_simp; (try with_reducible rfl))
                          (try simp only [Act.put, List.setIfInBounds_toArray, List.set_cons_zero, List.set_cons_succ])
                          refine takeQ (i := 11) (d := some 210) (v := ?_) rfl rfl (by kernel_rfl) (by kernel_rfl) (by kernel_rfl) hPQ hS0 (by kernel_rfl) ?_ ?_
                          rotate_left
                          · (intro w hSw; (try dsimp only at hSw); obtain ⟨k0, k1⟩ := hSw; go_simp; (try with_reducible rfl))
                          (try simp only [Act.put, List.setIfInBounds_toArray, List.set_cons_zero, List.set_cons_succ])
                          refine takeQ (i := 12) (d := some 211) (v := ?_) rfl rfl (by kernel_rfl) (by kernel_rfl) (by kernel_rfl) hPQ hS0 (by kernel_rfl) ?_ ?_
                          rotate_left
                          · (intro w hSw; (try dsimp only at hSw); obtain ⟨k0, k1⟩ := hSw; go_simp; (try with_reducible rfl))
                          (try simp only [Act.put, List.setIfInBounds_toArray, List.set_cons_zero, List.set_cons_succ])
                          refine takeQ (i := 13) (d := some 212) (v := ?_) rfl rfl (by kernel_rfl) (by kernel_rfl) (by kernel_rfl) hPQ hS0 (by kernel_rfl) ?_ ?_
                          rotate_left
                          · (intro w hSw; (try dsimp only at hSw); obtain ⟨k0, k1⟩ := hSw; go_simp; (try with_reducible rfl))
                          (try simp only [Act.put, List.setIfInBounds_toArray, List.set_cons_zero, List.set_cons_succ])
                          refine takeQ (i := 14) (d := some 213) (v := ?_) rfl rfl (by kernel_rfl) (by kernel_rfl) (by kernel_rfl) hPQ hS0 (by kernel_rfl) ?_ ?_
                          rotate_left
                          · (intro w hSw; (try dsimp only at hSw); obtain ⟨k0, k1⟩ := hSw; go_simp; (try with_reducible rfl))
                          (try simp only [Act.put, List.setIfInBounds_toArray, List.set_cons_zero, List.set_cons_succ])
                          refine takeQ (i := 15) (d := some 214) (v := ?_) rfl rfl (by kernel_rfl) (by kernel_rfl) (by kernel_rfl) hPQ hS0 (by kernel_rfl) ?_ ?_
                          rotate_left
                          · (intro w hSw; (try dsimp only at hSw); obtain ⟨k0, k1⟩ := hSw; go_simp; (try with_reducible rfl))
                          (try simp only [Act.put, List.setIfInBounds_toArray, List.set_cons_zero, List.set_cons_succ])
                          refine takeQ (i := 16) (d := some 215) (v := ?_) rfl rfl (by kernel_rfl) (by kernel_rfl) (by kernel_rfl) hPQ hS0 (by kernel_rfl) ?_ ?_
                          rotate_left
                          · (intro w hSw; (try dsimp only at hSw); obtain ⟨k0, k1⟩ := hSw; go_simp; (try with_reducible rfl))
                          (try simp only [Act.put, List.setIfInBounds_toArray, List.set_cons_zero, List.set_cons_succ])
                          refine takeQ (i := 17) (d := some 216) (v := ?_) rfl rfl (by kernel_rfl) (by kernel_rfl) (by kernel_rfl) hPQ hS0 (by kernel_rfl) ?_ ?_
                          rotate_left
                          · (intro w hSw; (try dsimp only at hSw); obtain ⟨k0, k1⟩ := hSw; go_simp; (try with_reducible rfl))
                          (try simp only [Act.put, List.setIfInBounds_toArray, List.set_cons_zero, List.set_cons_succ])
                          refine takeQ (i := 18) (d := some 217) (v := ?_) rfl rfl (by kernel_rfl) (by kernel_rfl) (by kernel_rfl) hPQ hS0 (by kernel_rfl) ?_ ?_
                          rotate_left
                          · (intro w hSw; (try dsimp only at hSw); obtain ⟨k0, k1⟩ := hSw; go_simp; (try with_reducible rfl))
                          (try simp only [Act.put, List.setIfInBounds_toArray, List.set_cons_zero, List.set_cons_succ])
                          refine takeQ (i := 19) (d := some 218) (v := ?_) rfl rfl (by kernel_rfl) (by kernel_rfl) (by kernel_rfl) hPQ hS0 (by kernel_rfl) ?_ ?_
                          rotate_left
                          · (intro w hSw; (try dsimp only at hSw); obtain ⟨k0, k1⟩ := hSw; go_simp; (try with_reducible rfl))
                          (try simp only [Act.put, List.setIfInBounds_toArray, List.set_cons_zero, List.set_cons_succ])
                          refine takeQ (i := 20) (d := some 219) (v := ?_) rfl rfl (by kernel_rfl) (by kernel_rfl) (by kernel_rfl) hPQ hS0 (by kernel_rfl) ?_ ?_
                          rotate_left
                          · (intro w hSw; (try dsimp only at hSw); obtain ⟨k0, k1⟩ := hSw; go_simp; (try with_reducible rfl))
                          (try simp only [Act.put, List.setIfInBounds_toArray, List.set_cons_zero, List.set_cons_succ])
                          refine wpAnyH_ready (rs := [21]) (by kernel_rfl) (by simp) ?_
                          refine AllReadyH.cons (o := _) rfl (fun K hK => ?_) AllReadyH.nil
                          go_simp
                          have hcc := Hrow.out.below HBB.out
                          rw [← Hrn.out]
                          refine contS22_any (some ⟨rb, ro, none⟩) row c' nm _ _ _ (by rw [Hrn.out]; exact hpos) (by rw [Hrn.out]; exact hrl) HBm.out hcc ?_
                          clear hcc
                          rw [Hrn.out]
                          refine hK.out _ _ (⟨c0, c1⟩) (fun hS1 => ?_)
                          clear hK K hS0
                          (try simp only [Act.put, List.setIfInBounds_toArray, List.set_cons_zero, List.set_cons_succ])
                          refine takeQ (i := 22) (d := some 221) (v := ?_) rfl rfl (by kernel_rfl) (by kernel_rfl) (by kernel_rfl) hPQ hS1 (by kernel_rfl) ?_ ?_
                          rotate_left
                          · (intro w hSw; (try dsimp only at hSw); obtain ⟨k0, k1⟩ := hSw; go_simp; (try with_reducible rfl))
                          (try simp only [Act.put, List.setIfInBounds_toArray, List.set_cons_zero, List.set_cons_succ])
                          refine takeQ (i := 23) (d := some 222) (v := ?_) rfl rfl (by kernel_rfl) (by kernel_rfl) (by kernel_rfl) hPQ hS1 (by kernel_rfl) ?_ ?_
                          rotate_left
                          · (intro w hSw; (try dsimp only at hSw); obtain ⟨k0, k1⟩ := hSw; go_simp; (try with_reducible rfl))
                          (try simp only [Act.put, List.setIfInBounds_toArray, List.set_cons_zero, List.set_cons_succ])
                          refine wpAnyH_done (by kernel_rfl) (hQn.out _ _ ?_) _
                          clear hS1 hPQ hQn Qn
                          go_wp2_with fail
                          exact ⟨⟨q + 1, by omega, by go_num, HB.out.trans (HBB.out.mono sB)⟩, by simp [intOf]; omega⟩
                        | true =>
                          have hin : nm ∈ row := hasL_iff.1 hB
                          have hds := Lib.hid (Hatt.out hne hin)
                          have hfs : fst.size ≤ 9223372036854775807 := by
                            rcases hfz.out with h | h
                            · exact h
                            · exact absurd ⟨hne, hin⟩ h
                          clear hB hin hne hfz Hatt
                          go_wp2_with fail
                          refine regionQ (fun w' => w'.cell? ⟨rb, ro, none⟩ = some (.string fst) ∧ w'.cell? ⟨g, i * 2, none⟩ = some (.string nm)) (by kernel_rfl) (⟨c0, c1⟩) (fun Qn hPQ hQn hS0 => ?_)
                          refine takeQ (i := 0) (d := some 199) (v := ?_) rfl rfl (by kernel_rfl) (by kernel_rfl) (by kernel_rfl) hPQ hS0 (by kernel_rfl) ?_ ?_
                          rotate_left
                          · (intro w hSw; (try dsimp only at hSw); obtain ⟨k0, k1⟩ := hSw; go_simp; (try with_reducible rfl))
                          (try simp only [Act.put, List.setIfInBounds_toArray, List.set_cons_zero, List.set_cons_succ])
                          refine takeQ (i := 1) (d := some 200) (v := ?_) rfl rfl (by kernel_rfl) (by kernel_rfl) (by kernel_rfl) hPQ hS0 (by kernel_rfl) ?_ ?_
                          rotate_left
                          · (intro w hSw; (try dsimp only at hSw); obtain ⟨k0, k1⟩ := hSw; go_simp; (try with_reducible rfl))
                          (try simp only [Act.put, List.setIfInBounds_toArray, List.set_cons_zero, List.set_cons_succ])
                          refine takeQ (i := 2) (d := some 201) (v := ?_) rfl rfl (by kernel_rfl) (by kernel_rfl) (by kernel_rfl) hPQ hS0 (by kernel_rfl) ?_ ?_
                          rotate_left
                          · (intro w hSw; (try dsimp only at hSw); obtain ⟨k0, k1⟩ := hSw; go_simp; (try with_reducible rfl))
                          (try simp only [Act.put, List.setIfInBounds_toArray, List.set_cons_zero, List.set_cons_succ])
                          refine takeQ (i := 3) (d := some 202) (v := ?_) rfl rfl (by kernel_rfl) (by kernel_rfl) (by kernel_rfl) hPQ hS0 (by kernel_rfl) ?_ ?_
                          rotate_left
                          · (intro w hSw; (try dsimp only at hSw); obtain ⟨k0, k1⟩ := hSw; go_simp; (try with_reducible rfl))
                          (try simp only [Act.put, List.setIfInBounds_toArray, List.set_cons_zero, List.set_cons_succ])
                          refine takeQ (i := 4) (d := some 203) (v := ?_) rfl rfl (by kernel_rfl) (by kernel_rfl) (by kernel_rfl) hPQ hS0 (by kernel_rfl) ?_ ?_
                          rotate_left
                          · (intro w hSw; (try dsimp only at hSw); obtain ⟨k0, k1⟩ := hSw; go_simp; (try with_reducible rfl))
                          (try simp only [Act.put, List.setIfInBounds_toArray, List.set_cons_zero, List.set_cons_succ])
                          refine takeQ (i := 5) (d := some 204) (v := ?_) rfl rfl (by kernel_rfl) (by kernel_rfl) (by kernel_rfl) hPQ hS0 (by kernel_rfl) ?_ ?_
                          rotate_left
                          · (intro w hSw; (try dsimp only at hSw); obtain ⟨k0, k1⟩ := hSw; go_simp; (try with_reducible rfl))
                          (try simp only [Act.put, List.setIfInBounds_toArray, List.set_cons_zero, List.set_cons_succ])
                          refine takeQ (i := 6) (d := some 205) (v := ?_) rfl rfl (by kernel_rfl) (by kernel_rfl) (by kernel_rfl) hPQ hS0 (by kernel_rfl) ?_ ?_
                          rotate_left
                          · (intro w hSw; (try dsimp only at hSw); obtain ⟨k0, k1⟩ := hSw; go_simp; (try with_reducible rfl))
                          (try simp only [Act.put, List.setIfInBounds_toArray, List.set_cons_zero, List.set_cons_succ])
                          refine takeQ (i := 7) (d := some 206) (v := ?_) rfl rfl (by kernel_rfl) (by kernel_rfl) (by kernel_rfl) hPQ hS0 (by kernel_rfl) ?_ ?_
                          rotate_left
                          · (intro w hSw; (try dsimp only at hSw); obtain ⟨k0, k1⟩ := hSw; go_simp; (try with_reducible rfl))
                          (try simp only [Act.put, List.setIfInBounds_toArray, List.set_cons_zero, List.set_cons_succ])
                          refine takeQ (i := 8) (d := some 207) (v := ?_) rfl rfl (by kernel_rfl) (by kernel_rfl) (by kernel_rfl) hPQ hS0 (by kernel_rfl) ?_ ?_
                          rotate_left
                          · (intro w hSw; (try dsimp only at hSw); obtain ⟨k0, k1⟩ := hSw; go_simp; (try with_reducible rfl))
                          (try simp only [Act.put, List.setIfInBounds_toArray, List.set_cons_zero, List.set_cons_succ])
                          refine takeQ (i := 9) (d := some 208) (v := ?_) rfl rfl (by kernel_rfl) (by kernel_rfl) (by kernel_rfl) hPQ hS0 (by kernel_rfl) ?_ ?_
                          rotate_left
                          · (intro w hSw; (try dsimp only at hSw); obtain ⟨k0, k1⟩ := hSw; go_simp; (try with_reducible rfl))
                          (try simp only [Act.put, List.setIfInBounds_toArray, List.set_cons_zero, List.set_cons_succ])
                          refine takeQ (i := 10) (d := some 209) (v := ?_) rfl rfl (by kernel_rfl) (by kernel_rfl) (by kernel_rfl) hPQ hS0 (by kernel_rfl) ?_ ?_
                          rotate_left
                          · (intro w hSw; (try dsimp only at hSw); obtain ⟨k0, k1⟩ := hSw; go_simp; (try with_reducible rfl))
                          (try simp only [Act.put, List.setIfInBounds_toArray, List.set_cons_zero, List.set_cons_succ])
                          refine takeQ (i := 11) (d := some 210) (v := ?_) rfl rfl (by kernel_rfl) (by kernel_rfl) (by kernel_rfl) hPQ hS0 (by kernel_rfl) ?_ ?_
                          rotate_left
                          · (intro w hSw; (try dsimp only at hSw); obtain ⟨k0, k1⟩ := hSw; go_simp; (try with_reducible rfl))
                          (try simp only [Act.put, List.setIfInBounds_toArray, List.set_cons_zero, List.set_cons_succ])
                          refine takeQ (i := 12) (d := some 211) (v := ?_) rfl rfl (by kernel_rfl) (by kernel_rfl) (by kernel_rfl) hPQ hS0 (by kernel_rfl) ?_ ?_
                          rotate_left
                          · (intro w hSw; (try dsimp only at hSw); obtain ⟨k0, k1⟩ := hSw; go_simp; (try with_reducible rfl))
                          (try simp only [Act.put, List.setIfInBounds_toArray, List.set_cons_zero, List.set_cons_succ])
                          refine takeQ (i := 13) (d := some 212) (v := ?_) rfl rfl (by kernel_rfl) (by kernel_rfl) (by kernel_rfl) hPQ hS0 (by kernel_rfl) ?_ ?_
                          rotate_left
                          · (intro w hSw; (try dsimp only at hSw); obtain ⟨k0, k1⟩ := hSw; go_simp; (try with_reducible rfl))
                          (try simp only [Act.put, List.setIfInBounds_toArray, List.set_cons_zero, List.set_cons_succ])
                          refine takeQ (i := 14) (d := some 213) (v := ?_) rfl rfl (by kernel_rfl) (by kernel_rfl) (by kernel_rfl) hPQ hS0 (by kernel_rfl) ?_ ?_
                          rotate_left
                          · (intro w hSw; (try dsimp only at hSw); obtain ⟨k0, k1⟩ := hSw; go_simp; (try with_reducible rfl))
                          (try simp only [Act.put, List.setIfInBounds_toArray, List.set_cons_zero, List.set_cons_succ])
                          refine takeQ (i := 15) (d := some 214) (v := ?_) rfl rfl (by kernel_rfl) (by kernel_rfl) (by kernel_rfl) hPQ hS0 (by kernel_rfl) ?_ ?_
                          rotate_left
                          · (intro w hSw; (try dsimp only at hSw); obtain ⟨k0, k1⟩ := hSw; go_simp; (try with_reducible rfl))
                          (try simp only [Act.put, List.setIfInBounds_toArray, List.set_cons_zero, List.set_cons_succ])
                          refine takeQ (i := 16) (d := some 215) (v := ?_) rfl rfl (by kernel_rfl) (by kernel_rfl) (by kernel_rfl) hPQ hS0 (by kernel_rfl) ?_ ?_
                          rotate_left
                          · (intro w hSw; (try dsimp only at hSw); obtain ⟨k0, k1⟩ := hSw; go_simp; (try with_reducible rfl))
                          (try simp only [Act.put, List.setIfInBounds_toArray, List.set_cons_zero, List.set_cons_succ])
                          refine takeQ (i := 17) (d := some 216) (v := ?_) rfl rfl (by kernel_rfl) (by kernel_rfl) (by kernel_rfl) hPQ hS0 (by kernel_rfl) ?_ ?_
                          rotate_left
                          · (intro w hSw; (try dsimp only at hSw); obtain ⟨k0, k1⟩ := hSw; go_simp; (try with_reducible rfl))
                          (try simp only [Act.put, List.setIfInBounds_toArray, List.set_cons_zero, List.set_cons_succ])
                          refine takeQ (i := 18) (d := some 217) (v := ?_) rfl rfl (by kernel_rfl) (by kernel_rfl) (by kernel_rfl) hPQ hS0 (by kernel_rfl) ?_ ?_
                          rotate_left
                          · (intro w hSw; (try dsimp only at hSw); obtain ⟨k0, k1⟩ := hSw; go_simp; (try with_reducible rfl))
                          (try simp only [Act.put, List.setIfInBounds_toArray, List.set_cons_zero, List.set_cons_succ])
                          refine takeQ (i := 19) (d := some 218) (v := ?_) rfl rfl (by kernel_rfl) (by kernel_rfl) (by kernel_rfl) hPQ hS0 (by kernel_rfl) ?_ ?_
                          rotate_left
                          · (intro w hSw; (try dsimp only at hSw); obtain ⟨k0, k1⟩ := hSw; go_simp; (try with_reducible rfl))
                          (try simp only [Act.put, List.setIfInBounds_toArray, List.set_cons_zero, List.set_cons_succ])
                          refine takeQ (i := 20) (d := some 219) (v := ?_) rfl rfl (by kernel_rfl) (by kernel_rfl) (by kernel_rfl) hPQ hS0 (by kernel_rfl) ?_ ?_
                          rotate_left
                          · (intro w hSw; (try dsimp only at hSw); obtain ⟨k0, k1⟩ := hSw; go_simp; (try with_reducible rfl))
                          (try simp only [Act.put, List.setIfInBounds_toArray, List.set_cons_zero, List.set_cons_succ])
                          refine wpAnyH_ready (rs := [21]) (by kernel_rfl) (by simp) ?_
                          refine AllReadyH.cons (o := _) rfl (fun K hK => ?_) AllReadyH.nil
                          go_simp
                          have hcc := Hrow.out.below HBB.out
                          rw [← Hrn.out]
                          refine contS22_any (some ⟨rb, ro, none⟩) row c' nm _ _ _ (by rw [Hrn.out]; exact hpos) (by rw [Hrn.out]; exact hrl) HBm.out hcc ?_
                          clear hcc
                          rw [Hrn.out]
                          refine hK.out _ _ (⟨c0, c1⟩) (fun hS1 => ?_)
                          clear hK K hS0
                          (try simp only [Act.put, List.setIfInBounds_toArray, List.set_cons_zero, List.set_cons_succ])
                          refine takeQ (i := 22) (d := some 221) (v := ?_) rfl rfl (by kernel_rfl) (by kernel_rfl) (by kernel_rfl) hPQ hS1 (by kernel_rfl) ?_ ?_
                          rotate_left
                          · (intro w hSw; (try dsimp only at hSw); obtain ⟨k0, k1⟩ := hSw; go_simp; (try with_reducible rfl))
                          (try simp only [Act.put, List.setIfInBounds_toArray, List.set_cons_zero, List.set_cons_succ])
                          refine takeQ (i := 23) (d := some 222) (v := ?_) rfl rfl (by kernel_rfl) (by kernel_rfl) (by kernel_rfl) hPQ hS1 (by kernel_rfl) ?_ ?_
                          rotate_left
                          · (intro w hSw; (try dsimp only at hSw); obtain ⟨k0, k1⟩ := hSw; go_simp; (try with_reducible rfl))
                          (try simp only [Act.put, List.setIfInBounds_toArray, List.set_cons_zero, List.set_cons_succ])
                          refine wpAnyH_done (by kernel_rfl) (hQn.out _ _ ?_) _
                          clear hS1 hPQ hQn Qn
                          go_wp2_with fail
                          obtain ⟨wF, hwF⟩ : ∃ wF, wr.drew = wF := ⟨_, rfl⟩
                          rw [hwF] at HBB ⊢
                          have BF := Lib.hid (HB.out.trans (HBB.out.mono sB))
                          have c0 := cellB HBB.out c0 lb1
                          have c1 := cellB HBB.out c1 lb2
                          have c2 := cellB HBB.out c2 lb2
                          have c3 := cellB HBB.out c3 lb3
                          have HD := Lib.hid (HD.out.below HBB.out)
                          have zF := HBB.out.size
                          have sF := BF.out.size
                          have lb1 : rb < wF.heap.size := by omega
                          have lb2 : g < wF.heap.size := by omega
                          have lb3 : gq < wF.heap.size := by omega
                          have CC : Hid (Below wF.heap.size wF wF.drew) := (Below.refl _ _).drew
                          clear hwF HB sB
                          refine regionQ (fun w' => w'.cell? ⟨rb, ro, none⟩ = some (.string fst) ∧ w'.cell? ⟨g, i * 2, none⟩ = some (.string nm)) (by kernel_rfl) (⟨c0, c1⟩) (fun Qn hPQ hQn hS0 => ?_)
                          refine takeQ (i := 0) (d := some 224) (v := ?_) rfl rfl (by kernel_rfl) (by kernel_rfl) (by kernel_rfl) hPQ hS0 (by kernel_rfl) ?_ ?_
                          rotate_left
                          · (intro w hSw; (try dsimp only at hSw); obtain ⟨k0, k1⟩ := hSw; go_simp; (try with_reducible rfl))
                          (try simp only [Act.put, List.setIfInBounds_toArray, List.set_cons_zero, List.set_cons_succ])
                          refine takeQ (i := 1) (d := some 225) (v := ?_) rfl rfl (by kernel_rfl) (by kernel_rfl) (by kernel_rfl) hPQ hS0 (by kernel_rfl) ?_ ?_
                          rotate_left
                          · (intro w hSw; (try dsimp only at hSw); obtain ⟨k0, k1⟩ := hSw; go_simp; (try with_reducible rfl))
                          (try simp only [Act.put, List.setIfInBounds_toArray, List.set_cons_zero, List.set_cons_succ])
                          refine takeQ (i := 2) (d := some 226) (v := ?_) rfl rfl (by kernel_rfl) (by kernel_rfl) (by kernel_rfl) hPQ hS0 (by kernel_rfl) ?_ ?_
                          rotate_left
                          · (intro w hSw; (try dsimp only at hSw); obtain ⟨k0, k1⟩ := hSw; go_simp; (try with_reducible rfl))
                          (try simp only [Act.put, List.setIfInBounds_toArray, List.set_cons_zero, List.set_cons_succ])
                          refine takeQ (i := 3) (d := some 227) (v := ?_) rfl rfl (by kernel_rfl) (by kernel_rfl) (by kernel_rfl) hPQ hS0 (by kernel_rfl) ?_ ?_
                          rotate_left
                          · (intro w hSw; (try dsimp only at hSw); obtain ⟨k0, k1⟩ := hSw; go_simp; (try with_reducible rfl))
                          (try simp only [Act.put, List.setIfInBounds_toArray, List.set_cons_zero, List.set_cons_succ])
                          refine takeQ (i := 4) (d := some 228) (v := ?_) rfl rfl (by kernel_rfl) (by kernel_rfl) (by kernel_rfl) hPQ hS0 (by kernel_rfl) ?_ ?_
                          rotate_left
                          · (intro w hSw; (try dsimp only at hSw); obtain ⟨k0, k1⟩ := hSw; go_simp; (try with_reducible rfl))
                          (try simp only [Act.put, List.setIfInBounds_toArray, List.set_cons_zero, List.set_cons_succ])
                          refine takeQ (i := 5) (d := some 229) (v := ?_) rfl rfl (by kernel_rfl) (by kernel_rfl) (by kernel_rfl) hPQ hS0 (by kernel_rfl) ?_ ?_
                          rotate_left
                          · (intro w hSw; (try dsimp only at hSw); obtain ⟨k0, k1⟩ := hSw; go_simp; (try with_reducible rfl))
                          (try simp only [Act.put, List.setIfInBounds_toArray, List.set_cons_zero, List.set_cons_succ])
                          refine takeQ (i := 6) (d := some 230) (v := ?_) rfl rfl (by kernel_rfl) (by kernel_rfl) (by kernel_rfl) hPQ hS0 (by kernel_rfl) ?_ ?_
                          rotate_left
                          · (intro w hSw; (try dsimp only at hSw); obtain ⟨k0, k1⟩ := hSw; go_simp; (try with_reducible rfl))
                          (try simp only [Act.put, List.setIfInBounds_toArray, List.set_cons_zero, List.set_cons_succ])
                          refine takeQ (i := 7) (d := some 231) (v := ?_) rfl rfl (by kernel_rfl) (by kernel_rfl) (by kernel_rfl) hPQ hS0 (by kernel_rfl) ?_ ?_
                          rotate_left
                          · (intro w hSw; (try dsimp only at hSw); obtain ⟨k0, k1⟩ := hSw; go_simp; (try with_reducible rfl))
                          (try simp only [Act.put, List.setIfInBounds_toArray, List.set_cons_zero, List.set_cons_succ])
                          refine takeQ (i := 8) (d := some 232) (v := ?_) rfl rfl (by kernel_rfl) (by kernel_rfl) (by kernel_rfl) hPQ hS0 (by kernel_rfl) ?_ ?_
                          rotate_left
                          · (intro w hSw; (try dsimp only at hSw); obtain ⟨k0, k1⟩ := hSw; go_simp; (try with_reducible rfl))
                          (try simp only [Act.put, List.setIfInBounds_toArray, List.set_cons_zero, List.set_cons_succ])
                          refine takeQ (i := 9) (d := some 233) (v := ?_) rfl rfl (by kernel_rfl) (by kernel_rfl) (by kernel_rfl) hPQ hS0 (by kernel_rfl) ?_ ?_
                          rotate_left
                          · (intro w hSw; (try dsimp only at hSw); obtain ⟨k0, k1⟩ := hSw; go_simp; (try with_reducible rfl))
                          (try simp only [Act.put, List.setIfInBounds_toArray, List.set_cons_zero, List.set_cons_succ])
                          refine wpAnyH_ready (rs := [10, 14]) (by kernel_rfl) (by simp) ?_
                          refine AllReadyH.cons (o := _) rfl (fun K hK => ?_) (AllReadyH.cons (o := _) rfl (fun K hK => ?_) AllReadyH.nil)
                          go_simp
                          refine distN_any _ vs _ c ax fst nm (-qa) pa 0 _ _ rfl hl (HD.out.below CC.out) HV.out hfs nz hds.out ?_
                          intro wS hb
                          have t4 : Hid (Below wF.heap.size wF wS) := CC.out.trans (hb.mono CC.out.size)
                          have g0 := cellB t4.out c0 lb1
                          have g1 := cellB t4.out c1 lb2
                          clear hb
                          refine hK.out _ _ (⟨g0, g1⟩) (fun hS1 => ?_)
                          clear hK K hS0
                          (try simp only [Act.put, List.setIfInBounds_toArray, List.set_cons_zero, List.set_cons_succ])
                          refine takeQ (i := 11) (d := some 223) (v := ?_) rfl rfl (by kernel_rfl) (by kernel_rfl) (by kernel_rfl) hPQ hS1 (by kernel_rfl) ?_ ?_
                          rotate_left
                          · (intro w hSw; (try dsimp only at hSw); obtain ⟨k0, k1⟩ := hSw; go_simp; (try with_reducible rfl))
                          (try simp only [Act.put, List.setIfInBounds_toArray, List.set_cons_zero, List.set_cons_succ])
                          refine takeQ (i := 12) (d := some 235) (v := ?_) rfl rfl (by kernel_rfl) (by kernel_rfl) (by kernel_rfl) hPQ hS1 (by kernel_rfl) ?_ ?_
                          rotate_left
                          · (intro w hSw; (try dsimp only at hSw); obtain ⟨k0, k1⟩ := hSw; go_simp; (try with_reducible rfl))
                          (try simp only [Act.put, List.setIfInBounds_toArray, List.set_cons_zero, List.set_cons_succ])
                          refine takeQ (i := 13) (d := some 236) (v := ?_) rfl rfl (by kernel_rfl) (by kernel_rfl) (by kernel_rfl) hPQ hS1 (by kernel_rfl) ?_ ?_
                          rotate_left
                          · (intro w hSw; (try dsimp only at hSw); obtain ⟨k0, k1⟩ := hSw; go_simp; (try with_reducible rfl))
                          (try simp only [Act.put, List.setIfInBounds_toArray, List.set_cons_zero, List.set_cons_succ])
                          refine wpAnyH_ready (rs := [14]) (by kernel_rfl) (by simp) ?_
                          refine AllReadyH.cons (o := _) rfl (fun K hK => ?_) AllReadyH.nil
                          go_simp
                          have f4 : Hid (Below wF.heap.size wF (wS.alloc (.cells #[.int .i64 0, .int .i64 0] 37))) := t4.out.alloc t4.out.size _
                          have FB := Lib.hid (World.alloc_heap_new wS (.cells #[.int .i64 0, .int .i64 0] 37))
                          have zS := t4.out.size
                          obtain ⟨wT, hwT⟩ : ∃ wT, wS.alloc (.cells #[.int .i64 0, .int .i64 0] 37) = wT := ⟨_, rfl⟩
                          rw [hwT] at f4 FB ⊢
                          clear hwT
                          have g0 := cellB f4.out c0 lb1
                          have g1 := cellB f4.out c1 lb2
                          have z0 := cell_of FB.out (j := 0) rfl
                          have z1 := cell_of FB.out (j := 1) rfl
                          have f0 := frozen_of FB.out 0
                          have f1 := frozen_of FB.out 1
                          refine hK.out _ _ (⟨g0, g1⟩) (fun hS2 => ?_)
                          clear hK K hS1
                          (try simp only [Act.put, List.setIfInBounds_toArray, List.set_cons_zero, List.set_cons_succ])
                          refine wpAnyH_ready (rs := [15]) (by kernel_rfl) (by simp) ?_
                          refine AllReadyH.cons (o := _) rfl (fun K hK => ?_) AllReadyH.nil
                          go_simp
                          have YB := Lib.hid (heap_setCell_same _ wS.heap.size 1 _ _ (.int .i64 pa) (heap_setCell_same _ wS.heap.size 0 _ _ (.int .i64 (-qa)) FB.out))
                          obtain ⟨yb, hyb⟩ : ∃ yb, wS.heap.size = yb := ⟨_, rfl⟩
                          rw [hyb] at YB ⊢
                          have y4 := Lib.hid ((f4.out.setCell (p := ⟨yb, 0, none⟩) (show wF.heap.size ≤ yb by omega) (.int .i64 (-qa))).setCell (p := ⟨yb, 1, none⟩) (show wF.heap.size ≤ yb by omega) (.int .i64 pa))
                          clear hyb
                          obtain ⟨wY, hwY⟩ : ∃ wY, (wT.setCell ⟨yb, 0, none⟩ (.int .i64 (-qa))).setCell ⟨yb, 1, none⟩ (.int .i64 pa) = wY := ⟨_, rfl⟩
                          rw [hwY] at YB y4 ⊢
                          clear hwY
                          have g0 := cellB y4.out c0 lb1
                          have g1 := cellB y4.out c1 lb2
                          refine hK.out _ _ (⟨g0, g1⟩) (fun hS3 => ?_)
                          clear hK K hS2
                          (try simp only [Act.put, List.setIfInBounds_toArray, List.set_cons_zero, List.set_cons_succ])
                          refine takeQ (i := 16) (d := some 28) (v := ?_) rfl rfl (by kernel_rfl) (by kernel_rfl) (by kernel_rfl) hPQ hS3 (by kernel_rfl) ?_ ?_
                          rotate_left
                          · (intro w hSw; (try dsimp only at hSw); obtain ⟨k0, k1⟩ := hSw; go_simp; (try with_reducible rfl))
                          (try simp only [Act.put, List.setIfInBounds_toArray, List.set_cons_zero, List.set_cons_succ])
                          refine wpAnyH_done (by kernel_rfl) (hQn.out _ _ ?_) _
                          clear hS3 hPQ hQn Qn
                          rotate_left
                          go_simp
                          have e4 : Hid (Below wF.heap.size wF ((wF.alloc (.cells #[.int .i64 0, .int .i64 0] 37)).drew)) := ((Below.refl _ _).alloc (Nat.le_refl _) _).drew
                          have EB : Hid (((wF.alloc (.cells #[.int .i64 0, .int .i64 0] 37)).drew).heap[wF.heap.size]? = some (.cells #[.int .i64 0, .int .i64 0] 37 (0, 0))) := World.alloc_heap_new wF (.cells #[.int .i64 0, .int .i64 0] 37)
                          obtain ⟨wE, hwE⟩ : ∃ wE, (wF.alloc (.cells #[.int .i64 0, .int .i64 0] 37)).drew = wE := ⟨_, rfl⟩
                          rw [hwE] at e4 EB ⊢
                          clear hwE
                          have g0 := cellB e4.out c0 lb1
                          have g1 := cellB e4.out c1 lb2
                          refine hK.out _ _ (⟨g0, g1⟩) (fun hS1 => ?_)
                          clear hK K hS0
                          (try simp only [Act.put, List.setIfInBounds_toArray, List.set_cons_zero, List.set_cons_succ])
                          refine wpAnyH_ready (rs := [10]) (by kernel_rfl) (by simp) ?_
                          refine AllReadyH.cons (o := _) rfl (fun K hK => ?_) AllReadyH.nil
                          go_simp
                          refine distN_any _ vs _ c ax fst nm (-qa) pa 0 _ _ rfl hl (HD.out.below e4.out) HV.out hfs nz hds.out ?_
                          intro wT hb
                          have f4 : Hid (Below wF.heap.size wF wT) := e4.out.trans (hb.mono e4.out.size)
                          have g0 := cellB f4.out c0 lb1
                          have g1 := cellB f4.out c1 lb2
                          have FB := Lib.hid (blk_box EB.out hb (lt_of_block EB.out))
                          have z0 := cell_of FB.out (j := 0) rfl
                          have z1 := cell_of FB.out (j := 1) rfl
                          have f0 := frozen_of FB.out 0
                          have f1 := frozen_of FB.out 1
                          clear hb
                          refine hK.out _ _ (⟨g0, g1⟩) (fun hS2 => ?_)
                          clear hK K hS1
                          (try simp only [Act.put, List.setIfInBounds_toArray, List.set_cons_zero, List.set_cons_succ])
                          refine takeQ (i := 11) (d := some 223) (v := ?_) rfl rfl (by kernel_rfl) (by kernel_rfl) (by kernel_rfl) hPQ hS2 (by kernel_rfl) ?_ ?_
                          rotate_left
                          · (intro w hSw; (try dsimp only at hSw); obtain ⟨k0, k1⟩ := hSw; go_simp; (try with_reducible rfl))
                          (try simp only [Act.put, List.setIfInBounds_toArray, List.set_cons_zero, List.set_cons_succ])
                          refine takeQ (i := 12) (d := some 235) (v := ?_) rfl rfl (by kernel_rfl) (by kernel_rfl) (by kernel_rfl) hPQ hS2 (by kernel_rfl) ?_ ?_
                          rotate_left
                          · (intro w hSw; (try dsimp only at hSw); obtain ⟨k0, k1⟩ := hSw; go_simp; (try with_reducible rfl))
                          (try simp only [Act.put, List.setIfInBounds_toArray, List.set_cons_zero, List.set_cons_succ])
                          refine takeQ (i := 13) (d := some 236) (v := ?_) rfl rfl (by kernel_rfl) (by kernel_rfl) (by kernel_rfl) hPQ hS2 (by kernel_rfl) ?_ ?_
                          rotate_left
                          · (intro w hSw; (try dsimp only at hSw); obtain ⟨k0, k1⟩ := hSw; go_simp; (try with_reducible rfl))
                          (try simp only [Act.put, List.setIfInBounds_toArray, List.set_cons_zero, List.set_cons_succ])
                          refine wpAnyH_ready (rs := [15]) (by kernel_rfl) (by simp) ?_
                          refine AllReadyH.cons (o := _) rfl (fun K hK => ?_) AllReadyH.nil
                          go_simp
                          have YB := Lib.hid (heap_setCell_same _ wF.heap.size 1 _ _ (.int .i64 pa) (heap_setCell_same _ wF.heap.size 0 _ _ (.int .i64 (-qa)) FB.out))
                          obtain ⟨yb, hyb⟩ : ∃ yb, wF.heap.size = yb := ⟨_, rfl⟩
                          rw [hyb] at YB ⊢
                          have y4 := Lib.hid ((f4.out.setCell (p := ⟨yb, 0, none⟩) (show wF.heap.size ≤ yb by omega) (.int .i64 (-qa))).setCell (p := ⟨yb, 1, none⟩) (show wF.heap.size ≤ yb by omega) (.int .i64 pa))
                          clear hyb
                          obtain ⟨wY, hwY⟩ : ∃ wY, (wT.setCell ⟨yb, 0, none⟩ (.int .i64 (-qa))).setCell ⟨yb, 1, none⟩ (.int .i64 pa) = wY := ⟨_, rfl⟩
                          rw [hwY] at YB y4 ⊢
                          clear hwY
                          have g0 := cellB y4.out c0 lb1
                          have g1 := cellB y4.out c1 lb2
                          refine hK.out _ _ (⟨g0, g1⟩) (fun hS3 => ?_)
                          clear hK K hS2
                          (try simp only [Act.put, List.setIfInBounds_toArray, List.set_cons_zero, List.set_cons_succ])
                          refine takeQ (i := 16) (d := some 28) (v := ?_) rfl rfl (by kernel_rfl) (by kernel_rfl) (by kernel_rfl) hPQ hS3 (by kernel_rfl) ?_ ?_
                          rotate_left
                          · (intro w hSw; (try dsimp only at hSw); obtain ⟨k0, k1⟩ := hSw; go_simp; (try with_reducible rfl))
                          (try simp only [Act.put, List.setIfInBounds_toArray, List.set_cons_zero, List.set_cons_succ])
                          refine wpAnyH_done (by kernel_rfl) (hQn.out _ _ ?_) _
                          clear hS3 hPQ hQn Qn
                          rotate_left
                          all_goals
                            have e0 := cellB y4.out c0 lb1
                            have e2 := cellB y4.out c2 lb2
                            have e3 := cellB y4.out c3 lb3
                            have l0 := cell_of YB.out (j := 0) (v := .int .i64 (-qa)) rfl
                            have l1 := cell_of YB.out (j := 1) (v := .int .i64 pa) rfl
                            have DD : Hid (Below wY.heap.size wY wY.drew) := (Below.refl _ _).drew
                            have U9 := Lib.hid (BF.out.trans (y4.out.mono sF))
                            have sU9 := U9.out.size
                            clear c0 c1 c2 c3 CC e0
                          all_goals
                            go_wp2_with fail
                            refine regionQ (fun w' => w'.cell? ⟨yb, 0, none⟩ = some (.int .i64 (-qa)) ∧ w'.cell? ⟨yb, 1, none⟩ = some (.int .i64 pa) ∧ w'.cell? ⟨g, i * 2 + 1, none⟩ = some (.int .i64 pa) ∧ w'.cell? ⟨gq, i * 2 + 1, none⟩ = some (.int .i64 qa)) (by kernel_rfl) (⟨l0, l1, e2, e3⟩) (fun Qn hPQ hQn hS0 => ?_)
                            refine takeQ (i := 0) (d := some 237) (v := ?_) rfl rfl (by kernel_rfl) (by kernel_rfl) (by kernel_rfl) hPQ hS0 (by kernel_rfl) ?_ ?_
                            rotate_left
                            · (intro w hSw; (try dsimp only at hSw); obtain ⟨k0, k1, k2, k3⟩ := hSw; go_simp; (try with_reducible rfl))
                            (try simp only [Act.put, List.setIfInBounds_toArray, List.set_cons_zero, List.set_cons_succ])
                            refine takeQ (i := 1) (d := some 238) (v := ?_) rfl rfl (by kernel_rfl) (by kernel_rfl) (by kernel_rfl) hPQ hS0 (by kernel_rfl) ?_ ?_
                            rotate_left
                            · (intro w hSw; (try dsimp only at hSw); obtain ⟨k0, k1, k2, k3⟩ := hSw; go_simp; (try with_reducible rfl))
                            (try simp only [Act.put, List.setIfInBounds_toArray, List.set_cons_zero, List.set_cons_succ])
                            refine takeQ (i := 2) (d := some 239) (v := ?_) rfl rfl (by kernel_rfl) (by kernel_rfl) (by kernel_rfl) hPQ hS0 (by kernel_rfl) ?_ ?_
                            rotate_left
                            · (intro w hSw; (try dsimp only at hSw); obtain ⟨k0, k1, k2, k3⟩ := hSw; go_simp; (try with_reducible rfl))
                            (try simp only [Act.put, List.setIfInBounds_toArray, List.set_cons_zero, List.set_cons_succ])
                            refine takeQ (i := 3) (d := some 240) (v := ?_) rfl rfl (by kernel_rfl) (by kernel_rfl) (by kernel_rfl) hPQ hS0 (by kernel_rfl) ?_ ?_
                            rotate_left
                            · (intro w hSw; (try dsimp only at hSw); obtain ⟨k0, k1, k2, k3⟩ := hSw; go_simp; (try with_reducible rfl))
                            (try simp only [Act.put, List.setIfInBounds_toArray, List.set_cons_zero, List.set_cons_succ])
                            refine takeQ (i := 4) (d := some 241) (v := ?_) rfl rfl (by kernel_rfl) (by kernel_rfl) (by kernel_rfl) hPQ hS0 (by kernel_rfl) ?_ ?_
                            rotate_left
                            · (intro w hSw; (try dsimp only at hSw); obtain ⟨k0, k1, k2, k3⟩ := hSw; go_simp; (try with_reducible rfl))
                            (try simp only [Act.put, List.setIfInBounds_toArray, List.set_cons_zero, List.set_cons_succ])
                            refine takeQ (i := 5) (d := some 242) (v := ?_) rfl rfl (by kernel_rfl) (by kernel_rfl) (by kernel_rfl) hPQ hS0 (by kernel_rfl) ?_ ?_
                            rotate_left
                            · (intro w hSw; (try dsimp only at hSw); obtain ⟨k0, k1, k2, k3⟩ := hSw; go_simp; (try with_reducible rfl))
                            (try simp only [Act.put, List.setIfInBounds_toArray, List.set_cons_zero, List.set_cons_succ])
                            refine takeQ (i := 6) (d := some 243) (v := ?_) rfl rfl (by kernel_rfl) (by kernel_rfl) (by kernel_rfl) hPQ hS0 (by kernel_rfl) ?_ ?_
                            rotate_left
                            · (intro w hSw; (try dsimp only at hSw); obtain ⟨k0, k1, k2, k3⟩ := hSw; go_simp; (try with_reducible rfl))
                            (try simp only [Act.put, List.setIfInBounds_toArray, List.set_cons_zero, List.set_cons_succ])
                            refine takeQ (i := 7) (d := some 244) (v := ?_) rfl rfl (by kernel_rfl) (by kernel_rfl) (by kernel_rfl) hPQ hS0 (by kernel_rfl) ?_ ?_
                            rotate_left
                            · (intro w hSw; (try dsimp only at hSw); obtain ⟨k0, k1, k2, k3⟩ := hSw; go_simp; (try with_reducible rfl))
                            (try simp only [Act.put, List.setIfInBounds_toArray, List.set_cons_zero, List.set_cons_succ])
                            refine takeQ (i := 8) (d := some 245) (v := ?_) rfl rfl (by kernel_rfl) (by kernel_rfl) (by kernel_rfl) hPQ hS0 (by kernel_rfl) ?_ ?_
                            rotate_left
                            · (intro w hSw; (try dsimp only at hSw); obtain ⟨k0, k1, k2, k3⟩ := hSw; go_simp; (try with_reducible rfl))
                            (try simp only [Act.put, List.setIfInBounds_toArray, List.set_cons_zero, List.set_cons_succ])
                            refine takeQ (i := 9) (d := some 246) (v := ?_) rfl rfl (by kernel_rfl) (by kernel_rfl) (by kernel_rfl) hPQ hS0 (by kernel_rfl) ?_ ?_
                            rotate_left
                            · (intro w hSw; (try dsimp only at hSw); obtain ⟨k0, k1, k2, k3⟩ := hSw; go_simp; (try with_reducible rfl))
                            (try simp only [Act.put, List.setIfInBounds_toArray, List.set_cons_zero, List.set_cons_succ])
                            refine takeQ (i := 10) (d := some 247) (v := ?_) rfl rfl (by kernel_rfl) (by kernel_rfl) (by kernel_rfl) hPQ hS0 (by kernel_rfl) ?_ ?_
                            rotate_left
                            · (intro w hSw; (try dsimp only at hSw); obtain ⟨k0, k1, k2, k3⟩ := hSw; go_simp; (try with_reducible rfl))
                            (try simp only [Act.put, List.setIfInBounds_toArray, List.set_cons_zero, List.set_cons_succ])
                            refine takeQ (i := 11) (d := some 248) (v := ?_) rfl rfl (by kernel_rfl) (by kernel_rfl) (by kernel_rfl) hPQ hS0 (by kernel_rfl) ?_ ?_
                            rotate_left
                            · (intro w hSw; (try dsimp only at hSw); obtain ⟨k0, k1, k2, k3⟩ := hSw; go_simp; (try with_reducible rfl))
                            (try simp only [Act.put, List.setIfInBounds_toArray, List.set_cons_zero, List.set_cons_succ])
                            refine takeQ (i := 12) (d := some 249) (v := ?_) rfl rfl (by kernel_rfl) (by kernel_rfl) (by kernel_rfl) hPQ hS0 (by kernel_rfl) ?_ ?_
                            rotate_left
                            · (intro w hSw; (try dsimp only at hSw); obtain ⟨k0, k1, k2, k3⟩ := hSw; go_simp; (try with_reducible rfl))
                            (try simp only [Act.put, List.setIfInBounds_toArray, List.set_cons_zero, List.set_cons_succ])
                            refine takeQ (i := 13) (d := some 250) (v := ?_) rfl rfl (by kernel_rfl) (by kernel_rfl) (by kernel_rfl) hPQ hS0 (by kernel_rfl) ?_ ?_
                            rotate_left
                            · (intro w hSw; (try dsimp only at hSw); obtain ⟨k0, k1, k2, k3⟩ := hSw; go_simp; (try with_reducible rfl))
                            (try simp only [Act.put, List.setIfInBounds_toArray, List.set_cons_zero, List.set_cons_succ])
                            refine takeQ (i := 14) (d := some 251) (v := ?_) rfl rfl (by kernel_rfl) (by kernel_rfl) (by kernel_rfl) hPQ hS0 (by kernel_rfl) ?_ ?_
                            rotate_left
                            · (intro w hSw; (try dsimp only at hSw); obtain ⟨k0, k1, k2, k3⟩ := hSw; go_simp; (try with_reducible rfl))
                            (try simp only [Act.put, List.setIfInBounds_toArray, List.set_cons_zero, List.set_cons_succ])
                            refine takeQ (i := 15) (d := some 252) (v := ?_) rfl rfl (by kernel_rfl) (by kernel_rfl) (by kernel_rfl) hPQ hS0 (by kernel_rfl) ?_ ?_
                            rotate_left
                            · (intro w hSw; (try dsimp only at hSw); obtain ⟨k0, k1, k2, k3⟩ := hSw; go_simp; (try with_reducible rfl))
                            (try simp only [Act.put, List.setIfInBounds_toArray, List.set_cons_zero, List.set_cons_succ])
                            refine takeQ (i := 16) (d := some 253) (v := ?_) rfl rfl (by kernel_rfl) (by kernel_rfl) (by kernel_rfl) hPQ hS0 (by kernel_rfl) ?_ ?_
                            rotate_left
                            · (intro w hSw; (try dsimp only at hSw); obtain ⟨k0, k1, k2, k3⟩ := hSw; go_simp; (try with_reducible rfl))
                            (try simp only [Act.put, List.setIfInBounds_toArray, List.set_cons_zero, List.set_cons_succ])
                            refine takeQ (i := 17) (d := some 254) (v := ?_) rfl rfl (by kernel_rfl) (by kernel_rfl) (by kernel_rfl) hPQ hS0 (by kernel_rfl) ?_ ?_
                            rotate_left
                            · (intro w hSw; (try dsimp only at hSw); obtain ⟨k0, k1, k2, k3⟩ := hSw; go_simp; (try with_reducible rfl))
                            (try simp only [Act.put, List.setIfInBounds_toArray, List.set_cons_zero, List.set_cons_succ])
                            refine takeQ (i := 18) (d := some 255) (v := ?_) rfl rfl (by kernel_rfl) (by kernel_rfl) (by kernel_rfl) hPQ hS0 (by kernel_rfl) ?_ ?_
                            rotate_left
                            · (intro w hSw; (try dsimp only at hSw); obtain ⟨k0, k1, k2, k3⟩ := hSw; go_simp; (try with_reducible rfl))
                            (try simp only [Act.put, List.setIfInBounds_toArray, List.set_cons_zero, List.set_cons_succ])
                            refine takeQ (i := 19) (d := some 256) (v := ?_) rfl rfl (by kernel_rfl) (by kernel_rfl) (by kernel_rfl) hPQ hS0 (by kernel_rfl) ?_ ?_
                            rotate_left
                            · (intro w hSw; (try dsimp only at hSw); obtain ⟨k0, k1, k2, k3⟩ := hSw; go_simp; (try with_reducible rfl))
                            (try simp only [Act.put, List.setIfInBounds_toArray, List.set_cons_zero, List.set_cons_succ])
                            refine takeQ (i := 20) (d := some 257) (v := ?_) rfl rfl (by kernel_rfl) (by kernel_rfl) (by kernel_rfl) hPQ hS0 (by kernel_rfl) ?_ ?_
                            rotate_left
                            · (intro w hSw; (try dsimp only at hSw); obtain ⟨k0, k1, k2, k3⟩ := hSw; go_simp; (try with_reducible rfl))
                            (try simp only [Act.put, List.setIfInBounds_toArray, List.set_cons_zero, List.set_cons_succ])
                            refine takeQ (i := 21) (d := some 258) (v := ?_) rfl rfl (by kernel_rfl) (by kernel_rfl) (by kernel_rfl) hPQ hS0 (by kernel_rfl) ?_ ?_
                            rotate_left
                            · (intro w hSw; (try dsimp only at hSw); obtain ⟨k0, k1, k2, k3⟩ := hSw; go_simp; (try with_reducible rfl))
                            (try simp only [Act.put, List.setIfInBounds_toArray, List.set_cons_zero, List.set_cons_succ])
                            refine takeQ (i := 22) (d := some 259) (v := ?_) rfl rfl (by kernel_rfl) (by kernel_rfl) (by kernel_rfl) hPQ hS0 (by kernel_rfl) ?_ ?_
                            rotate_left
                            · (intro w hSw; (try dsimp only at hSw); obtain ⟨k0, k1, k2, k3⟩ := hSw; go_simp; (try with_reducible rfl))
                            (try simp only [Act.put, List.setIfInBounds_toArray, List.set_cons_zero, List.set_cons_succ])
                            refine wpAnyH_done (by kernel_rfl) (hQn.out _ _ ?_) _
                            clear hS0 hPQ hQn Qn
                            go_wp2_with fail
                            exact ⟨⟨q + 1, by omega, by go_num, U9.out.trans (DD.out.mono sU9)⟩, by simp [intOf]; omega⟩
                    · obtain rfl : q = NG := by omega
                      go_wp2_with fail
                      exact ⟨⟨i + 1, by omega, by go_num, HB⟩, by simp [intOf]; omega⟩
                · obtain rfl : i = N := by omega
                  go_wp2_with fail
                  refine awake22_any _ _ ?_
                  intro w9 hb
                  have U9 := Lib.hid (U8.out.trans ((HB.out.trans (hb.mono HB.out.size)).mono s8))
                  clear hb
                  go_wp2_with fail
                  exact HR.out _ U9.out
end Go.Proofs.Ytlgjhjgdmomfoaa
