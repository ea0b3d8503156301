/- Parse of package frame. (Printed by gen_fparse.py.) -/
import Derived.Test.YtciokmjhdbcmpaaGreatDoorMfy
namespace Go.Proofs.YtciokmjhdbcmpaaGreatDoor
open Go.RowKit

theorem gsW_disc (h : List UInt8) (r : List (List UInt8)) : gsW (h :: discL :: r) = gsR (kdW h) true r := by
  show (if some discL = some discL then gsR (kdW h) true r else gsR (kdW h) false (discL :: r)) = _
  rw [if_pos rfl]
theorem gsW_plain {h a : List UInt8} {r : List (List UInt8)} (ha : a ≠ discL) : gsW (h :: a :: r) = gsR (kdW h) false (a :: r) := by
  show (if some a = some discL then gsR (kdW h) true r else gsR (kdW h) false (a :: r)) = _
  rw [if_neg (fun e => ha (Option.some.inj e))]
/-- The tolerance and its condition, read so far. -/
def stW (ws : List (List UInt8)) (i : Nat) : Int × Int := if i = 0 then (0, 0) else (atV (cutW (ws.headD [])).1, (cutW (ws.headD [])).2)
theorem gsR_st (k : Int) (d : Bool) (ws : List (List UInt8)) (n : Nat) (hn : ws.length = n) : gsR k d ws = ⟨k, d, (stW ws n).1, (stW ws n).2, ((ws.tail.take (n - 1)).map gdW)⟩ := by
  subst hn
  cases ws with
  | nil => rfl
  | cons t r =>
    show (⟨k, d, atV (cutW t).1, (cutW t).2, r.map gdW⟩ : Fm) = _
    unfold stW
    rw [if_neg (by simp)]
    simp
theorem gsW_none (h : List UInt8) : gsW [h] = ⟨kdW h, false, (stW [] 0).1, (stW [] 0).2, ((([] : List (List UInt8)).tail.take (0 - 1)).map gdW)⟩ := rfl
theorem stW_one {ws : List (List UInt8)} {x cu : List UInt8} {cq : Int} (h : ws[0]? = some x) (hc : cutW x = (cu, cq)) : stW ws (0 + 1) = (atV cu, cq) := by
  cases ws with
  | nil => exact absurd h (by simp)
  | cons t r =>
    have e : t = x := by simpa using h
    subst e
    unfold stW
    rw [if_neg (by omega)]
    simp [hc]
theorem tail_step (ws : List (List UInt8)) (i : Nat) {x : List UInt8} (h : ws[i + 1]? = some x) : ws.tail.take (i + 1) = ws.tail.take i ++ [x] := by
  cases ws with
  | nil => exact absurd h (by simp)
  | cons t r =>
    have e : r[i]? = some x := by simpa using h
    rw [List.tail_cons, List.take_add_one, e]
    rfl
set_option maxRecDepth 100000 in
set_option maxHeartbeats 16000000 in
theorem fparse_any (s : ByteArray) (w : World) (R : Ending → World → Prop) (hs : s.size ≤ 1000000) (hE : Env w)
   (hR : ∀ da dc w', Below w.heap.size w w' → FmOk w' (paX s.data.toList) da dc → R (.returned (.tuple #[fmV (paX s.data.toList) da dc, .int .i64 (paE s.data.toList)])) w') :
    Calls Tryz.prog 25 #[.string s] w R := by
  have HR := Lib.hid hR
  have HEV := Lib.hid hE
  clear hR hE
  obtain ⟨w1, E1, HB1, s1, X1⟩ := box_ex w #[.int .i64 0, .bool false, .int .i64 0, .int .i64 0, .slice none 0 0] 31
  obtain ⟨PX, hPX⟩ : ∃ p, paX s.data.toList = p := ⟨_, rfl⟩
  obtain ⟨PE, hPE⟩ : ∃ p, paE s.data.toList = p := ⟨_, rfl⟩
  clear hPX hPE
  by_cases hl : 4096 < s.size
  · have K : ((4096 : Int) < (s.size : Int)) = True := eq_true (by omega)
    have hp := pa_long (l := s.data.toList) (by rw [toList_len]; exact hl)
    have HPX : Hid (paX s.data.toList = Fm.zero) := hp.1
    have HPE : Hid (paE s.data.toList = 17) := hp.2
    clear hp hl
    go_enter Tryz.func25, Tryz.ntmps25
    obtain ⟨wF, EF, BF, KF, XF⟩ := set5 w1 w.heap.size _ _ _ _ _ (.int .i64 0) (.bool false) (.int .i64 0) (.int .i64 0) (.slice none 0 0) _ X1.out
    have z0 := cell_at X1.out (j := 0) (v := .int .i64 0) rfl
    have z1 := cell_at X1.out (j := 1) (v := .bool false) rfl
    have z2 := cell_at X1.out (j := 2) (v := .int .i64 0) rfl
    have z3 := cell_at X1.out (j := 3) (v := .int .i64 0) rfl
    have z4 := cell_at X1.out (j := 4) (v := .slice none 0 0) rfl
    have y0 := frozen_at X1.out 0
    have y1 := frozen_at X1.out 1
    have y2 := frozen_at X1.out 2
    have y3 := frozen_at X1.out 3
    have y4 := frozen_at X1.out 4
    have v0 := cell_at XF.out (j := 0) (v := .int .i64 0) rfl
    have v1 := cell_at XF.out (j := 1) (v := .bool false) rfl
    have v2 := cell_at XF.out (j := 2) (v := .int .i64 0) rfl
    have v3 := cell_at XF.out (j := 3) (v := .int .i64 0) rfl
    have v4 := cell_at XF.out (j := 4) (v := .slice none 0 0) rfl
    have BT : Hid (Below w.heap.size w wF) := HB1.out.trans BF.out
    go_wp2_with (rw [E1])
    (try rw [EF])
    refine bodyPost_ret (v := .tuple #[fmV Fm.zero none 0, .int .i64 17]) (by simp [results, Tryz.results25, go_sem, v0, v1, v2, v3, v4, fmV, Fm.zero]) rfl ?_
    have hh := HR.out none 0 wF BT.out (by rw [HPX.out]; exact FmOk.zero wF)
    rw [HPX.out, HPE.out] at hh
    exact hh
  · have K : ((4096 : Int) < (s.size : Int)) = False := eq_false (by omega)
    have hl2 : s.data.toList.length ≤ 4096 := by rw [toList_len]; omega
    go_enter Tryz.func25, Tryz.ntmps25
    go_wp2_with (rw [E1])
    refine fsplit_any s _ _ hs (HEV.out.below HB1.out) fun wS g hb hge hgl hcw => ?_
    have HG : Hid (∀ y, plE y = 0 → txL y = s.data.toList → gsW (splL s.data.toList) = y) := fun y hy e => by rw [← e]; exact gsW_txL hy
    have BS : Hid (Below w.heap.size w wS) := HB1.out.trans (hb.mono (Nat.le_of_lt s1))
    have XA := Lib.hid ((hb.block _ s1).trans X1.out)
    have hAg : w.heap.size < g := Nat.lt_of_lt_of_le s1 hge
    obtain ⟨hd0, r, hw⟩ : ∃ h r, splL s.data.toList = h :: r := by
      cases e : splL s.data.toList with
      | nil => exact absurd e (splL_ne _)
      | cons h r => exact ⟨h, r, rfl⟩
    have hwl := (spl_len s.data.toList).2
    have hln := (spl_len s.data.toList).1
    rw [hw, toList_len] at hwl hln
    rw [hw] at hcw HG ⊢
    have HWL := Lib.hid hwl
    rw [List.length_cons] at hln ⊢
    have HCell := Lib.hid (fun j (hj : j < (hd0 :: r).length) => hcw.get rfl (show (rowS (hd0 :: r))[j]? = some (.string (bsB ((hd0 :: r).getD j []))) by unfold rowS sC; rw [List.getElem?_map, List.getElem?_map, List.getElem?_eq_getElem hj, List.getD_eq_getElem?_getD, List.getElem?_eq_getElem hj]; rfl))
    obtain ⟨n, hn⟩ : ∃ n, r.length = n := ⟨_, rfl⟩
    have HN := Lib.hid hn
    rw [hn] at hln ⊢
    obtain ⟨w3, E3, HB3, s3, X3⟩ := box_ex wS #[.slice none 0 0] 63
    obtain ⟨P, hP⟩ : ∃ P, wS.heap.size = P := ⟨_, rfl⟩
    rw [hP] at HB3 s3 X3 hgl
    have x3 := cell_at X3.out (j := 0) (v := .slice none 0 0) rfl
    have y3 := frozen_at X3.out 0
    have hAP : w.heap.size < P := Nat.lt_trans hAg hgl
    clear hb hcw hwl hw hn E1 X1 hge
    go_wp2_with (rw [E3])
    obtain ⟨w4, h4⟩ : ∃ v, w3.setCell ⟨P, 0, none⟩ (.slice (some ⟨g, 0, none⟩) (n + 1) (n + 1)) = v := ⟨_, rfl⟩
    have X4 : Hid (w4.heap[P]? = some (.cells #[.slice (some ⟨g, 0, none⟩) (n + 1) (n + 1)] 63 (0, 0))) := by unfold Hid; rw [← h4]; exact heap_setCell_same _ P 0 _ _ _ X3.out
    have B4 : Hid (Below P wS w4) := by unfold Hid; rw [← h4]; exact HB3.out.setCell (Nat.le_refl P) _
    have s4 := lt_of_block X4.out
    rw [h4]
    clear h4 E3 X3 x3 y3 HB3 s3
    refine rows_any _ _ fun w5 hb => ?_
    have B5 : Hid (Below P wS w5) := B4.out.trans (hb.mono (Nat.le_of_lt s4))
    have X5 := Lib.hid ((hb.block _ s4).trans X4.out)
    have s5 := lt_of_block X5.out
    clear hb X4 B4 s4
    obtain ⟨w6, E6, HB6, s6, X6⟩ := box_ex w5 rwA 81
    have B6 : Hid (Below P wS w6) := B5.out.trans (HB6.out.mono (Nat.le_of_lt s5))
    have XP6 := Lib.hid ((HB6.out.block _ s5).trans X5.out)
    have P6 := cell_at XP6.out (j := 0) (v := .slice (some ⟨g, 0, none⟩) (n + 1) (n + 1)) rfl
    have g6 := cellB B6.out (HCell.out 0 (by simp)) hgl
    go_wp2_with (first | (refine wp_storeNew _ 81 (.tmp 5) (.tmp 18) _ rwA rfl rfl rfl rfl (by kernel_rfl) (by kernel_rfl) (by kernel_rfl) ?_; rw [E6]))
    refine indexRows_any hd0 w5.heap.size P g 0 n (n + 1) _ w6 _ X6.out P6 g6 fun w7 hb => ?_
    have hsP : P ≤ w6.heap.size := by have h1 := B6.out.size; omega
    have B7 : Hid (Below P wS w7) := B6.out.trans (hb.mono hsP)
    have X7 := Lib.hid ((hb.block _ (lt_of_block XP6.out)).trans XP6.out)
    obtain ⟨K0, hK0⟩ : ∃ K, kdW hd0 = K := ⟨_, rfl⟩
    have HK := Lib.hid hK0
    rw [hK0]
    clear hb P6 g6 X6 E6 HB6 s6 X5 B6 hK0
    obtain ⟨wz, EZ, HBZ, sZ, XZ⟩ := box_ex w7 #[.int .i64 0, .bool false, .int .i64 0, .int .i64 0, .slice none 0 0] 31
    obtain ⟨X, hX⟩ : ∃ X, w7.heap.size = X := ⟨_, rfl⟩
    have hPX : P < X := by rw [← hX]; exact lt_of_block X7.out
    have hXle : P ≤ w7.heap.size := by rw [hX]; omega
    have XPz := Lib.hid ((HBZ.out.block _ (lt_of_block X7.out)).trans X7.out)
    have BZ : Hid (Below P wS wz) := B7.out.trans (HBZ.out.mono hXle)
    rw [hX] at HBZ sZ XZ
    obtain ⟨wX, EX, BXz, KX, XX⟩ := set5 wz X _ _ _ _ _ (.int .i64 K0) (.bool false) (.int .i64 0) (.int .i64 0) (.slice none 0 0) _ XZ.out
    have BX : Hid (Below P wS wX) := BZ.out.trans (BXz.out.mono (Nat.le_of_lt hPX))
    have XPX := Lib.hid ((KX.out P (Nat.ne_of_lt hPX)).trans XPz.out)
    have XAX := Lib.hid ((BX.out.block _ hAP).trans XA.out)
    have HXX := Lib.hid hX
    have z0 := cell_at XZ.out (j := 0) (v := .int .i64 0) rfl
    have f0 := frozen_at XZ.out 0
    have z1 := cell_at XZ.out (j := 1) (v := .bool false) rfl
    have f1 := frozen_at XZ.out 1
    have z2 := cell_at XZ.out (j := 2) (v := .int .i64 0) rfl
    have f2 := frozen_at XZ.out 2
    have z3 := cell_at XZ.out (j := 3) (v := .int .i64 0) rfl
    have f3 := frozen_at XZ.out 3
    have z4 := cell_at XZ.out (j := 4) (v := .slice none 0 0) rfl
    have f4 := frozen_at XZ.out 4
    have pc := cell_at XPX.out (j := 0) (v := .slice (some ⟨g, 0, none⟩) (n + 1) (n + 1)) rfl
    have pf := frozen_at XPX.out 0
    clear B7 X7 HBZ sZ XPz BZ BXz
    rcases hr : r with _ | ⟨a, r2⟩
    · subst hr
      obtain rfl : n = 0 := HN.out.symm

      have HLN : Hid (([] : List (List UInt8)).length = 0) := rfl
      go_wp2_with (first | rw [EZ] | rw [EX])
      have XW : Hid ((wX.setCell ⟨P, 0, none⟩ (.slice (some ⟨g, 0, none⟩) 0 0)).heap[X]? = some (.cells (frA K0 false 0 0 (.slice none 0 0)) 31 (0, 0))) := by unfold Hid; exact (Below.heap_setCell _ ⟨P, 0, none⟩ _ X (Ne.symm (Nat.ne_of_lt hPX))).trans XX.out
      have BW : Hid (Below P wS (wX.setCell ⟨P, 0, none⟩ (.slice (some ⟨g, 0, none⟩) 0 0))) := by unfold Hid; exact BX.out.setCell (Nat.le_refl P) _
      obtain ⟨W0, hW0⟩ : ∃ v, wX.setCell ⟨P, 0, none⟩ (.slice (some ⟨g, 0, none⟩) 0 0) = v := ⟨_, rfl⟩
      rw [hW0] at XW BW ⊢
      have XAW := Lib.hid ((BW.out.block _ hAP).trans XA.out)
      clear hW0
      have HGS : Hid (gsW (hd0 :: []) = ⟨K0, false, (stW ([]) (0)).1, (stW ([]) (0)).2, ((([]).tail.take (0 - 1)).map gdW)⟩) := by unfold Hid; rw [← HK.out]; exact gsW_none hd0
      have O0 : Hid (W0.ownsRow (X + 1) 76 2 (.slice none 0 0) (0 - 1) (dtC ((([]).tail.take (0 - 1)).map gdW))) := World.ownsRow_nil _ _ _ _
      have hXW : X < W0.heap.size := lt_of_block XW.out
      go_loopw [7, 40] (fun fv j wr => ∃ (i : Nat) (dv : Value), i ≤ 0 ∧ j = .int .i64 i ∧ fv = (if i = 0 then (.func (.func 64) #[] #[.pointer (some ⟨X, 0, none⟩)]) else (.func (.func 67) #[] #[.pointer (some ⟨X, 0, none⟩)])) ∧ Hid (i = 0 → dv = .slice none 0 0) ∧ Hid (Below X W0 wr) ∧ Hid (wr.heap[X]? = some (.cells (frA K0 false (stW ([]) i).1 (stW ([]) i).2 dv) 31 (0, 0))) ∧ Hid (wr.ownsRow (X + 1) 76 2 dv (i - 1) (dtC ((([]).tail.take (i - 1)).map gdW)))) (fun _ j _ => 0 - (intOf j).toNat)
      case atStart => exact ⟨0, _, Nat.zero_le _, rfl, rfl, fun _ => rfl, Below.refl _ _, XW, O0⟩
      case round =>
        clear O0 XW
        obtain ⟨i, dv, hi, rfl, hfv, HDV, HB, HXi, HOi⟩ := hrel
        have HFV := Lib.hid hfv
        clear hfv
        have BWi : Hid (Below w.heap.size w wr) := (BS.out.trans (BW.out.mono (Nat.le_of_lt hAP))).trans (HB.out.mono (Nat.le_of_lt (Nat.lt_trans hAP hPX)))
        have hln2 := HLN.out
        by_cases hlt : i < 0
        · exact absurd hlt (Nat.not_lt_zero _)
        · obtain rfl : i = 0 := by omega
          obtain ⟨da, dc, rfl, hcs, hnil⟩ := ownsRow_read HOi.out
          have hcap9 : 0 - 1 ≤ dc := by
            rcases HOi.out.2 with ⟨e, h0⟩ | ⟨g9, cap9, cur9, e, _, _, hnc, _⟩
            · omega
            · cases e; exact hnc
          have hdl : ((([]).tail.take (0 - 1)).map gdW).length = 0 - 1 := by rw [List.length_map, List.length_take, List.length_tail]; omega
          have HFR : Hid (Off da w.heap.size) := fun b o e => Ne.symm (Nat.ne_of_lt (own_above HOi.out (Nat.lt_succ_of_lt (Nat.lt_trans hAP hPX)) b o e))
          have hok : DtsOk ((([]).tail.take (0 - 1)).map gdW) := gd_ok _ s.size _ (by omega) fun y hy => HWL.out y (by have := List.mem_of_mem_tail hy; simp [this])
          obtain ⟨G, hG⟩ : ∃ G : Fm, (⟨K0, false, (stW ([]) (0)).1, (stW ([]) (0)).2, ((([]).tail.take (0 - 1)).map gdW)⟩ : Fm) = G := ⟨_, rfl⟩
          have X4 : Hid (wr.heap[X]? = some (.cells #[.int .i64 G.k, .bool G.d, .int .i64 G.t, .int .i64 G.m, .slice da G.ds.length dc] 31 (0, 0))) := by unfold Hid; rw [← hG]; dsimp only; rw [hdl]; exact HXi.out
          have HF4 : Hid (FmOk wr G da dc) := by rw [← hG]; exact ⟨hcs, hok, by dsimp only; rw [hdl]; omega, fun e => by have := hnil e; dsimp only; rw [hdl]; exact this, by dsimp only; rw [hdl]; exact hcap9⟩
          rw [hG] at HGS
          have HXV : Hid (fmV G da dc = .agg #[.int .i64 G.k, .bool G.d, .int .i64 G.t, .int .i64 G.m, .slice da G.ds.length dc]) := rfl
          have XAi := Lib.hid ((HB.out.block _ (Nat.lt_trans hAP hPX)).trans XAW.out)
          clear hcs hnil hcap9 hdl hok hG hln2 HXi HOi
          have p0 := cell_at X4.out (j := 0) (v := .int .i64 G.k) rfl
          have p1 := cell_at X4.out (j := 1) (v := .bool G.d) rfl
          have p2 := cell_at X4.out (j := 2) (v := .int .i64 G.t) rfl
          have p3 := cell_at X4.out (j := 3) (v := .int .i64 G.m) rfl
          have p4 := cell_at X4.out (j := 4) (v := .slice da G.ds.length dc) rfl
          go_wp2_with fail
          rw [← HXV.out]
          refine ftext_any G da dc _ _ HF4.out (HEV.out.below BWi.out) fun w9 hb => ?_
          have hXr := lt_of_block X4.out
          have B9 : Hid (Below w.heap.size w w9) := BWi.out.trans (hb.mono BWi.out.size)
          have X9 := Lib.hid ((hb.block _ hXr).trans X4.out)
          have XA9 := Lib.hid ((hb.block _ (lt_of_block XAi.out)).trans XAi.out)
          have HF9 := Lib.hid (HF4.out.below hb)
          clear hb p0 p1 p2 p3 p4
          have hpm := fun (hn : plE G = 0 → txL G ≠ s.data.toList) => pa_miss (g := G) (fun y hy e => by rw [← HG.out y hy e]; exact HGS.out.symm) hn hl2
          by_cases e0 : plE G = 0
          · have hq0 := teS_eq (s := s) e0
            have htx : (txL G == s.data.toList) = true ∨ (txL G == s.data.toList) = false := by cases (txL G == s.data.toList) <;> simp
            rw [e0]
            rcases htx with h | h
            · have hp := pa_found e0 (show txL G = s.data.toList by simpa using h)
              have HPX : Hid (paX s.data.toList = G) := hp.1
              have HPE : Hid (paE s.data.toList = 0) := hp.2
              rw [h] at hq0
              have hq1 : ((teS G).toList != s.toList) = false := by rw [bne, hq0]; rfl
              clear hp h e0 hpm
              obtain ⟨wF, EF, BF, KF, XF⟩ := set5 w9 w.heap.size _ _ _ _ _ (.int .i64 G.k) (.bool G.d) (.int .i64 G.t) (.int .i64 G.m) (.slice da G.ds.length dc) _ XA9.out
              have z0 := cell_at XA9.out (j := 0) (v := .int .i64 0) rfl
              have z1 := cell_at XA9.out (j := 1) (v := .bool false) rfl
              have z2 := cell_at XA9.out (j := 2) (v := .int .i64 0) rfl
              have z3 := cell_at XA9.out (j := 3) (v := .int .i64 0) rfl
              have z4 := cell_at XA9.out (j := 4) (v := .slice none 0 0) rfl
              have y0 := frozen_at XA9.out 0
              have y1 := frozen_at XA9.out 1
              have y2 := frozen_at XA9.out 2
              have y3 := frozen_at XA9.out 3
              have y4 := frozen_at XA9.out 4
              have v0 := cell_at XF.out (j := 0) (v := .int .i64 G.k) rfl
              have v1 := cell_at XF.out (j := 1) (v := .bool G.d) rfl
              have v2 := cell_at XF.out (j := 2) (v := .int .i64 G.t) rfl
              have v3 := cell_at XF.out (j := 3) (v := .int .i64 G.m) rfl
              have v4 := cell_at XF.out (j := 4) (v := .slice da G.ds.length dc) rfl
              have uu0 := cell_at X9.out (j := 0) (v := .int .i64 G.k) rfl
              have uu1 := cell_at X9.out (j := 1) (v := .bool G.d) rfl
              have uu2 := cell_at X9.out (j := 2) (v := .int .i64 G.t) rfl
              have uu3 := cell_at X9.out (j := 3) (v := .int .i64 G.m) rfl
              have uu4 := cell_at X9.out (j := 4) (v := .slice da G.ds.length dc) rfl
              have BT : Hid (Below w.heap.size w wF) := B9.out.trans BF.out
              have FF := Lib.hid (FmOk.heap HF9.out HFR.out KF.out)
              go_wp2_with fail
              (try rw [EF])
              refine bodyPost_ret (v := .tuple #[fmV G da dc, .int .i64 0]) (by simp [results, Tryz.results25, go_sem, v0, v1, v2, v3, v4, fmV]) rfl ?_
              have hh := HR.out da dc wF BT.out (by rw [HPX.out]; exact FF.out)
              rw [HPX.out, HPE.out] at hh
              exact hh
            · have hp := hpm (fun _ e => by rw [e] at h; simp at h)
              have HPX : Hid (paX s.data.toList = Fm.zero) := hp.1
              have HPE : Hid (paE s.data.toList = 4) := hp.2
              rw [h] at hq0
              have hq1 : ((teS G).toList != s.toList) = true := by rw [bne, hq0]; rfl
              clear hp h e0 hpm
              obtain ⟨wF, EF, BF, KF, XF⟩ := set5 w9 w.heap.size _ _ _ _ _ (.int .i64 0) (.bool false) (.int .i64 0) (.int .i64 0) (.slice none 0 0) _ XA9.out
              have z0 := cell_at XA9.out (j := 0) (v := .int .i64 0) rfl
              have z1 := cell_at XA9.out (j := 1) (v := .bool false) rfl
              have z2 := cell_at XA9.out (j := 2) (v := .int .i64 0) rfl
              have z3 := cell_at XA9.out (j := 3) (v := .int .i64 0) rfl
              have z4 := cell_at XA9.out (j := 4) (v := .slice none 0 0) rfl
              have y0 := frozen_at XA9.out 0
              have y1 := frozen_at XA9.out 1
              have y2 := frozen_at XA9.out 2
              have y3 := frozen_at XA9.out 3
              have y4 := frozen_at XA9.out 4
              have v0 := cell_at XF.out (j := 0) (v := .int .i64 0) rfl
              have v1 := cell_at XF.out (j := 1) (v := .bool false) rfl
              have v2 := cell_at XF.out (j := 2) (v := .int .i64 0) rfl
              have v3 := cell_at XF.out (j := 3) (v := .int .i64 0) rfl
              have v4 := cell_at XF.out (j := 4) (v := .slice none 0 0) rfl
              have BT : Hid (Below w.heap.size w wF) := B9.out.trans BF.out
              go_wp2_with fail
              (try rw [EF])
              refine bodyPost_ret (v := .tuple #[fmV Fm.zero none 0, .int .i64 4]) (by simp [results, Tryz.results25, go_sem, v0, v1, v2, v3, v4, fmV, Fm.zero]) rfl ?_
              have hh := HR.out none 0 wF BT.out (by rw [HPX.out]; exact FmOk.zero wF)
              rw [HPX.out, HPE.out] at hh
              exact hh
          · have hp := hpm (fun e => absurd e e0)
            have HPX : Hid (paX s.data.toList = Fm.zero) := hp.1
            have HPE : Hid (paE s.data.toList = 4) := hp.2
            obtain ⟨E, hE⟩ : ∃ E, plE G = E := ⟨_, rfl⟩
            have K2 : (E != 0) = true := by rw [← hE]; simpa using e0
            rw [hE]
            clear hp hE e0 hpm
            obtain ⟨wF, EF, BF, KF, XF⟩ := set5 w9 w.heap.size _ _ _ _ _ (.int .i64 0) (.bool false) (.int .i64 0) (.int .i64 0) (.slice none 0 0) _ XA9.out
            have z0 := cell_at XA9.out (j := 0) (v := .int .i64 0) rfl
            have z1 := cell_at XA9.out (j := 1) (v := .bool false) rfl
            have z2 := cell_at XA9.out (j := 2) (v := .int .i64 0) rfl
            have z3 := cell_at XA9.out (j := 3) (v := .int .i64 0) rfl
            have z4 := cell_at XA9.out (j := 4) (v := .slice none 0 0) rfl
            have y0 := frozen_at XA9.out 0
            have y1 := frozen_at XA9.out 1
            have y2 := frozen_at XA9.out 2
            have y3 := frozen_at XA9.out 3
            have y4 := frozen_at XA9.out 4
            have v0 := cell_at XF.out (j := 0) (v := .int .i64 0) rfl
            have v1 := cell_at XF.out (j := 1) (v := .bool false) rfl
            have v2 := cell_at XF.out (j := 2) (v := .int .i64 0) rfl
            have v3 := cell_at XF.out (j := 3) (v := .int .i64 0) rfl
            have v4 := cell_at XF.out (j := 4) (v := .slice none 0 0) rfl
            have BT : Hid (Below w.heap.size w wF) := B9.out.trans BF.out
            go_wp2_with fail
            (try rw [EF])
            refine bodyPost_ret (v := .tuple #[fmV Fm.zero none 0, .int .i64 4]) (by simp [results, Tryz.results25, go_sem, v0, v1, v2, v3, v4, fmV, Fm.zero]) rfl ?_
            have hh := HR.out none 0 wF BT.out (by rw [HPX.out]; exact FmOk.zero wF)
            rw [HPX.out, HPE.out] at hh
            exact hh
    · subst hr
      obtain ⟨n2, rfl⟩ : ∃ m, n = m + 1 := ⟨r2.length, HN.out.symm⟩
      have hn2 : r2.length = n2 := by have := HN.out; simpa using this
      have gaX := cellB BX.out (HCell.out 1 (by simp)) hgl
      simp only [List.getD_cons_succ, List.getD_cons_zero] at gaX
      have ga : (wX.setCell ⟨P, 0, none⟩ (.slice (some ⟨g, 1, none⟩) (n2 + 1) (n2 + 1))).cell? ⟨g, 1, none⟩ = some (.string (bsB a)) := by
        refine (World.cell?_of_block (w := wX) (w' := wX.setCell ⟨P, 0, none⟩ (.slice (some ⟨g, 1, none⟩) (n2 + 1) (n2 + 1))) (a := ⟨g, 1, none⟩) (Below.heap_setCell _ ⟨P, 0, none⟩ _ g (Nat.ne_of_lt hgl))).trans ?_
        rw [Nat.zero_add] at gaX
        exact gaX
      have hq0 : ((bsB a).toList == [100, 105, 115, 99]) = (a == discL) := by rw [Lib.toList_data, data_bsB]; rfl
      obtain ⟨q, hq⟩ : ∃ q, (a == discL) = q := ⟨_, rfl⟩
      rw [hq] at hq0
      clear gaX
      cases q with
      | true =>
        have had : a = discL := by simpa using hq
        subst had
        clear hq
        go_wp2_with (first | rw [EZ] | rw [EX])
        have XY : Hid ((wX.setCell ⟨P, 0, none⟩ (.slice (some ⟨g, 1, none⟩) (n2 + 1) (n2 + 1))).heap[X]? = some (.cells (frA K0 false 0 0 (.slice none 0 0)) 31 (0, 0))) := by unfold Hid; exact (Below.heap_setCell _ ⟨P, 0, none⟩ _ X (Ne.symm (Nat.ne_of_lt hPX))).trans XX.out
        have PY : Hid ((wX.setCell ⟨P, 0, none⟩ (.slice (some ⟨g, 1, none⟩) (n2 + 1) (n2 + 1))).heap[P]? = some (.cells #[.slice (some ⟨g, 1, none⟩) (n2 + 1) (n2 + 1)] 63 (0, 0))) := heap_setCell_same _ P 0 _ _ _ XPX.out
        have BY : Hid (Below P wS (wX.setCell ⟨P, 0, none⟩ (.slice (some ⟨g, 1, none⟩) (n2 + 1) (n2 + 1)))) := BX.out.setCell (Nat.le_refl P) _
        obtain ⟨wY, hWY⟩ : ∃ v, wX.setCell ⟨P, 0, none⟩ (.slice (some ⟨g, 1, none⟩) (n2 + 1) (n2 + 1)) = v := ⟨_, rfl⟩
        rw [hWY] at XY PY BY ⊢
        clear hWY ga
        have y1 := cell_at XY.out (j := 1) (v := .bool false) rfl
        have yf := frozen_at XY.out 1
        have py := cell_at PY.out (j := 0) (v := .slice (some ⟨g, 1, none⟩) (n2 + 1) (n2 + 1)) rfl
        have pyf := frozen_at PY.out 0
        have pyd : wY.drew.cell? ⟨P, 0, none⟩ = some (.slice (some ⟨g, 1, none⟩) (n2 + 1) (n2 + 1)) := py
        have pyfd : wY.drew.frozen? ⟨P, 0, none⟩ = false := pyf
        have y1d : wY.drew.cell? ⟨X, 1, none⟩ = some (.bool false) := y1
        have yfd : wY.drew.frozen? ⟨X, 1, none⟩ = false := yf
        rcases hr3 : r2 with _ | ⟨b, r3⟩
        · subst hr3
          obtain rfl : n2 = 0 := hn2.symm
          have HLN : Hid (([] : List (List UInt8)).length = 0) := rfl
          refine regionQ (fun _ => True) (by kernel_rfl) (trivial) (fun Qn hPQ hQn hS0 => ?_)
          refine wpAnyH_ready (rs := [0, 2]) (by kernel_rfl) (by simp) ?_
          refine AllReadyH.cons (o := _) rfl (fun K hK => ?_) (AllReadyH.cons (o := _) rfl (fun K hK => ?_) AllReadyH.nil)
          go_simp
          refine hK.out _ _ (trivial) (fun hS1 => ?_)
          clear hK K hS0
          (try simp only [Act.put, List.setIfInBounds_toArray, List.set_cons_zero, List.set_cons_succ])
          refine takeQ (i := 1) (d := some 35) (v := ?_) rfl rfl (by kernel_rfl) (by kernel_rfl) (by kernel_rfl) hPQ hS1 (by kernel_rfl) ?_ ?_
          rotate_left
          · (intro w hSw; (try dsimp only at hSw); go_simp; (try with_reducible rfl))
          (try simp only [Act.put, List.setIfInBounds_toArray, List.set_cons_zero, List.set_cons_succ])
          refine takeQ (i := 2) (d := some 36) (v := ?_) rfl rfl (by kernel_rfl) (by kernel_rfl) (by kernel_rfl) hPQ hS1 (by kernel_rfl) ?_ ?_
          rotate_left
          · (intro w hSw; (try dsimp only at hSw); go_simp; (try with_reducible rfl))
          (try simp only [Act.put, List.setIfInBounds_toArray, List.set_cons_zero, List.set_cons_succ])
          refine wpAnyH_ready (rs := [3]) (by kernel_rfl) (by simp) ?_
          refine AllReadyH.cons (o := _) rfl (fun K hK => ?_) AllReadyH.nil
          go_simp
          refine hK.out _ _ (trivial) (fun hS2 => ?_)
          clear hK K hS1
          (try simp only [Act.put, List.setIfInBounds_toArray, List.set_cons_zero, List.set_cons_succ])
          refine wpAnyH_ready (rs := [4]) (by kernel_rfl) (by simp) ?_
          refine AllReadyH.cons (o := _) rfl (fun K hK => ?_) AllReadyH.nil
          go_simp
          refine hK.out _ _ (trivial) (fun hS3 => ?_)
          clear hK K hS2
          (try simp only [Act.put, List.setIfInBounds_toArray, List.set_cons_zero, List.set_cons_succ])
          refine wpAnyH_done (by kernel_rfl) (hQn.out _ _ ?_) _
          clear hS3 hPQ hQn Qn
          rotate_left
          go_simp
          refine hK.out _ _ (trivial) (fun hS1 => ?_)
          clear hK K hS0
          (try simp only [Act.put, List.setIfInBounds_toArray, List.set_cons_zero, List.set_cons_succ])
          refine wpAnyH_ready (rs := [0, 3]) (by kernel_rfl) (by simp) ?_
          refine AllReadyH.cons (o := _) rfl (fun K hK => ?_) (AllReadyH.cons (o := _) rfl (fun K hK => ?_) AllReadyH.nil)
          go_simp
          refine hK.out _ _ (trivial) (fun hS2 => ?_)
          clear hK K hS1
          (try simp only [Act.put, List.setIfInBounds_toArray, List.set_cons_zero, List.set_cons_succ])
          refine takeQ (i := 1) (d := some 35) (v := ?_) rfl rfl (by kernel_rfl) (by kernel_rfl) (by kernel_rfl) hPQ hS2 (by kernel_rfl) ?_ ?_
          rotate_left
          · (intro w hSw; (try dsimp only at hSw); go_simp; (try with_reducible rfl))
          (try simp only [Act.put, List.setIfInBounds_toArray, List.set_cons_zero, List.set_cons_succ])
          refine wpAnyH_ready (rs := [3]) (by kernel_rfl) (by simp) ?_
          refine AllReadyH.cons (o := _) rfl (fun K hK => ?_) AllReadyH.nil
          go_simp
          refine hK.out _ _ (trivial) (fun hS3 => ?_)
          clear hK K hS2
          (try simp only [Act.put, List.setIfInBounds_toArray, List.set_cons_zero, List.set_cons_succ])
          refine wpAnyH_ready (rs := [4]) (by kernel_rfl) (by simp) ?_
          refine AllReadyH.cons (o := _) rfl (fun K hK => ?_) AllReadyH.nil
          go_simp
          refine hK.out _ _ (trivial) (fun hS4 => ?_)
          clear hK K hS3
          (try simp only [Act.put, List.setIfInBounds_toArray, List.set_cons_zero, List.set_cons_succ])
          refine wpAnyH_done (by kernel_rfl) (hQn.out _ _ ?_) _
          clear hS4 hPQ hQn Qn
          rotate_left
          go_simp
          refine hK.out _ _ (trivial) (fun hS2 => ?_)
          clear hK K hS1
          (try simp only [Act.put, List.setIfInBounds_toArray, List.set_cons_zero, List.set_cons_succ])
          refine wpAnyH_ready (rs := [0]) (by kernel_rfl) (by simp) ?_
          refine AllReadyH.cons (o := _) rfl (fun K hK => ?_) AllReadyH.nil
          go_simp
          refine hK.out _ _ (trivial) (fun hS3 => ?_)
          clear hK K hS2
          (try simp only [Act.put, List.setIfInBounds_toArray, List.set_cons_zero, List.set_cons_succ])
          refine takeQ (i := 1) (d := some 35) (v := ?_) rfl rfl (by kernel_rfl) (by kernel_rfl) (by kernel_rfl) hPQ hS3 (by kernel_rfl) ?_ ?_
          rotate_left
          · (intro w hSw; (try dsimp only at hSw); go_simp; (try with_reducible rfl))
          (try simp only [Act.put, List.setIfInBounds_toArray, List.set_cons_zero, List.set_cons_succ])
          refine wpAnyH_ready (rs := [4]) (by kernel_rfl) (by simp) ?_
          refine AllReadyH.cons (o := _) rfl (fun K hK => ?_) AllReadyH.nil
          go_simp
          refine hK.out _ _ (trivial) (fun hS4 => ?_)
          clear hK K hS3
          (try simp only [Act.put, List.setIfInBounds_toArray, List.set_cons_zero, List.set_cons_succ])
          refine wpAnyH_done (by kernel_rfl) (hQn.out _ _ ?_) _
          clear hS4 hPQ hQn Qn
          rotate_left
          all_goals
            have PW : Hid ((((wY.setCell ⟨X, 1, none⟩ (.bool true)).setCell ⟨P, 0, none⟩ (.slice (some ⟨g, 1, none⟩) 0 0)).drew).heap[P]? = some (.cells #[.slice (some ⟨g, 1, none⟩) 0 0] 63 (0, 0))) := heap_setCell_same _ P 0 _ _ _ ((Below.heap_setCell _ ⟨X, 1, none⟩ _ P (Nat.ne_of_lt hPX)).trans PY.out)
            have XW : Hid ((((wY.setCell ⟨X, 1, none⟩ (.bool true)).setCell ⟨P, 0, none⟩ (.slice (some ⟨g, 1, none⟩) 0 0)).drew).heap[X]? = some (.cells (frA K0 true 0 0 (.slice none 0 0)) 31 (0, 0))) := (Below.heap_setCell _ ⟨P, 0, none⟩ _ X (Ne.symm (Nat.ne_of_lt hPX))).trans (heap_setCell_same _ X 1 _ _ _ XY.out)
            have BW : Hid (Below P wS (((wY.setCell ⟨X, 1, none⟩ (.bool true)).setCell ⟨P, 0, none⟩ (.slice (some ⟨g, 1, none⟩) 0 0)).drew)) := ((BY.out.setCell (p := ⟨X, 1, none⟩) (Nat.le_of_lt hPX) _).setCell (Nat.le_refl P) _).drew
            obtain ⟨W0, hW0⟩ : ∃ v, ((wY.setCell ⟨X, 1, none⟩ (.bool true)).setCell ⟨P, 0, none⟩ (.slice (some ⟨g, 1, none⟩) 0 0)).drew = v := ⟨_, rfl⟩
            rw [hW0] at XW BW ⊢
            rw [hW0] at PW
            have pw := cell_at PW.out (j := 0) (v := .slice (some ⟨g, 1, none⟩) 0 0) rfl
            clear y1 yf py pyf pyd pyfd y1d yfd
            go_wp2_with fail
            have XAW := Lib.hid ((BW.out.block _ hAP).trans XA.out)
            clear hW0
            have HGS : Hid (gsW (hd0 :: discL :: []) = ⟨K0, true, (stW (([] : List (List UInt8))) (0)).1, (stW (([] : List (List UInt8))) (0)).2, (((([] : List (List UInt8))).tail.take (0 - 1)).map gdW)⟩) := by unfold Hid; rw [← HK.out]; rw [gsW_disc]; exact gsR_st _ _ _ _ HLN.out
            have O0 : Hid (W0.ownsRow (X + 1) 76 2 (.slice none 0 0) (0 - 1) (dtC (((([] : List (List UInt8))).tail.take (0 - 1)).map gdW))) := World.ownsRow_nil _ _ _ _
            have hXW : X < W0.heap.size := lt_of_block XW.out
            go_loopw [7, 40] (fun fv j wr => ∃ (i : Nat) (dv : Value), i ≤ 0 ∧ j = .int .i64 i ∧ fv = (if i = 0 then (.func (.func 64) #[] #[.pointer (some ⟨X, 0, none⟩)]) else (.func (.func 67) #[] #[.pointer (some ⟨X, 0, none⟩)])) ∧ Hid (i = 0 → dv = .slice none 0 0) ∧ Hid (Below X W0 wr) ∧ Hid (wr.heap[X]? = some (.cells (frA K0 true (stW (([] : List (List UInt8))) i).1 (stW (([] : List (List UInt8))) i).2 dv) 31 (0, 0))) ∧ Hid (wr.ownsRow (X + 1) 76 2 dv (i - 1) (dtC (((([] : List (List UInt8))).tail.take (i - 1)).map gdW)))) (fun _ j _ => 0 - (intOf j).toNat)
            case atStart => exact ⟨0, _, Nat.zero_le _, rfl, rfl, fun _ => rfl, Below.refl _ _, XW, O0⟩
            case round =>
              clear O0 XW
              obtain ⟨i, dv, hi, rfl, hfv, HDV, HB, HXi, HOi⟩ := hrel
              have HFV := Lib.hid hfv
              clear hfv
              have BWi : Hid (Below w.heap.size w wr) := (BS.out.trans (BW.out.mono (Nat.le_of_lt hAP))).trans (HB.out.mono (Nat.le_of_lt (Nat.lt_trans hAP hPX)))
              have hln2 := HLN.out
              by_cases hlt : i < 0
              · exact absurd hlt (Nat.not_lt_zero _)
              · obtain rfl : i = 0 := by omega
                obtain ⟨da, dc, rfl, hcs, hnil⟩ := ownsRow_read HOi.out
                have hcap9 : 0 - 1 ≤ dc := by
                  rcases HOi.out.2 with ⟨e, h0⟩ | ⟨g9, cap9, cur9, e, _, _, hnc, _⟩
                  · omega
                  · cases e; exact hnc
                have hdl : (((([] : List (List UInt8))).tail.take (0 - 1)).map gdW).length = 0 - 1 := by rw [List.length_map, List.length_take, List.length_tail]; omega
                have HFR : Hid (Off da w.heap.size) := fun b o e => Ne.symm (Nat.ne_of_lt (own_above HOi.out (Nat.lt_succ_of_lt (Nat.lt_trans hAP hPX)) b o e))
                have hok : DtsOk (((([] : List (List UInt8))).tail.take (0 - 1)).map gdW) := gd_ok _ s.size _ (by omega) fun y hy => HWL.out y (by have := List.mem_of_mem_tail hy; simp [this])
                obtain ⟨G, hG⟩ : ∃ G : Fm, (⟨K0, true, (stW (([] : List (List UInt8))) (0)).1, (stW (([] : List (List UInt8))) (0)).2, (((([] : List (List UInt8))).tail.take (0 - 1)).map gdW)⟩ : Fm) = G := ⟨_, rfl⟩
                have X4 : Hid (wr.heap[X]? = some (.cells #[.int .i64 G.k, .bool G.d, .int .i64 G.t, .int .i64 G.m, .slice da G.ds.length dc] 31 (0, 0))) := by unfold Hid; rw [← hG]; dsimp only; rw [hdl]; exact HXi.out
                have HF4 : Hid (FmOk wr G da dc) := by rw [← hG]; exact ⟨hcs, hok, by dsimp only; rw [hdl]; omega, fun e => by have := hnil e; dsimp only; rw [hdl]; exact this, by dsimp only; rw [hdl]; exact hcap9⟩
                rw [hG] at HGS
                have HXV : Hid (fmV G da dc = .agg #[.int .i64 G.k, .bool G.d, .int .i64 G.t, .int .i64 G.m, .slice da G.ds.length dc]) := rfl
                have XAi := Lib.hid ((HB.out.block _ (Nat.lt_trans hAP hPX)).trans XAW.out)
                clear hcs hnil hcap9 hdl hok hG hln2 HXi HOi
                have p0 := cell_at X4.out (j := 0) (v := .int .i64 G.k) rfl
                have p1 := cell_at X4.out (j := 1) (v := .bool G.d) rfl
                have p2 := cell_at X4.out (j := 2) (v := .int .i64 G.t) rfl
                have p3 := cell_at X4.out (j := 3) (v := .int .i64 G.m) rfl
                have p4 := cell_at X4.out (j := 4) (v := .slice da G.ds.length dc) rfl
                go_wp2_with fail
                rw [← HXV.out]
                refine ftext_any G da dc _ _ HF4.out (HEV.out.below BWi.out) fun w9 hb => ?_
                have hXr := lt_of_block X4.out
                have B9 : Hid (Below w.heap.size w w9) := BWi.out.trans (hb.mono BWi.out.size)
                have X9 := Lib.hid ((hb.block _ hXr).trans X4.out)
                have XA9 := Lib.hid ((hb.block _ (lt_of_block XAi.out)).trans XAi.out)
                have HF9 := Lib.hid (HF4.out.below hb)
                clear hb p0 p1 p2 p3 p4
                have hpm := fun (hn : plE G = 0 → txL G ≠ s.data.toList) => pa_miss (g := G) (fun y hy e => by rw [← HG.out y hy e]; exact HGS.out.symm) hn hl2
                by_cases e0 : plE G = 0
                · have hq0 := teS_eq (s := s) e0
                  have htx : (txL G == s.data.toList) = true ∨ (txL G == s.data.toList) = false := by cases (txL G == s.data.toList) <;> simp
                  rw [e0]
                  rcases htx with h | h
                  · have hp := pa_found e0 (show txL G = s.data.toList by simpa using h)
                    have HPX : Hid (paX s.data.toList = G) := hp.1
                    have HPE : Hid (paE s.data.toList = 0) := hp.2
                    rw [h] at hq0
                    have hq1 : ((teS G).toList != s.toList) = false := by rw [bne, hq0]; rfl
                    clear hp h e0 hpm
                    obtain ⟨wF, EF, BF, KF, XF⟩ := set5 w9 w.heap.size _ _ _ _ _ (.int .i64 G.k) (.bool G.d) (.int .i64 G.t) (.int .i64 G.m) (.slice da G.ds.length dc) _ XA9.out
                    have z0 := cell_at XA9.out (j := 0) (v := .int .i64 0) rfl
                    have z1 := cell_at XA9.out (j := 1) (v := .bool false) rfl
                    have z2 := cell_at XA9.out (j := 2) (v := .int .i64 0) rfl
                    have z3 := cell_at XA9.out (j := 3) (v := .int .i64 0) rfl
                    have z4 := cell_at XA9.out (j := 4) (v := .slice none 0 0) rfl
                    have y0 := frozen_at XA9.out 0
                    have y1 := frozen_at XA9.out 1
                    have y2 := frozen_at XA9.out 2
                    have y3 := frozen_at XA9.out 3
                    have y4 := frozen_at XA9.out 4
                    have v0 := cell_at XF.out (j := 0) (v := .int .i64 G.k) rfl
                    have v1 := cell_at XF.out (j := 1) (v := .bool G.d) rfl
                    have v2 := cell_at XF.out (j := 2) (v := .int .i64 G.t) rfl
                    have v3 := cell_at XF.out (j := 3) (v := .int .i64 G.m) rfl
                    have v4 := cell_at XF.out (j := 4) (v := .slice da G.ds.length dc) rfl
                    have uu0 := cell_at X9.out (j := 0) (v := .int .i64 G.k) rfl
                    have uu1 := cell_at X9.out (j := 1) (v := .bool G.d) rfl
                    have uu2 := cell_at X9.out (j := 2) (v := .int .i64 G.t) rfl
                    have uu3 := cell_at X9.out (j := 3) (v := .int .i64 G.m) rfl
                    have uu4 := cell_at X9.out (j := 4) (v := .slice da G.ds.length dc) rfl
                    have BT : Hid (Below w.heap.size w wF) := B9.out.trans BF.out
                    have FF := Lib.hid (FmOk.heap HF9.out HFR.out KF.out)
                    go_wp2_with fail
                    (try rw [EF])
                    refine bodyPost_ret (v := .tuple #[fmV G da dc, .int .i64 0]) (by simp [results, Tryz.results25, go_sem, v0, v1, v2, v3, v4, fmV]) rfl ?_
                    have hh := HR.out da dc wF BT.out (by rw [HPX.out]; exact FF.out)
                    rw [HPX.out, HPE.out] at hh
                    exact hh
                  · have hp := hpm (fun _ e => by rw [e] at h; simp at h)
                    have HPX : Hid (paX s.data.toList = Fm.zero) := hp.1
                    have HPE : Hid (paE s.data.toList = 4) := hp.2
                    rw [h] at hq0
                    have hq1 : ((teS G).toList != s.toList) = true := by rw [bne, hq0]; rfl
                    clear hp h e0 hpm
                    obtain ⟨wF, EF, BF, KF, XF⟩ := set5 w9 w.heap.size _ _ _ _ _ (.int .i64 0) (.bool false) (.int .i64 0) (.int .i64 0) (.slice none 0 0) _ XA9.out
                    have z0 := cell_at XA9.out (j := 0) (v := .int .i64 0) rfl
                    have z1 := cell_at XA9.out (j := 1) (v := .bool false) rfl
                    have z2 := cell_at XA9.out (j := 2) (v := .int .i64 0) rfl
                    have z3 := cell_at XA9.out (j := 3) (v := .int .i64 0) rfl
                    have z4 := cell_at XA9.out (j := 4) (v := .slice none 0 0) rfl
                    have y0 := frozen_at XA9.out 0
                    have y1 := frozen_at XA9.out 1
                    have y2 := frozen_at XA9.out 2
                    have y3 := frozen_at XA9.out 3
                    have y4 := frozen_at XA9.out 4
                    have v0 := cell_at XF.out (j := 0) (v := .int .i64 0) rfl
                    have v1 := cell_at XF.out (j := 1) (v := .bool false) rfl
                    have v2 := cell_at XF.out (j := 2) (v := .int .i64 0) rfl
                    have v3 := cell_at XF.out (j := 3) (v := .int .i64 0) rfl
                    have v4 := cell_at XF.out (j := 4) (v := .slice none 0 0) rfl
                    have BT : Hid (Below w.heap.size w wF) := B9.out.trans BF.out
                    go_wp2_with fail
                    (try rw [EF])
                    refine bodyPost_ret (v := .tuple #[fmV Fm.zero none 0, .int .i64 4]) (by simp [results, Tryz.results25, go_sem, v0, v1, v2, v3, v4, fmV, Fm.zero]) rfl ?_
                    have hh := HR.out none 0 wF BT.out (by rw [HPX.out]; exact FmOk.zero wF)
                    rw [HPX.out, HPE.out] at hh
                    exact hh
                · have hp := hpm (fun e => absurd e e0)
                  have HPX : Hid (paX s.data.toList = Fm.zero) := hp.1
                  have HPE : Hid (paE s.data.toList = 4) := hp.2
                  obtain ⟨E, hE⟩ : ∃ E, plE G = E := ⟨_, rfl⟩
                  have K2 : (E != 0) = true := by rw [← hE]; simpa using e0
                  rw [hE]
                  clear hp hE e0 hpm
                  obtain ⟨wF, EF, BF, KF, XF⟩ := set5 w9 w.heap.size _ _ _ _ _ (.int .i64 0) (.bool false) (.int .i64 0) (.int .i64 0) (.slice none 0 0) _ XA9.out
                  have z0 := cell_at XA9.out (j := 0) (v := .int .i64 0) rfl
                  have z1 := cell_at XA9.out (j := 1) (v := .bool false) rfl
                  have z2 := cell_at XA9.out (j := 2) (v := .int .i64 0) rfl
                  have z3 := cell_at XA9.out (j := 3) (v := .int .i64 0) rfl
                  have z4 := cell_at XA9.out (j := 4) (v := .slice none 0 0) rfl
                  have y0 := frozen_at XA9.out 0
                  have y1 := frozen_at XA9.out 1
                  have y2 := frozen_at XA9.out 2
                  have y3 := frozen_at XA9.out 3
                  have y4 := frozen_at XA9.out 4
                  have v0 := cell_at XF.out (j := 0) (v := .int .i64 0) rfl
                  have v1 := cell_at XF.out (j := 1) (v := .bool false) rfl
                  have v2 := cell_at XF.out (j := 2) (v := .int .i64 0) rfl
                  have v3 := cell_at XF.out (j := 3) (v := .int .i64 0) rfl
                  have v4 := cell_at XF.out (j := 4) (v := .slice none 0 0) rfl
                  have BT : Hid (Below w.heap.size w wF) := B9.out.trans BF.out
                  go_wp2_with fail
                  (try rw [EF])
                  refine bodyPost_ret (v := .tuple #[fmV Fm.zero none 0, .int .i64 4]) (by simp [results, Tryz.results25, go_sem, v0, v1, v2, v3, v4, fmV, Fm.zero]) rfl ?_
                  have hh := HR.out none 0 wF BT.out (by rw [HPX.out]; exact FmOk.zero wF)
                  rw [HPX.out, HPE.out] at hh
                  exact hh
        · subst hr3
          obtain ⟨n3, rfl⟩ : ∃ m, n2 = m + 1 := ⟨r3.length, hn2.symm⟩
          have hn3 : r3.length = n3 := by simpa using hn2
          have HLN : Hid ((b :: r3).length = n3 + 1) := by unfold Hid; rw [List.length_cons, hn3]
          have h1n : (1 : Int) ≤ (n3 : Int) + 1 + 1 := by omega
          clear hn2 hn3
          refine regionQ (fun _ => True) (by kernel_rfl) (trivial) (fun Qn hPQ hQn hS0 => ?_)
          refine wpAnyH_ready (rs := [0, 2]) (by kernel_rfl) (by simp) ?_
          refine AllReadyH.cons (o := _) rfl (fun K hK => ?_) (AllReadyH.cons (o := _) rfl (fun K hK => ?_) AllReadyH.nil)
          go_simp
          refine hK.out _ _ (trivial) (fun hS1 => ?_)
          clear hK K hS0
          (try simp only [Act.put, List.setIfInBounds_toArray, List.set_cons_zero, List.set_cons_succ])
          refine takeQ (i := 1) (d := some 35) (v := ?_) rfl rfl (by kernel_rfl) (by kernel_rfl) (by kernel_rfl) hPQ hS1 (by kernel_rfl) ?_ ?_
          rotate_left
          · (intro w hSw; (try dsimp only at hSw); go_simp; (try with_reducible rfl))
          (try simp only [Act.put, List.setIfInBounds_toArray, List.set_cons_zero, List.set_cons_succ])
          refine takeQ (i := 2) (d := some 36) (v := ?_) rfl rfl (by kernel_rfl) (by kernel_rfl) (by kernel_rfl) hPQ hS1 (by kernel_rfl) ?_ ?_
          rotate_left
          · (intro w hSw; (try dsimp only at hSw); go_simp; (try with_reducible rfl))
          (try simp only [Act.put, List.setIfInBounds_toArray, List.set_cons_zero, List.set_cons_succ])
          refine wpAnyH_ready (rs := [3]) (by kernel_rfl) (by simp) ?_
          refine AllReadyH.cons (o := _) rfl (fun K hK => ?_) AllReadyH.nil
          go_simp
          refine hK.out _ _ (trivial) (fun hS2 => ?_)
          clear hK K hS1
          (try simp only [Act.put, List.setIfInBounds_toArray, List.set_cons_zero, List.set_cons_succ])
          refine wpAnyH_ready (rs := [4]) (by kernel_rfl) (by simp) ?_
          refine AllReadyH.cons (o := _) rfl (fun K hK => ?_) AllReadyH.nil
          go_simp
          refine hK.out _ _ (trivial) (fun hS3 => ?_)
          clear hK K hS2
          (try simp only [Act.put, List.setIfInBounds_toArray, List.set_cons_zero, List.set_cons_succ])
          refine wpAnyH_done (by kernel_rfl) (hQn.out _ _ ?_) _
          clear hS3 hPQ hQn Qn
          rotate_left
          go_simp
          refine hK.out _ _ (trivial) (fun hS1 => ?_)
          clear hK K hS0
          (try simp only [Act.put, List.setIfInBounds_toArray, List.set_cons_zero, List.set_cons_succ])
          refine wpAnyH_ready (rs := [0, 3]) (by kernel_rfl) (by simp) ?_
          refine AllReadyH.cons (o := _) rfl (fun K hK => ?_) (AllReadyH.cons (o := _) rfl (fun K hK => ?_) AllReadyH.nil)
          go_simp
          refine hK.out _ _ (trivial) (fun hS2 => ?_)
          clear hK K hS1
          (try simp only [Act.put, List.setIfInBounds_toArray, List.set_cons_zero, List.set_cons_succ])
          refine takeQ (i := 1) (d := some 35) (v := ?_) rfl rfl (by kernel_rfl) (by kernel_rfl) (by kernel_rfl) hPQ hS2 (by kernel_rfl) ?_ ?_
          rotate_left
          · (intro w hSw; (try dsimp only at hSw); go_simp; (try with_reducible rfl))
          (try simp only [Act.put, List.setIfInBounds_toArray, List.set_cons_zero, List.set_cons_succ])
          refine wpAnyH_ready (rs := [3]) (by kernel_rfl) (by simp) ?_
          refine AllReadyH.cons (o := _) rfl (fun K hK => ?_) AllReadyH.nil
          go_simp
          refine hK.out _ _ (trivial) (fun hS3 => ?_)
          clear hK K hS2
          (try simp only [Act.put, List.setIfInBounds_toArray, List.set_cons_zero, List.set_cons_succ])
          refine wpAnyH_ready (rs := [4]) (by kernel_rfl) (by simp) ?_
          refine AllReadyH.cons (o := _) rfl (fun K hK => ?_) AllReadyH.nil
          go_simp
          refine hK.out _ _ (trivial) (fun hS4 => ?_)
          clear hK K hS3
          (try simp only [Act.put, List.setIfInBounds_toArray, List.set_cons_zero, List.set_cons_succ])
          refine wpAnyH_done (by kernel_rfl) (hQn.out _ _ ?_) _
          clear hS4 hPQ hQn Qn
          rotate_left
          go_simp
          refine hK.out _ _ (trivial) (fun hS2 => ?_)
          clear hK K hS1
          (try simp only [Act.put, List.setIfInBounds_toArray, List.set_cons_zero, List.set_cons_succ])
          refine wpAnyH_ready (rs := [0]) (by kernel_rfl) (by simp) ?_
          refine AllReadyH.cons (o := _) rfl (fun K hK => ?_) AllReadyH.nil
          go_simp
          refine hK.out _ _ (trivial) (fun hS3 => ?_)
          clear hK K hS2
          (try simp only [Act.put, List.setIfInBounds_toArray, List.set_cons_zero, List.set_cons_succ])
          refine takeQ (i := 1) (d := some 35) (v := ?_) rfl rfl (by kernel_rfl) (by kernel_rfl) (by kernel_rfl) hPQ hS3 (by kernel_rfl) ?_ ?_
          rotate_left
          · (intro w hSw; (try dsimp only at hSw); go_simp; (try with_reducible rfl))
          (try simp only [Act.put, List.setIfInBounds_toArray, List.set_cons_zero, List.set_cons_succ])
          refine wpAnyH_ready (rs := [4]) (by kernel_rfl) (by simp) ?_
          refine AllReadyH.cons (o := _) rfl (fun K hK => ?_) AllReadyH.nil
          go_simp
          refine hK.out _ _ (trivial) (fun hS4 => ?_)
          clear hK K hS3
          (try simp only [Act.put, List.setIfInBounds_toArray, List.set_cons_zero, List.set_cons_succ])
          refine wpAnyH_done (by kernel_rfl) (hQn.out _ _ ?_) _
          clear hS4 hPQ hQn Qn
          rotate_left
          all_goals
            have PW : Hid ((((wY.setCell ⟨X, 1, none⟩ (.bool true)).setCell ⟨P, 0, none⟩ (.slice (some ⟨g, 2, none⟩) (n3 + 1) (n3 + 1))).drew).heap[P]? = some (.cells #[.slice (some ⟨g, 2, none⟩) (n3 + 1) (n3 + 1)] 63 (0, 0))) := heap_setCell_same _ P 0 _ _ _ ((Below.heap_setCell _ ⟨X, 1, none⟩ _ P (Nat.ne_of_lt hPX)).trans PY.out)
            have XW : Hid ((((wY.setCell ⟨X, 1, none⟩ (.bool true)).setCell ⟨P, 0, none⟩ (.slice (some ⟨g, 2, none⟩) (n3 + 1) (n3 + 1))).drew).heap[X]? = some (.cells (frA K0 true 0 0 (.slice none 0 0)) 31 (0, 0))) := (Below.heap_setCell _ ⟨P, 0, none⟩ _ X (Ne.symm (Nat.ne_of_lt hPX))).trans (heap_setCell_same _ X 1 _ _ _ XY.out)
            have BW : Hid (Below P wS (((wY.setCell ⟨X, 1, none⟩ (.bool true)).setCell ⟨P, 0, none⟩ (.slice (some ⟨g, 2, none⟩) (n3 + 1) (n3 + 1))).drew)) := ((BY.out.setCell (p := ⟨X, 1, none⟩) (Nat.le_of_lt hPX) _).setCell (Nat.le_refl P) _).drew
            obtain ⟨W0, hW0⟩ : ∃ v, ((wY.setCell ⟨X, 1, none⟩ (.bool true)).setCell ⟨P, 0, none⟩ (.slice (some ⟨g, 2, none⟩) (n3 + 1) (n3 + 1))).drew = v := ⟨_, rfl⟩
            rw [hW0] at XW BW ⊢
            rw [hW0] at PW
            have pw := cell_at PW.out (j := 0) (v := .slice (some ⟨g, 2, none⟩) (n3 + 1) (n3 + 1)) rfl
            clear y1 yf py pyf pyd pyfd y1d yfd
            go_wp2_with fail
            have XAW := Lib.hid ((BW.out.block _ hAP).trans XA.out)
            clear hW0
            have HGS : Hid (gsW (hd0 :: discL :: b :: r3) = ⟨K0, true, (stW (b :: r3) (n3 + 1)).1, (stW (b :: r3) (n3 + 1)).2, (((b :: r3).tail.take (n3 + 1 - 1)).map gdW)⟩) := by unfold Hid; rw [← HK.out]; rw [gsW_disc]; exact gsR_st _ _ _ _ HLN.out
            have O0 : Hid (W0.ownsRow (X + 1) 76 2 (.slice none 0 0) (0 - 1) (dtC (((b :: r3).tail.take (0 - 1)).map gdW))) := World.ownsRow_nil _ _ _ _
            have hXW : X < W0.heap.size := lt_of_block XW.out
            go_loopw [7, 40] (fun fv j wr => ∃ (i : Nat) (dv : Value), i ≤ n3 + 1 ∧ j = .int .i64 i ∧ fv = (if i = 0 then (.func (.func 64) #[] #[.pointer (some ⟨X, 0, none⟩)]) else (.func (.func 67) #[] #[.pointer (some ⟨X, 0, none⟩)])) ∧ Hid (i = 0 → dv = .slice none 0 0) ∧ Hid (Below X W0 wr) ∧ Hid (wr.heap[X]? = some (.cells (frA K0 true (stW (b :: r3) i).1 (stW (b :: r3) i).2 dv) 31 (0, 0))) ∧ Hid (wr.ownsRow (X + 1) 76 2 dv (i - 1) (dtC (((b :: r3).tail.take (i - 1)).map gdW)))) (fun _ j _ => n3 + 1 - (intOf j).toNat)
            case atStart => exact ⟨0, _, Nat.zero_le _, rfl, rfl, fun _ => rfl, Below.refl _ _, XW, O0⟩
            case round =>
              clear O0 XW
              obtain ⟨i, dv, hi, rfl, hfv, HDV, HB, HXi, HOi⟩ := hrel
              have HFV := Lib.hid hfv
              clear hfv
              have BWi : Hid (Below w.heap.size w wr) := (BS.out.trans (BW.out.mono (Nat.le_of_lt hAP))).trans (HB.out.mono (Nat.le_of_lt (Nat.lt_trans hAP hPX)))
              have hln2 := HLN.out
              by_cases hlt : i < n3 + 1
              · obtain ⟨x, hx⟩ : ∃ x, (b :: r3).getD i [] = x := ⟨_, rfl⟩
                have hx2 : (b :: r3)[i]? = some x := by rw [← hx, List.getD_eq_getElem?_getD, List.getElem?_eq_getElem (by omega)]; rfl
                have hxl : x.length ≤ 1000000 := by have := HWL.out x (List.mem_cons_of_mem _ (List.mem_cons_of_mem _ (List.mem_of_getElem? hx2))); omega
                have hxs : (bsB x).size ≤ 1000000 := by rw [Lib.size_eq, data_bsB]; exact hxl
                have gx := cellB (BW.out.trans (HB.out.mono (Nat.le_of_lt hPX))) (HCell.out (i + 2) (by have := HLN.out; simp only [List.length_cons] at this ⊢; omega)) hgl
                simp only [List.getD_cons_succ] at gx
                rw [hx] at gx
                have gx2 : wr.cell? ⟨g, 2 + i, none⟩ = some (.string (bsB x)) := by rw [show 2 + i = 0 + (i + 2) from by omega]; exact gx
                obtain ⟨cu, cq, hcx⟩ : ∃ c1 c2, cutW x = (c1, c2) := ⟨_, _, rfl⟩
                have hcl : cu.length ≤ x.length := by have h := cutW_len x; rw [hcx] at h; exact h
                have hcu : (bsB cu).size ≤ 1000000 := by rw [Lib.size_eq, data_bsB]; omega
                have hgx : gdW x = ⟨bsB cu, cq⟩ := by unfold gdW; rw [hcx]
                have hlt2 : ((i : Int) < (n3 + 1 : Int)) := by omega
                have HCX := Lib.hid hcx
                have HX2 := Lib.hid hx2
                have HX1 := Lib.hid hx
                have HGX := Lib.hid hgx
                have hwr : X + 1 ≤ wr.heap.size := lt_of_block HXi.out
                clear gx hx hx2 hcx hcl hgx hln2 hxl
                by_cases i0 : i = 0
                · subst i0
                  obtain rfl := HDV.out rfl
                  have e7 : u7 = (.func (.func 64) #[] #[.pointer (some ⟨X, 0, none⟩)]) := HFV.out
                  subst e7
                  have gx3 : wr.cell? ⟨g, 2, none⟩ = some (.string (bsB x)) := gx2
                  go_wp2_with fail
                  refine unmarked_any (bsB x) _ _ (by omega) ?_
                  rw [data_bsB, HCX.out]
                  dsimp only
                  go_wp2_with fail
                  refine parse2_any (bsB cu) cq X K0 true _ _ (.slice none 0 0) _ _ hcu (HEV.out.below BWi.out) HXi.out fun w8 hb hx8 => ?_
                  rw [data_bsB] at hx8
                  have B8 : Hid (Below X W0 w8) := HB.out.trans hb
                  have X8 : Hid (w8.heap[X]? = some (.cells (frA K0 true (stW (b :: r3) (0 + 1)).1 (stW (b :: r3) (0 + 1)).2 (.slice none 0 0)) 31 (0, 0))) := by unfold Hid; rw [stW_one HX2.out HCX.out]; exact hx8
                  have O8 : Hid (w8.ownsRow (X + 1) 76 2 (.slice none 0 0) (0 + 1 - 1) (dtC (((b :: r3).tail.take (0 + 1 - 1)).map gdW))) := World.ownsRow_nil _ _ _ _
                  clear hb hx8
                  go_wp2_with fail
                  exact ⟨⟨0 + 1, _, by omega, by go_num, rfl, fun _ => rfl, B8, X8, O8⟩, by simp [intOf] <;> omega⟩
                · obtain ⟨i2, rfl⟩ : ∃ q, i = q + 1 := ⟨i - 1, by omega⟩
                  have e7 : u7 = (.func (.func 67) #[] #[.pointer (some ⟨X, 0, none⟩)]) := HFV.out.trans (if_neg i0)
                  subst e7
                  go_wp2_with fail
                  refine unmarked_any (bsB x) _ _ (by omega) ?_
                  rw [data_bsB, HCX.out]
                  dsimp only
                  go_wp2_with fail
                  refine parse3_any (bsB cu) cq X K0 true _ _ dv i2 _ _ _ HXi.out HOi.out (by omega) fun w8 dv2 hb hx8 ho8 => ?_
                  have B8 : Hid (Below X W0 w8) := HB.out.trans hb
                  have X8 := Lib.hid hx8
                  have O8 : Hid (w8.ownsRow (X + 1) 76 2 dv2 (i2 + 1) (dtC (((b :: r3).tail.take (i2 + 1)).map gdW))) := by unfold Hid; rw [tail_step (b :: r3) i2 HX2.out, List.map_append, List.map_singleton, HGX.out]; exact ho8
                  clear hb hx8 ho8
                  go_wp2_with fail
                  exact ⟨⟨i2 + 1 + 1, dv2, by omega, by go_num, rfl, fun h => absurd h (by omega), B8, X8, O8⟩, by simp [intOf]; omega⟩
              · obtain rfl : i = n3 + 1 := by omega
                obtain ⟨da, dc, rfl, hcs, hnil⟩ := ownsRow_read HOi.out
                have hcap9 : n3 + 1 - 1 ≤ dc := by
                  rcases HOi.out.2 with ⟨e, h0⟩ | ⟨g9, cap9, cur9, e, _, _, hnc, _⟩
                  · omega
                  · cases e; exact hnc
                have hdl : (((b :: r3).tail.take (n3 + 1 - 1)).map gdW).length = n3 + 1 - 1 := by rw [List.length_map, List.length_take, List.length_tail]; omega
                have HFR : Hid (Off da w.heap.size) := fun b o e => Ne.symm (Nat.ne_of_lt (own_above HOi.out (Nat.lt_succ_of_lt (Nat.lt_trans hAP hPX)) b o e))
                have hok : DtsOk (((b :: r3).tail.take (n3 + 1 - 1)).map gdW) := gd_ok _ s.size _ (by omega) fun y hy => HWL.out y (by have := List.mem_of_mem_tail hy; simp [this])
                obtain ⟨G, hG⟩ : ∃ G : Fm, (⟨K0, true, (stW (b :: r3) (n3 + 1)).1, (stW (b :: r3) (n3 + 1)).2, (((b :: r3).tail.take (n3 + 1 - 1)).map gdW)⟩ : Fm) = G := ⟨_, rfl⟩
                have X4 : Hid (wr.heap[X]? = some (.cells #[.int .i64 G.k, .bool G.d, .int .i64 G.t, .int .i64 G.m, .slice da G.ds.length dc] 31 (0, 0))) := by unfold Hid; rw [← hG]; dsimp only; rw [hdl]; exact HXi.out
                have HF4 : Hid (FmOk wr G da dc) := by rw [← hG]; exact ⟨hcs, hok, by dsimp only; rw [hdl]; omega, fun e => by have := hnil e; dsimp only; rw [hdl]; exact this, by dsimp only; rw [hdl]; exact hcap9⟩
                rw [hG] at HGS
                have HXV : Hid (fmV G da dc = .agg #[.int .i64 G.k, .bool G.d, .int .i64 G.t, .int .i64 G.m, .slice da G.ds.length dc]) := rfl
                have XAi := Lib.hid ((HB.out.block _ (Nat.lt_trans hAP hPX)).trans XAW.out)
                clear hcs hnil hcap9 hdl hok hG hln2 HXi HOi
                have p0 := cell_at X4.out (j := 0) (v := .int .i64 G.k) rfl
                have p1 := cell_at X4.out (j := 1) (v := .bool G.d) rfl
                have p2 := cell_at X4.out (j := 2) (v := .int .i64 G.t) rfl
                have p3 := cell_at X4.out (j := 3) (v := .int .i64 G.m) rfl
                have p4 := cell_at X4.out (j := 4) (v := .slice da G.ds.length dc) rfl
                go_wp2_with fail
                rw [← HXV.out]
                refine ftext_any G da dc _ _ HF4.out (HEV.out.below BWi.out) fun w9 hb => ?_
                have hXr := lt_of_block X4.out
                have B9 : Hid (Below w.heap.size w w9) := BWi.out.trans (hb.mono BWi.out.size)
                have X9 := Lib.hid ((hb.block _ hXr).trans X4.out)
                have XA9 := Lib.hid ((hb.block _ (lt_of_block XAi.out)).trans XAi.out)
                have HF9 := Lib.hid (HF4.out.below hb)
                clear hb p0 p1 p2 p3 p4
                have hpm := fun (hn : plE G = 0 → txL G ≠ s.data.toList) => pa_miss (g := G) (fun y hy e => by rw [← HG.out y hy e]; exact HGS.out.symm) hn hl2
                by_cases e0 : plE G = 0
                · have hq0 := teS_eq (s := s) e0
                  have htx : (txL G == s.data.toList) = true ∨ (txL G == s.data.toList) = false := by cases (txL G == s.data.toList) <;> simp
                  rw [e0]
                  rcases htx with h | h
                  · have hp := pa_found e0 (show txL G = s.data.toList by simpa using h)
                    have HPX : Hid (paX s.data.toList = G) := hp.1
                    have HPE : Hid (paE s.data.toList = 0) := hp.2
                    rw [h] at hq0
                    have hq1 : ((teS G).toList != s.toList) = false := by rw [bne, hq0]; rfl
                    clear hp h e0 hpm
                    obtain ⟨wF, EF, BF, KF, XF⟩ := set5 w9 w.heap.size _ _ _ _ _ (.int .i64 G.k) (.bool G.d) (.int .i64 G.t) (.int .i64 G.m) (.slice da G.ds.length dc) _ XA9.out
                    have z0 := cell_at XA9.out (j := 0) (v := .int .i64 0) rfl
                    have z1 := cell_at XA9.out (j := 1) (v := .bool false) rfl
                    have z2 := cell_at XA9.out (j := 2) (v := .int .i64 0) rfl
                    have z3 := cell_at XA9.out (j := 3) (v := .int .i64 0) rfl
                    have z4 := cell_at XA9.out (j := 4) (v := .slice none 0 0) rfl
                    have y0 := frozen_at XA9.out 0
                    have y1 := frozen_at XA9.out 1
                    have y2 := frozen_at XA9.out 2
                    have y3 := frozen_at XA9.out 3
                    have y4 := frozen_at XA9.out 4
                    have v0 := cell_at XF.out (j := 0) (v := .int .i64 G.k) rfl
                    have v1 := cell_at XF.out (j := 1) (v := .bool G.d) rfl
                    have v2 := cell_at XF.out (j := 2) (v := .int .i64 G.t) rfl
                    have v3 := cell_at XF.out (j := 3) (v := .int .i64 G.m) rfl
                    have v4 := cell_at XF.out (j := 4) (v := .slice da G.ds.length dc) rfl
                    have uu0 := cell_at X9.out (j := 0) (v := .int .i64 G.k) rfl
                    have uu1 := cell_at X9.out (j := 1) (v := .bool G.d) rfl
                    have uu2 := cell_at X9.out (j := 2) (v := .int .i64 G.t) rfl
                    have uu3 := cell_at X9.out (j := 3) (v := .int .i64 G.m) rfl
                    have uu4 := cell_at X9.out (j := 4) (v := .slice da G.ds.length dc) rfl
                    have BT : Hid (Below w.heap.size w wF) := B9.out.trans BF.out
                    have FF := Lib.hid (FmOk.heap HF9.out HFR.out KF.out)
                    go_wp2_with fail
                    (try rw [EF])
                    refine bodyPost_ret (v := .tuple #[fmV G da dc, .int .i64 0]) (by simp [results, Tryz.results25, go_sem, v0, v1, v2, v3, v4, fmV]) rfl ?_
                    have hh := HR.out da dc wF BT.out (by rw [HPX.out]; exact FF.out)
                    rw [HPX.out, HPE.out] at hh
                    exact hh
                  · have hp := hpm (fun _ e => by rw [e] at h; simp at h)
                    have HPX : Hid (paX s.data.toList = Fm.zero) := hp.1
                    have HPE : Hid (paE s.data.toList = 4) := hp.2
                    rw [h] at hq0
                    have hq1 : ((teS G).toList != s.toList) = true := by rw [bne, hq0]; rfl
                    clear hp h e0 hpm
                    obtain ⟨wF, EF, BF, KF, XF⟩ := set5 w9 w.heap.size _ _ _ _ _ (.int .i64 0) (.bool false) (.int .i64 0) (.int .i64 0) (.slice none 0 0) _ XA9.out
                    have z0 := cell_at XA9.out (j := 0) (v := .int .i64 0) rfl
                    have z1 := cell_at XA9.out (j := 1) (v := .bool false) rfl
                    have z2 := cell_at XA9.out (j := 2) (v := .int .i64 0) rfl
                    have z3 := cell_at XA9.out (j := 3) (v := .int .i64 0) rfl
                    have z4 := cell_at XA9.out (j := 4) (v := .slice none 0 0) rfl
                    have y0 := frozen_at XA9.out 0
                    have y1 := frozen_at XA9.out 1
                    have y2 := frozen_at XA9.out 2
                    have y3 := frozen_at XA9.out 3
                    have y4 := frozen_at XA9.out 4
                    have v0 := cell_at XF.out (j := 0) (v := .int .i64 0) rfl
                    have v1 := cell_at XF.out (j := 1) (v := .bool false) rfl
                    have v2 := cell_at XF.out (j := 2) (v := .int .i64 0) rfl
                    have v3 := cell_at XF.out (j := 3) (v := .int .i64 0) rfl
                    have v4 := cell_at XF.out (j := 4) (v := .slice none 0 0) rfl
                    have BT : Hid (Below w.heap.size w wF) := B9.out.trans BF.out
                    go_wp2_with fail
                    (try rw [EF])
                    refine bodyPost_ret (v := .tuple #[fmV Fm.zero none 0, .int .i64 4]) (by simp [results, Tryz.results25, go_sem, v0, v1, v2, v3, v4, fmV, Fm.zero]) rfl ?_
                    have hh := HR.out none 0 wF BT.out (by rw [HPX.out]; exact FmOk.zero wF)
                    rw [HPX.out, HPE.out] at hh
                    exact hh
                · have hp := hpm (fun e => absurd e e0)
                  have HPX : Hid (paX s.data.toList = Fm.zero) := hp.1
                  have HPE : Hid (paE s.data.toList = 4) := hp.2
                  obtain ⟨E, hE⟩ : ∃ E, plE G = E := ⟨_, rfl⟩
                  have K2 : (E != 0) = true := by rw [← hE]; simpa using e0
                  rw [hE]
                  clear hp hE e0 hpm
                  obtain ⟨wF, EF, BF, KF, XF⟩ := set5 w9 w.heap.size _ _ _ _ _ (.int .i64 0) (.bool false) (.int .i64 0) (.int .i64 0) (.slice none 0 0) _ XA9.out
                  have z0 := cell_at XA9.out (j := 0) (v := .int .i64 0) rfl
                  have z1 := cell_at XA9.out (j := 1) (v := .bool false) rfl
                  have z2 := cell_at XA9.out (j := 2) (v := .int .i64 0) rfl
                  have z3 := cell_at XA9.out (j := 3) (v := .int .i64 0) rfl
                  have z4 := cell_at XA9.out (j := 4) (v := .slice none 0 0) rfl
                  have y0 := frozen_at XA9.out 0
                  have y1 := frozen_at XA9.out 1
                  have y2 := frozen_at XA9.out 2
                  have y3 := frozen_at XA9.out 3
                  have y4 := frozen_at XA9.out 4
                  have v0 := cell_at XF.out (j := 0) (v := .int .i64 0) rfl
                  have v1 := cell_at XF.out (j := 1) (v := .bool false) rfl
                  have v2 := cell_at XF.out (j := 2) (v := .int .i64 0) rfl
                  have v3 := cell_at XF.out (j := 3) (v := .int .i64 0) rfl
                  have v4 := cell_at XF.out (j := 4) (v := .slice none 0 0) rfl
                  have BT : Hid (Below w.heap.size w wF) := B9.out.trans BF.out
                  go_wp2_with fail
                  (try rw [EF])
                  refine bodyPost_ret (v := .tuple #[fmV Fm.zero none 0, .int .i64 4]) (by simp [results, Tryz.results25, go_sem, v0, v1, v2, v3, v4, fmV, Fm.zero]) rfl ?_
                  have hh := HR.out none 0 wF BT.out (by rw [HPX.out]; exact FmOk.zero wF)
                  rw [HPX.out, HPE.out] at hh
                  exact hh
      | false =>
        have hdn : a ≠ discL := by simpa using hq
        have HDN := Lib.hid hdn
        have HLN : Hid ((a :: r2).length = n2 + 1) := by unfold Hid; rw [List.length_cons, hn2]
        clear hq hn2 hdn
        go_wp2_with (first | rw [EZ] | rw [EX])
        have hdn := HDN.out
        have XW : Hid ((wX.setCell ⟨P, 0, none⟩ (.slice (some ⟨g, 1, none⟩) (n2 + 1) (n2 + 1))).heap[X]? = some (.cells (frA K0 false 0 0 (.slice none 0 0)) 31 (0, 0))) := by unfold Hid; exact (Below.heap_setCell _ ⟨P, 0, none⟩ _ X (Ne.symm (Nat.ne_of_lt hPX))).trans XX.out
        have BW : Hid (Below P wS (wX.setCell ⟨P, 0, none⟩ (.slice (some ⟨g, 1, none⟩) (n2 + 1) (n2 + 1)))) := by unfold Hid; exact BX.out.setCell (Nat.le_refl P) _
        obtain ⟨W0, hW0⟩ : ∃ v, wX.setCell ⟨P, 0, none⟩ (.slice (some ⟨g, 1, none⟩) (n2 + 1) (n2 + 1)) = v := ⟨_, rfl⟩
        rw [hW0] at XW BW ⊢
        have XAW := Lib.hid ((BW.out.block _ hAP).trans XA.out)
        clear hW0
        have HGS : Hid (gsW (hd0 :: a :: r2) = ⟨K0, false, (stW (a :: r2) (n2 + 1)).1, (stW (a :: r2) (n2 + 1)).2, (((a :: r2).tail.take (n2 + 1 - 1)).map gdW)⟩) := by unfold Hid; rw [← HK.out]; rw [gsW_plain hdn]; exact gsR_st _ _ _ _ HLN.out
        have O0 : Hid (W0.ownsRow (X + 1) 76 2 (.slice none 0 0) (0 - 1) (dtC (((a :: r2).tail.take (0 - 1)).map gdW))) := World.ownsRow_nil _ _ _ _
        have hXW : X < W0.heap.size := lt_of_block XW.out
        go_loopw [7, 40] (fun fv j wr => ∃ (i : Nat) (dv : Value), i ≤ n2 + 1 ∧ j = .int .i64 i ∧ fv = (if i = 0 then (.func (.func 64) #[] #[.pointer (some ⟨X, 0, none⟩)]) else (.func (.func 67) #[] #[.pointer (some ⟨X, 0, none⟩)])) ∧ Hid (i = 0 → dv = .slice none 0 0) ∧ Hid (Below X W0 wr) ∧ Hid (wr.heap[X]? = some (.cells (frA K0 false (stW (a :: r2) i).1 (stW (a :: r2) i).2 dv) 31 (0, 0))) ∧ Hid (wr.ownsRow (X + 1) 76 2 dv (i - 1) (dtC (((a :: r2).tail.take (i - 1)).map gdW)))) (fun _ j _ => n2 + 1 - (intOf j).toNat)
        case atStart => exact ⟨0, _, Nat.zero_le _, rfl, rfl, fun _ => rfl, Below.refl _ _, XW, O0⟩
        case round =>
          clear O0 XW
          obtain ⟨i, dv, hi, rfl, hfv, HDV, HB, HXi, HOi⟩ := hrel
          have HFV := Lib.hid hfv
          clear hfv
          have BWi : Hid (Below w.heap.size w wr) := (BS.out.trans (BW.out.mono (Nat.le_of_lt hAP))).trans (HB.out.mono (Nat.le_of_lt (Nat.lt_trans hAP hPX)))
          have hln2 := HLN.out
          by_cases hlt : i < n2 + 1
          · obtain ⟨x, hx⟩ : ∃ x, (a :: r2).getD i [] = x := ⟨_, rfl⟩
            have hx2 : (a :: r2)[i]? = some x := by rw [← hx, List.getD_eq_getElem?_getD, List.getElem?_eq_getElem (by omega)]; rfl
            have hxl : x.length ≤ 1000000 := by have := HWL.out x (List.mem_cons_of_mem _ (List.mem_of_getElem? hx2)); omega
            have hxs : (bsB x).size ≤ 1000000 := by rw [Lib.size_eq, data_bsB]; exact hxl
            have gx := cellB (BW.out.trans (HB.out.mono (Nat.le_of_lt hPX))) (HCell.out (i + 1) (by have := HLN.out; simp only [List.length_cons] at this ⊢; omega)) hgl
            simp only [List.getD_cons_succ] at gx
            rw [hx] at gx
            have gx2 : wr.cell? ⟨g, 1 + i, none⟩ = some (.string (bsB x)) := by rw [show 1 + i = 0 + (i + 1) from by omega]; exact gx
            obtain ⟨cu, cq, hcx⟩ : ∃ c1 c2, cutW x = (c1, c2) := ⟨_, _, rfl⟩
            have hcl : cu.length ≤ x.length := by have h := cutW_len x; rw [hcx] at h; exact h
            have hcu : (bsB cu).size ≤ 1000000 := by rw [Lib.size_eq, data_bsB]; omega
            have hgx : gdW x = ⟨bsB cu, cq⟩ := by unfold gdW; rw [hcx]
            have hlt2 : ((i : Int) < (n2 + 1 : Int)) := by omega
            have HCX := Lib.hid hcx
            have HX2 := Lib.hid hx2
            have HX1 := Lib.hid hx
            have HGX := Lib.hid hgx
            have hwr : X + 1 ≤ wr.heap.size := lt_of_block HXi.out
            clear gx hx hx2 hcx hcl hgx hln2 hxl
            by_cases i0 : i = 0
            · subst i0
              obtain rfl := HDV.out rfl
              have e7 : u7 = (.func (.func 64) #[] #[.pointer (some ⟨X, 0, none⟩)]) := HFV.out
              subst e7
              have gx3 : wr.cell? ⟨g, 1, none⟩ = some (.string (bsB x)) := gx2
              go_wp2_with fail
              refine unmarked_any (bsB x) _ _ (by omega) ?_
              rw [data_bsB, HCX.out]
              dsimp only
              go_wp2_with fail
              refine parse2_any (bsB cu) cq X K0 false _ _ (.slice none 0 0) _ _ hcu (HEV.out.below BWi.out) HXi.out fun w8 hb hx8 => ?_
              rw [data_bsB] at hx8
              have B8 : Hid (Below X W0 w8) := HB.out.trans hb
              have X8 : Hid (w8.heap[X]? = some (.cells (frA K0 false (stW (a :: r2) (0 + 1)).1 (stW (a :: r2) (0 + 1)).2 (.slice none 0 0)) 31 (0, 0))) := by unfold Hid; rw [stW_one HX2.out HCX.out]; exact hx8
              have O8 : Hid (w8.ownsRow (X + 1) 76 2 (.slice none 0 0) (0 + 1 - 1) (dtC (((a :: r2).tail.take (0 + 1 - 1)).map gdW))) := World.ownsRow_nil _ _ _ _
              clear hb hx8
              go_wp2_with fail
              exact ⟨⟨0 + 1, _, by omega, by go_num, rfl, fun _ => rfl, B8, X8, O8⟩, by simp [intOf] <;> omega⟩
            · obtain ⟨i2, rfl⟩ : ∃ q, i = q + 1 := ⟨i - 1, by omega⟩
              have e7 : u7 = (.func (.func 67) #[] #[.pointer (some ⟨X, 0, none⟩)]) := HFV.out.trans (if_neg i0)
              subst e7
              go_wp2_with fail
              refine unmarked_any (bsB x) _ _ (by omega) ?_
              rw [data_bsB, HCX.out]
              dsimp only
              go_wp2_with fail
              refine parse3_any (bsB cu) cq X K0 false _ _ dv i2 _ _ _ HXi.out HOi.out (by omega) fun w8 dv2 hb hx8 ho8 => ?_
              have B8 : Hid (Below X W0 w8) := HB.out.trans hb
              have X8 := Lib.hid hx8
              have O8 : Hid (w8.ownsRow (X + 1) 76 2 dv2 (i2 + 1) (dtC (((a :: r2).tail.take (i2 + 1)).map gdW))) := by unfold Hid; rw [tail_step (a :: r2) i2 HX2.out, List.map_append, List.map_singleton, HGX.out]; exact ho8
              clear hb hx8 ho8
              go_wp2_with fail
              exact ⟨⟨i2 + 1 + 1, dv2, by omega, by go_num, rfl, fun h => absurd h (by omega), B8, X8, O8⟩, by simp [intOf]; omega⟩
          · obtain rfl : i = n2 + 1 := by omega
            obtain ⟨da, dc, rfl, hcs, hnil⟩ := ownsRow_read HOi.out
            have hcap9 : n2 + 1 - 1 ≤ dc := by
              rcases HOi.out.2 with ⟨e, h0⟩ | ⟨g9, cap9, cur9, e, _, _, hnc, _⟩
              · omega
              · cases e; exact hnc
            have hdl : (((a :: r2).tail.take (n2 + 1 - 1)).map gdW).length = n2 + 1 - 1 := by rw [List.length_map, List.length_take, List.length_tail]; omega
            have HFR : Hid (Off da w.heap.size) := fun b o e => Ne.symm (Nat.ne_of_lt (own_above HOi.out (Nat.lt_succ_of_lt (Nat.lt_trans hAP hPX)) b o e))
            have hok : DtsOk (((a :: r2).tail.take (n2 + 1 - 1)).map gdW) := gd_ok _ s.size _ (by omega) fun y hy => HWL.out y (by have := List.mem_of_mem_tail hy; simp [this])
            obtain ⟨G, hG⟩ : ∃ G : Fm, (⟨K0, false, (stW (a :: r2) (n2 + 1)).1, (stW (a :: r2) (n2 + 1)).2, (((a :: r2).tail.take (n2 + 1 - 1)).map gdW)⟩ : Fm) = G := ⟨_, rfl⟩
            have X4 : Hid (wr.heap[X]? = some (.cells #[.int .i64 G.k, .bool G.d, .int .i64 G.t, .int .i64 G.m, .slice da G.ds.length dc] 31 (0, 0))) := by unfold Hid; rw [← hG]; dsimp only; rw [hdl]; exact HXi.out
            have HF4 : Hid (FmOk wr G da dc) := by rw [← hG]; exact ⟨hcs, hok, by dsimp only; rw [hdl]; omega, fun e => by have := hnil e; dsimp only; rw [hdl]; exact this, by dsimp only; rw [hdl]; exact hcap9⟩
            rw [hG] at HGS
            have HXV : Hid (fmV G da dc = .agg #[.int .i64 G.k, .bool G.d, .int .i64 G.t, .int .i64 G.m, .slice da G.ds.length dc]) := rfl
            have XAi := Lib.hid ((HB.out.block _ (Nat.lt_trans hAP hPX)).trans XAW.out)
            clear hcs hnil hcap9 hdl hok hG hln2 HXi HOi
            have p0 := cell_at X4.out (j := 0) (v := .int .i64 G.k) rfl
            have p1 := cell_at X4.out (j := 1) (v := .bool G.d) rfl
            have p2 := cell_at X4.out (j := 2) (v := .int .i64 G.t) rfl
            have p3 := cell_at X4.out (j := 3) (v := .int .i64 G.m) rfl
            have p4 := cell_at X4.out (j := 4) (v := .slice da G.ds.length dc) rfl
            go_wp2_with fail
            rw [← HXV.out]
            refine ftext_any G da dc _ _ HF4.out (HEV.out.below BWi.out) fun w9 hb => ?_
            have hXr := lt_of_block X4.out
            have B9 : Hid (Below w.heap.size w w9) := BWi.out.trans (hb.mono BWi.out.size)
            have X9 := Lib.hid ((hb.block _ hXr).trans X4.out)
            have XA9 := Lib.hid ((hb.block _ (lt_of_block XAi.out)).trans XAi.out)
            have HF9 := Lib.hid (HF4.out.below hb)
            clear hb p0 p1 p2 p3 p4
            have hpm := fun (hn : plE G = 0 → txL G ≠ s.data.toList) => pa_miss (g := G) (fun y hy e => by rw [← HG.out y hy e]; exact HGS.out.symm) hn hl2
            by_cases e0 : plE G = 0
            · have hq0 := teS_eq (s := s) e0
              have htx : (txL G == s.data.toList) = true ∨ (txL G == s.data.toList) = false := by cases (txL G == s.data.toList) <;> simp
              rw [e0]
              rcases htx with h | h
              · have hp := pa_found e0 (show txL G = s.data.toList by simpa using h)
                have HPX : Hid (paX s.data.toList = G) := hp.1
                have HPE : Hid (paE s.data.toList = 0) := hp.2
                rw [h] at hq0
                have hq1 : ((teS G).toList != s.toList) = false := by rw [bne, hq0]; rfl
                clear hp h e0 hpm
                obtain ⟨wF, EF, BF, KF, XF⟩ := set5 w9 w.heap.size _ _ _ _ _ (.int .i64 G.k) (.bool G.d) (.int .i64 G.t) (.int .i64 G.m) (.slice da G.ds.length dc) _ XA9.out
                have z0 := cell_at XA9.out (j := 0) (v := .int .i64 0) rfl
                have z1 := cell_at XA9.out (j := 1) (v := .bool false) rfl
                have z2 := cell_at XA9.out (j := 2) (v := .int .i64 0) rfl
                have z3 := cell_at XA9.out (j := 3) (v := .int .i64 0) rfl
                have z4 := cell_at XA9.out (j := 4) (v := .slice none 0 0) rfl
                have y0 := frozen_at XA9.out 0
                have y1 := frozen_at XA9.out 1
                have y2 := frozen_at XA9.out 2
                have y3 := frozen_at XA9.out 3
                have y4 := frozen_at XA9.out 4
                have v0 := cell_at XF.out (j := 0) (v := .int .i64 G.k) rfl
                have v1 := cell_at XF.out (j := 1) (v := .bool G.d) rfl
                have v2 := cell_at XF.out (j := 2) (v := .int .i64 G.t) rfl
                have v3 := cell_at XF.out (j := 3) (v := .int .i64 G.m) rfl
                have v4 := cell_at XF.out (j := 4) (v := .slice da G.ds.length dc) rfl
                have uu0 := cell_at X9.out (j := 0) (v := .int .i64 G.k) rfl
                have uu1 := cell_at X9.out (j := 1) (v := .bool G.d) rfl
                have uu2 := cell_at X9.out (j := 2) (v := .int .i64 G.t) rfl
                have uu3 := cell_at X9.out (j := 3) (v := .int .i64 G.m) rfl
                have uu4 := cell_at X9.out (j := 4) (v := .slice da G.ds.length dc) rfl
                have BT : Hid (Below w.heap.size w wF) := B9.out.trans BF.out
                have FF := Lib.hid (FmOk.heap HF9.out HFR.out KF.out)
                go_wp2_with fail
                (try rw [EF])
                refine bodyPost_ret (v := .tuple #[fmV G da dc, .int .i64 0]) (by simp [results, Tryz.results25, go_sem, v0, v1, v2, v3, v4, fmV]) rfl ?_
                have hh := HR.out da dc wF BT.out (by rw [HPX.out]; exact FF.out)
                rw [HPX.out, HPE.out] at hh
                exact hh
              · have hp := hpm (fun _ e => by rw [e] at h; simp at h)
                have HPX : Hid (paX s.data.toList = Fm.zero) := hp.1
                have HPE : Hid (paE s.data.toList = 4) := hp.2
                rw [h] at hq0
                have hq1 : ((teS G).toList != s.toList) = true := by rw [bne, hq0]; rfl
                clear hp h e0 hpm
                obtain ⟨wF, EF, BF, KF, XF⟩ := set5 w9 w.heap.size _ _ _ _ _ (.int .i64 0) (.bool false) (.int .i64 0) (.int .i64 0) (.slice none 0 0) _ XA9.out
                have z0 := cell_at XA9.out (j := 0) (v := .int .i64 0) rfl
                have z1 := cell_at XA9.out (j := 1) (v := .bool false) rfl
                have z2 := cell_at XA9.out (j := 2) (v := .int .i64 0) rfl
                have z3 := cell_at XA9.out (j := 3) (v := .int .i64 0) rfl
                have z4 := cell_at XA9.out (j := 4) (v := .slice none 0 0) rfl
                have y0 := frozen_at XA9.out 0
                have y1 := frozen_at XA9.out 1
                have y2 := frozen_at XA9.out 2
                have y3 := frozen_at XA9.out 3
                have y4 := frozen_at XA9.out 4
                have v0 := cell_at XF.out (j := 0) (v := .int .i64 0) rfl
                have v1 := cell_at XF.out (j := 1) (v := .bool false) rfl
                have v2 := cell_at XF.out (j := 2) (v := .int .i64 0) rfl
                have v3 := cell_at XF.out (j := 3) (v := .int .i64 0) rfl
                have v4 := cell_at XF.out (j := 4) (v := .slice none 0 0) rfl
                have BT : Hid (Below w.heap.size w wF) := B9.out.trans BF.out
                go_wp2_with fail
                (try rw [EF])
                refine bodyPost_ret (v := .tuple #[fmV Fm.zero none 0, .int .i64 4]) (by simp [results, Tryz.results25, go_sem, v0, v1, v2, v3, v4, fmV, Fm.zero]) rfl ?_
                have hh := HR.out none 0 wF BT.out (by rw [HPX.out]; exact FmOk.zero wF)
                rw [HPX.out, HPE.out] at hh
                exact hh
            · have hp := hpm (fun e => absurd e e0)
              have HPX : Hid (paX s.data.toList = Fm.zero) := hp.1
              have HPE : Hid (paE s.data.toList = 4) := hp.2
              obtain ⟨E, hE⟩ : ∃ E, plE G = E := ⟨_, rfl⟩
              have K2 : (E != 0) = true := by rw [← hE]; simpa using e0
              rw [hE]
              clear hp hE e0 hpm
              obtain ⟨wF, EF, BF, KF, XF⟩ := set5 w9 w.heap.size _ _ _ _ _ (.int .i64 0) (.bool false) (.int .i64 0) (.int .i64 0) (.slice none 0 0) _ XA9.out
              have z0 := cell_at XA9.out (j := 0) (v := .int .i64 0) rfl
              have z1 := cell_at XA9.out (j := 1) (v := .bool false) rfl
              have z2 := cell_at XA9.out (j := 2) (v := .int .i64 0) rfl
              have z3 := cell_at XA9.out (j := 3) (v := .int .i64 0) rfl
              have z4 := cell_at XA9.out (j := 4) (v := .slice none 0 0) rfl
              have y0 := frozen_at XA9.out 0
              have y1 := frozen_at XA9.out 1
              have y2 := frozen_at XA9.out 2
              have y3 := frozen_at XA9.out 3
              have y4 := frozen_at XA9.out 4
              have v0 := cell_at XF.out (j := 0) (v := .int .i64 0) rfl
              have v1 := cell_at XF.out (j := 1) (v := .bool false) rfl
              have v2 := cell_at XF.out (j := 2) (v := .int .i64 0) rfl
              have v3 := cell_at XF.out (j := 3) (v := .int .i64 0) rfl
              have v4 := cell_at XF.out (j := 4) (v := .slice none 0 0) rfl
              have BT : Hid (Below w.heap.size w wF) := B9.out.trans BF.out
              go_wp2_with fail
              (try rw [EF])
              refine bodyPost_ret (v := .tuple #[fmV Fm.zero none 0, .int .i64 4]) (by simp [results, Tryz.results25, go_sem, v0, v1, v2, v3, v4, fmV, Fm.zero]) rfl ?_
              have hh := HR.out none 0 wF BT.out (by rw [HPX.out]; exact FmOk.zero wF)
              rw [HPX.out, HPE.out] at hh
              exact hh
end Go.Proofs.YtciokmjhdbcmpaaGreatDoor
