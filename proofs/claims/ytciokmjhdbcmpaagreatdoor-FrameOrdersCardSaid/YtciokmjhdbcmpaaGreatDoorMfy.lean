/- guess of reference 19. Parse of reference 19. (Printed by gen_rparse.py.) The closures of Parse of package frame; slices.IndexFunc at the rows. strings.Split at blanks; the closures of Parse that store. -/
import Derived.Test.YtciokmjhdbcmpaaGreatDoorMrq
namespace Go.Proofs.YtciokmjhdbcmpaaGreatDoor
open Go.RowKit

def krTo (h : List UInt8) : Nat → Int
  | 0 => -1
  | i + 1 => if (wdL i == h) = true then (i : Int) else krTo h i
/-- What guess returns. -/
def grR (k : Int) (d : Bool) : List (List UInt8) → Fm
  | [] => ⟨-1, false, 0, 0, []⟩
  | t :: r => ⟨k, d, numL (cutW t).1, (cutW t).2, (r.take 8).map gdW⟩
def grL : List (List UInt8) → Fm
  | [] => Fm.zero
  | h :: r => if r.head? = some discL then grR (krTo h 9) true r.tail else grR (krTo h 9) false r
theorem grL_disc (h a : List UInt8) (r : List (List UInt8)) (ha : a = discL) : grL (h :: a :: r) = grR (krTo h 9) true r := by
  show (if some a = some discL then grR (krTo h 9) true r else grR (krTo h 9) false (a :: r)) = _
  rw [if_pos (by rw [ha])]
theorem grL_plain {h a : List UInt8} {r : List (List UInt8)} (ha : a ≠ discL) : grL (h :: a :: r) = grR (krTo h 9) false (a :: r) := by
  show (if some a = some discL then grR (krTo h 9) true r else grR (krTo h 9) false (a :: r)) = _
  rw [if_neg (fun e => ha (Option.some.inj e))]
theorem cutW_len (x : List UInt8) : (cutW x).1.length ≤ x.length := by
  unfold cutW
  split
  · simp
  · split
    · simp
    · simp
theorem gd_ok (l : List (List UInt8)) (B i : Nat) (hB : B ≤ 9223372036854775807) (h : ∀ x ∈ l, x.length ≤ B) : DtsOk ((l.take i).map gdW) := fun j hj => by
  rw [dtAt_lt hj, List.getElem_map]
  have hm : (l.take i)[j]'(by simpa using hj) ∈ l := List.mem_of_mem_take (List.getElem_mem _)
  have h1 := h _ hm
  have h2 := cutW_len ((l.take i)[j]'(by simpa using hj))
  unfold gdW
  rw [Lib.size_eq, data_bsB]
  omega
theorem ownsRow_heap {w w' : World} {base : Nat} {e : TypeId} {size : Nat} {v : Value} {n : Nat} {xs : List Value} (h : w.ownsRow base e size v n xs) {A : Nat} (hA : A < base) (hk : ∀ j, j ≠ A → w'.heap[j]? = w.heap[j]?) : w'.ownsRow base e size v n xs := by
  refine ⟨h.1, ?_⟩
  rcases h.2 with h1 | ⟨g, cap, cur, h1, h2, h3, h4⟩
  · exact .inl h1
  · exact .inr ⟨g, cap, cur, h1, h2, (hk g (by omega)).trans h3, h4⟩
theorem cellsAt_heap {W : World} {b : Nat} {cs : List Value} {t : TypeId} (h : W.heap[b]? = some (.cells cs.toArray t (0, 0))) : CellsAt W (some ⟨b, 0, none⟩) cs := fun _ => by
  refine ⟨b, 0, rfl, lt_of_block h, fun j hj => ?_⟩
  rw [Nat.zero_add, cell_at h (v := cs.getD j undef) (by simp [List.getElem?_eq_getElem hj])]
theorem own_above {w : World} {base A : Nat} {e : TypeId} {size k c : Nat} {ao : Option Addr} {n : Nat} {xs : List Value} (h : w.ownsRow base e size (.slice ao k c) n xs) (hA : A < base) : ∀ b o, ao = some ⟨b, o, none⟩ → A < b := fun b o ea => by
  rcases h.2 with ⟨e1, _⟩ | ⟨g, cap, cur, e1, hg, _⟩
  · cases e1; cases ea
  · cases e1; cases ea; omega
theorem infoDt19 : (Tryz.prog.info? 76).map (fun i => (i.zero, i.size, i.bytes)) = some (some (.agg #[.string ⟨#[]⟩, .int .i64 0]), 2, 24) := by kernel_rfl
theorem one2 (a : ByteArray) (b : Int) : ∀ u ∈ ([.string a, .int .i64 b] : List Value), u.oneCell' = true := by
  intro u hu
  rw [List.mem_cons, List.mem_singleton] at hu
  rcases hu with rfl | rfl <;> rfl
def frA (k : Int) (d : Bool) (t m : Int) (v : Value) : Array Value := #[.int .i64 k, .bool d, .int .i64 t, .int .i64 m, v]
set_option maxRecDepth 100000 in
set_option maxHeartbeats 8000000 in
theorem rguess_fresh (s : ByteArray) (w : World) (R : Ending → World → Prop) (hs : s.size ≤ 1000000)
   (hR : ∀ da dc w', Below w.heap.size w w' → FmOk w' (grL (splL s.data.toList)) da dc → (∀ b o, da = some ⟨b, o, none⟩ → w.heap.size < b) → R (.returned (fmV (grL (splL s.data.toList)) da dc)) w') :
    Calls Tryz.prog 68 #[.string s] w R := by
  have HR := Lib.hid hR
  clear hR
  obtain ⟨w1, E1, HB1, s1, X1⟩ := box_ex w #[.int .i64 0, .bool false, .int .i64 0, .int .i64 0, .slice none 0 0] 31
  go_enter Tryz.func68, Tryz.ntmps68
  go_wp2_with (rw [E1])
  refine rsplit_any s _ _ hs fun v wS hb hown => ?_
  have BS : Hid (Below w.heap.size w wS) := HB1.out.trans (hb.mono (Nat.le_of_lt s1))
  have XS := Lib.hid ((hb.block _ s1).trans X1.out)
  have hA := lt_of_block XS.out
  obtain ⟨hd0, r, hw⟩ : ∃ h r, splL s.data.toList = h :: r := by
    cases e : splL s.data.toList with
    | nil => exact absurd e (splL_ne _)
    | cons h r => exact ⟨h, r, rfl⟩
  rw [hw] at hown
  have HWS := Lib.hid hw
  have hwl := (spl_len s.data.toList).2
  rw [hw, toList_len] at hwl
  have HWL := Lib.hid hwl
  clear hwl
  have hln := (spl_len s.data.toList).1
  rw [hw, toList_len] at hln
  obtain ⟨ao, cw, rfl, hcw, _⟩ := ownsRow_read hown
  obtain ⟨g, og, rfl, hg, _⟩ := hcw (by rw [rowS_length]; simp)
  have hcap : (hd0 :: r).length ≤ cw := by
    rcases hown.2 with ⟨e, _⟩ | ⟨g', cap, cur, e, _, _, hnc, _⟩
    · cases e
    · cases e; exact hnc
  have HCW := Lib.hid hcw
  rw [List.length_cons] at hln hcap ⊢
  obtain ⟨n, hn⟩ : ∃ n, r.length = n := ⟨_, rfl⟩
  have HN := Lib.hid hn
  rw [hn] at hln hcap ⊢
  obtain ⟨w2, E2, HB2, s2, X2⟩ := box_ex wS #[.int .i64 (-1), .bool false, .int .i64 0, .int .i64 0, .slice none 0 0] 31
  clear hb hown hw hn hcw E1 X1
  go_wp2_with (first | (refine wp_storeNew _ 31 (.tmp 4) (.tmp 14) _ #[.int .i64 (-1), .bool false, .int .i64 0, .int .i64 0, .slice none 0 0] rfl rfl rfl rfl (by kernel_rfl) (by kernel_rfl) (by kernel_rfl) ?_; rw [E2]) | fail)
  obtain ⟨X, hX⟩ : ∃ X, wS.heap.size = X := ⟨_, rfl⟩
  rw [hX] at HB2 s2 X2 hA ⊢
  have HX := Lib.hid hX
  have hgX : g < X := by rw [← hX]; exact hg
  have HCell := Lib.hid (fun j (hj : j < (hd0 :: r).length) => HCW.out.get rfl (show (rowS (hd0 :: r))[j]? = some (.string (bsB ((hd0 :: r).getD j []))) by unfold rowS sC; rw [List.getElem?_map, List.getElem?_map, List.getElem?_eq_getElem hj, List.getD_eq_getElem?_getD, List.getElem?_eq_getElem hj]; rfl))
  clear hX hg E2 HCW
  refine rrows_ex _ _ fun w3 br hb hge hx => ?_
  have B3 : Hid (Below X wS w3) := HB2.out.trans (hb.mono (Nat.le_of_lt s2))
  have X3 := Lib.hid ((hb.block _ s2).trans X2.out)
  have HBR := Lib.hid hx
  have hbr : X ≠ br := by omega
  clear hb hx hge X2
  go_wp2_with fail
  go_loopw [6] (fun j wr => ∃ i : Nat, i ≤ 9 ∧ j = .int .i64 i ∧ Hid (Below X wS wr) ∧ Hid (wr.heap[X]? = some (.cells (frA (krTo hd0 i) false 0 0 (.slice none 0 0)) 31 (0, 0))) ∧ Hid (wr.heap[br]? = some (.cells rrA 124 (0, 0)))) (fun j _ => 9 - (intOf j).toNat)
  case atStart => exact ⟨0, Nat.zero_le _, rfl, B3, X3, HBR⟩
  case round =>
    clear B3 X3 HBR
    obtain ⟨i, hi, rfl, HB, HXr, HR9⟩ := hrel
    by_cases hlt : i < 9
    · have r0 := rrow_cells0 hlt HR9.out
      rw [rr_wd i hlt] at r0
      have g0 := cellB HB.out (HCell.out 0 (by simp)) hgX
      have g0' : wr.cell? ⟨g, og, none⟩ = some (.string (bsB hd0)) := g0
      have hst : Hid (krTo hd0 (i + 1) = if (wdL i == hd0) = true then (i : Int) else krTo hd0 i) := rfl
      have hq0 : ((bsB (wdL i)).toList == (bsB hd0).toList) = (wdL i == hd0) := by rw [Lib.toList_data, Lib.toList_data, data_bsB, data_bsB]
      obtain ⟨q, hq⟩ : ∃ q, (wdL i == hd0) = q := ⟨_, rfl⟩
      rw [hq] at hq0 hst
      have x0 := cell_at HXr.out (j := 0) (v := .int .i64 (krTo hd0 i)) rfl
      have f0 := frozen_at HXr.out 0
      have hi9 : (i : Int) < 9 := by omega
      clear g0 hq
      cases q with
      | true =>
        go_wp2_with fail
        go_quiet (fail)
        go_wp2_with fail
        exact ⟨⟨i + 1, by omega, by go_num, (by unfold Hid; exact (show Below X wS (wr.drewN nq) from HB.out.trans ⟨rfl, rfl, rfl, Nat.le_refl _, fun _ _ => rfl⟩).setCell (p := ⟨X, 0, none⟩) (Nat.le_refl X) _), by rw [hst.out]; exact heap_setCell_same _ X 0 _ _ _ HXr.out, (Below.heap_setCell _ _ _ _ (Ne.symm hbr)).trans HR9.out⟩, by simp [intOf]; omega⟩
      | false =>
        go_wp2_with fail
        go_quiet (fail)
        go_wp2_with fail
        exact ⟨⟨i + 1, by omega, by go_num, HB.out.trans ⟨rfl, rfl, rfl, Nat.le_refl _, fun _ _ => rfl⟩, by rw [hst.out]; exact HXr.out, HR9.out⟩, by simp [intOf]; omega⟩
    · obtain rfl : i = 9 := by omega
      obtain ⟨K, hK⟩ : ∃ K, krTo hd0 9 = K := ⟨_, rfl⟩
      rw [hK] at HXr
      have HK := Lib.hid hK
      have XAr := Lib.hid ((HB.out.block _ hA).trans XS.out)
      clear hK HR9
      rcases hr : r with _ | ⟨a, r2⟩
      · subst hr
        obtain rfl : n = 0 := HN.out.symm
        obtain ⟨wF, EF, BF, KF, XF⟩ := set5 wr w.heap.size _ _ _ _ _ (.int .i64 (-1)) (.bool false) (.int .i64 0) (.int .i64 0) (.slice none 0 0) _ XAr.out
        have z0 := cell_at XAr.out (j := 0) rfl
        have z1 := cell_at XAr.out (j := 1) rfl
        have z2 := cell_at XAr.out (j := 2) rfl
        have z3 := cell_at XAr.out (j := 3) rfl
        have z4 := cell_at XAr.out (j := 4) rfl
        have y0 := frozen_at XAr.out 0
        have y1 := frozen_at XAr.out 1
        have y2 := frozen_at XAr.out 2
        have y3 := frozen_at XAr.out 3
        have y4 := frozen_at XAr.out 4
        have v0 := cell_at XF.out (j := 0) rfl
        have v1 := cell_at XF.out (j := 1) rfl
        have v2 := cell_at XF.out (j := 2) rfl
        have v3 := cell_at XF.out (j := 3) rfl
        have v4 := cell_at XF.out (j := 4) rfl
        have BT : Hid (Below w.heap.size w wF) := (BS.out.trans (HB.out.mono (Nat.le_of_lt hA))).trans BF.out
        have HG : Hid (grL ([hd0]) = ⟨-1, false, 0, 0, []⟩) := by unfold Hid; rfl
        go_wp2_with fail
        all_goals
          (try rw [EF])
          refine bodyPost_ret (v := fmV ⟨-1, false, 0, 0, []⟩ none 0) (by simp [results, Tryz.results68, go_sem, v0, v1, v2, v3, v4, fmV]) rfl ?_
          have hh := HR.out none 0 wF BT.out (by rw [HWS.out, HG.out]; exact ⟨CellsAt.nil _ _, fun i hi => absurd hi (by simp), by simp, fun _ => ⟨rfl, rfl⟩, by simp⟩) (fun _ _ e => by cases e)
          rw [HWS.out, HG.out] at hh
          exact hh
      · subst hr
        obtain ⟨n2, rfl⟩ : ∃ m, n = m + 1 := ⟨r2.length, HN.out.symm⟩
        have hn2 : r2.length = n2 := by have := HN.out; simpa using this
        have hga := cellB HB.out (HCell.out 1 (by simp)) hgX
        simp only [List.getD_cons_succ, List.getD_cons_zero] at hga
        have hq0 : ((bsB a).toList == [100, 105, 115, 99]) = (a == discL) := by rw [Lib.toList_data, data_bsB]; rfl
        obtain ⟨q, hq⟩ : ∃ q, (a == discL) = q := ⟨_, rfl⟩
        rw [hq] at hq0
        cases q with
        | true =>
          have had : a = discL := by simpa using hq
          have x1 := cell_at HXr.out (j := 1) (v := .bool false) rfl
          have f1 := frozen_at HXr.out 1
          have HX4 : Hid ((wr.setCell ⟨X, 1, none⟩ (.bool true)).heap[X]? = some (.cells (frA K true 0 0 (.slice none 0 0)) 31 (0, 0))) := heap_setCell_same _ X 1 _ _ _ HXr.out
          have HB4 : Hid (Below X wS (wr.setCell ⟨X, 1, none⟩ (.bool true))) := HB.out.setCell (Nat.le_refl X) _
          have XA4 := Lib.hid ((Below.heap_setCell wr ⟨X, 1, none⟩ (.bool true) w.heap.size (Nat.ne_of_lt hA)).trans XAr.out)
          subst had
          clear hq
          rcases hr3 : r2 with _ | ⟨b, r3⟩
          · subst hr3
            obtain rfl : n2 = 0 := hn2.symm
            obtain ⟨wF, EF, BF, KF, XF⟩ := set5 (wr.setCell ⟨X, 1, none⟩ (.bool true)) w.heap.size _ _ _ _ _ (.int .i64 (-1)) (.bool false) (.int .i64 0) (.int .i64 0) (.slice none 0 0) _ XA4.out
            have z0 := cell_at XA4.out (j := 0) rfl
            have z1 := cell_at XA4.out (j := 1) rfl
            have z2 := cell_at XA4.out (j := 2) rfl
            have z3 := cell_at XA4.out (j := 3) rfl
            have z4 := cell_at XA4.out (j := 4) rfl
            have y0 := frozen_at XA4.out 0
            have y1 := frozen_at XA4.out 1
            have y2 := frozen_at XA4.out 2
            have y3 := frozen_at XA4.out 3
            have y4 := frozen_at XA4.out 4
            have v0 := cell_at XF.out (j := 0) rfl
            have v1 := cell_at XF.out (j := 1) rfl
            have v2 := cell_at XF.out (j := 2) rfl
            have v3 := cell_at XF.out (j := 3) rfl
            have v4 := cell_at XF.out (j := 4) rfl
            have BT : Hid (Below w.heap.size w wF) := (BS.out.trans (HB4.out.mono (Nat.le_of_lt hA))).trans BF.out
            have HG : Hid (grL ([hd0, discL]) = ⟨-1, false, 0, 0, []⟩) := by unfold Hid; rfl
            go_wp2_with fail
            all_goals
              (try rw [EF])
              refine bodyPost_ret (v := fmV ⟨-1, false, 0, 0, []⟩ none 0) (by simp [results, Tryz.results68, go_sem, v0, v1, v2, v3, v4, fmV]) rfl ?_
              have hh := HR.out none 0 wF BT.out (by rw [HWS.out, HG.out]; exact ⟨CellsAt.nil _ _, fun i hi => absurd hi (by simp), by simp, fun _ => ⟨rfl, rfl⟩, by simp⟩) (fun _ _ e => by cases e)
              rw [HWS.out, HG.out] at hh
              exact hh
          · subst hr3
            obtain ⟨n3, rfl⟩ : ∃ m, n2 = m + 1 := ⟨r3.length, hn2.symm⟩
            have hn3 : r3.length = n3 := by simpa using hn2
            have HG : Hid (grL (hd0 :: discL :: b :: r3) = ⟨K, true, numL (cutW b).1, (cutW b).2, (r3.take 8).map gdW⟩) := by unfold Hid; rw [← HK.out]; rw [grL_disc _ _ _ rfl]; rfl
            have hfl : (bsB b).size ≤ 1000000000000 := by rw [Lib.size_eq, data_bsB]; have := HWL.out b (by simp); omega
            have hrl : ∀ x ∈ r3, x.length ≤ s.size := fun x hx => HWL.out x (by simp [hx])
            have HRL := Lib.hid hrl
            have HRC := Lib.hid (fun j (hj : j < n3) => (HCell.out (j + 3) (by simp; omega)))
            have hg0 := cellB HB4.out (HCell.out 2 (by simp)) hgX
            simp only [List.getD_cons_succ, List.getD_cons_zero] at hg0 HRC
            have HN2 := Lib.hid hn3
            clear hrl hn2 hn3
            go_wp2_with fail
            refine rcut_any (bsB b) _ _ hfl fun w6 hb => ?_
            rw [data_bsB]
            have hsz : X ≤ (wr.setCell ⟨X, 1, none⟩ (.bool true)).heap.size := by have h1 := HB4.out.size; have h2 := HX.out; omega
            have B6 : Hid (Below X wS w6) := HB4.out.trans (hb.mono hsz)
            have X6 := Lib.hid ((hb.block _ (lt_of_block HX4.out)).trans HX4.out)
            clear hb hg0
            obtain ⟨cl, cm, hcc⟩ : ∃ c1 c2, cutW b = (c1, c2) := ⟨_, _, rfl⟩
            rw [hcc] at HG ⊢
            clear hcc
            dsimp only at HG ⊢
            have x2 := cell_at X6.out (j := 2) rfl
            have f2 := frozen_at X6.out 2
            have x3 := cell_at X6.out (j := 3) rfl
            have f3 := frozen_at X6.out 3
            go_wp2_with fail
            refine rnumber_any (bsB cl) _ _ ?_
            rw [data_bsB]
            obtain ⟨nv, hnv⟩ : ∃ v, numL cl = v := ⟨_, rfl⟩
            rw [hnv] at HG ⊢
            clear hnv
            have X7 : Hid (((w6.setCell ⟨X, 2, none⟩ (.int .i64 nv)).setCell ⟨X, 3, none⟩ (.int .i64 cm)).heap[X]? = some (.cells (frA K true nv cm (.slice none 0 0)) 31 (0, 0))) := heap_setCell_same _ X 3 _ _ _ (heap_setCell_same _ X 2 _ _ _ X6.out)
            have B7 : Hid (Below X wS ((w6.setCell ⟨X, 2, none⟩ (.int .i64 nv)).setCell ⟨X, 3, none⟩ (.int .i64 cm))) := (B6.out.setCell (Nat.le_refl X) _).setCell (Nat.le_refl X) _
            go_wp2_with fail
            obtain ⟨w7, hw7⟩ : ∃ v, (w6.setCell ⟨X, 2, none⟩ (.int .i64 nv)).setCell ⟨X, 3, none⟩ (.int .i64 cm) = v := ⟨_, rfl⟩
            rw [hw7] at X7 B7 ⊢
            clear hw7 x2 f2 x3 f3 X6 B6
            have O7 : Hid (w7.ownsRow (X + 1) 76 2 (.slice none 0 0) 0 (dtC ((r3.take 0).map gdW))) := World.ownsRow_nil _ _ _ _
            go_loopw [9] (fun j wr => ∃ (i : Nat) (dv : Value), i ≤ n3 ∧ i ≤ 8 ∧ j = .int .i64 ((i + 1 : Nat) : Int) ∧ Hid (Below X wS wr) ∧ Hid (wr.heap[X]? = some (.cells (frA K true nv cm dv) 31 (0, 0))) ∧ Hid (wr.ownsRow (X + 1) 76 2 dv i (dtC ((r3.take i).map gdW)))) (fun j _ => 10 - (intOf j).toNat)
            case atStart => exact ⟨0, _, Nat.zero_le _, Nat.zero_le _, rfl, B7, X7, O7⟩
            case round =>
              clear B7 X7 O7
              rename_i wrO _
              obtain ⟨i, dv, hi, hi8, rfl, HBi, HXi, HOi⟩ := hrel
              have hnp := HN2.out
              by_cases hlt : i < n3 ∧ i < 8
              · have k1 : (i < n3) = True := eq_true (by omega)
                have k2 : ((i : Int) < (n3 : Int)) = True := eq_true (by omega)
                have k3 : ((i : Int) + 1 < (n3 : Int) + 1) = True := eq_true (by omega)
                have k4 : ((i : Int) + 1 < 9) = True := eq_true (by omega)
                have k5 : ((i : Int) < 8) = True := eq_true (by omega)
                have k6 : (i < 8) = True := eq_true (by omega)
                have k7 : (i + 1 < 9) = True := eq_true (by omega)
                have hb1 : i + 1 < n3 + 1 := by omega
                have hb2 : i + 1 < 9 := by omega
                obtain ⟨x, hx⟩ : ∃ x, r3.getD i [] = x := ⟨_, rfl⟩
                have hx2 : r3[i]? = some x := by rw [← hx, List.getD_eq_getElem?_getD, List.getElem?_eq_getElem (by omega)]; rfl
                have hxs : (bsB x).size ≤ 1000000000000 := by rw [Lib.size_eq, data_bsB]; have := HRL.out x (List.mem_of_getElem? hx2); omega
                have htk : Hid ((r3.take (i + 1)).map gdW = (r3.take i).map gdW ++ [gdW x]) := by unfold Hid; rw [List.take_add_one, hx2, List.map_append]; rfl
                have gx := cellB HBi.out (HRC.out i hlt.1) hgX
                rw [hx] at gx
                have gx2 : wr.cell? ⟨g, og + 1 + 1 + (i + 1), none⟩ = some (.string (bsB x)) := by rw [show og + 1 + 1 + (i + 1) = og + (i + 3) from by omega]; exact gx
                have hwr : X + 1 ≤ wr.heap.size := lt_of_block HXi.out
                clear gx hx hx2 hnp hlt
                go_wp2_with fail
                refine rcut_any (bsB x) _ _ hxs fun w8 hb => ?_
                rw [data_bsB]
                have B8 : Hid (Below X wS w8) := HBi.out.trans (hb.mono (Nat.le_of_succ_le hwr))
                have X8 := Lib.hid ((hb.block _ (lt_of_block HXi.out)).trans HXi.out)
                have O8 := Lib.hid (ownsRow_below HOi.out hb)
                have z8 : X + 1 ≤ w8.heap.size := lt_of_block X8.out
                obtain ⟨cu, cq, hcx⟩ : ∃ c1 c2, cutW x = (c1, c2) := ⟨_, _, rfl⟩
                have hgx : gdW x = ⟨bsB cu, cq⟩ := by unfold gdW; rw [hcx]
                rw [hgx] at htk
                rw [hcx]
                clear hb hgx hcx gx2 k1 k2 k3 k4 k5 k6 k7
                dsimp only
                obtain ⟨w9, E9, HB9, s9, X9⟩ := box_ex w8 #[.string (bsB cu), .int .i64 cq] 76
                have O9 := Lib.hid (ownsRow_below O8.out HB9.out)
                have C9 : Hid (CellsAt w9 (some ⟨w8.heap.size, 0, none⟩) [.string (bsB cu), .int .i64 cq]) := cellsAt_heap X9.out
                have X10 := Lib.hid ((HB9.out.block _ (lt_of_block X8.out)).trans X8.out)
                have B10 : Hid (Below X wS w9) := B8.out.trans (HB9.out.mono (Nat.le_of_succ_le z8))
                have q4 := cell_at X8.out (j := 4) (v := dv) rfl
                have q4b := cell_at X10.out (j := 4) (v := dv) rfl
                go_wp2_with (first | rw [E9] | (at_builtin; refine wp_appO rfl (.tmp 82) (.tmp 86) 29 rfl (X + 1) 76 Tryz.underlying29 infoDt19 rfl (by decide) dv i (dtC ((r3.take i).map gdW)) rfl O9.out ⟨w8.heap.size, 0, none⟩ 1 1 [.string (bsB cu), .int .i64 cq] rfl rfl C9.out (one2 _ _) (by omega) (by omega) (by omega) ?_; intro v11 w11 hown hb; obtain ⟨a11, c11, rfl, -, -⟩ := ownsRow_read hown; have O11 := Lib.hid hown; have X11 := Lib.hid ((hb.block X (Nat.lt_succ_self X)).trans X10.out); have B11 : Hid (Below X wS w11) := B10.out.trans (hb.mono (Nat.le_succ X)); have q4c := cell_at X11.out (j := 4) rfl; have f4c := frozen_at X11.out 4; clear hown hb))
                have X12 : Hid ((w11.setCell ⟨X, 4, none⟩ (.slice a11 (i + 1) c11)).heap[X]? = some (.cells (frA K true nv cm (.slice a11 (i + 1) c11)) 31 (0, 0))) := heap_setCell_same _ X 4 _ _ _ X11.out
                have O12 := Lib.hid (ownsRow_setCell_below O11.out (a := ⟨X, 4, none⟩) (Nat.lt_succ_self X) (.slice a11 (i + 1) c11))
                exact ⟨⟨i + 1, _, by omega, by omega, by go_num, B11.out.setCell (Nat.le_refl X) _, X12, by rw [htk.out, dtC_append]; exact O12.out⟩, by simp [intOf]; omega⟩
              · have hfin : i = 8 ∨ i = n3 := by omega
                have htk : r3.take 8 = r3.take i := by
                  rcases hfin with rfl | rfl
                  · rfl
                  · rw [← hnp, List.take_length, List.take_of_length_le (by omega)]
                have hdl : ((r3.take i).map gdW).length = i := by rw [List.length_map, List.length_take]; omega
                rw [htk] at HG
                obtain ⟨a9, c9, rfl, hcs, hnil⟩ := ownsRow_read HOi.out
                have hcap9 : i ≤ c9 := by
                  rcases HOi.out.2 with ⟨e, _⟩ | ⟨g9, cap9, cur9, e, _, _, hnc, _⟩
                  · cases e; omega
                  · cases e; exact hnc
                obtain ⟨DS, hDS⟩ : ∃ l, (r3.take i).map gdW = l := ⟨_, rfl⟩
                have hok : DtsOk DS := by rw [← hDS]; exact gd_ok r3 s.size i (by omega) HRL.out
                have HOK := Lib.hid hok
                rw [hDS] at HG HOi hdl hcs
                have XAi := Lib.hid ((HBi.out.block _ hA).trans XS.out)
                obtain ⟨wF, EF, BF, KF, XF⟩ := set5 wr w.heap.size _ _ _ _ _ (.int .i64 K) (.bool true) (.int .i64 nv) (.int .i64 cm) (.slice a9 i c9) _ XAi.out
                have HOF := Lib.hid (ownsRow_heap HOi.out (Nat.lt_succ_of_lt hA) KF.out)
                have z0 := cell_at XAi.out (j := 0) rfl
                have z1 := cell_at XAi.out (j := 1) rfl
                have z2 := cell_at XAi.out (j := 2) rfl
                have z3 := cell_at XAi.out (j := 3) rfl
                have z4 := cell_at XAi.out (j := 4) rfl
                have y0 := frozen_at XAi.out 0
                have y1 := frozen_at XAi.out 1
                have y2 := frozen_at XAi.out 2
                have y3 := frozen_at XAi.out 3
                have y4 := frozen_at XAi.out 4
                have v0 := cell_at XF.out (j := 0) (v := .int .i64 K) rfl
                have v1 := cell_at XF.out (j := 1) (v := .bool true) rfl
                have v2 := cell_at XF.out (j := 2) (v := .int .i64 nv) rfl
                have v3 := cell_at XF.out (j := 3) (v := .int .i64 cm) rfl
                have v4 := cell_at XF.out (j := 4) (v := .slice a9 i c9) rfl
                have uu0 := cell_at HXi.out (j := 0) (v := .int .i64 K) rfl
                have uu1 := cell_at HXi.out (j := 1) (v := .bool true) rfl
                have uu2 := cell_at HXi.out (j := 2) (v := .int .i64 nv) rfl
                have uu3 := cell_at HXi.out (j := 3) (v := .int .i64 cm) rfl
                have uu4 := cell_at HXi.out (j := 4) (v := .slice a9 i c9) rfl
                have BT : Hid (Below w.heap.size w wF) := (BS.out.trans (HBi.out.mono (Nat.le_of_lt hA))).trans BF.out
                have HPL : Hid (∀ b o, a9 = some ⟨b, o, none⟩ → w.heap.size < b) := own_above HOi.out (Nat.lt_succ_of_lt hA)
                have HDL := Lib.hid hdl
                have HNIL := Lib.hid hnil
                have HCAP := Lib.hid hcap9
                have kk : ((i < n3) = False ∧ ((i : Int) < (n3 : Int)) = False ∧ ((i : Int) + 1 < (n3 : Int) + 1) = False) ∨ (((i < n3) = True ∧ ((i : Int) < (n3 : Int)) = True ∧ ((i : Int) + 1 < (n3 : Int) + 1) = True) ∧ ((i : Int) + 1 < 9) = False ∧ ((i : Int) < 8) = False ∧ (i < 8) = False ∧ (i + 1 < 9) = False) := by
                  by_cases hq : i < n3
                  · right; exact ⟨⟨eq_true hq, eq_true (by omega), eq_true (by omega)⟩, eq_false (by omega), eq_false (by omega), eq_false (by omega), eq_false (by omega)⟩
                  · left; exact ⟨eq_false hq, eq_false (by omega), eq_false (by omega)⟩
                clear htk hcs hnil hcap9 hok hDS hdl hfin hlt hnp
                have fin : R (.returned (fmV ⟨K, true, nv, cm, DS⟩ a9 c9)) wF := by
                  obtain ⟨a9x, c9x, e9, hcF, hnF⟩ := ownsRow_read HOF.out
                  cases e9
                  have hh := HR.out a9 c9 wF BT.out (by rw [HWS.out, HG.out]; exact ⟨hcF, HOK.out, by show DS.length ≤ _; rw [HDL.out]; omega, fun e => by have := hnF e; exact ⟨by show DS.length = 0; rw [HDL.out]; exact this.1, this.2⟩, by show DS.length ≤ _; rw [HDL.out]; exact HCAP.out⟩) (fun b o e => by subst e; exact HPL.out b o rfl)
                  rw [HWS.out, HG.out] at hh
                  exact hh
                have hfm : fmV ⟨K, true, nv, cm, DS⟩ a9 c9 = .agg #[.int .i64 K, .bool true, .int .i64 nv, .int .i64 cm, .slice a9 i c9] := by unfold fmV; rw [HDL.out]
                rw [hfm] at fin
                have FIN := Lib.hid fin
                clear fin hfm
                rcases kk with ⟨k1, k2, k3⟩ | ⟨⟨k1, k2, k3⟩, k4, k5, k6, k7⟩
                all_goals
                  go_wp2_with fail
                  (try rw [EF])
                  refine bodyPost_ret (v := .agg #[.int .i64 K, .bool true, .int .i64 nv, .int .i64 cm, .slice a9 i c9]) (by simp [results, Tryz.results68, go_sem, v0, v1, v2, v3, v4]) rfl ?_
                  exact FIN.out
        | false =>
          have hdn : a ≠ discL := by simpa using hq
          clear hq
          have HG : Hid (grL (hd0 :: a :: r2) = ⟨K, false, numL (cutW a).1, (cutW a).2, (r2.take 8).map gdW⟩) := by unfold Hid; rw [← HK.out]; rw [grL_plain hdn]; rfl
          have hfl : (bsB a).size ≤ 1000000000000 := by rw [Lib.size_eq, data_bsB]; have := HWL.out a (by simp); omega
          have hrl : ∀ x ∈ r2, x.length ≤ s.size := fun x hx => HWL.out x (by simp [hx])
          have HRL := Lib.hid hrl
          have HRC := Lib.hid (fun j (hj : j < n2) => (HCell.out (j + 2) (by simp; omega)))
          have hg0 := cellB HB.out (HCell.out 1 (by simp)) hgX
          simp only [List.getD_cons_succ, List.getD_cons_zero] at hg0 HRC
          have HN2 := Lib.hid hn2
          clear hrl hn2
          go_wp2_with fail
          refine rcut_any (bsB a) _ _ hfl fun w6 hb => ?_
          rw [data_bsB]
          have hsz : X ≤ wr.heap.size := by have h1 := HB.out.size; have h2 := HX.out; omega
          have B6 : Hid (Below X wS w6) := HB.out.trans (hb.mono hsz)
          have X6 := Lib.hid ((hb.block _ (lt_of_block HXr.out)).trans HXr.out)
          clear hb hg0
          obtain ⟨cl, cm, hcc⟩ : ∃ c1 c2, cutW a = (c1, c2) := ⟨_, _, rfl⟩
          rw [hcc] at HG ⊢
          clear hcc
          dsimp only at HG ⊢
          have x2 := cell_at X6.out (j := 2) rfl
          have f2 := frozen_at X6.out 2
          have x3 := cell_at X6.out (j := 3) rfl
          have f3 := frozen_at X6.out 3
          go_wp2_with fail
          refine rnumber_any (bsB cl) _ _ ?_
          rw [data_bsB]
          obtain ⟨nv, hnv⟩ : ∃ v, numL cl = v := ⟨_, rfl⟩
          rw [hnv] at HG ⊢
          clear hnv
          have X7 : Hid (((w6.setCell ⟨X, 2, none⟩ (.int .i64 nv)).setCell ⟨X, 3, none⟩ (.int .i64 cm)).heap[X]? = some (.cells (frA K false nv cm (.slice none 0 0)) 31 (0, 0))) := heap_setCell_same _ X 3 _ _ _ (heap_setCell_same _ X 2 _ _ _ X6.out)
          have B7 : Hid (Below X wS ((w6.setCell ⟨X, 2, none⟩ (.int .i64 nv)).setCell ⟨X, 3, none⟩ (.int .i64 cm))) := (B6.out.setCell (Nat.le_refl X) _).setCell (Nat.le_refl X) _
          go_wp2_with fail
          obtain ⟨w7, hw7⟩ : ∃ v, (w6.setCell ⟨X, 2, none⟩ (.int .i64 nv)).setCell ⟨X, 3, none⟩ (.int .i64 cm) = v := ⟨_, rfl⟩
          rw [hw7] at X7 B7 ⊢
          clear hw7 x2 f2 x3 f3 X6 B6
          have O7 : Hid (w7.ownsRow (X + 1) 76 2 (.slice none 0 0) 0 (dtC ((r2.take 0).map gdW))) := World.ownsRow_nil _ _ _ _
          go_loopw [9] (fun j wr => ∃ (i : Nat) (dv : Value), i ≤ n2 ∧ i ≤ 8 ∧ j = .int .i64 ((i + 1 : Nat) : Int) ∧ Hid (Below X wS wr) ∧ Hid (wr.heap[X]? = some (.cells (frA K false nv cm dv) 31 (0, 0))) ∧ Hid (wr.ownsRow (X + 1) 76 2 dv i (dtC ((r2.take i).map gdW)))) (fun j _ => 10 - (intOf j).toNat)
          case atStart => exact ⟨0, _, Nat.zero_le _, Nat.zero_le _, rfl, B7, X7, O7⟩
          case round =>
            clear B7 X7 O7
            rename_i wrO _
            obtain ⟨i, dv, hi, hi8, rfl, HBi, HXi, HOi⟩ := hrel
            have hnp := HN2.out
            by_cases hlt : i < n2 ∧ i < 8
            · have k1 : (i < n2) = True := eq_true (by omega)
              have k2 : ((i : Int) < (n2 : Int)) = True := eq_true (by omega)
              have k3 : ((i : Int) + 1 < (n2 : Int) + 1) = True := eq_true (by omega)
              have k4 : ((i : Int) + 1 < 9) = True := eq_true (by omega)
              have k5 : ((i : Int) < 8) = True := eq_true (by omega)
              have k6 : (i < 8) = True := eq_true (by omega)
              have k7 : (i + 1 < 9) = True := eq_true (by omega)
              have hb1 : i + 1 < n2 + 1 := by omega
              have hb2 : i + 1 < 9 := by omega
              obtain ⟨x, hx⟩ : ∃ x, r2.getD i [] = x := ⟨_, rfl⟩
              have hx2 : r2[i]? = some x := by rw [← hx, List.getD_eq_getElem?_getD, List.getElem?_eq_getElem (by omega)]; rfl
              have hxs : (bsB x).size ≤ 1000000000000 := by rw [Lib.size_eq, data_bsB]; have := HRL.out x (List.mem_of_getElem? hx2); omega
              have htk : Hid ((r2.take (i + 1)).map gdW = (r2.take i).map gdW ++ [gdW x]) := by unfold Hid; rw [List.take_add_one, hx2, List.map_append]; rfl
              have gx := cellB HBi.out (HRC.out i hlt.1) hgX
              rw [hx] at gx
              have gx2 : wr.cell? ⟨g, og + 1 + (i + 1), none⟩ = some (.string (bsB x)) := by rw [show og + 1 + (i + 1) = og + (i + 2) from by omega]; exact gx
              have hwr : X + 1 ≤ wr.heap.size := lt_of_block HXi.out
              clear gx hx hx2 hnp hlt
              go_wp2_with fail
              refine rcut_any (bsB x) _ _ hxs fun w8 hb => ?_
              rw [data_bsB]
              have B8 : Hid (Below X wS w8) := HBi.out.trans (hb.mono (Nat.le_of_succ_le hwr))
              have X8 := Lib.hid ((hb.block _ (lt_of_block HXi.out)).trans HXi.out)
              have O8 := Lib.hid (ownsRow_below HOi.out hb)
              have z8 : X + 1 ≤ w8.heap.size := lt_of_block X8.out
              obtain ⟨cu, cq, hcx⟩ : ∃ c1 c2, cutW x = (c1, c2) := ⟨_, _, rfl⟩
              have hgx : gdW x = ⟨bsB cu, cq⟩ := by unfold gdW; rw [hcx]
              rw [hgx] at htk
              rw [hcx]
              clear hb hgx hcx gx2 k1 k2 k3 k4 k5 k6 k7
              dsimp only
              obtain ⟨w9, E9, HB9, s9, X9⟩ := box_ex w8 #[.string (bsB cu), .int .i64 cq] 76
              have O9 := Lib.hid (ownsRow_below O8.out HB9.out)
              have C9 : Hid (CellsAt w9 (some ⟨w8.heap.size, 0, none⟩) [.string (bsB cu), .int .i64 cq]) := cellsAt_heap X9.out
              have X10 := Lib.hid ((HB9.out.block _ (lt_of_block X8.out)).trans X8.out)
              have B10 : Hid (Below X wS w9) := B8.out.trans (HB9.out.mono (Nat.le_of_succ_le z8))
              have q4 := cell_at X8.out (j := 4) (v := dv) rfl
              have q4b := cell_at X10.out (j := 4) (v := dv) rfl
              go_wp2_with (first | rw [E9] | (at_builtin; refine wp_appO rfl (.tmp 82) (.tmp 86) 29 rfl (X + 1) 76 Tryz.underlying29 infoDt19 rfl (by decide) dv i (dtC ((r2.take i).map gdW)) rfl O9.out ⟨w8.heap.size, 0, none⟩ 1 1 [.string (bsB cu), .int .i64 cq] rfl rfl C9.out (one2 _ _) (by omega) (by omega) (by omega) ?_; intro v11 w11 hown hb; obtain ⟨a11, c11, rfl, -, -⟩ := ownsRow_read hown; have O11 := Lib.hid hown; have X11 := Lib.hid ((hb.block X (Nat.lt_succ_self X)).trans X10.out); have B11 : Hid (Below X wS w11) := B10.out.trans (hb.mono (Nat.le_succ X)); have q4c := cell_at X11.out (j := 4) rfl; have f4c := frozen_at X11.out 4; clear hown hb))
              have X12 : Hid ((w11.setCell ⟨X, 4, none⟩ (.slice a11 (i + 1) c11)).heap[X]? = some (.cells (frA K false nv cm (.slice a11 (i + 1) c11)) 31 (0, 0))) := heap_setCell_same _ X 4 _ _ _ X11.out
              have O12 := Lib.hid (ownsRow_setCell_below O11.out (a := ⟨X, 4, none⟩) (Nat.lt_succ_self X) (.slice a11 (i + 1) c11))
              exact ⟨⟨i + 1, _, by omega, by omega, by go_num, B11.out.setCell (Nat.le_refl X) _, X12, by rw [htk.out, dtC_append]; exact O12.out⟩, by simp [intOf]; omega⟩
            · have hfin : i = 8 ∨ i = n2 := by omega
              have htk : r2.take 8 = r2.take i := by
                rcases hfin with rfl | rfl
                · rfl
                · rw [← hnp, List.take_length, List.take_of_length_le (by omega)]
              have hdl : ((r2.take i).map gdW).length = i := by rw [List.length_map, List.length_take]; omega
              rw [htk] at HG
              obtain ⟨a9, c9, rfl, hcs, hnil⟩ := ownsRow_read HOi.out
              have hcap9 : i ≤ c9 := by
                rcases HOi.out.2 with ⟨e, _⟩ | ⟨g9, cap9, cur9, e, _, _, hnc, _⟩
                · cases e; omega
                · cases e; exact hnc
              obtain ⟨DS, hDS⟩ : ∃ l, (r2.take i).map gdW = l := ⟨_, rfl⟩
              have hok : DtsOk DS := by rw [← hDS]; exact gd_ok r2 s.size i (by omega) HRL.out
              have HOK := Lib.hid hok
              rw [hDS] at HG HOi hdl hcs
              have XAi := Lib.hid ((HBi.out.block _ hA).trans XS.out)
              obtain ⟨wF, EF, BF, KF, XF⟩ := set5 wr w.heap.size _ _ _ _ _ (.int .i64 K) (.bool false) (.int .i64 nv) (.int .i64 cm) (.slice a9 i c9) _ XAi.out
              have HOF := Lib.hid (ownsRow_heap HOi.out (Nat.lt_succ_of_lt hA) KF.out)
              have z0 := cell_at XAi.out (j := 0) rfl
              have z1 := cell_at XAi.out (j := 1) rfl
              have z2 := cell_at XAi.out (j := 2) rfl
              have z3 := cell_at XAi.out (j := 3) rfl
              have z4 := cell_at XAi.out (j := 4) rfl
              have y0 := frozen_at XAi.out 0
              have y1 := frozen_at XAi.out 1
              have y2 := frozen_at XAi.out 2
              have y3 := frozen_at XAi.out 3
              have y4 := frozen_at XAi.out 4
              have v0 := cell_at XF.out (j := 0) (v := .int .i64 K) rfl
              have v1 := cell_at XF.out (j := 1) (v := .bool false) rfl
              have v2 := cell_at XF.out (j := 2) (v := .int .i64 nv) rfl
              have v3 := cell_at XF.out (j := 3) (v := .int .i64 cm) rfl
              have v4 := cell_at XF.out (j := 4) (v := .slice a9 i c9) rfl
              have uu0 := cell_at HXi.out (j := 0) (v := .int .i64 K) rfl
              have uu1 := cell_at HXi.out (j := 1) (v := .bool false) rfl
              have uu2 := cell_at HXi.out (j := 2) (v := .int .i64 nv) rfl
              have uu3 := cell_at HXi.out (j := 3) (v := .int .i64 cm) rfl
              have uu4 := cell_at HXi.out (j := 4) (v := .slice a9 i c9) rfl
              have BT : Hid (Below w.heap.size w wF) := (BS.out.trans (HBi.out.mono (Nat.le_of_lt hA))).trans BF.out
              have HPL : Hid (∀ b o, a9 = some ⟨b, o, none⟩ → w.heap.size < b) := own_above HOi.out (Nat.lt_succ_of_lt hA)
              have HDL := Lib.hid hdl
              have HNIL := Lib.hid hnil
              have HCAP := Lib.hid hcap9
              have kk : ((i < n2) = False ∧ ((i : Int) < (n2 : Int)) = False ∧ ((i : Int) + 1 < (n2 : Int) + 1) = False) ∨ (((i < n2) = True ∧ ((i : Int) < (n2 : Int)) = True ∧ ((i : Int) + 1 < (n2 : Int) + 1) = True) ∧ ((i : Int) + 1 < 9) = False ∧ ((i : Int) < 8) = False ∧ (i < 8) = False ∧ (i + 1 < 9) = False) := by
                by_cases hq : i < n2
                · right; exact ⟨⟨eq_true hq, eq_true (by omega), eq_true (by omega)⟩, eq_false (by omega), eq_false (by omega), eq_false (by omega), eq_false (by omega)⟩
                · left; exact ⟨eq_false hq, eq_false (by omega), eq_false (by omega)⟩
              clear htk hcs hnil hcap9 hok hDS hdl hfin hlt hnp
              have fin : R (.returned (fmV ⟨K, false, nv, cm, DS⟩ a9 c9)) wF := by
                obtain ⟨a9x, c9x, e9, hcF, hnF⟩ := ownsRow_read HOF.out
                cases e9
                have hh := HR.out a9 c9 wF BT.out (by rw [HWS.out, HG.out]; exact ⟨hcF, HOK.out, by show DS.length ≤ _; rw [HDL.out]; omega, fun e => by have := hnF e; exact ⟨by show DS.length = 0; rw [HDL.out]; exact this.1, this.2⟩, by show DS.length ≤ _; rw [HDL.out]; exact HCAP.out⟩) (fun b o e => by subst e; exact HPL.out b o rfl)
                rw [HWS.out, HG.out] at hh
                exact hh
              have hfm : fmV ⟨K, false, nv, cm, DS⟩ a9 c9 = .agg #[.int .i64 K, .bool false, .int .i64 nv, .int .i64 cm, .slice a9 i c9] := by unfold fmV; rw [HDL.out]
              rw [hfm] at fin
              have FIN := Lib.hid fin
              clear fin hfm
              rcases kk with ⟨k1, k2, k3⟩ | ⟨⟨k1, k2, k3⟩, k4, k5, k6, k7⟩
              all_goals
                go_wp2_with fail
                (try rw [EF])
                refine bodyPost_ret (v := .agg #[.int .i64 K, .bool false, .int .i64 nv, .int .i64 cm, .slice a9 i c9]) (by simp [results, Tryz.results68, go_sem, v0, v1, v2, v3, v4]) rfl ?_
                exact FIN.out
end Go.Proofs.YtciokmjhdbcmpaaGreatDoor
namespace Go.Proofs.YtciokmjhdbcmpaaGreatDoor
open Go.RowKit

theorem krTo_wdL : ∀ k, k < 9 → krTo (wdL k) 9 = k := by decide +kernel
theorem grL_wds {x : Fm} (h : plE x = 0) : grL (wdsL x) = x := by
  obtain ⟨k0, k9, h1, h2, h3, h4⟩ := plE_all h
  have hl := plE_few h
  have hk : krTo (wdL x.k.toNat) 9 = x.k := by rw [krTo_wdL _ (by omega)]; omega
  have key : ∀ d, grR x.k d (tlL x :: x.ds.map dtL) = ⟨x.k, d, x.t, x.m, x.ds⟩ := fun d => by
    show (⟨x.k, d, numL (cutW (tlL x)).1, (cutW (tlL x)).2, ((x.ds.map dtL).take 8).map gdW⟩ : Fm) = _
    unfold tlL
    rw [cutW_mk h3 (itoa_not 41 (by decide) h1), numL_itoa h1 h2, List.take_of_length_le (by rw [List.length_map]; omega), List.map_map]
    have e : x.ds.map (gdW ∘ dtL) = x.ds := by
      conv => rhs; rw [← List.map_id x.ds]
      exact List.map_congr_left fun d hd => gdW_dtL (h4 d hd).1 (h4 d hd).2
    rw [e]
  unfold wdsL
  cases hd : x.d with
  | true =>
    rw [if_pos rfl, List.singleton_append, grL_disc _ _ _ rfl, hk, key true, ← hd]
  | false =>
    have e0 : (if false = true then [discL] else ([] : List (List UInt8))) = [] := if_neg (by simp)
    rw [e0, List.nil_append, grL_plain (tlL_head h1), hk, key false, ← hd]
theorem grL_txL {x : Fm} (h : plE x = 0) : grL (splL (txL x)) = x := by rw [spl_txL h, grL_wds h]
theorem gsW_txL {x : Fm} (h : plE x = 0) : gsW (splL (txL x)) = x := by rw [spl_txL h, gsW_wds h]
theorem pa_long {l : List UInt8} (h : 4096 < l.length) : paX l = Fm.zero ∧ paE l = 17 := by
  unfold paX paE
  refine ⟨dif_neg ?_, if_pos h⟩
  rintro ⟨x, hx, rfl⟩
  have := txL_len hx
  omega
theorem pa_found {l : List UInt8} {g : Fm} (hg : plE g = 0) (h : txL g = l) : paX l = g ∧ paE l = 0 := by
  subst h
  exact pa_hit hg (by have := txL_len hg; omega)
theorem pa_miss {l : List UInt8} {g : Fm} (hg : ∀ y, plE y = 0 → txL y = l → g = y) (hn : plE g = 0 → txL g ≠ l) (hl : l.length ≤ 4096) : paX l = Fm.zero ∧ paE l = 4 := by
  have hx : ¬ ∃ x, plE x = 0 ∧ txL x = l := by
    rintro ⟨x, hx, e⟩
    have := hg x hx e
    subst this
    exact hn hx e
  unfold paX paE
  exact ⟨dif_neg hx, by rw [if_neg (by omega), if_neg hx]⟩
theorem FmOk.zero (w : World) : FmOk w Fm.zero none 0 := ⟨CellsAt.nil _ _, fun i hi => absurd hi (by simp [Fm.zero]), by simp [Fm.zero], fun _ => ⟨rfl, rfl⟩, by simp [Fm.zero]⟩
/-- Where a frame's slice lies apart from a block. -/
def Off (da : Option Addr) (A : Nat) : Prop := ∀ b o, da = some ⟨b, o, none⟩ → b ≠ A
theorem FmOk.heap {w w' : World} {x : Fm} {da : Option Addr} {dc : Nat} (h : FmOk w x da dc) {A : Nat} (hA : Off da A) (hk : ∀ j, j ≠ A → w'.heap[j]? = w.heap[j]?) : FmOk w' x da dc := by
  refine ⟨fun h0 => ?_, h.ok, h.len, h.nil, h.cap⟩
  obtain ⟨b, o, e, hb, hc⟩ := h.cells h0
  have hbA := hA b o e
  have hh := hk b hbA
  refine ⟨b, o, e, ?_, fun j hj => ?_⟩
  · rcases Nat.lt_or_ge b w'.heap.size with h1 | h1
    · exact h1
    · rw [Array.getElem?_eq_none h1, Array.getElem?_eq_getElem hb] at hh
      exact absurd hh (by simp)
  · exact (World.cell?_of_block (w := w) (w' := w') (a := ⟨b, o + j, none⟩) hh).trans (hc j hj)
theorem teS_eq {G : Fm} {s : ByteArray} (h : plE G = 0) : ((teS G).toList == s.toList) = (txL G == s.data.toList) := by
  unfold teS
  rw [if_pos h, Lib.toList_data, Lib.toList_data, data_bsB]
set_option maxRecDepth 100000 in
set_option maxHeartbeats 8000000 in
theorem rparse_any (s : ByteArray) (w : World) (R : Ending → World → Prop) (hs : s.size ≤ 1000000)
   (hR : ∀ da dc w', Below w.heap.size w w' → FmOk w' (paX s.data.toList) da dc → R (.returned (.tuple #[fmV (paX s.data.toList) da dc, .int .i64 (paE s.data.toList)])) w') :
    Calls Tryz.prog 26 #[.string s] w R := by
  have HR := Lib.hid hR
  clear hR
  obtain ⟨w1, E1, HB1, s1, X1⟩ := box_ex w #[.int .i64 0, .bool false, .int .i64 0, .int .i64 0, .slice none 0 0] 31
  obtain ⟨PX, hPX⟩ : ∃ p, paX s.data.toList = p := ⟨_, rfl⟩
  obtain ⟨PE, hPE⟩ : ∃ p, paE s.data.toList = p := ⟨_, rfl⟩
  have HPX0 := Lib.hid hPX
  have HPE0 := Lib.hid hPE
  clear hPX hPE
  by_cases hl : 4096 < s.size
  · have K : ((4096 : Int) < (s.size : Int)) = True := eq_true (by omega)
    have hp := pa_long (l := s.data.toList) (by rw [toList_len]; exact hl)
    have HPX : Hid (paX s.data.toList = Fm.zero) := hp.1
    have HPE : Hid (paE s.data.toList = 17) := hp.2
    clear hp hl
    go_enter Tryz.func26, Tryz.ntmps26
    obtain ⟨wF, EF, BF, KF, XF⟩ := set5 w1 w.heap.size _ _ _ _ _ (.int .i64 0) (.bool false) (.int .i64 0) (.int .i64 0) (.slice none 0 0) _ X1.out
    have z0 := cell_at X1.out (j := 0) (v := .int .i64 0) rfl
    have z1 := cell_at X1.out (j := 1) (v := .bool false) rfl
    have z2 := cell_at X1.out (j := 2) (v := .int .i64 0) rfl
    have z3 := cell_at X1.out (j := 3) (v := .int .i64 0) rfl
    have z4 := cell_at X1.out (j := 4) (v := .slice none 0 0) rfl
    have y0 := frozen_at X1.out 0
    have y1 := frozen_at X1.out 1
    have y2 := frozen_at X1.out 2
    have y3 := frozen_at X1.out 3
    have y4 := frozen_at X1.out 4
    have v0 := cell_at XF.out (j := 0) (v := .int .i64 0) rfl
    have v1 := cell_at XF.out (j := 1) (v := .bool false) rfl
    have v2 := cell_at XF.out (j := 2) (v := .int .i64 0) rfl
    have v3 := cell_at XF.out (j := 3) (v := .int .i64 0) rfl
    have v4 := cell_at XF.out (j := 4) (v := .slice none 0 0) rfl
    have BT : Hid (Below w.heap.size w wF) := HB1.out.trans BF.out
    go_wp2_with (rw [E1])
    (try rw [EF])
    refine bodyPost_ret (v := .tuple #[fmV Fm.zero none 0, .int .i64 17]) (by simp [results, Tryz.results26, go_sem, v0, v1, v2, v3, v4, fmV, Fm.zero]) rfl ?_
    have hh := HR.out none 0 wF BT.out (by rw [HPX.out]; exact FmOk.zero wF)
    rw [HPX.out, HPE.out] at hh
    exact hh
  · have K : ((4096 : Int) < (s.size : Int)) = False := eq_false (by omega)
    have hl2 : s.data.toList.length ≤ 4096 := by rw [toList_len]; omega
    go_enter Tryz.func26, Tryz.ntmps26
    go_wp2_with (rw [E1])
    refine rguess_fresh s _ _ (by omega) fun da dc w2 hb hok hoff => ?_
    have HG : Hid (∀ y, plE y = 0 → txL y = s.data.toList → grL (splL s.data.toList) = y) := fun y hy e => by rw [← e]; exact grL_txL hy
    obtain ⟨G, hG⟩ : ∃ G, grL (splL s.data.toList) = G := ⟨_, rfl⟩
    rw [hG] at hok HG ⊢
    have HFR : Hid (Off da w.heap.size) := fun b o e => Ne.symm (Nat.ne_of_lt (Nat.lt_trans s1 (hoff b o e)))
    have HFO := Lib.hid hok
    have B2 : Hid (Below w.heap.size w w2) := HB1.out.trans (hb.mono (Nat.le_of_lt s1))
    have XA := Lib.hid ((hb.block _ s1).trans X1.out)
    have HXV : Hid (fmV G da dc = .agg #[.int .i64 G.k, .bool G.d, .int .i64 G.t, .int .i64 G.m, .slice da G.ds.length dc]) := rfl
    rw [HXV.out]
    obtain ⟨w3, E3, HB3, s3, X3⟩ := box_ex w2 #[.int .i64 G.k, .bool G.d, .int .i64 G.t, .int .i64 G.m, .slice da G.ds.length dc] 31
    have B3 : Hid (Below w.heap.size w w3) := B2.out.trans (HB3.out.mono B2.out.size)
    have HF3 := Lib.hid (HFO.out.below HB3.out)
    have XA3 := Lib.hid ((HB3.out.block _ (lt_of_block XA.out)).trans XA.out)
    clear hb hok hoff hG E1 X1
    have p0 := cell_at X3.out (j := 0) (v := .int .i64 G.k) rfl
    have p1 := cell_at X3.out (j := 1) (v := .bool G.d) rfl
    have p2 := cell_at X3.out (j := 2) (v := .int .i64 G.t) rfl
    have p3 := cell_at X3.out (j := 3) (v := .int .i64 G.m) rfl
    have p4 := cell_at X3.out (j := 4) (v := .slice da G.ds.length dc) rfl
    go_wp2_with (first | (refine wp_storeNew _ 31 (.tmp 4) (.tmp 12) _ #[.int .i64 G.k, .bool G.d, .int .i64 G.t, .int .i64 G.m, .slice da G.ds.length dc] rfl rfl rfl rfl (by kernel_rfl) (by kernel_rfl) (by rfl) ?_; rw [E3]) | fail)
    rw [← HXV.out]
    refine rtext_any G da dc _ _ HF3.out fun w4 hb => ?_
    have B4 : Hid (Below w.heap.size w w4) := B3.out.trans (hb.mono B3.out.size)
    have X4 := Lib.hid ((hb.block _ s3).trans X3.out)
    have XA4 := Lib.hid ((hb.block _ (lt_of_block XA3.out)).trans XA3.out)
    have HF4 := Lib.hid (HF3.out.below hb)
    clear hb p0 p1 p2 p3 p4 E3
    by_cases e0 : plE G = 0
    · have hq0 := teS_eq (s := s) e0
      have htx : (txL G == s.data.toList) = true ∨ (txL G == s.data.toList) = false := by cases (txL G == s.data.toList) <;> simp
      have E0 := Lib.hid e0
      rw [e0]
      rcases htx with h | h
      · have hp := pa_found e0 (show txL G = s.data.toList by simpa using h)
        have HPX : Hid (paX s.data.toList = G) := hp.1
        have HPE : Hid (paE s.data.toList = 0) := hp.2
        rw [h] at hq0
        have hq1 : ((teS G).toList != s.toList) = false := by rw [bne, hq0]; rfl
        clear hp h e0
        obtain ⟨wF, EF, BF, KF, XF⟩ := set5 w4 w.heap.size _ _ _ _ _ (.int .i64 G.k) (.bool G.d) (.int .i64 G.t) (.int .i64 G.m) (.slice da G.ds.length dc) _ XA4.out
        have z0 := cell_at XA4.out (j := 0) (v := .int .i64 0) rfl
        have z1 := cell_at XA4.out (j := 1) (v := .bool false) rfl
        have z2 := cell_at XA4.out (j := 2) (v := .int .i64 0) rfl
        have z3 := cell_at XA4.out (j := 3) (v := .int .i64 0) rfl
        have z4 := cell_at XA4.out (j := 4) (v := .slice none 0 0) rfl
        have y0 := frozen_at XA4.out 0
        have y1 := frozen_at XA4.out 1
        have y2 := frozen_at XA4.out 2
        have y3 := frozen_at XA4.out 3
        have y4 := frozen_at XA4.out 4
        have v0 := cell_at XF.out (j := 0) (v := .int .i64 G.k) rfl
        have v1 := cell_at XF.out (j := 1) (v := .bool G.d) rfl
        have v2 := cell_at XF.out (j := 2) (v := .int .i64 G.t) rfl
        have v3 := cell_at XF.out (j := 3) (v := .int .i64 G.m) rfl
        have v4 := cell_at XF.out (j := 4) (v := .slice da G.ds.length dc) rfl
        have uu0 := cell_at X4.out (j := 0) (v := .int .i64 G.k) rfl
        have uu1 := cell_at X4.out (j := 1) (v := .bool G.d) rfl
        have uu2 := cell_at X4.out (j := 2) (v := .int .i64 G.t) rfl
        have uu3 := cell_at X4.out (j := 3) (v := .int .i64 G.m) rfl
        have uu4 := cell_at X4.out (j := 4) (v := .slice da G.ds.length dc) rfl
        have BT : Hid (Below w.heap.size w wF) := B4.out.trans BF.out
        have FF := Lib.hid (FmOk.heap HF4.out HFR.out KF.out)
        go_wp2_with fail
        (try rw [EF])
        refine bodyPost_ret (v := .tuple #[fmV G da dc, .int .i64 0]) (by simp [results, Tryz.results26, go_sem, v0, v1, v2, v3, v4, fmV]) rfl ?_
        have hh := HR.out da dc wF BT.out (by rw [HPX.out]; exact FF.out)
        rw [HPX.out, HPE.out] at hh
        exact hh
      · have hp := pa_miss HG.out (fun _ e => by rw [e] at h; simp at h) hl2
        have HPX : Hid (paX s.data.toList = Fm.zero) := hp.1
        have HPE : Hid (paE s.data.toList = 4) := hp.2
        rw [h] at hq0
        have hq1 : ((teS G).toList != s.toList) = true := by rw [bne, hq0]; rfl
        clear hp h e0
        obtain ⟨wF, EF, BF, KF, XF⟩ := set5 w4 w.heap.size _ _ _ _ _ (.int .i64 0) (.bool false) (.int .i64 0) (.int .i64 0) (.slice none 0 0) _ XA4.out
        have z0 := cell_at XA4.out (j := 0) (v := .int .i64 0) rfl
        have z1 := cell_at XA4.out (j := 1) (v := .bool false) rfl
        have z2 := cell_at XA4.out (j := 2) (v := .int .i64 0) rfl
        have z3 := cell_at XA4.out (j := 3) (v := .int .i64 0) rfl
        have z4 := cell_at XA4.out (j := 4) (v := .slice none 0 0) rfl
        have y0 := frozen_at XA4.out 0
        have y1 := frozen_at XA4.out 1
        have y2 := frozen_at XA4.out 2
        have y3 := frozen_at XA4.out 3
        have y4 := frozen_at XA4.out 4
        have v0 := cell_at XF.out (j := 0) (v := .int .i64 0) rfl
        have v1 := cell_at XF.out (j := 1) (v := .bool false) rfl
        have v2 := cell_at XF.out (j := 2) (v := .int .i64 0) rfl
        have v3 := cell_at XF.out (j := 3) (v := .int .i64 0) rfl
        have v4 := cell_at XF.out (j := 4) (v := .slice none 0 0) rfl
        have BT : Hid (Below w.heap.size w wF) := B4.out.trans BF.out
        go_wp2_with fail
        (try rw [EF])
        refine bodyPost_ret (v := .tuple #[fmV Fm.zero none 0, .int .i64 4]) (by simp [results, Tryz.results26, go_sem, v0, v1, v2, v3, v4, fmV, Fm.zero]) rfl ?_
        have hh := HR.out none 0 wF BT.out (by rw [HPX.out]; exact FmOk.zero wF)
        rw [HPX.out, HPE.out] at hh
        exact hh
    · have hp := pa_miss HG.out (fun e => absurd e e0) hl2
      have HPX : Hid (paX s.data.toList = Fm.zero) := hp.1
      have HPE : Hid (paE s.data.toList = 4) := hp.2
      obtain ⟨E, hE⟩ : ∃ E, plE G = E := ⟨_, rfl⟩
      have K2 : (E != 0) = true := by rw [← hE]; simpa using e0
      rw [hE]
      clear hp hE e0
      obtain ⟨wF, EF, BF, KF, XF⟩ := set5 w4 w.heap.size _ _ _ _ _ (.int .i64 0) (.bool false) (.int .i64 0) (.int .i64 0) (.slice none 0 0) _ XA4.out
      have z0 := cell_at XA4.out (j := 0) (v := .int .i64 0) rfl
      have z1 := cell_at XA4.out (j := 1) (v := .bool false) rfl
      have z2 := cell_at XA4.out (j := 2) (v := .int .i64 0) rfl
      have z3 := cell_at XA4.out (j := 3) (v := .int .i64 0) rfl
      have z4 := cell_at XA4.out (j := 4) (v := .slice none 0 0) rfl
      have y0 := frozen_at XA4.out 0
      have y1 := frozen_at XA4.out 1
      have y2 := frozen_at XA4.out 2
      have y3 := frozen_at XA4.out 3
      have y4 := frozen_at XA4.out 4
      have v0 := cell_at XF.out (j := 0) (v := .int .i64 0) rfl
      have v1 := cell_at XF.out (j := 1) (v := .bool false) rfl
      have v2 := cell_at XF.out (j := 2) (v := .int .i64 0) rfl
      have v3 := cell_at XF.out (j := 3) (v := .int .i64 0) rfl
      have v4 := cell_at XF.out (j := 4) (v := .slice none 0 0) rfl
      have BT : Hid (Below w.heap.size w wF) := B4.out.trans BF.out
      go_wp2_with fail
      (try rw [EF])
      refine bodyPost_ret (v := .tuple #[fmV Fm.zero none 0, .int .i64 4]) (by simp [results, Tryz.results26, go_sem, v0, v1, v2, v3, v4, fmV, Fm.zero]) rfl ?_
      have hh := HR.out none 0 wF BT.out (by rw [HPX.out]; exact FmOk.zero wF)
      rw [HPX.out, HPE.out] at hh
      exact hh
end Go.Proofs.YtciokmjhdbcmpaaGreatDoor
namespace Go.Proofs.YtciokmjhdbcmpaaGreatDoor
open Go.RowKit

def kdR : Unit ⊕ Int → Int
  | .inl _ => -1
  | .inr r => r
theorem rwA_get : ∀ k, k < 9 → rwA[k * 6]? = some (.string (rwAt k).wd) ∧ rwA[k * 6 + 1]? = some (.string (rwAt k).on) ∧ rwA[k * 6 + 2]? = some (.string (rwAt k).di) ∧ rwA[k * 6 + 3]? = some (.int .i64 (rwAt k).le) ∧ rwA[k * 6 + 4]? = some (.int .i64 (rwAt k).mo) ∧ rwA[k * 6 + 5]? = some (.bool (rwAt k).ma) := fun k hk => by
  have h : k = 0 ∨ k = 1 ∨ k = 2 ∨ k = 3 ∨ k = 4 ∨ k = 5 ∨ k = 6 ∨ k = 7 ∨ k = 8 := by omega
  rcases h with rfl | rfl | rfl | rfl | rfl | rfl | rfl | rfl | rfl <;> exact ⟨rfl, rfl, rfl, rfl, rfl, rfl⟩
set_option maxRecDepth 100000 in
set_option maxHeartbeats 4000000 in
theorem parse1_any (k : Nat) (h : List UInt8) (P g og n c : Nat) (w : World) (R : Ending → World → Prop) (hP : w.cell? ⟨P, 0, none⟩ = some (.slice (some ⟨g, og, none⟩) (n + 1) c)) (hg : w.cell? ⟨g, og, none⟩ = some (.string (bsB h)))
   (hR : ∀ w', Below w.heap.size w w' → R (.returned (.bool (wdL k == h))) w') :
    Calls Tryz.prog 63 #[.agg #[.string (rwAt k).wd, .string (rwAt k).on, .string (rwAt k).di, .int .i64 (rwAt k).le, .int .i64 (rwAt k).mo, .bool (rwAt k).ma], .pointer (some ⟨P, 0, none⟩)] w R := by
  have HR := Lib.hid hR
  have hwd : (rwAt k).wd = bsB (wdL k) := (bsB_data _).symm
  rw [hwd]
  obtain ⟨w1, E1, HB1, s1, X1⟩ := box_ex w #[.string (bsB (wdL k)), .string (rwAt k).on, .string (rwAt k).di, .int .i64 (rwAt k).le, .int .i64 (rwAt k).mo, .bool (rwAt k).ma] 80
  have c0 := cell_at X1.out (j := 0) (v := .string (bsB (wdL k))) rfl
  have p0 := cellB HB1.out hP (lt_of_cell hP)
  have q0 := cellB HB1.out hg (lt_of_cell hg)
  have hq : ((bsB (wdL k)).toList == (bsB h).toList) = (wdL k == h) := by rw [Lib.toList_data, Lib.toList_data, data_bsB, data_bsB]
  obtain ⟨q, hqq⟩ : ∃ q, (wdL k == h) = q := ⟨_, rfl⟩
  rw [hqq] at hq HR
  clear hR hP hg hwd hqq X1
  go_enter Tryz.func63, Tryz.ntmps63
  go_wp2_with (rw [E1])
  go_quiet (fail)
  go_wp2_with fail
  exact HR.out _ (HB1.out.trans ⟨rfl, rfl, rfl, Nat.le_refl _, fun _ _ => rfl⟩)
set_option maxRecDepth 100000 in
set_option maxHeartbeats 4000000 in
theorem indexRows_any (h : List UInt8) (T P g og n c : Nat) (tT : TypeId) (w : World) (R : Ending → World → Prop) (hT : w.heap[T]? = some (.cells rwA tT (0, 0))) (hP : w.cell? ⟨P, 0, none⟩ = some (.slice (some ⟨g, og, none⟩) (n + 1) c)) (hg : w.cell? ⟨g, og, none⟩ = some (.string (bsB h)))
   (hR : ∀ w', Below w.heap.size w w' → R (.returned (.int .i64 (kdW h))) w') :
    Calls Tryz.prog 62 #[.slice (some ⟨T, 0, none⟩) 9 9, .func (.func 63) #[] #[.pointer (some ⟨P, 0, none⟩)]] w R := by
  have HR := Lib.hid hR
  have HT := Lib.hid hT
  have HP := Lib.hid hP
  have HG := Lib.hid hg
  have eg : ∀ args w, (callFunc 63 args).run Tryz.prog w = .ok (.enter 63 args) w := enters_of Tryz.func63 (by kernel_rfl) rfl
  obtain ⟨X, hX⟩ : ∃ X, loopE (gsF h) 9 0 () = X := ⟨_, rfl⟩
  have hK : Hid (kdW h = kdR X) := by unfold Hid; rw [← hX]; rfl
  have hX' := Lib.hid hX
  clear hR hT hP hg hX
  go_enter Tryz.func62, Tryz.ntmps62
  go_wp2_with fail
  go_loopw [8] (fun j wr => ∃ i : Nat, i ≤ 9 ∧ j = .int .i64 i ∧ Hid (Below w.heap.size w wr) ∧ Hid (loopE (gsF h) (9 - i) i () = X)) (fun j _ => 9 - (intOf j).toNat)
  case atStart => exact ⟨0, Nat.zero_le _, rfl, Below.refl _ _, hX'⟩
  case round =>
    obtain ⟨i, hi, rfl, HB, hL⟩ := hrel
    by_cases hlt : i < 9
    · obtain ⟨a0, a1, a2, a3, a4, a5⟩ := rwA_get i hlt
      have HTr := Lib.hid ((HB.out.block _ (lt_of_block HT.out)).trans HT.out)
      have c0 := cell_at HTr.out a0
      have c1 := cell_at HTr.out a1
      have c2 := cell_at HTr.out a2
      have c3 := cell_at HTr.out a3
      have c4 := cell_at HTr.out a4
      have c5 := cell_at HTr.out a5
      have hF : Hid (gsF h i () = if (wdL i == h) = true then .inr (i : Int) else .inl ()) := rfl
      have hi9 : (i : Int) < 9 := by omega
      obtain ⟨q, hq⟩ : ∃ q, (wdL i == h) = q := ⟨_, rfl⟩
      have HQ := Lib.hid hq
      rw [hq] at hF
      clear a0 a1 a2 a3 a4 a5 hq
      go_wp2_with fail
      refine parse1_any i h P g og n c _ _ (cellB HB.out HP.out (lt_of_cell HP.out)) (cellB HB.out HG.out (lt_of_cell HG.out)) fun w2 hb => ?_
      rw [HQ.out]
      have B2 : Hid (Below w.heap.size w w2) := HB.out.trans (hb.mono HB.out.size)
      clear hb c0 c1 c2 c3 c4 c5
      cases q with
      | true =>
        have e : Hid (kdW h = i) := by unfold Hid; rw [hK.out, loopE_hit hL hlt (by rw [hF.out, if_pos rfl])]; rfl
        go_wp2_with fail
        exact ret_i (HR.out _ B2.out) rfl e.out
      | false =>
        have hstep := loopE_step hL hlt (by rw [hF.out, if_neg (by simp)])
        go_wp2_with fail
        exact ⟨⟨i + 1, by omega, by go_num, B2, hstep⟩, by simp [intOf]; omega⟩
    · obtain rfl : i = 9 := by omega
      have e : Hid (kdW h = -1) := by unfold Hid; rw [hK.out, loopE_done hL hlt]; rfl
      go_wp2_with fail
      exact ret_i (HR.out _ HB.out) rfl e.out
/-- strconv.Atoi, its number alone. -/
theorem atoi_any (s : ByteArray) (w : World) (R : Ending → World → Prop) (hs : s.size ≤ 1000000) (hE : Env w) (hR : ∀ w' e, Below w.heap.size w w' → R (.returned (.tuple #[.int .i64 (atV s.data.toList), e])) w') :
    Calls Tryz.prog 65 #[.string s] w R := by
  obtain ⟨v, hv⟩ : ∃ v, atV s.data.toList = v := ⟨_, rfl⟩
  rw [hv] at hR
  cases h : Lib.atoiAll s.data.toList with
  | ok n =>
    have e : n = v := by rw [← hv]; unfold atV; rw [h]
    subst e
    refine (Tryz.strconv_Atoi_ok s (by omega) n h w).mono fun e w' hh => ?_
    obtain ⟨rfl, rfl | ⟨t, rfl⟩⟩ := hh
    · exact hR _ _ (Below.refl _ _)
    · exact hR _ _ (Lib.bytesWorld_below w _ t)
  | «syntax» =>
    have e : (0 : Int) = v := by rw [← hv]; unfold atV; rw [h]
    subst e
    obtain ⟨tp, p, hvar⟩ := hE.syn
    refine (Tryz.strconv_Atoi_syntax_var s (by omega) h tp p w hvar).mono fun e w' hh => ?_
    obtain ⟨N, rfl, _, _, hb⟩ := hh
    exact hR _ _ hb
  | range =>
    have e : Lib.atoiSat s.data.toList = v := by rw [← hv]; unfold atV; rw [h]
    obtain ⟨tp, p, hvar⟩ := hE.rng
    refine (Tryz.strconv_Atoi_range_var s (by omega) h tp p w hvar).mono fun e w' hh => ?_
    obtain ⟨N, rfl, _, _, hb⟩ := hh
    have h2 := hR w' (.iface 155 (.pointer (some ⟨N, 0, none⟩))) hb
    rw [← e] at h2
    exact h2
end Go.Proofs.YtciokmjhdbcmpaaGreatDoor
namespace Go.Proofs.YtciokmjhdbcmpaaGreatDoor
open Go.RowKit

theorem spB_data (s : ByteArray) : (Lib.splitB ⟨#[32]⟩ 0 (Lib.countB s ⟨#[32]⟩) s).map Value.string = rowS (splL s.data.toList) := by
  have h1 : Lib.countB s ⟨#[32]⟩ = s.data.toList.count 32 := Lib.count_one 32 s.data.toList
  have h2 := Lib.splitB_data ⟨#[32]⟩ 0 (Lib.countB s ⟨#[32]⟩) s
  rw [h1] at h2 ⊢
  have h3 := splitK_splL s.data.toList.length s.data.toList (Nat.le_refl _)
  have h4 : (⟨#[32]⟩ : ByteArray).data.toList = [32] := rfl
  rw [h4, h3] at h2
  have h5 : Lib.splitB ⟨#[32]⟩ 0 (s.data.toList.count 32) s = (splL s.data.toList).map bsB := by
    rw [← h2, List.map_map]
    conv => lhs; rw [← List.map_id (Lib.splitB ⟨#[32]⟩ 0 (s.data.toList.count 32) s)]
    exact List.map_congr_left fun a _ => (bsB_data a).symm
  unfold rowS sC
  rw [h5]
theorem fsplit_any (s : ByteArray) (w : World) (R : Ending → World → Prop) (hs : s.size ≤ 1000000) (hE : Env w)
   (hR : ∀ w' g, Below w.heap.size w w' → w.heap.size ≤ g → g < w'.heap.size → CellsAt w' (some ⟨g, 0, none⟩) (rowS (splL s.data.toList)) → R (.returned (.slice (some ⟨g, 0, none⟩) (splL s.data.toList).length (splL s.data.toList).length)) w') :
    Calls Tryz.prog 61 #[.string s, .string ⟨#[32]⟩] w R := by
  obtain ⟨m, hm⟩ := hE.m
  refine (Tryz.strings_Split s ⟨#[32]⟩ m w (by omega) hm (by decide)).mono fun e w' h => ?_
  obtain ⟨rfl, rfl⟩ := h
  have hd := spB_data s
  have hl : Lib.countB s ⟨#[32]⟩ + 1 = (splL s.data.toList).length := by
    have h := congrArg List.length hd
    rw [rowS_length, List.length_map, Lib.splitB_all ⟨#[32]⟩ (by decide) 0 _ s rfl] at h
    exact h
  rw [hl, hd]
  exact hR _ _ ((Below.refl _ w).alloc (Nat.le_refl _) _) (Nat.le_refl _) (by simp) (cellsAt_heap (World.alloc_heap_new w _))
set_option maxRecDepth 100000 in
set_option maxHeartbeats 4000000 in
theorem parse2_any (u : ByteArray) (m : Int) (X : Nat) (k : Int) (d : Bool) (t0 m0 : Int) (v : Value) (w : World) (R : Ending → World → Prop) (hu : u.size ≤ 1000000) (hE : Env w) (hX : w.heap[X]? = some (.cells (frA k d t0 m0 v) 31 (0, 0)))
   (hR : ∀ w', Below X w w' → w'.heap[X]? = some (.cells (frA k d (atV u.data.toList) m v) 31 (0, 0)) → R (.returned (.tuple #[])) w') :
    Calls Tryz.prog 64 #[.string u, .int .i64 m, .pointer (some ⟨X, 0, none⟩)] w R := by
  have HR := Lib.hid hR
  have HX := Lib.hid hX
  have HE := Lib.hid hE
  have hlt := lt_of_block hX
  obtain ⟨n, hn⟩ : ∃ n, atV u.data.toList = n := ⟨_, rfl⟩
  have HN := Lib.hid hn
  rw [hn] at HR
  clear hR hX hE hn
  go_enter Tryz.func64, Tryz.ntmps64
  go_wp2_with fail
  refine atoi_any u _ _ hu HE.out fun w2 e hb => ?_
  rw [HN.out]
  have B2 : Hid (Below X w w2) := hb.mono (Nat.le_of_lt hlt)
  have X2 := Lib.hid ((hb.block _ hlt).trans HX.out)
  have c2 := cell_at X2.out (j := 2) (v := .int .i64 t0) rfl
  have f2 := frozen_at X2.out 2
  have c3 := cell_at X2.out (j := 3) (v := .int .i64 m0) rfl
  have f3 := frozen_at X2.out 3
  have X3 : Hid (((w2.setCell ⟨X, 2, none⟩ (.int .i64 n)).setCell ⟨X, 3, none⟩ (.int .i64 m)).heap[X]? = some (.cells (frA k d n m v) 31 (0, 0))) := heap_setCell_same _ X 3 _ _ _ (heap_setCell_same _ X 2 _ _ _ X2.out)
  clear hb
  go_wp2_with fail
  exact bodyPost_end (v := .tuple #[]) (by simp [results, Tryz.results64, go_sem]) rfl (HR.out _ ((B2.out.setCell (Nat.le_refl X) _).setCell (Nat.le_refl X) _) X3.out)
set_option maxRecDepth 100000 in
set_option maxHeartbeats 4000000 in
theorem parse3_any (u : ByteArray) (m : Int) (X : Nat) (k : Int) (d : Bool) (t0 m0 : Int) (dv : Value) (n : Nat) (ds : List Dt) (w : World) (R : Ending → World → Prop) (hX : w.heap[X]? = some (.cells (frA k d t0 m0 dv) 31 (0, 0)))
   (hO : w.ownsRow (X + 1) 76 2 dv n (dtC ds)) (hn : n ≤ 1000000)
   (hR : ∀ w' dv', Below X w w' → w'.heap[X]? = some (.cells (frA k d t0 m0 dv') 31 (0, 0)) → w'.ownsRow (X + 1) 76 2 dv' (n + 1) (dtC (ds ++ [⟨u, m⟩])) → R (.returned (.tuple #[])) w') :
    Calls Tryz.prog 67 #[.string u, .int .i64 m, .pointer (some ⟨X, 0, none⟩)] w R := by
  have HR := Lib.hid hR
  have HX := Lib.hid hX
  have HO := Lib.hid hO
  have hlt : X + 1 ≤ w.heap.size := lt_of_block hX
  obtain ⟨w9, E9, HB9, s9, X9⟩ := box_ex w #[.string u, .int .i64 m] 76
  have O9 := Lib.hid (ownsRow_below HO.out HB9.out)
  have C9 : Hid (CellsAt w9 (some ⟨w.heap.size, 0, none⟩) [.string u, .int .i64 m]) := cellsAt_heap X9.out
  have X10 := Lib.hid ((HB9.out.block _ (lt_of_block HX.out)).trans HX.out)
  have B10 : Hid (Below X w w9) := HB9.out.mono (Nat.le_of_succ_le hlt)
  have q4 := cell_at HX.out (j := 4) (v := dv) rfl
  have q4b := cell_at X10.out (j := 4) (v := dv) rfl
  clear hR hX hO
  go_enter Tryz.func67, Tryz.ntmps67
  go_wp2_with (first | rw [E9] | (at_builtin; refine wp_appO rfl (.tmp 6) (.tmp 10) 29 rfl (X + 1) 76 Tryz.underlying29 infoDt19 rfl (by decide) dv n (dtC ds) rfl O9.out ⟨w.heap.size, 0, none⟩ 1 1 [.string u, .int .i64 m] rfl rfl C9.out (one2 _ _) (by omega) (by omega) (by omega) ?_; intro v11 w11 hown hb; obtain ⟨a11, c11, rfl, -, -⟩ := ownsRow_read hown; have O11 := Lib.hid hown; have X11 := Lib.hid ((hb.block X (Nat.lt_succ_self X)).trans X10.out); have B11 : Hid (Below X w w11) := B10.out.trans (hb.mono (Nat.le_succ X)); have q4c := cell_at X11.out (j := 4) (v := dv) rfl; have f4c := frozen_at X11.out 4; clear hown hb))
  have X12 : Hid ((w11.setCell ⟨X, 4, none⟩ (.slice a11 (n + 1) c11)).heap[X]? = some (.cells (frA k d t0 m0 (.slice a11 (n + 1) c11)) 31 (0, 0))) := heap_setCell_same _ X 4 _ _ _ X11.out
  have O12 := Lib.hid (ownsRow_setCell_below O11.out (a := ⟨X, 4, none⟩) (Nat.lt_succ_self X) (.slice a11 (n + 1) c11))
  exact bodyPost_end (v := .tuple #[]) (by simp [results, Tryz.results67, go_sem]) rfl (HR.out _ _ (B11.out.setCell (Nat.le_refl X) _) X12.out (by rw [dtC_append]; exact O12.out))
end Go.Proofs.YtciokmjhdbcmpaaGreatDoor
