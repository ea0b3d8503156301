/- Spread of reference 57. (Printed by gen_rspread.py.) Equal lists of ints; awake of layer 57. (Printed by gen_awake57.py.) The laws Measures, Judges, Counts and Runs of layer 57. (Printed by gen_law57.py.) -/
import Derived.Test.YtcoombhcdcniiaaGreatDoorYl
namespace Go.Proofs.YtcoombhcdcniiaaGreatDoor
open Go.RowKit

theorem zrsortedN_any (ao : Option Addr) (l : List Int) (n c : Nat) (hn : l.length = n) (w : World) (R : Ending → World → Prop) (hl : n ≤ 100000) (h0 : 0 < n) (hc : CellsAt w ao (I64s l))
   (hR : ∀ a c' w', Below w.heap.size w w' → CellsAt w' a (I64s (sortL l)) → R (.returned (.slice a n c')) w') :
    Calls Tryz.prog 46 #[.slice ao n c] w R := by
  subst hn
  exact zrsorted_any ao l c w R hl h0 hc hR
theorem cells_of {w : World} {b o : Nat} {zs : List Int} (hb : b < w.heap.size) (h : ∀ j, j < zs.length → w.cell? ⟨b, o + j, none⟩ = some (.int .i64 (at0 zs j))) : CellsAt w (some ⟨b, o, none⟩) (I64s zs) := by
  intro _
  refine ⟨b, o, rfl, hb, fun j hj => ?_⟩
  have hj' : j < zs.length := by simpa [I64s_length] using hj
  rw [h j hj', I64s_getD zs j hj']
set_option maxRecDepth 100000 in
set_option maxHeartbeats 8000000 in
theorem zrspread_any (ao : Option Addr) (l : List Int) (c : Nat) (g : Int) (w : World) (R : Ending → World → Prop) (hl : l.length ≤ 1000000000) (hcap : l.length ≤ c) (hc : CellsAt w ao (I64s l))
   (hR : ∀ a n c' r w', Below w.heap.size w w' → (sprE l g = 0 → n = l.length / g.toNat ∧ CellsAt w' a (I64s (sprL g.toNat l)) ∧ TxR r (meanS (sprL g.toNat l))) → (sprE l g ≠ 0 → n = 0 ∧ r = ⟨#[]⟩) → R (.returned (.tuple #[.slice a n c', .string r, .int .i64 (sprE l g)])) w') :
    Calls Tryz.prog 30 #[.slice ao l.length c, .int .i64 g] w R := by
  have HR := Lib.hid hR
  have HC := Lib.hid hc
  have HL := Lib.hid hl
  clear hR hc hl
  go_enter Tryz.func30, Tryz.ntmps30
  go_wp2_with fail
  refine zrcheck_any ao l c _ _ HL.out HC.out ?_
  obtain ⟨e, he⟩ : ∃ e, ckSr l = e := ⟨_, rfl⟩
  rw [he]
  by_cases h0 : e = 0
  · subst h0
    have HS := Lib.hid (Srs.of he)
    have HV : Hid (sprE l g = if 2 ≤ g ∧ g ≤ 256 then (if (l.length : Int) < g then 14 else 0) else 2) := by unfold Hid sprE; rw [if_pos he]
    clear he
    by_cases a1 : g < 2
    · have K1 : (g < 2) = True := eq_true a1
      have e2 : Hid (sprE l g = 2) := by unfold Hid; rw [HV.out, if_neg (by omega)]
      rw [e2.out] at HR
      clear a1
      go_wp2_with fail
      go_ret3
      exact HR.out none 0 0 ⟨#[]⟩ _ (Below.refl _ _) (fun h => absurd h (by decide)) (fun _ => ⟨rfl, rfl⟩)
    · have K1 : (g < 2) = False := eq_false a1
      by_cases a2 : 256 < g
      · have K2 : (256 < g) = True := eq_true a2
        have e2 : Hid (sprE l g = 2) := by unfold Hid; rw [HV.out, if_neg (by omega)]
        rw [e2.out] at HR
        clear a1 a2
        go_wp2_with fail
        go_ret3
        exact HR.out none 0 0 ⟨#[]⟩ _ (Below.refl _ _) (fun h => absurd h (by decide)) (fun _ => ⟨rfl, rfl⟩)
      · have K2 : (256 < g) = False := eq_false a2
        by_cases a3 : (l.length : Int) < g
        · have K3 : ((l.length : Int) < g) = True := eq_true a3
          have e2 : Hid (sprE l g = 14) := by unfold Hid; rw [HV.out, if_pos ⟨by omega, by omega⟩, if_pos a3]
          rw [e2.out] at HR
          clear a1 a2 a3
          go_wp2_with fail
          go_ret3
          exact HR.out none 0 0 ⟨#[]⟩ _ (Below.refl _ _) (fun h => absurd h (by decide)) (fun _ => ⟨rfl, rfl⟩)
        · have K3 : ((l.length : Int) < g) = False := eq_false a3
          obtain ⟨G, rfl⟩ : ∃ G : Nat, g = (G : Int) := ⟨g.toNat, by omega⟩
          have e2 : Hid (sprE l (G : Int) = 0) := by unfold Hid; rw [HV.out, if_pos ⟨by omega, by omega⟩, if_neg a3]
          rw [e2.out] at HR
          simp only [Int.toNat_natCast] at HR
          have hG1 : 2 ≤ G := by omega
          have hG2 : G ≤ 256 := by omega
          have hGl : G ≤ l.length := by omega
          have hfew := HS.out.few
          obtain ⟨m, hm⟩ : ∃ m, l.length / G = m := ⟨_, rfl⟩
          have HM := Lib.hid hm
          have HSm : Hid (Sms (sprL G l)) := sms_spread HS.out hG1 hGl
          have hlen : Hid ((sprL G l).length = m) := by unfold Hid; rw [sprL_length, HM.out]
          have hover : Hid (l.length < m * G + G) := by
            unfold Hid; rw [← hm]
            have h1 := Nat.div_add_mod l.length G
            have h2 := Nat.mod_lt l.length (show 0 < G by omega)
            rw [Nat.mul_comm] at h1; omega
          obtain ⟨bd, od, rfl, hbd, hdc⟩ := HC.out.ints (by omega)
          have HDC := Lib.hid hdc
          have HBD := Lib.hid hbd
          clear a1 a2 a3 hm hdc hbd
          go_wp2_with fail
          go_loopw [9, 8] (fun j s wr => ∃ k : Nat, k ≤ m ∧ j = .int .i64 ((k * G : Nat) : Int) ∧ Hid (Below w.heap.size w wr) ∧ Hid (OwnL wr w.heap.size 3 1 s k (I64s ((sprL G l).take k)))) (fun j _ _ => l.length + 1 - (intOf j).toNat)
          case atStart =>
            refine ⟨0, Nat.zero_le _, by simp, Below.refl _ _, ?_⟩
            exact OwnL.nil _ _ _ _
          case round =>
            obtain ⟨k, hk, rfl, HW, HO⟩ := hrel
            have hfit : k < m → k * G + G ≤ l.length := fun h => gp_fit (by rw [HM.out]; exact h)
            have hend : k = m → l.length < k * G + G := fun h => by rw [h]; exact hover.out
            have hnx : Hid (((k + 1) * G : Nat) = k * G + G) := by unfold Hid; rw [Nat.add_mul]; omega
            have hcells : ∀ j, j < l.length → wr.cell? ⟨bd, od + j, none⟩ = some (.int .i64 (at0 l j)) := fun j hj => (HW.out.cell (p := ⟨bd, od + j, none⟩) HBD.out).trans (HDC.out j hj)
            have hbdr : bd < wr.heap.size := by have := HW.out.size; have := HBD.out; omega
            by_cases hlt : k < m
            · have hkl : k < l.length / G := by rw [HM.out]; exact hlt
              have hpf := hfit hlt
              have hgc := Lib.hid (cells_of hbdr (gp_cells hcells hkl))
              have hgl := Lib.hid (gpL_length hkl)
              have htk : Hid (I64s ((sprL G l).take (k + 1)) = I64s ((sprL G l).take k) ++ [.int .i64 (wdI (gpL l G k))]) := by unfold Hid; rw [sprL_take hkl, I64s_append]; rfl
              have hwb := wd_bound (l := gpL l G k) (by rw [hgl.out]; omega) (fun y hy => ⟨HS.out.lo y (gpL_mem hy), HS.out.hi y (gpL_mem hy)⟩)
              obtain ⟨G1, hG1'⟩ : ∃ G1, G - 1 = G1 := ⟨_, rfl⟩
              obtain ⟨hs1, hs2⟩ := sorted_ends (sortL_perm (gpL l G k)) (sortL_up (gpL l G k)) (g := G1) (by rw [hgl.out]; omega)
              obtain ⟨mx, hmx⟩ : ∃ y, Lib.maxOf (gpL l G k) = y := ⟨_, rfl⟩
              obtain ⟨mn, hmn⟩ : ∃ y, Lib.minOf (gpL l G k) = y := ⟨_, rfl⟩
              obtain ⟨y, hy⟩ : ∃ y, wdI (gpL l G k) = y := ⟨_, rfl⟩
              have hwd : mx - mn = y := by rw [← hy, ← hmx, ← hmn]; rfl
              rw [hmx] at hs1
              rw [hmn] at hs2
              rw [hy] at hwb htk
              have KY : IntKind.i64.wrap (mx - mn) = y := by rw [hwd, IntKind.wrap_i64] <;> omega
              obtain ⟨L, hL⟩ : ∃ L, I64s ((sprL G l).take k) = L := ⟨_, rfl⟩
              rw [hL] at htk HO
              have HS1 := Lib.hid hs1
              have HS2 := Lib.hid hs2
              obtain ⟨p, hp⟩ : ∃ p, k * G = p := ⟨_, rfl⟩
              rw [hp] at hpf hnx hgc ⊢
              have K5 : IntKind.i64.wrap ((p : Int) + (G : Int)) = ((p + G : Nat) : Int) := by rw [IntKind.wrap_i64] <;> omega
              have K6 : (((p + G : Nat) : Int) ≤ (l.length : Int)) = True := eq_true (by omega)
              have K6b : ((p : Int) + (G : Int) ≤ (l.length : Int)) = True := eq_true (by omega)
              have K6c : (p + G ≤ l.length) = True := eq_true (by omega)
              have K7 : (0 ≤ (p : Int)) = True := eq_true (by omega)
              have K8 : ((p : Int) ≤ (p : Int) + (G : Int)) = True := eq_true (by omega)
              have K9 : ((p : Int) + (G : Int) ≤ (c : Int)) = True := eq_true (by omega)
              have K9b : (p + G ≤ c) = True := eq_true (by omega)
              have K9c : (p ≤ p + G) = True := eq_true (by omega)
              have K9d : (0 ≤ (p : Int) + (G : Int)) = True := eq_true (by omega)
              have K10 : (c = p) = False := eq_false (by omega)
              have K11 : p + G - p = G := by omega
              have K12 : IntKind.i64.wrap ((G : Int) - 1) = (G1 : Int) := by rw [IntKind.wrap_i64] <;> omega
              have K13 : ((G1 : Int) < (G : Int)) = True := eq_true (by omega)
              have K14 : (G1 < G) = True := eq_true (by omega)
              have K15 : (0 < G) = True := eq_true (by omega)
              have hG1b : Hid (G1 < G) := by unfold Hid; omega
              have Hk6 : Hid (k ≤ 4096) := by have := Nat.div_le_self l.length G; rw [HM.out] at this; unfold Hid; omega
              clear hfit hend hcells hbdr hkl hs1 hs2 hmx hmn hy hwd hwb hL hp hG1'
              go_wp2_with fail
              refine zrsortedN_any _ (gpL l G k) G _ hgl.out _ _ (by omega) (by omega) hgc.out fun sa sc w3 hb hsc => ?_
              obtain ⟨sb, so, rfl, hsb, hsd⟩ := hsc.ints (by rw [sortL_length, hgl.out]; omega)
              have t1 := hsd G1 (by rw [sortL_length, hgl.out]; exact hG1b.out)
              have t2 := hsd 0 (by rw [sortL_length, hgl.out]; omega)
              rw [HS1.out] at t1
              rw [HS2.out, Nat.add_zero] at t2
              have B3 := Lib.hid (bstep HW.out hb)
              have O3 := Lib.hid (HO.out.below hb)
              obtain ⟨W6, E6⟩ : ∃ W, (w3.alloc (.cells #[.int .i64 y] 3)).drew = W := ⟨_, rfl⟩
              have hab : Below w3.heap.size w3 W6 := by rw [← E6]; exact ((Below.refl _ _).alloc (Nat.le_refl _) _).drew
              have O6 : Hid (W6.ownsRow w.heap.size 3 1 u8 k L) := ownsRow_below O3.out.1 hab
              have N6 : Hid (W6.cell? ⟨w3.heap.size, 0, none⟩ = some (.int .i64 y)) := by
                rw [← E6]
                show (w3.alloc (.cells #[.int .i64 y] 3)).cell? _ = _
                simp
              have S6 : Hid (W6.heap.size = w3.heap.size + 1) := by rw [← E6]; show (w3.alloc (.cells #[.int .i64 y] 3)).heap.size = _; simp
              have BW6 : Hid (Below w.heap.size w W6) := bstep B3.out hab
              have HE6 := Lib.hid E6
              have S3 := B3.out.size
              clear hb hsc hsb hsd E6 hab
              go_wp2_with fail
              refine regionL [0, 1, 2, 3, 4, 6, 7] (fun _ => True) (by kernel_rfl) trivial (fun Qn hPQ hQn hS0 => ?_)
              iterate 7 (refine takeL (v := ?_) rfl rfl (by kernel_rfl) (by kernel_rfl) (by kernel_rfl) hPQ hS0 (by kernel_rfl) ?_ ?_; rotate_left; (focus (intro w hSw; (try dsimp only at hSw); go_simp; (try with_reducible rfl))); (try simp only [Act.put, List.setIfInBounds_toArray, List.set_cons_zero, List.set_cons_succ]))
              refine ofL (wpAnyH_ready (rs := [5, 8]) (by kernel_rfl) (by simp) ?_)
              refine AllReadyH.cons (o := _) rfl (fun K hK => ?_) (AllReadyH.cons (o := _) rfl (fun K hK => ?_) AllReadyH.nil)
              · go_simp
                refine hK.out _ _ trivial (fun hS1 => toL [] ?_)
                clear hK K hS0
                (try simp only [Act.put, List.setIfInBounds_toArray, List.set_cons_zero, List.set_cons_succ])
                refine ofL (wpAnyH_ready (rs := [8]) (by kernel_rfl) (by simp) ?_)
                refine AllReadyH.cons (o := _) rfl (fun K hK => ?_) AllReadyH.nil
                go_simp
                refine hK.out _ _ trivial (fun hS2 => toL [9] ?_)
                clear hK K hS1
                (try simp only [Act.put, List.setIfInBounds_toArray, List.set_cons_zero, List.set_cons_succ])
                iterate 1 (refine takeL (v := ?_) rfl rfl (by kernel_rfl) (by kernel_rfl) (by kernel_rfl) hPQ hS2 (by kernel_rfl) ?_ ?_; rotate_left; (focus (intro w hSw; (try dsimp only at hSw); go_simp; (try with_reducible rfl))); (try simp only [Act.put, List.setIfInBounds_toArray, List.set_cons_zero, List.set_cons_succ]))
                refine ofL (wpAnyH_ready (rs := [10]) (by kernel_rfl) (by simp) ?_)
                refine AllReadyH.cons (o := _) rfl (fun K hK => ?_) AllReadyH.nil
                go_simp
                (try rw [HE6.out])
                refine hK.out _ _ trivial (fun hS3 => toL [] ?_)
                clear hK K hS2
                (try simp only [Act.put, List.setIfInBounds_toArray, List.set_cons_zero, List.set_cons_succ])
                refine ofL (wpAnyH_ready (rs := [11]) (by kernel_rfl) (by simp) ?_)
                refine AllReadyH.cons (o := _) rfl (fun K hK => ?_) AllReadyH.nil
                refine step_app1 rfl (.tmp 42) (.tmp 52) rfl w.heap.size u8 k L rfl O6.out w3.heap.size y rfl N6.out (by have := Hk6.out; omega) (by have := S6.out; omega) ?_
                intro g5 cap5 w5 hown hgrow
                have O5 : Hid (OwnL w5 w.heap.size 3 1 (.slice (some ⟨g5, 0, none⟩) (k + 1) cap5) (k + 1) (I64s ((sprL G l).take (k + 1)))) := by unfold Hid; rw [htk.out]; exact ⟨hown, ⟨fun h => (by cases h), fun h => absurd h (by omega)⟩⟩
                have B5 : Hid (Below w.heap.size w w5) := BW6.out.grown hgrow (by have := S6.out; omega) (fun j e => (O6.out.lt j e).1)
                clear hown hgrow
                refine hK.out _ _ trivial (fun hS4 => toL [12] ?_)
                clear hK K hS3
                (try simp only [Act.put, List.setIfInBounds_toArray])
                iterate 1 (refine takeL (v := ?_) rfl rfl (by kernel_rfl) (by kernel_rfl) (by kernel_rfl) hPQ hS4 (by kernel_rfl) ?_ ?_; rotate_left; (focus (intro w hSw; (try dsimp only at hSw); go_simp; (try with_reducible rfl))); (try simp only [Act.put]))
                refine ofL (wpAnyH_done (by kernel_rfl) (hQn.out _ _ ?_) _)
                clear hS4 hPQ hQn Qn
                go_wp2_with fail
                exact ⟨⟨k + 1, by omega, by rw [hnx.out, Int.natCast_add], B5, O5⟩, by simp [intOf]; omega⟩
              · go_simp
                refine hK.out _ _ trivial (fun hS1 => toL [] ?_)
                clear hK K hS0
                (try simp only [Act.put, List.setIfInBounds_toArray, List.set_cons_zero, List.set_cons_succ])
                refine ofL (wpAnyH_ready (rs := [5]) (by kernel_rfl) (by simp) ?_)
                refine AllReadyH.cons (o := _) rfl (fun K hK => ?_) AllReadyH.nil
                go_simp
                refine hK.out _ _ trivial (fun hS2 => toL [9] ?_)
                clear hK K hS1
                (try simp only [Act.put, List.setIfInBounds_toArray, List.set_cons_zero, List.set_cons_succ])
                iterate 1 (refine takeL (v := ?_) rfl rfl (by kernel_rfl) (by kernel_rfl) (by kernel_rfl) hPQ hS2 (by kernel_rfl) ?_ ?_; rotate_left; (focus (intro w hSw; (try dsimp only at hSw); go_simp; (try with_reducible rfl))); (try simp only [Act.put, List.setIfInBounds_toArray, List.set_cons_zero, List.set_cons_succ]))
                refine ofL (wpAnyH_ready (rs := [10]) (by kernel_rfl) (by simp) ?_)
                refine AllReadyH.cons (o := _) rfl (fun K hK => ?_) AllReadyH.nil
                go_simp
                (try rw [HE6.out])
                refine hK.out _ _ trivial (fun hS3 => toL [] ?_)
                clear hK K hS2
                (try simp only [Act.put, List.setIfInBounds_toArray, List.set_cons_zero, List.set_cons_succ])
                refine ofL (wpAnyH_ready (rs := [11]) (by kernel_rfl) (by simp) ?_)
                refine AllReadyH.cons (o := _) rfl (fun K hK => ?_) AllReadyH.nil
                refine step_app1 rfl (.tmp 42) (.tmp 52) rfl w.heap.size u8 k L rfl O6.out w3.heap.size y rfl N6.out (by have := Hk6.out; omega) (by have := S6.out; omega) ?_
                intro g5 cap5 w5 hown hgrow
                have O5 : Hid (OwnL w5 w.heap.size 3 1 (.slice (some ⟨g5, 0, none⟩) (k + 1) cap5) (k + 1) (I64s ((sprL G l).take (k + 1)))) := by unfold Hid; rw [htk.out]; exact ⟨hown, ⟨fun h => (by cases h), fun h => absurd h (by omega)⟩⟩
                have B5 : Hid (Below w.heap.size w w5) := BW6.out.grown hgrow (by have := S6.out; omega) (fun j e => (O6.out.lt j e).1)
                clear hown hgrow
                refine hK.out _ _ trivial (fun hS4 => toL [12] ?_)
                clear hK K hS3
                (try simp only [Act.put, List.setIfInBounds_toArray])
                iterate 1 (refine takeL (v := ?_) rfl rfl (by kernel_rfl) (by kernel_rfl) (by kernel_rfl) hPQ hS4 (by kernel_rfl) ?_ ?_; rotate_left; (focus (intro w hSw; (try dsimp only at hSw); go_simp; (try with_reducible rfl))); (try simp only [Act.put]))
                refine ofL (wpAnyH_done (by kernel_rfl) (hQn.out _ _ ?_) _)
                clear hS4 hPQ hQn Qn
                go_wp2_with fail
                exact ⟨⟨k + 1, by omega, by rw [hnx.out, Int.natCast_add], B5, O5⟩, by simp [intOf]; omega⟩
            · obtain rfl : k = m := by omega
              have hov := hend rfl
              obtain ⟨p, hp⟩ : ∃ p, k * G = p := ⟨_, rfl⟩
              rw [hp] at hov ⊢
              have hpl : p ≤ 4096 := by rw [← hp, ← HM.out]; have := Nat.div_mul_le_self l.length G; omega
              have K5 : IntKind.i64.wrap ((p : Int) + (G : Int)) = ((p + G : Nat) : Int) := by rw [IntKind.wrap_i64] <;> omega
              have K6 : (((p + G : Nat) : Int) ≤ (l.length : Int)) = False := eq_false (by omega)
              have K6b : ((p : Int) + (G : Int) ≤ (l.length : Int)) = False := eq_false (by omega)
              have K6c : (p + G ≤ l.length) = False := eq_false (by omega)
              rw [List.take_of_length_le (by rw [hlen.out]; exact Nat.le_refl _)] at HO
              obtain ⟨a, c2, rfl, hcc, _⟩ := HO.out.read
              have HCC := Lib.hid hcc
              clear hfit hend hcells hbdr hov hp hcc
              go_wp2_with fail
              refine zcenterN_any a (sprL G l) k c2 hlen.out _ _ HSm.out HCC.out fun r w4 hb hr => ?_
              have B4 := Lib.hid (bstep HW.out hb)
              have C4 := Lib.hid (HCC.out.below hb)
              have T4 := Lib.hid hr
              clear hb hr
              go_wp2_with fail
              go_ret3
              exact HR.out _ _ _ _ _ B4.out (fun _ => ⟨HM.out.symm, C4.out, T4.out⟩) (fun h => absurd rfl h)
  · have K : (e != 0) = true := by simpa using h0
    have e2 : Hid (sprE l g = e) := by unfold Hid sprE; rw [he, if_neg h0]
    rw [e2.out] at HR
    have H0 := Lib.hid h0
    clear he h0
    go_wp2_with fail
    go_ret3
    exact HR.out none 0 0 ⟨#[]⟩ _ (Below.refl _ _) (fun h => absurd h H0.out) (fun _ => ⟨rfl, rfl⟩)
end Go.Proofs.YtcoombhcdcniiaaGreatDoor
namespace Go.Proofs.YtcoombhcdcniiaaGreatDoor
open Go.RowKit

set_option maxRecDepth 100000 in
set_option maxHeartbeats 2000000 in
theorem zsameI_any (a b : Option Addr) (l : List Int) (n c d : Nat) (hn : l.length = n) (hl : n ≤ 100000) (w : World) (R : Ending → World → Prop) (ha : CellsAt w a (I64s l)) (hb : CellsAt w b (I64s l)) (hR : ∀ w', Below w.heap.size w w' → R (.returned (.bool true)) w') :
    Calls Tryz.prog 26 #[.slice a n c, .slice b n d] w R := by
  have HR := Lib.hid hR
  have HA := Lib.hid ha
  have HB := Lib.hid hb
  have HN := Lib.hid hn
  clear hR ha hb hn
  go_enter Tryz.func26, Tryz.ntmps26
  go_wp2_with fail
  go_loopw [5] (fun j wr => ∃ i : Nat, i ≤ n ∧ j = .int .i64 i ∧ Hid (Below w.heap.size w wr)) (fun j _ => n - (intOf j).toNat)
  case atStart => exact ⟨0, Nat.zero_le _, rfl, Below.refl _ _⟩
  case round =>
    obtain ⟨i, hi, rfl, HW⟩ := hrel
    by_cases hlt : i < n
    · have K5 : ((i : Int) < (n : Int)) = True := eq_true (by omega)
      have K6 : (i < n) = True := eq_true hlt
      obtain ⟨b1, o1, rfl, hb1, hd1⟩ := (HA.out.below HW.out).ints (by rw [HN.out]; omega)
      obtain ⟨b2, o2, rfl, hb2, hd2⟩ := (HB.out.below HW.out).ints (by rw [HN.out]; omega)
      have g1 := hd1 i (by rw [HN.out]; exact hlt)
      have g2 := hd2 i (by rw [HN.out]; exact hlt)
      obtain ⟨x, hx⟩ : ∃ x, at0 l i = x := ⟨_, rfl⟩
      rw [hx] at g1 g2
      clear hd1 hd2 hb1 hb2 hx
      go_wp2_with fail
      refine regionL [0, 1, 2, 3, 4, 5, 6, 7, 8] (fun w' => w'.cell? ⟨b1, o1 + i, none⟩ = some (.int .i64 x) ∧ w'.cell? ⟨b2, o2 + i, none⟩ = some (.int .i64 x)) (by kernel_rfl) (⟨g1, g2⟩) (fun Qn hPQ hQn hS0 => ?_)
      iterate 9 (refine takeL (v := ?_) rfl rfl (by kernel_rfl) (by kernel_rfl) (by kernel_rfl) hPQ hS0 (by kernel_rfl) ?_ ?_; rotate_left; (focus (intro w hSw; (try dsimp only at hSw); obtain ⟨k0, k1⟩ := hSw; go_simp; (try with_reducible rfl))); (try simp only [Act.put, List.setIfInBounds_toArray, List.set_cons_zero, List.set_cons_succ]))
      refine ofL (wpAnyH_done (by kernel_rfl) (hQn.out _ _ ?_) _)
      clear hS0 hPQ hQn Qn
      go_wp2_with fail
      exact ⟨⟨i + 1, by omega, by go_num, HW.out.drew⟩, by simp [intOf]; omega⟩
    · have K5 : ((i : Int) < (n : Int)) = False := eq_false (by omega)
      go_wp2_with fail
      exact HR.out _ HW.out
theorem zequalI_any (a b : Option Addr) (l : List Int) (n c d : Nat) (hn : l.length = n) (hl : n ≤ 100000) (w : World) (R : Ending → World → Prop) (ha : CellsAt w a (I64s l)) (hb : CellsAt w b (I64s l)) (hR : ∀ w', Below w.heap.size w w' → R (.returned (.bool true)) w') :
    Calls Tryz.prog 35 #[.slice a n c, .slice b n d] w R := by
  by_cases h0 : n = 0
  · subst h0
    refine (Tryz.slices_Equal_int_empty a b c 0 d w (by omega)).mono ?_
    rintro e w' ⟨rfl, rfl⟩
    exact hR _ (Below.refl _ _)
  · obtain ⟨b1, o1, rfl, hb1, hd1⟩ := ha.ints (by omega)
    obtain ⟨b2, o2, rfl, hb2, hd2⟩ := hb.ints (by omega)
    refine (Tryz.slices_Equal_int b1 o1 n c b2 o2 n d l l w (by omega) (by omega) (by omega) (by omega) hd1 hd2).mono ?_
    rintro e w' ⟨rfl, q, rfl⟩
    rw [show (l.take n == l.take n) = true by simp]
    exact hR _ ((Drew.refl _).drewN.below _)
theorem cells_lit (w : World) (l : List Int) (e : TypeId) : CellsAt (w.alloc (.cells (I64s l).toArray e)) (some ⟨w.heap.size, 0, none⟩) (I64s l) := by
  intro _
  refine ⟨_, 0, rfl, by simp, fun j hj => ?_⟩
  rw [Nat.zero_add, World.cell?_alloc_new]
  simp [List.getD, hj]
def aL : List Int := [2, 4, 4, 10]
theorem aL_ck : ckSr aL = 0 := by decide +kernel
theorem aL_vr : vrE aL = 0 := by decide +kernel
theorem aL_mean : meanS aL = ((5 : Int) : Rat) := by decide +kernel
theorem aL_var : varS aL = ((12 : Int) : Rat) := by decide +kernel
theorem aL_vi : viS aL 1 13 = 0 := by decide +kernel
theorem aL_gv : gvS aL 1 13 = 0 := by decide +kernel
theorem aL_cap : capS aL 1 13 = (1 : Rat) / 3 := by decide +kernel
theorem aL_cen : cenS aL 1 13 = (4 : Rat) / 27 := by decide +kernel
theorem aL_sgn : cmpI (farI aL 1 13) 0 = 1 := by decide +kernel
theorem aL_med : medS aL = ((4 : Int) : Rat) := by
  have e : sortL aL = aL := sortL_unique (by decide) (List.Perm.refl _)
  unfold medS
  rw [e]
  decide +kernel
theorem aL_hs : hsE aL 3 3 2 = 0 := by decide +kernel
theorem aL_hl : hsL 3 3 2 aL = [2, 0] := by decide +kernel
theorem aL_h0 : hcN 3 3 2 aL 0 = 1 := by decide +kernel
theorem aL_h3 : hcN 3 3 2 aL 3 = 1 := by decide +kernel
theorem aL_rn : rnL 1 13 aL = [-3, 1] := by decide +kernel
theorem aL_sE : sprE aL 2 = 0 := by decide +kernel
theorem aL_sp : sprL 2 aL = [2, 6] := by decide +kernel
theorem aL_sm : meanS [2, 6] = ((4 : Int) : Rat) := by decide +kernel
theorem rtL_i {n : Nat} (h : n < 10) (h0 : 0 < n) : rtL ((n : Int) : Rat) = [UInt8.ofNat (48 + n)] := by
  rw [rat_int, itoa_pos (by omega)]
  exact dec_small h
theorem rtL_5 : rtL ((5 : Int) : Rat) = [53] := rtL_i (n := 5) (by decide) (by decide)
theorem rtL_4 : rtL ((4 : Int) : Rat) = [52] := rtL_i (n := 4) (by decide) (by decide)
theorem rtL_12 : rtL ((12 : Int) : Rat) = [49, 50] := by
  rw [rat_int, itoa_pos (by decide)]
  exact dec_two (n := 12) (by decide) (by decide)
theorem rtL_13 : rtL ((1 : Rat) / 3) = [49, 47, 51] := by
  have e1 : ((1 : Rat) / 3).num = 1 := by decide +kernel
  have e2 : ((1 : Rat) / 3).den = 3 := by decide +kernel
  unfold rtL
  rw [e1, e2, itoa_1, dec_small (by decide)]; rfl
theorem rtL_427 : rtL ((4 : Rat) / 27) = [52, 47, 50, 55] := by
  have e1 : ((4 : Rat) / 27).num = 4 := by decide +kernel
  have e2 : ((4 : Rat) / 27).den = 27 := by decide +kernel
  have e3 : Lib.itoa 4 = [52] := by rw [itoa_pos (by decide)]; exact dec_small (n := 4) (by decide)
  unfold rtL
  rw [e1, e2, e3, dec_two (by decide) (by decide)]; rfl
set_option maxRecDepth 100000 in
set_option maxHeartbeats 4000000 in
theorem zawake_any (w : World) (R : Ending → World → Prop) (hE : Env w) (hR : ∀ w', Below w.heap.size w w' → R (.returned (.bool true)) w') :
    Calls Tryz.prog 11 #[] w R := by
  have HR := Lib.hid hR
  have HE := Lib.hid hE
  clear hR hE
  go_enter Tryz.func11, Tryz.ntmps11
  go_wp2_with fail
  have hba : Below w.heap.size w (w.alloc (.cells #[.int .i64 2, .int .i64 4, .int .i64 4, .int .i64 10] 3)) := (Below.refl _ _).alloc (Nat.le_refl _) _
  have hca : CellsAt (w.alloc (.cells #[.int .i64 2, .int .i64 4, .int .i64 4, .int .i64 10] 3)) (some ⟨w.heap.size, 0, none⟩) (I64s aL) := cells_lit w aL 3
  have hsa : (w.alloc (.cells #[.int .i64 2, .int .i64 4, .int .i64 4, .int .i64 10] 3)).heap.size = w.heap.size + 1 := by simp
  obtain ⟨wa, Ea⟩ : ∃ wa, w.alloc (.cells #[.int .i64 2, .int .i64 4, .int .i64 4, .int .i64 10] 3) = wa := ⟨_, rfl⟩
  rw [Ea] at hba hca hsa ⊢
  obtain ⟨w0, E0, hb0, s0, d00, d01⟩ := box2 wa (.int .i64 1) (.int .i64 13) 34
  rw [E0.out]
  rw [hsa] at d00 d01
  have B0 := Lib.hid (bstep hba hb0.out)
  have C0 := Lib.hid (hca.below hb0.out)
  have HE0 := Lib.hid (HE.out.below B0.out)
  clear hba hca hsa Ea E0 hb0 s0
  refine zmean_any _ aL 4 _ _ (by decide) C0.out HE0.out fun r1 w1 hb h h2 => ?_
  have B1 := Lib.hid (bstep B0.out hb)
  have C1 := Lib.hid (C0.out.below hb)
  have HE1 := Lib.hid (HE0.out.below hb)
  have d10 := cellB hb d00 (lt_of_cell' d00)
  have d11 := cellB hb d01 (lt_of_cell' d01)
  have T1 := h aL_ck
  rw [aL_mean] at T1
  have q1 := T1.beqL ((5 : Int) : Rat) (c := [53]) rtL_5
  rw [decide_eq_true rfl] at q1
  rw [aL_ck]
  clear T1
  clear hb h h2 d00 d01
  go_wp2_with fail
  refine zvariance_any _ aL 4 _ _ (by decide) C1.out HE1.out fun r2 w2 hb h h2 => ?_
  have B2 := Lib.hid (bstep B1.out hb)
  have C2 := Lib.hid (C1.out.below hb)
  have HE2 := Lib.hid (HE1.out.below hb)
  have d20 := cellB hb d10 (lt_of_cell' d10)
  have d21 := cellB hb d11 (lt_of_cell' d11)
  have T2 := h aL_vr
  rw [aL_var] at T2
  have q2 := T2.beqL ((12 : Int) : Rat) (c := [49, 50]) rtL_12
  rw [decide_eq_true rfl] at q2
  rw [aL_vr]
  clear T2
  clear hb h h2 d10 d11
  go_wp2_with fail
  refine zcap_any _ aL 4 1 13 _ _ (by decide) C2.out HE2.out fun r3 w3 hb h h2 => ?_
  have B3 := Lib.hid (bstep B2.out hb)
  have C3 := Lib.hid (C2.out.below hb)
  have HE3 := Lib.hid (HE2.out.below hb)
  have d30 := cellB hb d20 (lt_of_cell' d20)
  have d31 := cellB hb d21 (lt_of_cell' d21)
  have T3 := h aL_vi
  rw [aL_cap] at T3
  have q3 := T3.beqL ((1 : Rat) / 3) (c := [49, 47, 51]) rtL_13
  rw [decide_eq_true rfl] at q3
  rw [aL_vi]
  clear T3
  clear hb h h2 d20 d21
  go_wp2_with fail
  refine zcentered_any _ aL 4 1 13 _ _ (by decide) C3.out HE3.out fun r4 g4 w4 hb h h2 => ?_
  have B4 := Lib.hid (bstep B3.out hb)
  have C4 := Lib.hid (C3.out.below hb)
  have HE4 := Lib.hid (HE3.out.below hb)
  have d40 := cellB hb d30 (lt_of_cell' d30)
  have d41 := cellB hb d31 (lt_of_cell' d31)
  obtain ⟨T4, e4⟩ := h aL_vi
  rw [aL_cen] at T4
  rw [aL_sgn] at e4
  have q4 := T4.beqL ((4 : Rat) / 27) (c := [52, 47, 50, 55]) rtL_427
  rw [decide_eq_true rfl] at q4
  rw [aL_vi, e4]
  clear T4 e4
  clear hb h h2 d30 d31
  go_wp2_with fail
  refine zmedian_any _ aL 4 _ _ (by decide) C4.out HE4.out fun r5 w5 hb h h2 => ?_
  have B5 := Lib.hid (bstep B4.out hb)
  have C5 := Lib.hid (C4.out.below hb)
  have HE5 := Lib.hid (HE4.out.below hb)
  have d50 := cellB hb d40 (lt_of_cell' d40)
  have d51 := cellB hb d41 (lt_of_cell' d41)
  have T5 := h aL_ck
  rw [aL_med] at T5
  have q5 := T5.beqL ((4 : Int) : Rat) (c := [52]) rtL_4
  rw [decide_eq_true rfl] at q5
  rw [aL_ck]
  clear T5
  clear hb h h2 d40 d41
  go_wp2_with fail
  refine zhist_any _ aL 4 3 3 2 _ _ (by decide) C5.out fun a6 n6 c6 s6 m6 w6 hb h h2 => ?_
  have B6 := Lib.hid (bstep B5.out hb)
  have C6 := Lib.hid (C5.out.below hb)
  have HE6 := Lib.hid (HE5.out.below hb)
  have d60 := cellB hb d50 (lt_of_cell' d50)
  have d61 := cellB hb d51 (lt_of_cell' d51)
  obtain ⟨e6, k6, e6s, e6m⟩ := h aL_hs
  rw [show (2 : Int).toNat = 2 from rfl] at e6 k6 e6s e6m
  rw [aL_hl] at k6
  rw [aL_h0] at e6s
  rw [aL_h3] at e6m
  subst e6 e6s e6m
  have X6 : Hid (CellsAt w6 a6 (I64s [2, 0])) := k6
  rw [aL_hs]
  clear k6
  clear hb h h2 d50 d51
  go_wp2_with fail
  refine zruns_any _ aL 4 1 13 _ _ (by decide) C6.out fun a7 n7 c7 w7 hb h h2 => ?_
  have B7 := Lib.hid (bstep B6.out hb)
  have C7 := Lib.hid (C6.out.below hb)
  have HE7 := Lib.hid (HE6.out.below hb)
  have d70 := cellB hb d60 (lt_of_cell' d60)
  have d71 := cellB hb d61 (lt_of_cell' d61)
  have X7 := Lib.hid (X6.out.below hb)
  obtain ⟨e7, k7⟩ := h aL_gv
  rw [aL_rn] at e7 k7
  subst e7
  have Y7 := Lib.hid k7
  rw [aL_gv]
  clear k7
  clear hb h h2 d60 d61
  go_wp2_with fail
  refine zspread_any _ aL 4 2 _ _ (by decide) (by decide) C7.out HE7.out fun a8 n8 c8 r8 w8 hb h h2 => ?_
  have B8 := Lib.hid (bstep B7.out hb)
  have C8 := Lib.hid (C7.out.below hb)
  have HE8 := Lib.hid (HE7.out.below hb)
  have d80 := cellB hb d70 (lt_of_cell' d70)
  have d81 := cellB hb d71 (lt_of_cell' d71)
  have X8 := Lib.hid (X7.out.below hb)
  have Y8 := Lib.hid (Y7.out.below hb)
  obtain ⟨e8, k8, T8⟩ := h aL_sE
  rw [show (2 : Int).toNat = 2 from rfl] at e8 k8 T8
  rw [aL_sp] at k8 T8
  rw [aL_sm] at T8
  obtain rfl : n8 = 2 := e8
  have Z8 := Lib.hid k8
  have q8 := T8.beqL ((4 : Int) : Rat) (c := [52]) rtL_4
  rw [decide_eq_true rfl] at q8
  rw [aL_sE]
  clear k8 T8
  clear hb h h2 d70 d71
  go_wp2_with fail
  have hal9 : Below w8.heap.size w8 (w8.alloc (.cells #[.int .i64 2, .int .i64 0] 3)) := (Below.refl _ _).alloc (Nat.le_refl _) _
  have Hal9 := Lib.hid hal9
  clear hal9
  refine zequalI_any a6 _ [2, 0] 2 c6 _ rfl (by decide) _ _ (X8.out.below Hal9.out) (cells_lit w8 [2, 0] 3) fun w9 hb => ?_
  have B9 := Lib.hid (bstep (bstep B8.out Hal9.out) hb)
  have Y9 := Lib.hid ((Y8.out.below Hal9.out).below hb)
  have Z9 := Lib.hid ((Z8.out.below Hal9.out).below hb)
  clear hb
  go_wp2_with fail
  have hal10 : Below w9.heap.size w9 (w9.alloc (.cells #[.int .i64 (-3), .int .i64 1] 3)) := (Below.refl _ _).alloc (Nat.le_refl _) _
  have Hal10 := Lib.hid hal10
  clear hal10
  refine zequalI_any a7 _ [-3, 1] 2 c7 _ rfl (by decide) _ _ (Y9.out.below Hal10.out) (cells_lit w9 [-3, 1] 3) fun w10 hb => ?_
  have B10 := Lib.hid (bstep (bstep B9.out Hal10.out) hb)
  have Z10 := Lib.hid ((Z9.out.below Hal10.out).below hb)
  clear hb
  go_wp2_with fail
  have hal11 : Below w10.heap.size w10 (w10.alloc (.cells #[.int .i64 2, .int .i64 6] 3)) := (Below.refl _ _).alloc (Nat.le_refl _) _
  have Hal11 := Lib.hid hal11
  clear hal11
  refine zequalI_any a8 _ [2, 6] 2 c8 _ rfl (by decide) _ _ (Z10.out.below Hal11.out) (cells_lit w10 [2, 6] 3) fun w11 hb => ?_
  have B11 := Lib.hid (bstep (bstep B10.out Hal11.out) hb)
  clear hb
  go_wp2_with fail
  exact HR.out _ B11.out
end Go.Proofs.YtcoombhcdcniiaaGreatDoor
namespace Go.Proofs.YtcoombhcdcniiaaGreatDoor
open Go.RowKit

theorem two_same {E : Int} {q : Rat} {r s : ByteArray} (h1 : E = 0 → TxR r q) (h2 : E ≠ 0 → r = ⟨#[]⟩) (g1 : E = 0 → TxR s q) (g2 : E ≠ 0 → s = ⟨#[]⟩) : s = r := by
  by_cases h : E = 0
  · exact (TxR.inj (g1 h) (h1 h)).2 rfl
  · rw [h2 h, g2 h]
def rowE (E : Int) (L : List Int) : List Int := if E = 0 then L else []
theorem rowE_len {E : Int} {L : List Int} {n : Nat} (h1 : E = 0 → n = L.length) (h2 : E ≠ 0 → n = 0) : (rowE E L).length = n := by
  unfold rowE
  by_cases h : E = 0
  · rw [if_pos h, h1 h]
  · rw [if_neg h, h2 h]; rfl
theorem rowE_cells {E : Int} {L : List Int} {a : Option Addr} {w : World} (h1 : E = 0 → CellsAt w a (I64s L)) : CellsAt w a (I64s (rowE E L)) := by
  unfold rowE
  by_cases h : E = 0
  · rw [if_pos h]; exact h1 h
  · rw [if_neg h]; exact fun h0 => absurd h0 (by simp [I64s])
theorem rowE_few {E : Int} {L : List Int} {n : Nat} (h : E = 0 → L.length ≤ 100000) (hn : (rowE E L).length = n) : n ≤ 100000 := by
  rw [← hn]; unfold rowE
  by_cases h0 : E = 0
  · rw [if_pos h0]; exact h h0
  · rw [if_neg h0]; simp
def natI (l : List Nat) : List Int := l.map Int.ofNat
theorem natI_cells (l : List Nat) : I64s (natI l) = l.map wV := by simp [I64s, natI, wV, Function.comp_def]
theorem few_len {l : List Int} (h : fwS l = true) : l.length ≤ 8192 := by
  unfold fwS at h
  simp at h
  omega
set_option maxRecDepth 100000 in
set_option maxHeartbeats 4000000 in
theorem lawMeasures_any (ao : Option Addr) (l : List Int) (c : Nat) (w : World) (R : Ending → World → Prop) (hc : CellsAt w ao (I64s l)) (hE : Env w) (hR : ∀ w', Below w.heap.size w w' → R (.returned (.bool true)) w') :
    Calls Tryz.prog 3 #[.slice ao l.length c] w R := by
  have HR := Lib.hid hR
  have HC := Lib.hid hc
  have HE := Lib.hid hE
  clear hR hc hE
  go_enter Tryz.func3, Tryz.ntmps3
  go_wp2_with fail
  refine zfew_any ao l c _ _ ?_
  cases hf : fwS l with
  | false =>
    clear hf
    go_wp2_with fail
    refine zawake_any _ _ HE.out fun w9 hb => ?_
    have B9 := Lib.hid (hb)
    clear hb
    go_wp2_with fail
    exact HR.out _ B9.out
  | true =>
    have hl := few_len hf
    have HL : Hid (l.length ≤ 1000000000) := by unfold Hid; omega
    clear hf hl
    go_wp2_with fail
    have B0 : Hid (Below w.heap.size w w) := Below.refl _ _
    have C0 := HC
    have E0 := HE
    refine zmean_any ao l c _ _ HL.out C0.out E0.out fun r w2 hb h1 h2 => ?_
    have B1 := Lib.hid (bstep B0.out hb)
    have C1 := Lib.hid (C0.out.below hb)
    have E1 := Lib.hid (E0.out.below hb)

    clear hb
    go_wp2_with fail
    refine zrmean_any ao l c _ _ HL.out C1.out fun r2 w3 hb g1 g2 => ?_
    have B2 := Lib.hid (bstep B1.out hb)
    have C2 := Lib.hid (C1.out.below hb)
    have E2 := Lib.hid (E1.out.below hb)
    obtain rfl : r2 = r := two_same h1 h2 g1 g2
    clear h1 h2 g1 g2
    clear hb
    go_wp2_with fail
    refine zvariance_any ao l c _ _ HL.out C2.out E2.out fun r w4 hb h1 h2 => ?_
    have B3 := Lib.hid (bstep B2.out hb)
    have C3 := Lib.hid (C2.out.below hb)
    have E3 := Lib.hid (E2.out.below hb)

    clear hb
    go_wp2_with fail
    refine zrvariance_any ao l c _ _ HL.out C3.out fun r2 w5 hb g1 g2 => ?_
    have B4 := Lib.hid (bstep B3.out hb)
    have C4 := Lib.hid (C3.out.below hb)
    have E4 := Lib.hid (E3.out.below hb)
    obtain rfl : r2 = r := two_same h1 h2 g1 g2
    clear h1 h2 g1 g2
    clear hb
    go_wp2_with fail
    refine zmedian_any ao l c _ _ HL.out C4.out E4.out fun r w6 hb h1 h2 => ?_
    have B5 := Lib.hid (bstep B4.out hb)
    have C5 := Lib.hid (C4.out.below hb)
    have E5 := Lib.hid (E4.out.below hb)

    clear hb
    go_wp2_with fail
    refine zrmedian_any ao l c _ _ HL.out C5.out fun r2 w7 hb g1 g2 => ?_
    have B6 := Lib.hid (bstep B5.out hb)
    have C6 := Lib.hid (C5.out.below hb)
    have E6 := Lib.hid (E5.out.below hb)
    obtain rfl : r2 = r := two_same h1 h2 g1 g2
    clear h1 h2 g1 g2
    clear hb
    go_wp2_with fail
    refine zawake_any _ _ E6.out fun w8 hb => ?_
    have B7 := Lib.hid (bstep B6.out hb)
    have C7 := Lib.hid (C6.out.below hb)
    clear hb
    go_wp2_with fail
    refine zcheck_any ao l c _ _ HL.out C7.out ?_
    go_wp2_with fail
    refine zrcheck_any ao l c _ _ HL.out C7.out ?_
    go_wp2_with fail
    exact HR.out _ B7.out
set_option maxRecDepth 100000 in
set_option maxHeartbeats 4000000 in
theorem lawJudges_any (ao : Option Addr) (l : List Int) (c : Nat) (lo hi : Int) (w : World) (R : Ending → World → Prop) (hc : CellsAt w ao (I64s l)) (hE : Env w) (hR : ∀ w', Below w.heap.size w w' → R (.returned (.bool true)) w') :
    Calls Tryz.prog 4 #[.slice ao l.length c, .agg #[.int .i64 lo, .int .i64 hi]] w R := by
  have HR := Lib.hid hR
  have HC := Lib.hid hc
  have HE := Lib.hid hE
  clear hR hc hE
  obtain ⟨w1, E1, HB1, s1, b0, b1⟩ := box2 w (.int .i64 lo) (.int .i64 hi) 34
  have HC1 := Lib.hid (HC.out.below HB1.out)
  have HE1 := Lib.hid (HE.out.below HB1.out)
  go_enter Tryz.func4, Tryz.ntmps4
  go_wp2_with (rw [E1.out])
  refine zfew_any ao l c _ _ ?_
  cases hf : fwS l with
  | false =>
    clear hf
    go_wp2_with fail
    refine zawake_any _ _ HE1.out fun w9 hb => ?_
    have B9 := Lib.hid (bstep HB1.out hb)
    clear hb
    go_wp2_with fail
    exact HR.out _ B9.out
  | true =>
    have hl := few_len hf
    have HL : Hid (l.length ≤ 1000000000) := by unfold Hid; omega
    clear hf hl
    go_wp2_with fail
    have B0 : Hid (Below w.heap.size w w1) := HB1
    have C0 := HC1
    have E0 := HE1
    have d00 := b0
    have d01 := b1
    clear b0 b1
    refine zcap_any ao l c lo hi _ _ HL.out C0.out E0.out fun r w2 hb h1 h2 => ?_
    have B1 := Lib.hid (bstep B0.out hb)
    have C1 := Lib.hid (C0.out.below hb)
    have E1 := Lib.hid (E0.out.below hb)
    have d10 := cellB hb d00 (lt_of_cell' d00)
    have d11 := cellB hb d01 (lt_of_cell' d01)
    clear d00 d01

    clear hb
    go_wp2_with fail
    refine zrcap_any ao l c lo hi _ _ HL.out C1.out fun r2 w3 hb g1 g2 => ?_
    have B2 := Lib.hid (bstep B1.out hb)
    have C2 := Lib.hid (C1.out.below hb)
    have E2 := Lib.hid (E1.out.below hb)
    have d20 := cellB hb d10 (lt_of_cell' d10)
    have d21 := cellB hb d11 (lt_of_cell' d11)
    clear d10 d11
    obtain rfl : r2 = r := two_same h1 h2 g1 g2
    clear h1 h2 g1 g2
    clear hb
    go_wp2_with fail
    refine zcentered_any ao l c lo hi _ _ HL.out C2.out E2.out fun q s w4 hb h1 h2 => ?_
    have B3 := Lib.hid (bstep B2.out hb)
    have C3 := Lib.hid (C2.out.below hb)
    have E3 := Lib.hid (E2.out.below hb)
    have d30 := cellB hb d20 (lt_of_cell' d20)
    have d31 := cellB hb d21 (lt_of_cell' d21)
    clear d20 d21

    clear hb
    go_wp2_with fail
    refine zrcentered_any ao l c lo hi _ _ HL.out C3.out fun q2 s2 w5 hb g1 g2 => ?_
    have B4 := Lib.hid (bstep B3.out hb)
    have C4 := Lib.hid (C3.out.below hb)
    have E4 := Lib.hid (E3.out.below hb)
    have d40 := cellB hb d30 (lt_of_cell' d30)
    have d41 := cellB hb d31 (lt_of_cell' d31)
    clear d30 d31
    obtain rfl : q2 = q := two_same (fun e => (h1 e).1) (fun e => (h2 e).1) (fun e => (g1 e).1) (fun e => (g2 e).1)
    obtain rfl : s2 = s := by
      by_cases e : viS l lo hi = 0
      · rw [(h1 e).2, (g1 e).2]
      · rw [(h2 e).2, (g2 e).2]
    clear h1 h2 g1 g2
    clear hb
    go_wp2_with fail
    refine zawake_any _ _ E4.out fun w6 hb => ?_
    have B5 := Lib.hid (bstep B4.out hb)
    have C5 := Lib.hid (C4.out.below hb)
    clear hb
    go_wp2_with fail
    exact HR.out _ B5.out
set_option maxRecDepth 100000 in
set_option maxHeartbeats 4000000 in
theorem lawCounts_any (ao : Option Addr) (l : List Int) (c : Nat) (lo hi bins : Int) (w : World) (R : Ending → World → Prop) (hc : CellsAt w ao (I64s l)) (hE : Env w) (hR : ∀ w', Below w.heap.size w w' → R (.returned (.bool true)) w') :
    Calls Tryz.prog 5 #[.slice ao l.length c, .agg #[.int .i64 lo, .int .i64 hi], .int .i64 bins] w R := by
  have HR := Lib.hid hR
  have HC := Lib.hid hc
  have HE := Lib.hid hE
  clear hR hc hE
  obtain ⟨w1, E1, HB1, s1, b0, b1⟩ := box2 w (.int .i64 lo) (.int .i64 hi) 34
  have HC1 := Lib.hid (HC.out.below HB1.out)
  have HE1 := Lib.hid (HE.out.below HB1.out)
  go_enter Tryz.func5, Tryz.ntmps5
  go_wp2_with (rw [E1.out])
  refine zfew_any ao l c _ _ ?_
  cases hf : fwS l with
  | false =>
    clear hf
    go_wp2_with fail
    refine zawake_any _ _ HE1.out fun w9 hb => ?_
    have B9 := Lib.hid (bstep HB1.out hb)
    clear hb
    go_wp2_with fail
    exact HR.out _ B9.out
  | true =>
    have hl := few_len hf
    have HL : Hid (l.length ≤ 1000000000) := by unfold Hid; omega
    clear hf hl
    go_wp2_with fail
    have B0 : Hid (Below w.heap.size w w1) := HB1
    have C0 := HC1
    have E0 := HE1
    have d00 := b0
    have d01 := b1
    clear b0 b1
    refine zhist_any ao l c lo hi bins _ _ HL.out C0.out fun a n ca s m w2 hb h1 h2 => ?_
    have B1 := Lib.hid (bstep B0.out hb)
    have C1 := Lib.hid (C0.out.below hb)
    have E1 := Lib.hid (E0.out.below hb)
    have d10 := cellB hb d00 (lt_of_cell' d00)
    have d11 := cellB hb d01 (lt_of_cell' d01)
    clear d00 d01
    have L1 := rowE_len (L := natI (hsL lo hi bins.toNat l)) (fun e => ((h1 e).1).trans (by rw [natI, List.length_map, hsL_length])) (fun e => (h2 e).1)
    have X1 : Hid (CellsAt w2 a (I64s (rowE (hsE l lo hi bins) (natI (hsL lo hi bins.toNat l))))) := rowE_cells fun e => by rw [natI_cells]; exact (h1 e).2.1
    clear hb
    go_wp2_with fail
    refine zrhist_any ao l c lo hi bins _ _ HL.out C1.out fun b n2 cb s2 m2 w3 hb g1 g2 => ?_
    have B2 := Lib.hid (bstep B1.out hb)
    have C2 := Lib.hid (C1.out.below hb)
    have E2 := Lib.hid (E1.out.below hb)
    have d20 := cellB hb d10 (lt_of_cell' d10)
    have d21 := cellB hb d11 (lt_of_cell' d11)
    clear d10 d11
    have X2 := Lib.hid (X1.out.below hb)
    have L2 := rowE_len (L := natI (hsL lo hi bins.toNat l)) (fun e => ((g1 e).1).trans (by rw [natI, List.length_map, hsL_length])) (fun e => (g2 e).1)
    have Y2 : Hid (CellsAt w3 b (I64s (rowE (hsE l lo hi bins) (natI (hsL lo hi bins.toNat l))))) := rowE_cells fun e => by rw [natI_cells]; exact (g1 e).2.1
    obtain rfl : n2 = n := L2.symm.trans L1
    obtain rfl : s2 = s := by
      by_cases e : hsE l lo hi bins = 0
      · rw [(h1 e).2.2.1, (g1 e).2.2.1]
      · rw [(h2 e).2.1, (g2 e).2.1]
    obtain rfl : m2 = m := by
      by_cases e : hsE l lo hi bins = 0
      · rw [(h1 e).2.2.2, (g1 e).2.2.2]
      · rw [(h2 e).2.2, (g2 e).2.2]
    have F1 : Hid (n2 ≤ 100000) := rowE_few (fun e => by rw [natI, List.length_map, hsL_length]; have := (hsE_ok e).2.2.2.2; omega) L1
    have HL1 := Lib.hid L1
    clear h1 h2 g1 g2 L1 L2
    clear hb
    go_wp2_with fail
    refine zawake_any _ _ E2.out fun w4 hb => ?_
    have B3 := Lib.hid (bstep B2.out hb)
    have C3 := Lib.hid (C2.out.below hb)
    have X3 := Lib.hid (X2.out.below hb)
    have Y3 := Lib.hid (Y2.out.below hb)
    clear hb
    go_wp2_with fail
    refine zsameI_any a b _ n2 _ _ HL1.out F1.out _ _ X3.out Y3.out fun w5 hb => ?_
    have B4 := Lib.hid (bstep B3.out hb)
    have X4 := Lib.hid (X3.out.below hb)
    have Y4 := Lib.hid (Y3.out.below hb)
    clear hb
    go_wp2_with fail
    exact HR.out _ B4.out
set_option maxRecDepth 100000 in
set_option maxHeartbeats 4000000 in
theorem lawRuns_any (ao : Option Addr) (l : List Int) (c : Nat) (lo hi groups : Int) (w : World) (R : Ending → World → Prop) (hcap : l.length ≤ c) (hc : CellsAt w ao (I64s l)) (hE : Env w) (hR : ∀ w', Below w.heap.size w w' → R (.returned (.bool true)) w') :
    Calls Tryz.prog 6 #[.slice ao l.length c, .agg #[.int .i64 lo, .int .i64 hi], .int .i64 groups] w R := by
  have HR := Lib.hid hR
  have HC := Lib.hid hc
  have HE := Lib.hid hE
  clear hR hc hE
  obtain ⟨w1, E1, HB1, s1, b0, b1⟩ := box2 w (.int .i64 lo) (.int .i64 hi) 34
  have HC1 := Lib.hid (HC.out.below HB1.out)
  have HE1 := Lib.hid (HE.out.below HB1.out)
  go_enter Tryz.func6, Tryz.ntmps6
  go_wp2_with (rw [E1.out])
  refine zfew_any ao l c _ _ ?_
  cases hf : fwS l with
  | false =>
    clear hf
    go_wp2_with fail
    refine zawake_any _ _ HE1.out fun w9 hb => ?_
    have B9 := Lib.hid (bstep HB1.out hb)
    clear hb
    go_wp2_with fail
    exact HR.out _ B9.out
  | true =>
    have hl := few_len hf
    have HL : Hid (l.length ≤ 1000000000) := by unfold Hid; omega
    clear hf hl
    go_wp2_with fail
    have B0 : Hid (Below w.heap.size w w1) := HB1
    have C0 := HC1
    have E0 := HE1
    have d00 := b0
    have d01 := b1
    clear b0 b1
    refine zruns_any ao l c lo hi _ _ HL.out C0.out fun a n ca w2 hb h1 h2 => ?_
    have B1 := Lib.hid (bstep B0.out hb)
    have C1 := Lib.hid (C0.out.below hb)
    have E1 := Lib.hid (E0.out.below hb)
    have d10 := cellB hb d00 (lt_of_cell' d00)
    have d11 := cellB hb d01 (lt_of_cell' d01)
    clear d00 d01
    have L1 := rowE_len (L := rnL lo hi l) (fun e => (h1 e).1) h2
    have X1 : Hid (CellsAt w2 a (I64s (rowE (gvS l lo hi) (rnL lo hi l)))) := rowE_cells fun e => (h1 e).2
    clear hb
    go_wp2_with fail
    refine zrruns_any ao l c lo hi _ _ HL.out C1.out fun b n2 cb w3 hb g1 g2 => ?_
    have B2 := Lib.hid (bstep B1.out hb)
    have C2 := Lib.hid (C1.out.below hb)
    have E2 := Lib.hid (E1.out.below hb)
    have d20 := cellB hb d10 (lt_of_cell' d10)
    have d21 := cellB hb d11 (lt_of_cell' d11)
    clear d10 d11
    have X2 := Lib.hid (X1.out.below hb)
    have L2 := rowE_len (L := rnL lo hi l) (fun e => (g1 e).1) g2
    have Y2 : Hid (CellsAt w3 b (I64s (rowE (gvS l lo hi) (rnL lo hi l)))) := rowE_cells fun e => (g1 e).2
    obtain rfl : n2 = n := L2.symm.trans L1
    have F1 : Hid (n2 ≤ 100000) := rowE_few (fun e => by have h3 := rnL_len lo hi l; have h4 := (Srs.of (gvS_ok e).1).few; omega) L1
    have HL1 := Lib.hid L1
    clear h1 h2 g1 g2 L1 L2
    clear hb
    go_wp2_with fail
    refine zspread_any ao l c groups _ _ HL.out hcap C2.out E2.out fun x m cx r w4 hb h1 h2 => ?_
    have B3 := Lib.hid (bstep B2.out hb)
    have C3 := Lib.hid (C2.out.below hb)
    have E3 := Lib.hid (E2.out.below hb)
    have d30 := cellB hb d20 (lt_of_cell' d20)
    have d31 := cellB hb d21 (lt_of_cell' d21)
    clear d20 d21
    have X3 := Lib.hid (X2.out.below hb)
    have Y3 := Lib.hid (Y2.out.below hb)
    have L1 := rowE_len (L := sprL groups.toNat l) (fun e => ((h1 e).1).trans (by rw [sprL_length])) (fun e => (h2 e).1)
    have U3 : Hid (CellsAt w4 x (I64s (rowE (sprE l groups) (sprL groups.toNat l)))) := rowE_cells fun e => (h1 e).2.1
    clear hb
    go_wp2_with fail
    refine zrspread_any ao l c groups _ _ HL.out hcap C3.out fun y m2 cy r2 w5 hb g1 g2 => ?_
    have B4 := Lib.hid (bstep B3.out hb)
    have C4 := Lib.hid (C3.out.below hb)
    have E4 := Lib.hid (E3.out.below hb)
    have d40 := cellB hb d30 (lt_of_cell' d30)
    have d41 := cellB hb d31 (lt_of_cell' d31)
    clear d30 d31
    have X4 := Lib.hid (X3.out.below hb)
    have Y4 := Lib.hid (Y3.out.below hb)
    have U4 := Lib.hid (U3.out.below hb)
    have L2 := rowE_len (L := sprL groups.toNat l) (fun e => ((g1 e).1).trans (by rw [sprL_length])) (fun e => (g2 e).1)
    have V4 : Hid (CellsAt w5 y (I64s (rowE (sprE l groups) (sprL groups.toNat l)))) := rowE_cells fun e => (g1 e).2.1
    obtain rfl : m2 = m := L2.symm.trans L1
    obtain rfl : r2 = r := two_same (fun e => (h1 e).2.2) (fun e => (h2 e).2) (fun e => (g1 e).2.2) (fun e => (g2 e).2)
    have F2 : Hid (m2 ≤ 100000) := rowE_few (fun e => by rw [sprL_length]; have h3 := Nat.div_le_self l.length groups.toNat; have h4 := (Srs.of (sprE_ok e).1).few; omega) L1
    have HL2 := Lib.hid L1
    clear h1 h2 g1 g2 L1 L2
    clear hb
    go_wp2_with fail
    refine zawake_any _ _ E4.out fun w6 hb => ?_
    have B5 := Lib.hid (bstep B4.out hb)
    have C5 := Lib.hid (C4.out.below hb)
    have X5 := Lib.hid (X4.out.below hb)
    have Y5 := Lib.hid (Y4.out.below hb)
    have U5 := Lib.hid (U4.out.below hb)
    have V5 := Lib.hid (V4.out.below hb)
    clear hb
    go_wp2_with fail
    refine zsameI_any a b _ n2 _ _ HL1.out F1.out _ _ X5.out Y5.out fun w7 hb => ?_
    have B6 := Lib.hid (bstep B5.out hb)
    have X6 := Lib.hid (X5.out.below hb)
    have Y6 := Lib.hid (Y5.out.below hb)
    have U6 := Lib.hid (U5.out.below hb)
    have V6 := Lib.hid (V5.out.below hb)
    clear hb
    go_wp2_with fail
    refine zsameI_any x y _ m2 _ _ HL2.out F2.out _ _ U6.out V6.out fun w8 hb => ?_
    have B7 := Lib.hid (bstep B6.out hb)
    have X7 := Lib.hid (X6.out.below hb)
    have Y7 := Lib.hid (Y6.out.below hb)
    have U7 := Lib.hid (U6.out.below hb)
    have V7 := Lib.hid (V6.out.below hb)
    clear hb
    go_wp2_with fail
    exact HR.out _ B7.out
end Go.Proofs.YtcoombhcdcniiaaGreatDoor
