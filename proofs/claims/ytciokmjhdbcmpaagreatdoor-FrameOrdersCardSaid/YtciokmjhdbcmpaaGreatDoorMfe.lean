/- The walks of condition and Plain of package frame, of material, datums and Plain of reference 19. The walk of Plain of reference 19; the rows of package frame and of reference 19. Which features may have which frames: the walks of the closure 'is', of has and mayMaterial; the tables agree. mayMaterial of reference 19; what a frame of a feature may be. -/
import Derived.Shelf.Abstract
import Derived.Test.YtciokmjhdbcmpaaGreatDoorMrb
import Derived.Deep.WholeRow
import Derived.Test.YtciokmjhdbcmpaaGreatDoorShelf
namespace Go.Proofs.YtciokmjhdbcmpaaGreatDoor
open Go.RowKit

def mtE (m : Int) : Int := if m < 0 ∨ 3 ≤ m then 1 else 0
def pdF (ds : List Dt) (i : Nat) (_ : Unit) : Unit ⊕ Int :=
  if nmE (dtAt ds i).n = 0 then (if anyN (fun k => dnQ (dtAt ds i).n (dtAt ds k)) i = true then .inr 7 else if mtE (dtAt ds i).m = 0 then .inl () else .inr (mtE (dtAt ds i).m)) else .inr (nmE (dtAt ds i).n)
def errR : Unit ⊕ Int → Int
  | .inl _ => 0
  | .inr r => r
def plD (ds : List Dt) : Int := if 3 < ds.length then 5 else errR (loopE (pdF ds) ds.length 0 ())
def plE (x : Fm) : Int := if x.k < 0 ∨ 9 ≤ x.k then 1 else if mtE x.m = 0 then (if x.t < 0 ∨ 100000 < x.t then 2 else plD x.ds) else mtE x.m
theorem cond_any (m : Int) (w : World) (R : Ending → World → Prop) (hR : R (.returned (.int .i64 (mtE m))) w) : Calls Tryz.prog 47 #[.int .i64 m] w R := by
  have HR := Lib.hid hR
  clear hR
  by_cases h1 : m < 0
  · have e : Hid (mtE m = 1) := by unfold Hid mtE; rw [if_pos (.inl h1)]
    go_enter Tryz.func47, Tryz.ntmps47
    go_wp2_with fail
    exact ret_i HR.out rfl e.out
  · by_cases h2 : 3 ≤ m
    · have e : Hid (mtE m = 1) := by unfold Hid mtE; rw [if_pos (.inr h2)]
      go_enter Tryz.func47, Tryz.ntmps47
      go_wp2_with fail
      exact ret_i HR.out rfl e.out
    · have e : Hid (mtE m = 0) := by unfold Hid mtE; rw [if_neg (by omega)]
      go_enter Tryz.func47, Tryz.ntmps47
      go_wp2_with fail
      exact ret_i HR.out rfl e.out
theorem rmaterial_any (m : Int) (w : World) (R : Ending → World → Prop) (hR : R (.returned (.int .i64 (mtE m))) w) : Calls Tryz.prog 50 #[.int .i64 m] w R := by
  have HR := Lib.hid hR
  clear hR
  by_cases h1 : m < 0
  · have e : Hid (mtE m = 1) := by unfold Hid mtE; rw [if_pos (.inl h1)]
    go_enter Tryz.func50, Tryz.ntmps50
    go_wp2_with fail
    exact ret_i HR.out rfl e.out
  · by_cases h2 : 3 ≤ m
    · have e : Hid (mtE m = 1) := by unfold Hid mtE; rw [if_pos (.inr h2)]
      go_enter Tryz.func50, Tryz.ntmps50
      go_wp2_with fail
      exact ret_i HR.out rfl e.out
    · have e : Hid (mtE m = 0) := by unfold Hid mtE; rw [if_neg (by omega)]
      go_enter Tryz.func50, Tryz.ntmps50
      go_wp2_with fail
      exact ret_i HR.out rfl e.out
theorem dt_take_at {ds : List Dt} {i k : Nat} (h : k < i) : dtAt (ds.take i) k = dtAt ds k := by
  unfold dtAt
  rw [List.getD_eq_getElem?_getD, List.getD_eq_getElem?_getD, List.getElem?_take, if_pos h]
theorem anyN_congr {p q : Nat → Bool} : ∀ n, (∀ k, k < n → p k = q k) → anyN p n = anyN q n
  | 0, _ => rfl
  | n + 1, h => by rw [anyN, anyN, anyN_congr n (fun k hk => h k (by omega)), h n (by omega)]
theorem cells_takeD {w : World} {ao : Option Addr} {ds : List Dt} (h : CellsAt w ao (dtC ds)) (i : Nat) : CellsAt w ao (dtC (ds.take i)) := fun h0 => by
  rw [dtC_length] at h0
  have hl : (ds.take i).length ≤ ds.length := by rw [List.length_take]; omega
  obtain ⟨b, o, e, hb, hc⟩ := h (by rw [dtC_length]; omega)
  refine ⟨b, o, e, hb, fun j hj => ?_⟩
  rw [dtC_length] at hj
  rw [hc j (by rw [dtC_length]; omega)]
  have : dtC ds = dtC (ds.take i) ++ dtC (ds.drop i) := by rw [← dtC_append, List.take_append_drop]
  rw [this, List.getD_eq_getElem?_getD, List.getD_eq_getElem?_getD, List.getElem?_append_left (by rw [dtC_length]; exact hj)]
theorem ok_takeD {ds : List Dt} (h : DtsOk ds) (i : Nat) : DtsOk (ds.take i) := fun k hk => by
  have hk' : k < i := by rw [List.length_take] at hk; omega
  rw [dt_take_at hk']
  exact h k (by rw [List.length_take] at hk; omega)
theorem containsFuncD_take (g : FuncId) (caps : Array Value) (p : Dt → Bool) (ao : Option Addr) (ds : List Dt) (i c : Nat) (w : World) (R : Ending → World → Prop) (eg : ∀ args w, (callFunc g args).run Tryz.prog w = .ok (.enter g args) w)
   (hi : i ≤ ds.length) (hl : ds.length ≤ 1000000) (hc : CellsAt w ao (dtC ds)) (hok : DtsOk ds) (hp : DatP g caps p w) (hR : ∀ w', Below w.heap.size w w' → R (.returned (.bool (anyN (fun k => p (dtAt ds k)) i))) w') :
    Calls Tryz.prog 43 #[.slice ao i c, .func (.func g) #[] caps] w R := by
  have htl : (ds.take i).length = i := by rw [List.length_take]; omega
  have h := containsFuncD_any g caps p ao (ds.take i) c w R eg (by omega) (cells_takeD hc i) (ok_takeD hok i) hp (fun w' hb => by
    rw [htl, anyN_congr i (fun k hk => by rw [dt_take_at hk])]
    exact hR w' hb)
  rw [htl] at h
  exact h
set_option maxRecDepth 100000 in
set_option maxHeartbeats 4000000 in
theorem plain_any (x : Fm) (da : Option Addr) (dc : Nat) (w : World) (R : Ending → World → Prop) (hok : FmOk w x da dc) (hR : ∀ w', Below w.heap.size w w' → R (.returned (.int .i64 (plE x))) w') :
    Calls Tryz.prog 15 #[fmV x da dc] w R := by
  have HR := Lib.hid hR
  have HO := Lib.hid hok
  have hdl := hok.len
  have hnil := hok.nil
  obtain ⟨k, d, t, m, ds⟩ := x
  have hE : Hid (plE ⟨k, d, t, m, ds⟩ = if k < 0 ∨ 9 ≤ k then 1 else if mtE m = 0 then (if t < 0 ∨ 100000 < t then 2 else plD ds) else mtE m) := rfl
  obtain ⟨E, hE0⟩ : ∃ E, plE ⟨k, d, t, m, ds⟩ = E := ⟨_, rfl⟩
  rw [hE0] at HR hE
  unfold fmV
  dsimp only at hdl hnil ⊢
  obtain ⟨w1, E1, HB1, s1, X1⟩ := box_ex w #[.int .i64 k, .bool d, .int .i64 t, .int .i64 m, .slice da ds.length dc] 31
  have c0 := cell_at X1.out (j := 0) (v := .int .i64 k) rfl
  have c2 := cell_at X1.out (j := 2) (v := .int .i64 t) rfl
  have c3 := cell_at X1.out (j := 3) (v := .int .i64 m) rfl
  have c4 := cell_at X1.out (j := 4) (v := .slice da ds.length dc) rfl
  have HCD : Hid (CellsAt w1 da (dtC ds)) := HO.out.cells.below HB1.out
  have HDS : Hid (DtsOk ds) := HO.out.ok
  obtain ⟨M, hM⟩ : ∃ M, mtE m = M := ⟨_, rfl⟩
  have HM := Lib.hid hM
  rw [hM] at hE
  clear hR hok hE0 hM X1
  go_enter Tryz.func15, Tryz.ntmps15
  by_cases k1 : k < 0
  · have K1 : (k < 0) = True := eq_true k1
    have e : Hid (E = 1) := by unfold Hid; rw [hE.out, if_pos (.inl k1)]
    go_wp2_with (rw [E1])
    exact ret_i (HR.out _ HB1.out) rfl e.out
  by_cases k2 : 9 ≤ k
  · have K1 : (k < 0) = False := eq_false k1
    have K2 : (9 ≤ k) = True := eq_true k2
    have e : Hid (E = 1) := by unfold Hid; rw [hE.out, if_pos (.inr k2)]
    go_wp2_with (rw [E1])
    exact ret_i (HR.out _ HB1.out) rfl e.out
  have K1 : (k < 0) = False := eq_false k1
  have K2 : (9 ≤ k) = False := eq_false k2
  have hE1 : Hid (E = if M = 0 then (if t < 0 ∨ 100000 < t then 2 else plD ds) else M) := by unfold Hid; rw [hE.out, if_neg (by omega)]
  clear hE k1 k2
  go_wp2_with (rw [E1])
  refine cond_any m _ _ ?_
  rw [HM.out]
  clear E1
  by_cases m0 : M = 0
  · subst m0
    by_cases t1 : t < 0
    · have K3 : (t < 0) = True := eq_true t1
      have e : Hid (E = 2) := by unfold Hid; rw [hE1.out, if_pos rfl, if_pos (.inl t1)]
      go_wp2_with fail
      exact ret_i (HR.out _ HB1.out) rfl e.out
    by_cases t2 : 100000 < t
    · have K3 : (t < 0) = False := eq_false t1
      have K4 : (100000 < t) = True := eq_true t2
      have e : Hid (E = 2) := by unfold Hid; rw [hE1.out, if_pos rfl, if_pos (.inr t2)]
      go_wp2_with fail
      exact ret_i (HR.out _ HB1.out) rfl e.out
    have K3 : (t < 0) = False := eq_false t1
    have K4 : (100000 < t) = False := eq_false t2
    have hE2 : Hid (E = plD ds) := by unfold Hid; rw [hE1.out, if_pos rfl, if_neg (by omega)]
    clear hE1 t1 t2
    by_cases h3 : 3 < ds.length
    · have K5 : (3 < ds.length) = True := eq_true h3
      have e : Hid (E = 5) := by unfold Hid; rw [hE2.out]; unfold plD; rw [if_pos h3]
      go_wp2_with fail
      exact ret_i (HR.out _ HB1.out) rfl e.out
    · have K5 : (3 < ds.length) = False := eq_false h3
      obtain ⟨X, hX⟩ : ∃ X, loopE (pdF ds) ds.length 0 () = X := ⟨_, rfl⟩
      have e : Hid (E = errR X) := by unfold Hid; rw [hE2.out, ← hX]; unfold plD; rw [if_neg h3]
      have hX' := Lib.hid hX
      clear hE2 hX
      go_wp2_with fail
      go_loopw [39] (fun j wr => ∃ i : Nat, i ≤ ds.length ∧ j = .int .i64 i ∧ Hid (Below w1.heap.size w1 wr) ∧ Hid (loopE (pdF ds) (ds.length - i) i () = X)) (fun j _ => ds.length - (intOf j).toNat)
      case atStart => exact ⟨0, Nat.zero_le _, rfl, Below.refl _ _, hX'⟩
      case round =>
        obtain ⟨i, hi, rfl, HB, hL⟩ := hrel
        have Br : Hid (Below w.heap.size w wr) := HB1.out.trans (HB.out.mono (Nat.le_of_lt s1))
        by_cases hlt : i < ds.length
        · obtain ⟨bd, od, rfl, hbd, hdc⟩ := HCD.out.dts (by omega)
          obtain ⟨a0, a1⟩ := hdc i hlt
          have g0 := cellB HB.out a0 hbd
          have g1 := cellB HB.out a1 hbd
          have c4r := cellB HB.out c4 s1
          have hsz := HDS.out i hlt
          have hF : Hid (pdF ds i () = if nmE (dtAt ds i).n = 0 then (if anyN (fun k => dnQ (dtAt ds i).n (dtAt ds k)) i = true then .inr 7 else if mtE (dtAt ds i).m = 0 then .inl () else .inr (mtE (dtAt ds i).m)) else .inr (nmE (dtAt ds i).n)) := rfl
          obtain ⟨u, hu⟩ : ∃ u, (dtAt ds i).n = u := ⟨_, rfl⟩
          obtain ⟨q, hq⟩ : ∃ q, (dtAt ds i).m = q := ⟨_, rfl⟩
          rw [hu] at g0 hsz hF
          rw [hq] at g1 hF
          obtain ⟨N, hN⟩ : ∃ N, nmE u = N := ⟨_, rfl⟩
          have HN := Lib.hid hN
          rw [hN] at hF
          obtain ⟨w4, E4, U4, s4, X4⟩ := box_ex wr #[.string u, .int .i64 q] 76
          have e0 := cell_at X4.out (j := 0) (v := .string u) rfl
          have e1 := cell_at X4.out (j := 1) (v := .int .i64 q) rfl
          have E4' := Lib.hid E4
          have sr := lt_of_cell c4r
          have c44 := cellB U4.out c4r sr
          clear hdc a0 a1 hu hq hN E4 X4
          go_wp2_with (rw [E4'.out])
          refine name_any u _ _ hsz fun w5 hb => ?_
          rw [HN.out]
          have B5 : Hid (Below wr.heap.size wr w5) := U4.out.trans (hb.mono (Nat.le_of_lt s4))
          have f0 := cellB hb e0 s4
          have f1 := cellB hb e1 s4
          have c45 := cellB hb c44 (Nat.lt_trans sr s4)
          have s5 := hb.size
          clear hb e0 e1 c44
          by_cases n0 : N = 0
          · subst n0
            have hF1 : Hid (pdF ds i () = if anyN (fun k => dnQ u (dtAt ds k)) i = true then .inr 7 else if mtE q = 0 then .inl () else .inr (mtE q)) := by unfold Hid; rw [hF.out, if_pos rfl]
            obtain ⟨A, hA⟩ : ∃ A, anyN (fun k => dnQ u (dtAt ds k)) i = A := ⟨_, rfl⟩
            have HA := Lib.hid hA
            rw [hA] at hF1
            obtain ⟨Q, hQ⟩ : ∃ Q, mtE q = Q := ⟨_, rfl⟩
            have HQ := Lib.hid hQ
            rw [hQ] at hF1
            have hcap : i ≤ dc := Nat.le_trans hi HO.out.cap
            clear hF hA hQ
            go_wp2_with fail
            refine containsFuncD_take 49 _ (dnQ u) (some ⟨bd, od, none⟩) ds i dc _ _ (enters_of Tryz.func49 (by kernel_rfl) rfl) hi (by omega) (HCD.out.below (HB.out.trans (B5.out.mono HB.out.size))) HDS.out (plain1_dat wr.heap.size u _ f0) fun w6 hb => ?_
            rw [HA.out]
            have B6 : Hid (Below wr.heap.size wr w6) := B5.out.trans (hb.mono B5.out.size)
            have h1 := cellB hb f1 (lt_of_cell f1)
            clear hb f0 f1
            cases A with
            | true =>
              have e2 : Hid (E = 7) := by unfold Hid; rw [e.out, loopE_hit hL hlt (by rw [hF1.out, if_pos rfl])]; rfl
              go_wp2_with fail
              exact ret_i (HR.out _ (Br.out.trans (B6.out.mono Br.out.size))) rfl e2.out
            | false =>
              rw [if_neg (by simp)] at hF1
              go_wp2_with fail
              refine cond_any q _ _ ?_
              rw [HQ.out]
              by_cases q0 : Q = 0
              · subst q0
                have hstep := loopE_step hL hlt (by rw [hF1.out, if_pos rfl])
                go_wp2_with fail
                exact ⟨⟨i + 1, by omega, by go_num, HB.out.trans (B6.out.mono HB.out.size), hstep⟩, by simp [intOf]; omega⟩
              · have K6 : (Q != 0) = true := by simpa using q0
                have e2 : Hid (E = Q) := by unfold Hid; rw [e.out, loopE_hit hL hlt (by rw [hF1.out, if_neg q0])]; rfl
                clear q0
                go_wp2_with fail
                exact ret_i (HR.out _ (Br.out.trans (B6.out.mono Br.out.size))) rfl e2.out
          · have K6 : (N != 0) = true := by simpa using n0
            have e2 : Hid (E = N) := by unfold Hid; rw [e.out, loopE_hit hL hlt (by rw [hF.out, if_neg n0])]; rfl
            clear n0
            go_wp2_with fail
            exact ret_i (HR.out _ (Br.out.trans (B5.out.mono Br.out.size))) rfl e2.out
        · obtain rfl : i = ds.length := by omega
          have e2 : Hid (E = 0) := by unfold Hid; rw [e.out, loopE_done hL hlt]; rfl
          go_wp2_with fail
          exact ret_i (HR.out _ Br.out) rfl e2.out
  · have K3 : (M != 0) = true := by simpa using m0
    have e : Hid (E = M) := by unfold Hid; rw [hE1.out, if_neg m0]
    clear m0
    go_wp2_with fail
    exact ret_i (HR.out _ HB1.out) rfl e.out
set_option maxRecDepth 100000 in
set_option maxHeartbeats 4000000 in
theorem rdatums_any (da : Option Addr) (ds : List Dt) (dc : Nat) (w : World) (R : Ending → World → Prop) (hl : ds.length ≤ 9223372036854775807) (hc : CellsAt w da (dtC ds)) (hok : DtsOk ds) (hR : ∀ w', Below w.heap.size w w' → R (.returned (.int .i64 (plD ds))) w') :
    Calls Tryz.prog 51 #[.slice da ds.length dc] w R := by
  have HR := Lib.hid hR
  have HCD := Lib.hid hc
  have HDS := Lib.hid hok
  obtain ⟨E, hE0⟩ : ∃ E, plD ds = E := ⟨_, rfl⟩
  have hE : Hid (plD ds = E) := hE0
  rw [hE0] at HR
  clear hR hc hok hE0
  go_enter Tryz.func51, Tryz.ntmps51
  by_cases h3 : 3 < ds.length
  · have K5 : (3 < ds.length) = True := eq_true h3
    have e : Hid (E = 5) := by unfold Hid; rw [← hE.out]; unfold plD; rw [if_pos h3]
    go_wp2_with fail
    exact ret_i (HR.out _ (Below.refl _ _)) rfl e.out
  · have K5 : (3 < ds.length) = False := eq_false h3
    obtain ⟨X, hX⟩ : ∃ X, loopE (pdF ds) ds.length 0 () = X := ⟨_, rfl⟩
    have e : Hid (E = errR X) := by unfold Hid; rw [← hE.out, ← hX]; unfold plD; rw [if_neg h3]
    have hX' := Lib.hid hX
    clear hE hX
    go_wp2_with fail
    go_loopw [3] (fun j wr => ∃ i : Nat, i ≤ ds.length ∧ j = .int .i64 i ∧ Hid (Below w.heap.size w wr) ∧ Hid (loopE (pdF ds) (ds.length - i) i () = X)) (fun j _ => ds.length - (intOf j).toNat)
    case atStart => exact ⟨0, Nat.zero_le _, rfl, Below.refl _ _, hX'⟩
    case round =>
      obtain ⟨i, hi, rfl, HB, hL⟩ := hrel
      by_cases hlt : i < ds.length
      · obtain ⟨bd, od, rfl, hbd, hdc⟩ := HCD.out.dts (by omega)
        obtain ⟨a0, a1⟩ := hdc i hlt
        have g0 := cellB HB.out a0 hbd
        have g1 := cellB HB.out a1 hbd
        have hsz := HDS.out i hlt
        have hF : Hid (pdF ds i () = if nmE (dtAt ds i).n = 0 then (if anyN (fun k => dnQ (dtAt ds i).n (dtAt ds k)) i = true then .inr 7 else if mtE (dtAt ds i).m = 0 then .inl () else .inr (mtE (dtAt ds i).m)) else .inr (nmE (dtAt ds i).n)) := rfl
        obtain ⟨u, hu⟩ : ∃ u, (dtAt ds i).n = u := ⟨_, rfl⟩
        obtain ⟨q, hq⟩ : ∃ q, (dtAt ds i).m = q := ⟨_, rfl⟩
        rw [hu] at g0 hsz hF
        rw [hq] at g1 hF
        obtain ⟨N, hN⟩ : ∃ N, nmE u = N := ⟨_, rfl⟩
        have HN := Lib.hid hN
        rw [hN] at hF
        clear hdc a0 a1 hu hq hN
        go_wp2_with fail
        refine rname_any u _ _ hsz ?_
        rw [HN.out]
        by_cases n0 : N = 0
        · subst n0
          have hF1 : Hid (pdF ds i () = if anyN (fun k => dnQ u (dtAt ds k)) i = true then .inr 7 else if mtE q = 0 then .inl () else .inr (mtE q)) := by unfold Hid; rw [hF.out, if_pos rfl]
          obtain ⟨Q, hQ⟩ : ∃ Q, mtE q = Q := ⟨_, rfl⟩
          have HQ := Lib.hid hQ
          rw [hQ] at hF1
          clear hF hQ
          obtain ⟨wo, hwo⟩ : ∃ wo, wo = wr := ⟨_, rfl⟩
          subst hwo
          have szo := HB.out.size
          go_wp2_with fail
          go_loopw [5] (fun j wr2 => ∃ m : Nat, m ≤ i ∧ j = .int .i64 m ∧ Hid (Below wo.heap.size wo wr2) ∧ Hid (anyN (fun k => dnQ u (dtAt ds k)) m = false)) (fun j _ => i - (intOf j).toNat)
          case atStart => exact ⟨0, Nat.zero_le _, rfl, Below.refl _ _, rfl⟩
          case round =>
            obtain ⟨m, hm, rfl, HB2, HA2⟩ := hrel
            have B2 : Hid (Below w.heap.size w wr) := HB.out.trans (HB2.out.mono szo)
            obtain ⟨b0, b1⟩ := (HCD.out.dts (by omega)).choose_spec.choose_spec.2.2 i hlt
            have g0r := cellB HB2.out g0 (lt_of_cell g0)
            have g1r := cellB HB2.out g1 (lt_of_cell g1)
            clear b0 b1
            by_cases hlm : m < i
            · obtain ⟨bd2, od2, e2, _, hdc2⟩ := HCD.out.dts (by omega)
              obtain ⟨rfl, rfl⟩ : bd = bd2 ∧ od = od2 := by simpa using e2
              obtain ⟨b0, _⟩ := hdc2 m (by omega)
              have p0 := cellB B2.out b0 hbd
              have hqq : Hid (dnQ u (dtAt ds m) = ((dtAt ds m).n.toList == u.toList)) := rfl
              obtain ⟨v, hv⟩ : ∃ v, (dtAt ds m).n = v := ⟨_, rfl⟩
              rw [hv] at p0 hqq
              clear hdc2 b0 hv e2 g0 g1
              cases hvu : (v.toList == u.toList) with
              | true =>
                rw [hvu] at hqq
                have e3 : Hid (E = 7) := by unfold Hid; rw [e.out, loopE_hit hL hlt (by rw [hF1.out, if_pos (anyN_true hlm hqq.out)])]; rfl
                go_wp2_with fail
                go_quiet (fail)
                go_wp2_with fail
                exact ret_i (HR.out _ (B2.out.trans ⟨rfl, rfl, rfl, Nat.le_refl _, fun _ _ => rfl⟩)) rfl e3.out
              | false =>
                rw [hvu] at hqq
                go_wp2_with fail
                go_quiet (fail)
                go_wp2_with fail
                exact ⟨⟨m + 1, by omega, by go_num, HB2.out.trans ⟨rfl, rfl, rfl, Nat.le_refl _, fun _ _ => rfl⟩, anyN_step HA2.out hqq.out⟩, by simp [intOf]; omega⟩
            · obtain rfl : m = i := by omega
              have hF2 : Hid (pdF ds m () = if Q = 0 then .inl () else .inr Q) := by unfold Hid; rw [hF1.out, if_neg (by rw [HA2.out]; simp)]
              clear g0 g1
              go_wp2_with fail
              refine rmaterial_any q _ _ ?_
              rw [HQ.out]
              by_cases q0 : Q = 0
              · subst q0
                have hstep := loopE_step hL hlt (by rw [hF2.out, if_pos rfl])
                go_wp2_with fail
                exact ⟨⟨m + 1, by omega, by go_num, B2.out, hstep⟩, by simp [intOf]; omega⟩
              · have K6 : (Q != 0) = true := by simpa using q0
                have e2 : Hid (E = Q) := by unfold Hid; rw [e.out, loopE_hit hL hlt (by rw [hF2.out, if_neg q0])]; rfl
                clear q0
                go_wp2_with fail
                exact ret_i (HR.out _ B2.out) rfl e2.out
        · have K6 : (N != 0) = true := by simpa using n0
          have e2 : Hid (E = N) := by unfold Hid; rw [e.out, loopE_hit hL hlt (by rw [hF.out, if_neg n0])]; rfl
          clear n0
          go_wp2_with fail
          exact ret_i (HR.out _ HB.out) rfl e2.out
      · obtain rfl : i = ds.length := by omega
        have e2 : Hid (E = 0) := by unfold Hid; rw [e.out, loopE_done hL hlt]; rfl
        go_wp2_with fail
        exact ret_i (HR.out _ HB.out) rfl e2.out
end Go.Proofs.YtciokmjhdbcmpaaGreatDoor
namespace Go.Proofs.YtciokmjhdbcmpaaGreatDoor
open Go.RowKit

set_option maxRecDepth 100000 in
set_option maxHeartbeats 4000000 in
theorem rplain_any (x : Fm) (da : Option Addr) (dc : Nat) (w : World) (R : Ending → World → Prop) (hok : FmOk w x da dc) (hR : ∀ w', Below w.heap.size w w' → R (.returned (.int .i64 (plE x))) w') :
    Calls Tryz.prog 16 #[fmV x da dc] w R := by
  have HR := Lib.hid hR
  have HO := Lib.hid hok
  have hdl := hok.len
  obtain ⟨k, d, t, m, ds⟩ := x
  have hE : Hid (plE ⟨k, d, t, m, ds⟩ = if k < 0 ∨ 9 ≤ k then 1 else if mtE m = 0 then (if t < 0 ∨ 100000 < t then 2 else plD ds) else mtE m) := rfl
  obtain ⟨E, hE0⟩ : ∃ E, plE ⟨k, d, t, m, ds⟩ = E := ⟨_, rfl⟩
  rw [hE0] at HR hE
  unfold fmV
  dsimp only at hdl ⊢
  obtain ⟨w1, E1, HB1, s1, X1⟩ := box_ex w #[.int .i64 k, .bool d, .int .i64 t, .int .i64 m, .slice da ds.length dc] 31
  have c0 := cell_at X1.out (j := 0) (v := .int .i64 k) rfl
  have c2 := cell_at X1.out (j := 2) (v := .int .i64 t) rfl
  have c3 := cell_at X1.out (j := 3) (v := .int .i64 m) rfl
  have c4 := cell_at X1.out (j := 4) (v := .slice da ds.length dc) rfl
  have HCD : Hid (CellsAt w1 da (dtC ds)) := HO.out.cells.below HB1.out
  have HDS : Hid (DtsOk ds) := HO.out.ok
  obtain ⟨M, hM⟩ : ∃ M, mtE m = M := ⟨_, rfl⟩
  have HM := Lib.hid hM
  rw [hM] at hE
  clear hR hok hE0 hM X1
  go_enter Tryz.func16, Tryz.ntmps16
  by_cases k1 : k < 0
  · have K1 : (k < 0) = True := eq_true k1
    have e : Hid (E = 1) := by unfold Hid; rw [hE.out, if_pos (.inl k1)]
    go_wp2_with (rw [E1])
    exact ret_i (HR.out _ HB1.out) rfl e.out
  by_cases k2 : 9 ≤ k
  · have K1 : (k < 0) = False := eq_false k1
    have K2 : (9 ≤ k) = True := eq_true k2
    have e : Hid (E = 1) := by unfold Hid; rw [hE.out, if_pos (.inr k2)]
    go_wp2_with (rw [E1])
    exact ret_i (HR.out _ HB1.out) rfl e.out
  have K1 : (k < 0) = False := eq_false k1
  have K2 : (9 ≤ k) = False := eq_false k2
  have hE1 : Hid (E = if M = 0 then (if t < 0 ∨ 100000 < t then 2 else plD ds) else M) := by unfold Hid; rw [hE.out, if_neg (by omega)]
  clear hE k1 k2
  go_wp2_with (rw [E1])
  refine rmaterial_any m _ _ ?_
  rw [HM.out]
  clear E1
  by_cases m0 : M = 0
  · subst m0
    by_cases t1 : t < 0
    · have K3 : (t < 0) = True := eq_true t1
      have e : Hid (E = 2) := by unfold Hid; rw [hE1.out, if_pos rfl, if_pos (.inl t1)]
      go_wp2_with fail
      exact ret_i (HR.out _ HB1.out) rfl e.out
    by_cases t2 : 100000 < t
    · have K3 : (t < 0) = False := eq_false t1
      have K4 : (100000 < t) = True := eq_true t2
      have e : Hid (E = 2) := by unfold Hid; rw [hE1.out, if_pos rfl, if_pos (.inr t2)]
      go_wp2_with fail
      exact ret_i (HR.out _ HB1.out) rfl e.out
    have K3 : (t < 0) = False := eq_false t1
    have K4 : (100000 < t) = False := eq_false t2
    have hE2 : Hid (plD ds = E) := by unfold Hid; rw [hE1.out, if_pos rfl, if_neg (by omega)]
    clear hE1 t1 t2
    go_wp2_with fail
    refine rdatums_any da ds dc _ _ hdl HCD.out HDS.out fun w2 hb => ?_
    rw [hE2.out]
    have B2 : Hid (Below w.heap.size w w2) := HB1.out.trans (hb.mono (Nat.le_of_lt s1))
    clear hb
    go_wp2_with fail
    exact HR.out _ B2.out
  · have K3 : (M != 0) = true := by simpa using m0
    have e : Hid (E = M) := by unfold Hid; rw [hE1.out, if_neg m0]
    clear m0
    go_wp2_with fail
    exact ret_i (HR.out _ HB1.out) rfl e.out
/-! ### the rows -/
structure Rw where
  wd : ByteArray
  on : ByteArray
  di : ByteArray
  le : Int
  mo : Int
  ma : Bool
def rwT : List Rw := [⟨⟨#[115, 116, 114, 97, 105, 103, 104, 116]⟩, ⟨#[104, 112]⟩, ⟨#[104, 112]⟩, 0, 0, true⟩, ⟨⟨#[102, 108, 97, 116]⟩, ⟨#[108, 115]⟩, ⟨#[]⟩, 0, 0, false⟩, ⟨⟨#[112, 97, 114, 97, 108, 108, 101, 108]⟩, ⟨#[108, 104, 112, 115]⟩, ⟨#[104, 112]⟩, 1, 2, true⟩,
  ⟨⟨#[115, 113, 117, 97, 114, 101]⟩, ⟨#[108, 104, 112, 115]⟩, ⟨#[104, 112]⟩, 1, 2, true⟩, ⟨⟨#[114, 111, 117, 110, 100]⟩, ⟨#[104, 112, 98]⟩, ⟨#[]⟩, 0, 0, false⟩, ⟨⟨#[115, 112, 104, 101, 114, 101]⟩, ⟨#[98]⟩, ⟨#[]⟩, 0, 0, false⟩, ⟨⟨#[112, 114, 111, 102, 105, 108, 101]⟩, ⟨#[108]⟩, ⟨#[]⟩, 0, 3, false⟩,
  ⟨⟨#[114, 117, 110, 111, 117, 116]⟩, ⟨#[108, 104, 112]⟩, ⟨#[]⟩, 1, 1, false⟩, ⟨⟨#[112, 111, 115, 105, 116, 105, 111, 110]⟩, ⟨#[108, 104, 112, 115, 98]⟩, ⟨#[104, 112, 98]⟩, 0, 3, true⟩]
def Rw.cells (r : Rw) : List Value := [.string r.wd, .string r.on, .string r.di, .int .i64 r.le, .int .i64 r.mo, .bool r.ma]
def rwAt (k : Nat) : Rw := rwT.getD k ⟨⟨#[]⟩, ⟨#[]⟩, ⟨#[]⟩, 0, 0, false⟩
def rwA : Array Value := (rwT.flatMap Rw.cells).toArray
def rwZ : Array Value := ((List.replicate 9 ([.string ⟨#[]⟩, .string ⟨#[]⟩, .string ⟨#[]⟩, .int .i64 0, .int .i64 0, .bool false] : List Value)).flatMap id).toArray
/-- A whole array is stored into the variable that was made last. -/
theorem wp_storeNew {P : Program} (w : World) {ops : Array Oper} {rest : List Oper} {o : Oper} {a : Act} {Q : Exit → Act → World → Prop} (T : TypeId) (p v : Operand) (c c' : Array Value)
    (hg : o.guard = none) (hop : o.op = Op.store T p v) (hp : a.eval p = .pointer (some ⟨w.heap.size, 0, none⟩)) (hv : a.eval v = .agg c') (hi : (P.info? T).map (·.size) = some c'.size) (ho : c.size = c'.size) (h1 : c'.all (·.oneCell') = true)
    (hK : wpList P ops Q rest (a.put o.dst undef) (w.alloc (.cells c' T))) : wpList P ops Q (o :: rest) a (w.alloc (.cells c T)) := by
  refine wpList_plain hg fun K' hK' => ?_
  have hrun := run_storeAt_new (P := P) w T c c' hi ho h1
  unfold Oper.wp
  simp [execOp, hop, hp, hv, hrun, Result.andThen]
  exact hK' _ _ hK
set_option maxRecDepth 100000 in
set_option maxHeartbeats 4000000 in
theorem rows_any (w : World) (R : Ending → World → Prop) (hR : ∀ w', Below w.heap.size w w' → R (.returned (.agg rwA)) w') :
    Calls Tryz.prog 40 #[] w R := by
  have HR := Lib.hid hR
  clear hR
  go_enter Tryz.func40, Tryz.ntmps40
  go_wp2_with (refine wp_storeNew w 81 (.tmp 0) (.tmp 10) _ rwA rfl rfl (by kernel_rfl) (by kernel_rfl) (by kernel_rfl) (by kernel_rfl) (by kernel_rfl) ?_)
  refine bodyPost_ret (v := .agg rwA) ?_ rfl (HR.out _ ((Below.refl _ w).alloc (Nat.le_refl _) _))
  exact results_cell_row (p := 0) (ty := 81) rfl _ _ w.heap.size 81 rwA (0, 0) _ rfl (heap_alloc_last w _) Tryz.underlying81 rfl (by kernel_rfl)
/-- The value of a row. -/
def rwV (r : Rw) : Value := .agg #[.string r.wd, .string r.on, .string r.di, .int .i64 r.le, .int .i64 r.mo, .bool r.ma]
theorem idx_rows0 (w : World) : (Instr.index 81 (.agg rwA) (.int .i64 0)).run Tryz.prog w = .ok (rwV (rwAt 0)) w := by kernel_rfl
theorem idx_rows1 (w : World) : (Instr.index 81 (.agg rwA) (.int .i64 1)).run Tryz.prog w = .ok (rwV (rwAt 1)) w := by kernel_rfl
theorem idx_rows2 (w : World) : (Instr.index 81 (.agg rwA) (.int .i64 2)).run Tryz.prog w = .ok (rwV (rwAt 2)) w := by kernel_rfl
theorem idx_rows3 (w : World) : (Instr.index 81 (.agg rwA) (.int .i64 3)).run Tryz.prog w = .ok (rwV (rwAt 3)) w := by kernel_rfl
theorem idx_rows4 (w : World) : (Instr.index 81 (.agg rwA) (.int .i64 4)).run Tryz.prog w = .ok (rwV (rwAt 4)) w := by kernel_rfl
theorem idx_rows5 (w : World) : (Instr.index 81 (.agg rwA) (.int .i64 5)).run Tryz.prog w = .ok (rwV (rwAt 5)) w := by kernel_rfl
theorem idx_rows6 (w : World) : (Instr.index 81 (.agg rwA) (.int .i64 6)).run Tryz.prog w = .ok (rwV (rwAt 6)) w := by kernel_rfl
theorem idx_rows7 (w : World) : (Instr.index 81 (.agg rwA) (.int .i64 7)).run Tryz.prog w = .ok (rwV (rwAt 7)) w := by kernel_rfl
theorem idx_rows8 (w : World) : (Instr.index 81 (.agg rwA) (.int .i64 8)).run Tryz.prog w = .ok (rwV (rwAt 8)) w := by kernel_rfl
theorem idx_rows (k : Nat) (hk : k < 9) (w : World) : (Instr.index 81 (.agg rwA) (.int .i64 k)).run Tryz.prog w = .ok (rwV (rwAt k)) w := by
  have h : k = 0 ∨ k = 1 ∨ k = 2 ∨ k = 3 ∨ k = 4 ∨ k = 5 ∨ k = 6 ∨ k = 7 ∨ k = 8 := by omega
  rcases h with rfl | rfl | rfl | rfl | rfl | rfl | rfl | rfl | rfl
  · exact idx_rows0 w
  · exact idx_rows1 w
  · exact idx_rows2 w
  · exact idx_rows3 w
  · exact idx_rows4 w
  · exact idx_rows5 w
  · exact idx_rows6 w
  · exact idx_rows7 w
  · exact idx_rows8 w
/-! ### the rows of the reference -/
structure Rr where
  wd : ByteArray
  fe : ByteArray
  le : Int
  mo : Int
  di : ByteArray
def rrT : List Rr := [⟨⟨#[115, 116, 114, 97, 105, 103, 104, 116]⟩, ⟨#[72, 73]⟩, 0, 0, ⟨#[72, 73]⟩⟩, ⟨⟨#[102, 108, 97, 116]⟩, ⟨#[80, 83]⟩, 0, 0, ⟨#[]⟩⟩, ⟨⟨#[112, 97, 114, 97, 108, 108, 101, 108]⟩, ⟨#[80, 72, 73, 83]⟩, 1, 2, ⟨#[72, 73]⟩⟩,
  ⟨⟨#[115, 113, 117, 97, 114, 101]⟩, ⟨#[80, 72, 73, 83]⟩, 1, 2, ⟨#[72, 73]⟩⟩, ⟨⟨#[114, 111, 117, 110, 100]⟩, ⟨#[72, 73, 66]⟩, 0, 0, ⟨#[]⟩⟩, ⟨⟨#[115, 112, 104, 101, 114, 101]⟩, ⟨#[66]⟩, 0, 0, ⟨#[]⟩⟩, ⟨⟨#[112, 114, 111, 102, 105, 108, 101]⟩, ⟨#[80]⟩, 0, 3, ⟨#[]⟩⟩,
  ⟨⟨#[114, 117, 110, 111, 117, 116]⟩, ⟨#[80, 72, 73]⟩, 1, 1, ⟨#[]⟩⟩, ⟨⟨#[112, 111, 115, 105, 116, 105, 111, 110]⟩, ⟨#[80, 72, 73, 83, 66]⟩, 0, 3, ⟨#[72, 73, 66]⟩⟩]
def Rr.cells (r : Rr) : List Value := [.string r.wd, .string r.fe, .int .i64 r.le, .int .i64 r.mo, .string r.di]
def rrAt (k : Nat) : Rr := rrT.getD k ⟨⟨#[]⟩, ⟨#[]⟩, 0, 0, ⟨#[]⟩⟩
def rrA : Array Value := (rrT.flatMap Rr.cells).toArray
set_option maxRecDepth 100000 in
set_option maxHeartbeats 4000000 in
theorem rrows_any (w : World) (R : Ending → World → Prop) (hR : ∀ w', Below w.heap.size w w' → w'.heap[w.heap.size]? = some (.cells rrA 124 (0, 0)) → R (.returned (.slice (some ⟨w.heap.size, 0, none⟩) 9 9)) w') :
    Calls Tryz.prog 83 #[] w R := by
  have HR := Lib.hid hR
  clear hR
  go_enter Tryz.func83, Tryz.ntmps83
  go_wp2_with fail
  exact HR.out _ ((Below.refl _ w).alloc (Nat.le_refl _) _) (World.alloc_heap_new w _)
end Go.Proofs.YtciokmjhdbcmpaaGreatDoor
namespace Go.Proofs.YtciokmjhdbcmpaaGreatDoor
open Go.RowKit

def ltr (kd : Nat) : Int := ([108, 104, 112, 115, 98] : List Int).getD kd 0
def ltR (kd : Nat) : Int := ([80, 72, 73, 83, 66] : List Int).getD kd 0
def isB (s : ByteArray) (kd : Nat) : Bool := decide (0 ≤ Lib.indexByte s.data.toList (ltr kd).toNat.toUInt8)
def hsB (s : ByteArray) (kd : Nat) : Bool := anyN (fun i => ((s.data.toList.getD i 0).toNat : Int) == ltR kd) s.size
theorem is_any (B kd : Nat) (hk : kd < 5) (s : ByteArray) (w : World) (R : Ending → World → Prop) (hc : w.cell? ⟨B, 1, none⟩ = some (.int .i64 kd)) (hR : R (.returned (.bool (isB s kd))) w) :
    Calls Tryz.prog 41 #[.string s, .pointer (some ⟨B, 0, none⟩)] w R := by
  have HR := Lib.hid hR
  clear hR
  have h5 : kd = 0 ∨ kd = 1 ∨ kd = 2 ∨ kd = 3 ∨ kd = 4 := by omega
  rcases h5 with rfl | rfl | rfl | rfl | rfl
  all_goals
    go_enter Tryz.func41, Tryz.ntmps41
    go_wp2_with fail
    refine (Tryz.strings_IndexByte s _ _).mono ?_
    rintro e w' ⟨rfl, rfl⟩
    go_wp2_with fail
    exact ret_b HR.out rfl (by unfold isB; first | rfl | simp)
set_option maxRecDepth 100000 in
set_option maxHeartbeats 8000000 in
theorem rhas_any (s : ByteArray) (kd : Nat) (hk : kd < 5) (hs : s.size ≤ 1000) (w : World) (R : Ending → World → Prop) (hR : ∀ w', Below w.heap.size w w' → R (.returned (.bool (hsB s kd))) w') :
    Calls Tryz.prog 84 #[.string s, .int .i64 kd] w R := by
  have HR := Lib.hid hR
  have hE : Hid (hsB s kd = anyN (fun i => ((s.data.toList.getD i 0).toNat : Int) == ltR kd) s.size) := rfl
  obtain ⟨E, hE0⟩ : ∃ E, hsB s kd = E := ⟨_, rfl⟩
  rw [hE0] at HR hE
  clear hR hE0
  have h5 : kd = 0 ∨ kd = 1 ∨ kd = 2 ∨ kd = 3 ∨ kd = 4 := by omega
  rcases h5 with rfl | rfl | rfl | rfl | rfl
  · show Calls Tryz.prog 84 #[.string s, .int .i64 0] w R
    go_enter Tryz.func84, Tryz.ntmps84
    go_wp2_with fail
    go_loopw [5] (fun j wr => ∃ i : Nat, i ≤ s.size ∧ j = .int .i64 i ∧ Hid (Below w.heap.size w wr) ∧ Hid (anyN (fun i => ((s.data.toList.getD i 0).toNat : Int) == ltR 0) i = false)) (fun j _ => s.size - (intOf j).toNat)
    case atStart => exact ⟨0, Nat.zero_le _, rfl, Below.refl _ _, rfl⟩
    case round =>
      obtain ⟨i, hi, rfl, HB, HA⟩ := hrel
      by_cases hlt : i < s.size
      · have hu : ((fun i => ((s.data.toList.getD i 0).toNat : Int) == ltR 0) i) = ((s[i].toNat : Int) == 80) := by dsimp only; rw [sAt hlt]; rfl
        have HU := Lib.hid hu
        clear hu
        cases hx : ((s[i].toNat : Int) == 80) with
        | true =>
          have e : Hid (E = true) := by unfold Hid; rw [hE.out]; exact anyN_true hlt (HU.out.trans hx)
          have hx2 : ((s[i].toNat : Int) == (((⟨#[80, 72, 73, 83, 66]⟩ : ByteArray)[0]'(by decide)).toNat : Int)) = true := hx
          go_wp2_with fail
          go_quiet (fail)
          go_wp2_with fail
          exact ret_b (HR.out _ (HB.out.trans ⟨rfl, rfl, rfl, Nat.le_refl _, fun _ _ => rfl⟩)) rfl e.out
        | false =>
          have hs' := anyN_step HA.out (HU.out.trans hx)
          have hx2 : ((s[i].toNat : Int) == (((⟨#[80, 72, 73, 83, 66]⟩ : ByteArray)[0]'(by decide)).toNat : Int)) = false := hx
          have HS' := Lib.hid hs'
          clear hs'
          go_wp2_with fail
          go_quiet (fail)
          go_wp2_with fail
          exact ⟨⟨i + 1, by omega, by go_num, HB.out.trans ⟨rfl, rfl, rfl, Nat.le_refl _, fun _ _ => rfl⟩, HS'.out⟩, by simp [intOf]; omega⟩
      · obtain rfl : i = s.size := by omega
        have e : Hid (E = false) := by unfold Hid; rw [hE.out]; exact HA.out
        go_wp2_with fail
        exact ret_b (HR.out _ HB.out) rfl e.out
  · show Calls Tryz.prog 84 #[.string s, .int .i64 1] w R
    go_enter Tryz.func84, Tryz.ntmps84
    go_wp2_with fail
    go_loopw [5] (fun j wr => ∃ i : Nat, i ≤ s.size ∧ j = .int .i64 i ∧ Hid (Below w.heap.size w wr) ∧ Hid (anyN (fun i => ((s.data.toList.getD i 0).toNat : Int) == ltR 1) i = false)) (fun j _ => s.size - (intOf j).toNat)
    case atStart => exact ⟨0, Nat.zero_le _, rfl, Below.refl _ _, rfl⟩
    case round =>
      obtain ⟨i, hi, rfl, HB, HA⟩ := hrel
      by_cases hlt : i < s.size
      · have hu : ((fun i => ((s.data.toList.getD i 0).toNat : Int) == ltR 1) i) = ((s[i].toNat : Int) == 72) := by dsimp only; rw [sAt hlt]; rfl
        have HU := Lib.hid hu
        clear hu
        cases hx : ((s[i].toNat : Int) == 72) with
        | true =>
          have e : Hid (E = true) := by unfold Hid; rw [hE.out]; exact anyN_true hlt (HU.out.trans hx)
          have hx2 : ((s[i].toNat : Int) == (((⟨#[80, 72, 73, 83, 66]⟩ : ByteArray)[1]'(by decide)).toNat : Int)) = true := hx
          go_wp2_with fail
          go_quiet (fail)
          go_wp2_with fail
          exact ret_b (HR.out _ (HB.out.trans ⟨rfl, rfl, rfl, Nat.le_refl _, fun _ _ => rfl⟩)) rfl e.out
        | false =>
          have hs' := anyN_step HA.out (HU.out.trans hx)
          have hx2 : ((s[i].toNat : Int) == (((⟨#[80, 72, 73, 83, 66]⟩ : ByteArray)[1]'(by decide)).toNat : Int)) = false := hx
          have HS' := Lib.hid hs'
          clear hs'
          go_wp2_with fail
          go_quiet (fail)
          go_wp2_with fail
          exact ⟨⟨i + 1, by omega, by go_num, HB.out.trans ⟨rfl, rfl, rfl, Nat.le_refl _, fun _ _ => rfl⟩, HS'.out⟩, by simp [intOf]; omega⟩
      · obtain rfl : i = s.size := by omega
        have e : Hid (E = false) := by unfold Hid; rw [hE.out]; exact HA.out
        go_wp2_with fail
        exact ret_b (HR.out _ HB.out) rfl e.out
  · show Calls Tryz.prog 84 #[.string s, .int .i64 2] w R
    go_enter Tryz.func84, Tryz.ntmps84
    go_wp2_with fail
    go_loopw [5] (fun j wr => ∃ i : Nat, i ≤ s.size ∧ j = .int .i64 i ∧ Hid (Below w.heap.size w wr) ∧ Hid (anyN (fun i => ((s.data.toList.getD i 0).toNat : Int) == ltR 2) i = false)) (fun j _ => s.size - (intOf j).toNat)
    case atStart => exact ⟨0, Nat.zero_le _, rfl, Below.refl _ _, rfl⟩
    case round =>
      obtain ⟨i, hi, rfl, HB, HA⟩ := hrel
      by_cases hlt : i < s.size
      · have hu : ((fun i => ((s.data.toList.getD i 0).toNat : Int) == ltR 2) i) = ((s[i].toNat : Int) == 73) := by dsimp only; rw [sAt hlt]; rfl
        have HU := Lib.hid hu
        clear hu
        cases hx : ((s[i].toNat : Int) == 73) with
        | true =>
          have e : Hid (E = true) := by unfold Hid; rw [hE.out]; exact anyN_true hlt (HU.out.trans hx)
          have hx2 : ((s[i].toNat : Int) == (((⟨#[80, 72, 73, 83, 66]⟩ : ByteArray)[2]'(by decide)).toNat : Int)) = true := hx
          go_wp2_with fail
          go_quiet (fail)
          go_wp2_with fail
          exact ret_b (HR.out _ (HB.out.trans ⟨rfl, rfl, rfl, Nat.le_refl _, fun _ _ => rfl⟩)) rfl e.out
        | false =>
          have hs' := anyN_step HA.out (HU.out.trans hx)
          have hx2 : ((s[i].toNat : Int) == (((⟨#[80, 72, 73, 83, 66]⟩ : ByteArray)[2]'(by decide)).toNat : Int)) = false := hx
          have HS' := Lib.hid hs'
          clear hs'
          go_wp2_with fail
          go_quiet (fail)
          go_wp2_with fail
          exact ⟨⟨i + 1, by omega, by go_num, HB.out.trans ⟨rfl, rfl, rfl, Nat.le_refl _, fun _ _ => rfl⟩, HS'.out⟩, by simp [intOf]; omega⟩
      · obtain rfl : i = s.size := by omega
        have e : Hid (E = false) := by unfold Hid; rw [hE.out]; exact HA.out
        go_wp2_with fail
        exact ret_b (HR.out _ HB.out) rfl e.out
  · show Calls Tryz.prog 84 #[.string s, .int .i64 3] w R
    go_enter Tryz.func84, Tryz.ntmps84
    go_wp2_with fail
    go_loopw [5] (fun j wr => ∃ i : Nat, i ≤ s.size ∧ j = .int .i64 i ∧ Hid (Below w.heap.size w wr) ∧ Hid (anyN (fun i => ((s.data.toList.getD i 0).toNat : Int) == ltR 3) i = false)) (fun j _ => s.size - (intOf j).toNat)
    case atStart => exact ⟨0, Nat.zero_le _, rfl, Below.refl _ _, rfl⟩
    case round =>
      obtain ⟨i, hi, rfl, HB, HA⟩ := hrel
      by_cases hlt : i < s.size
      · have hu : ((fun i => ((s.data.toList.getD i 0).toNat : Int) == ltR 3) i) = ((s[i].toNat : Int) == 83) := by dsimp only; rw [sAt hlt]; rfl
        have HU := Lib.hid hu
        clear hu
        cases hx : ((s[i].toNat : Int) == 83) with
        | true =>
          have e : Hid (E = true) := by unfold Hid; rw [hE.out]; exact anyN_true hlt (HU.out.trans hx)
          have hx2 : ((s[i].toNat : Int) == (((⟨#[80, 72, 73, 83, 66]⟩ : ByteArray)[3]'(by decide)).toNat : Int)) = true := hx
          go_wp2_with fail
          go_quiet (fail)
          go_wp2_with fail
          exact ret_b (HR.out _ (HB.out.trans ⟨rfl, rfl, rfl, Nat.le_refl _, fun _ _ => rfl⟩)) rfl e.out
        | false =>
          have hs' := anyN_step HA.out (HU.out.trans hx)
          have hx2 : ((s[i].toNat : Int) == (((⟨#[80, 72, 73, 83, 66]⟩ : ByteArray)[3]'(by decide)).toNat : Int)) = false := hx
          have HS' := Lib.hid hs'
          clear hs'
          go_wp2_with fail
          go_quiet (fail)
          go_wp2_with fail
          exact ⟨⟨i + 1, by omega, by go_num, HB.out.trans ⟨rfl, rfl, rfl, Nat.le_refl _, fun _ _ => rfl⟩, HS'.out⟩, by simp [intOf]; omega⟩
      · obtain rfl : i = s.size := by omega
        have e : Hid (E = false) := by unfold Hid; rw [hE.out]; exact HA.out
        go_wp2_with fail
        exact ret_b (HR.out _ HB.out) rfl e.out
  · show Calls Tryz.prog 84 #[.string s, .int .i64 4] w R
    go_enter Tryz.func84, Tryz.ntmps84
    go_wp2_with fail
    go_loopw [5] (fun j wr => ∃ i : Nat, i ≤ s.size ∧ j = .int .i64 i ∧ Hid (Below w.heap.size w wr) ∧ Hid (anyN (fun i => ((s.data.toList.getD i 0).toNat : Int) == ltR 4) i = false)) (fun j _ => s.size - (intOf j).toNat)
    case atStart => exact ⟨0, Nat.zero_le _, rfl, Below.refl _ _, rfl⟩
    case round =>
      obtain ⟨i, hi, rfl, HB, HA⟩ := hrel
      by_cases hlt : i < s.size
      · have hu : ((fun i => ((s.data.toList.getD i 0).toNat : Int) == ltR 4) i) = ((s[i].toNat : Int) == 66) := by dsimp only; rw [sAt hlt]; rfl
        have HU := Lib.hid hu
        clear hu
        cases hx : ((s[i].toNat : Int) == 66) with
        | true =>
          have e : Hid (E = true) := by unfold Hid; rw [hE.out]; exact anyN_true hlt (HU.out.trans hx)
          have hx2 : ((s[i].toNat : Int) == (((⟨#[80, 72, 73, 83, 66]⟩ : ByteArray)[4]'(by decide)).toNat : Int)) = true := hx
          go_wp2_with fail
          go_quiet (fail)
          go_wp2_with fail
          exact ret_b (HR.out _ (HB.out.trans ⟨rfl, rfl, rfl, Nat.le_refl _, fun _ _ => rfl⟩)) rfl e.out
        | false =>
          have hs' := anyN_step HA.out (HU.out.trans hx)
          have hx2 : ((s[i].toNat : Int) == (((⟨#[80, 72, 73, 83, 66]⟩ : ByteArray)[4]'(by decide)).toNat : Int)) = false := hx
          have HS' := Lib.hid hs'
          clear hs'
          go_wp2_with fail
          go_quiet (fail)
          go_wp2_with fail
          exact ⟨⟨i + 1, by omega, by go_num, HB.out.trans ⟨rfl, rfl, rfl, Nat.le_refl _, fun _ _ => rfl⟩, HS'.out⟩, by simp [intOf]; omega⟩
      · obtain rfl : i = s.size := by omega
        have e : Hid (E = false) := by unfold Hid; rw [hE.out]; exact HA.out
        go_wp2_with fail
        exact ret_b (HR.out _ HB.out) rfl e.out
theorem tabs_on : ∀ k, k < 9 → ∀ kd, kd < 5 → hsB (rrAt k).fe kd = isB (rwAt k).on kd ∧ hsB (rrAt k).di kd = isB (rwAt k).di kd ∧ (rrAt k).le = (rwAt k).le ∧ (rrAt k).mo = (rwAt k).mo := by decide +kernel
end Go.Proofs.YtciokmjhdbcmpaaGreatDoor
namespace Go.Proofs.YtciokmjhdbcmpaaGreatDoor
open Go.RowKit

/-- The kinds with a material condition. -/
def mmB (kd k : Nat) : Bool := kd != 0 && (k == 0 || k == 2 || k == 3 || k == 8)
theorem tabs_ma : ∀ k, k < 9 → ∀ kd, kd < 5 → mmB kd k = ((rwAt k).ma && kd != 0) := by decide
/-- What is permitted. -/
def pmE (kd k : Nat) (d : Bool) (t m : Int) (n : Nat) : Int :=
  if isB (rwAt k).on kd = true then
    if d = true ∧ isB (rwAt k).di kd = false then 3
    else if t = 0 ∧ m ≠ 1 then 10
    else if m ≠ 0 ∧ mmB kd k = false then 3
    else if (n : Int) < (rwAt k).le then 13
    else if (rwAt k).mo < (n : Int) then 5
    else 0
  else 14
/-- The error of a frame of a feature. -/
def fcE (f : Ft) (x : Fm) : Int :=
  if ftE f = 0 then
    if plE x = 0 then
      if pmE f.k.toNat x.k.toNat x.d x.t x.m x.ds.length = 0 then
        if anyN (fun i => dnQ f.n (dtAt x.ds i)) x.ds.length = true then 7 else 0
      else pmE f.k.toNat x.k.toNat x.d x.t x.m x.ds.length
    else plE x
  else ftE f
theorem ftE_kind {f : Ft} (h : ftE f = 0) : 0 ≤ f.k ∧ f.k < 5 := by
  unfold ftE at h
  split at h
  · split at h
    · omega
    · rename_i h1; omega
  · rename_i h1; exact absurd h h1
theorem plE_kind {x : Fm} (h : plE x = 0) : 0 ≤ x.k ∧ x.k < 9 := by
  unfold plE at h
  split at h
  · omega
  · rename_i h1; omega
theorem plE_few {x : Fm} (h : plE x = 0) : x.ds.length ≤ 3 := by
  unfold plE at h
  split at h
  · omega
  · split at h
    · split at h
      · omega
      · unfold plD at h
        split at h
        · omega
        · omega
    · rename_i h1; exact absurd h h1
set_option maxRecDepth 100000 in
set_option maxHeartbeats 4000000 in
theorem rmm_any (f : Ft) (fo : Option Addr) (fc kd k : Nat) (hkd : f.k = kd) (w : World) (R : Ending → World → Prop) (hR : ∀ w', Below w.heap.size w w' → R (.returned (.bool (mmB kd k))) w') :
    Calls Tryz.prog 85 #[ftV f fo fc, .int .i64 k] w R := by
  have HR := Lib.hid hR
  obtain ⟨n, k0, a, x, y, z, l, h, fs⟩ := f
  obtain ⟨fn, hfn⟩ : ∃ fn, fs.length = fn := ⟨_, rfl⟩
  unfold ftV
  dsimp only at hkd ⊢
  subst hkd
  rw [hfn]
  obtain ⟨w1, E1, HB1, s1, X1⟩ := box_ex w #[.string n, .int .i64 kd, .int .i64 a, .int .i64 x, .int .i64 y, .int .i64 z, .int .i64 l, .int .i64 h, .slice fo fn fc] 28
  have c1 := cell_at X1.out (j := 1) (v := .int .i64 kd) rfl
  have hE : Hid (mmB kd k = (kd != 0 && (k == 0 || k == 2 || k == 3 || k == 8))) := rfl
  obtain ⟨E, hE0⟩ : ∃ E, mmB kd k = E := ⟨_, rfl⟩
  rw [hE0] at HR hE
  clear hR hfn X1 hE0
  by_cases h0 : kd = 0
  · have K0 : ((kd : Int) == 0) = true := by rw [h0]; rfl
    have K0' : ((kd : Int) != 0) = false := by rw [h0]; rfl
    have e : Hid (E = false) := by unfold Hid; rw [hE.out, h0]; rfl
    clear h0
    go_enter Tryz.func85, Tryz.ntmps85
    go_wp2_with (rw [E1])
    exact ret_b (HR.out _ HB1.out) rfl e.out
  · have K0 : ((kd : Int) == 0) = false := by rw [beq_eq_false_iff_ne]; omega
    have K0' : ((kd : Int) != 0) = true := by rw [bne_iff_ne]; omega
    have hkb : (kd != 0) = true := by simpa using h0
    rw [hkb] at hE
    clear h0 hkb
    by_cases h1 : k = 0
    · subst h1
      have e : Hid (E = true) := hE.out
      go_enter Tryz.func85, Tryz.ntmps85
      go_wp2_with (rw [E1])
      exact ret_b (HR.out _ HB1.out) rfl e.out
    · have K1 : ((k : Int) == 0) = false := by rw [beq_eq_false_iff_ne]; omega
      by_cases h2 : k = 2
      · subst h2
        have e : Hid (E = true) := hE.out
        go_enter Tryz.func85, Tryz.ntmps85
        go_wp2_with (rw [E1])
        exact ret_b (HR.out _ HB1.out) rfl e.out
      · have K2 : ((k : Int) == 2) = false := by rw [beq_eq_false_iff_ne]; omega
        by_cases h3 : k = 3
        · subst h3
          have e : Hid (E = true) := hE.out
          go_enter Tryz.func85, Tryz.ntmps85
          go_wp2_with (rw [E1])
          exact ret_b (HR.out _ HB1.out) rfl e.out
        · have K3 : ((k : Int) == 3) = false := by rw [beq_eq_false_iff_ne]; omega
          by_cases h8 : k = 8
          · subst h8
            have e : Hid (E = true) := hE.out
            go_enter Tryz.func85, Tryz.ntmps85
            go_wp2_with (rw [E1])
            exact ret_b (HR.out _ HB1.out) rfl e.out
          · have K8 : ((k : Int) == 8) = false := by rw [beq_eq_false_iff_ne]; omega
            have e : Hid (E = false) := by
              unfold Hid
              rw [hE.out]
              simp [h1, h2, h3, h8]
            go_enter Tryz.func85, Tryz.ntmps85
            go_wp2_with (rw [E1])
            exact ret_b (HR.out _ HB1.out) rfl e.out
end Go.Proofs.YtciokmjhdbcmpaaGreatDoor
