/- The walk of awake: the examples of the chapter hold. (Printed by gen_awake53.py.) -/
import Derived.Test.YtfamennpajjajaaRah
import Derived.Test.YtfamennpajjajaaRai
import Derived.Test.YtfamennpajjajaaRac
namespace Go.Proofs.Ytfamennpajjajaa
open Go.RowKit Go.Maps

def sev : List Ev := [⟨0, ⟨#[103]⟩, ⟨#[112, 49]⟩, ⟨#[88]⟩⟩, ⟨0, ⟨#[104]⟩, ⟨#[112, 50]⟩, ⟨#[88]⟩⟩, ⟨1, ⟨#[103]⟩, ⟨#[]⟩, ⟨#[]⟩⟩, ⟨0, ⟨#[103]⟩, ⟨#[112, 49]⟩, ⟨#[88]⟩⟩, ⟨0, ⟨#[103]⟩, ⟨#[112, 51]⟩, ⟨#[89]⟩⟩, ⟨2, ⟨#[103]⟩, ⟨#[]⟩, ⟨#[]⟩⟩, ⟨2, ⟨#[104]⟩, ⟨#[]⟩, ⟨#[]⟩⟩]
def six : List Ev := [⟨0, ⟨#[103]⟩, ⟨#[112, 49]⟩, ⟨#[88]⟩⟩, ⟨0, ⟨#[104]⟩, ⟨#[112, 50]⟩, ⟨#[88]⟩⟩, ⟨1, ⟨#[103]⟩, ⟨#[]⟩, ⟨#[]⟩⟩, ⟨0, ⟨#[103]⟩, ⟨#[112, 49]⟩, ⟨#[88]⟩⟩, ⟨0, ⟨#[103]⟩, ⟨#[112, 51]⟩, ⟨#[89]⟩⟩, ⟨2, ⟨#[103]⟩, ⟨#[]⟩, ⟨#[]⟩⟩]
theorem small_ok {vs : List Ev} (h : vs.all (fun v => decide (v.g.size ≤ 60) && (decide (v.p.size ≤ 60) && decide (v.t.size ≤ 60))) = true) : LogOk vs := by
  intro i hi
  rw [List.all_eq_true] at h
  have h1 := h (eAt vs i) (by rw [eAt_lt hi]; exact List.getElem_mem _)
  simp only [Bool.and_eq_true, decide_eq_true_eq] at h1
  exact ⟨by omega, by omega, by omega⟩
theorem sev_ok : LogOk sev := small_ok (by decide +kernel)
theorem six_ok : LogOk six := small_ok (by decide +kernel)
theorem sev_chk : chk3 sev = 0 := by decide +kernel
theorem six_chk : chk3 six = 0 := by decide +kernel
theorem sev_st : stL sev = [2, 3, 0, 3, 3, 0, 0] := by decide +kernel
theorem six_st : stL six = [2, 1, 0, 3, 3, 0] := by decide +kernel
theorem sev_all : allL sev = [⟨#[112, 50]⟩, ⟨#[112, 51]⟩] := by kernel_rfl
theorem sev_lot : lotL sev = [⟨#[88]⟩, ⟨#[89]⟩] := by kernel_rfl
theorem six_uns : unsL six = [⟨#[104]⟩] := by kernel_rfl
theorem six_risk : riskL six ⟨#[104]⟩ = [⟨#[112, 50]⟩] := by kernel_rfl
theorem nm_3 : nmE ⟨#[112, 51]⟩ = 0 := by decide +kernel
theorem nm_1 : nmE ⟨#[112, 49]⟩ = 0 := by decide +kernel
theorem nm_h : nmE ⟨#[104]⟩ = 0 := by decide +kernel
theorem lit_cells (w : World) (cs : Array Value) (e : TypeId) (l : List Value) (h : cs.toList = l) : CellsAt (w.alloc (.cells cs e)) (some ⟨w.heap.size, 0, none⟩) l := by
  subst h
  intro h0
  refine ⟨_, 0, rfl, by simp, fun j hj => ?_⟩
  have hj' : j < cs.size := by simpa using hj
  rw [Nat.zero_add, World.cell?_alloc_new, List.getD_eq_getElem?_getD]
  simp [hj']
theorem cells_take {w : World} {ao : Option Addr} {a b : List Value} (h : CellsAt w ao (a ++ b)) : CellsAt w ao a := by
  intro h0
  obtain ⟨x, y, e, hl, hc⟩ := h (by rw [List.length_append]; omega)
  refine ⟨x, y, e, hl, fun j hj => ?_⟩
  rw [hc j (by rw [List.length_append]; omega), List.getD_eq_getElem?_getD, List.getElem?_append_left hj, List.getD_eq_getElem?_getD]
theorem seven_any (w : World) (R : Ending → World → Prop) (hR : ∀ b w', Below w.heap.size w w' → CellsAt w' (some ⟨b, 0, none⟩) (eC sev) → R (.returned (.slice (some ⟨b, 0, none⟩) 7 7)) w') :
    Calls Try.prog 37 #[] w R := by
  have HR := Lib.hid hR
  clear hR
  go_enter Try.func37, Try.ntmps37
  go_wp2_with fail
  exact HR.out _ _ ((Below.refl _ _).alloc (Nat.le_refl _) _) (lit_cells w _ _ _ rfl)
theorem states53At (ao : Option Addr) (vs : List Ev) (n c : Nat) (L : List Int) (w : World) (R : Ending → World → Prop) (hn : vs.length = n) (hl : n ≤ 1000) (hE : chk3 vs = 0) (hL : stL vs = L) (hc : CellsAt w ao (eC vs)) (hv : LogOk vs)
   (hR : ∀ ao' c' w', Below w.heap.size w w' → CellsAt w' ao' (I64s L) → R (.returned (.tuple #[.slice ao' n c', .int .i64 0])) w') :
    Calls Try.prog 11 #[.slice ao n c] w R := by
  subst hn hL
  exact states53_any ao vs c w R (by omega) hc hv (fun h => absurd hE h) (fun _ g w' hb _ hk => hR _ _ _ hb hk)
theorem parts53At (ao : Option Addr) (vs : List Ev) (n m c : Nat) (L : List ByteArray) (w : World) (R : Ending → World → Prop) (hn : vs.length = n) (hl : n ≤ 1000) (hE : chk3 vs = 0) (hL : allL vs = L) (hm : L.length = m) (hc : CellsAt w ao (eC vs)) (hv : LogOk vs)
   (hR : ∀ ao' c' w', Below w.heap.size w w' → CellsAt w' ao' (sC L) → R (.returned (.tuple #[.slice ao' m c', .int .i64 0])) w') :
    Calls Try.prog 14 #[.slice ao n c] w R := by
  subst hn hL hm
  refine parts53_any ao vs c w R (by omega) hc hv (fun h => absurd hE h) (fun _ ks a' c' w' hb hs hk => ?_)
  obtain rfl := parts_eq hs
  exact hR a' c' w' hb hk
theorem lots53At (ao : Option Addr) (vs : List Ev) (n m c : Nat) (L : List ByteArray) (w : World) (R : Ending → World → Prop) (hn : vs.length = n) (hl : n ≤ 1000) (hE : chk3 vs = 0) (hL : lotL vs = L) (hm : L.length = m) (hc : CellsAt w ao (eC vs)) (hv : LogOk vs)
   (hR : ∀ ao' c' w', Below w.heap.size w w' → CellsAt w' ao' (sC L) → R (.returned (.tuple #[.slice ao' m c', .int .i64 0])) w') :
    Calls Try.prog 20 #[.slice ao n c] w R := by
  subst hn hL hm
  refine lots53_any ao vs c w R (by omega) hc hv (fun h => absurd hE h) (fun _ ks a' c' w' hb hs hk => ?_)
  obtain rfl := lots_eq hs
  exact hR a' c' w' hb hk
theorem unsure53At (ao : Option Addr) (vs : List Ev) (n m c : Nat) (L : List ByteArray) (w : World) (R : Ending → World → Prop) (hn : vs.length = n) (hl : n ≤ 1000) (hE : chk3 vs = 0) (hL : unsL vs = L) (hm : L.length = m) (hc : CellsAt w ao (eC vs)) (hv : LogOk vs)
   (hR : ∀ ao' c' w', Below w.heap.size w w' → CellsAt w' ao' (sC L) → R (.returned (.tuple #[.slice ao' m c', .int .i64 0])) w') :
    Calls Try.prog 22 #[.slice ao n c] w R := by
  subst hn hL hm
  refine unsure53_any ao vs c w R (by omega) hc hv (fun h => absurd hE h) (fun _ ks a' c' w' hb hs hk => ?_)
  obtain rfl := unsure_eq hs
  exact hR a' c' w' hb hk
theorem atRisk53At (ao : Option Addr) (vs : List Ev) (n m c : Nat) (g : ByteArray) (L : List ByteArray) (w : World) (R : Ending → World → Prop) (hn : vs.length = n) (hl : n ≤ 1000) (hg : g.size ≤ 60) (hE : chk3 vs = 0) (hE2 : nmE g = 0) (hL : riskL vs g = L) (hm : L.length = m) (hc : CellsAt w ao (eC vs)) (hv : LogOk vs)
   (hR : ∀ ao' c' w', Below w.heap.size w w' → CellsAt w' ao' (sC L) → R (.returned (.tuple #[.slice ao' m c', .int .i64 0])) w') :
    Calls Try.prog 26 #[.slice ao n c, .string g] w R := by
  subst hn hL hm
  refine atRisk53_any ao vs c g w R (by omega) (by omega) hc hv (fun h => absurd hE h) (fun _ h => absurd hE2 h) (fun _ _ ks a' c' w' hb hs hk => ?_)
  obtain rfl := risk_eq hs
  exact hR a' c' w' hb hk
theorem rea_eq (vs : List Ev) (p : ByteArray) : idxQ (reaQ vs p) vs.length 0 = frs vs p 3 := by
  have hq : reaQ vs p = fsQ p 3 vs := by
    funext i
    unfold reaQ fsQ
    by_cases h : stt vs i = 3
    · have h0 := stt_k (vs := vs) (i := i) (by omega)
      rw [h, h0]; simp
    · have : (stt vs i == 3) = false := by simpa using h
      rw [this, Bool.and_false, Bool.and_false]
  have e : ∀ d k, idxQ (fsQ p 3 vs) d k = fsS p 3 vs d k := by
    intro d
    induction d with
    | zero => intro k; rfl
    | succ d ih => intro k; rw [idxQ, fsS, ih]
  rw [hq, e]; rfl
/-- A recalled part's first suspect measurement. -/
theorem rea_hit {vs : List Ev} {p : ByteArray} (h : rcl vs p = true) : ∃ j : Nat, frs vs p 3 = j ∧ j < vs.length ∧ (eAt vs j).p = p ∧ stt vs j = 3 := by
  have h1 := ((rcl_iff vs p).1 h).1
  rw [← frs_iff] at h1
  rcases fsS_cases p 3 vs vs.length 0 with h2 | ⟨j, h2, _, h4, h5⟩
  · unfold frs at h1; omega
  · unfold fsQ at h5
    rw [Bool.and_eq_true, sameB_iff, beq_iff_eq] at h5
    exact ⟨j, h2, by omega, h5.1, h5.2⟩
theorem rea_m {vs : List Ev} {p : ByteArray} (h : rcl vs p = true) : mOf (idxQ (reaQ vs p) vs.length 0) = frs vs p 3 ∧ cOf vs (idxQ (reaQ vs p) vs.length 0) = nx vs (frs vs p 3).toNat := by
  obtain ⟨j, h1, h2, h3, h4⟩ := rea_hit h
  rw [rea_eq, h1]
  unfold mOf cOf
  rw [if_neg (by omega), if_neg (by omega), Int.toNat_natCast]
  refine ⟨rfl, ?_⟩
  unfold atN
  rw [if_pos (stt_k (by omega))]
theorem reason53At (ao : Option Addr) (vs : List Ev) (n c : Nat) (p : ByteArray) (a b E : Int) (w : World) (R : Ending → World → Prop) (hn : vs.length = n) (hl : n ≤ 1000) (hp : p.size ≤ 60) (hE : chk3 vs = 0) (hE2 : nmE p = 0) (hm : anyTo (msQ p) vs vs.length = true)
   (hk : (rcl vs p = true ∧ frs vs p 3 = a ∧ nx vs (frs vs p 3).toNat = b ∧ E = 0) ∨ (rcl vs p = false ∧ a = 0 ∧ b = 0 ∧ E = 14)) (hc : CellsAt w ao (eC vs)) (hv : LogOk vs)
   (hR : ∀ w', Below w.heap.size w w' → R (.returned (.tuple #[.int .i64 a, .int .i64 b, .int .i64 E])) w') :
    Calls Try.prog 24 #[.slice ao n c, .string p] w R := by
  subst hn
  refine reason53_any ao vs c p w R (by omega) (by omega) hc hv (fun h => absurd hE h) (fun _ h => absurd hE2 h) (fun _ _ h => by rw [ms_eq, hm] at h; cases h) (fun _ _ _ h => ?_) (fun _ _ _ h => ?_)
  · rw [kpR] at h
    rcases hk with ⟨h1, _⟩ | ⟨_, rfl, rfl, rfl⟩
    · rw [h] at h1; cases h1
    · exact hR
  · rw [kpR] at h
    rcases hk with ⟨_, rfl, rfl, rfl⟩ | ⟨h1, _⟩
    · rw [(rea_m h).1, (rea_m h).2]; exact hR
    · rw [h] at h1; cases h1

set_option maxRecDepth 100000 in
set_option maxHeartbeats 4000000 in
theorem awake53_any (w : World) (R : Ending → World → Prop) (hR : ∀ w', Below w.heap.size w w' → R (.returned (.bool true)) w') : Calls Try.prog 10 #[] w R := by
  have HR := Lib.hid hR
  clear hR
  go_enter Try.func10, Try.ntmps10
  have HB0 : Hid (Below w.heap.size w w) := Below.refl _ _
  go_wp2_with fail
  refine seven_any _ _ ?_
  intro s1 v1 hb hc
  have U1 := Lib.hid hb
  have HV1 : Hid (Below w.heap.size w v1) := HB0.out.trans (hb.mono HB0.out.size)
  have HS1 := Lib.hid hc
  clear hb hc
  go_wp2_with fail
  refine states53At _ sev 7 7 [2, 3, 0, 3, 3, 0, 0] _ _ rfl (by omega) sev_chk sev_st HS1.out sev_ok ?_
  intro a1 c1 w1 hb hc
  have T1 : Hid (Below w.heap.size w w1) := U1.out.trans (hb.mono U1.out.size)
  have HB1 : Hid (Below w.heap.size w w1) := HV1.out.trans (hb.mono HV1.out.size)
  have HC1 := Lib.hid hc
  clear hb hc
  go_wp2_with fail
  refine seven_any _ _ ?_
  intro s2 v2 hb hc
  have U2 := Lib.hid hb
  have HV2 : Hid (Below w.heap.size w v2) := HB1.out.trans (hb.mono HB1.out.size)
  have HS2 := Lib.hid hc
  clear hb hc
  go_wp2_with fail
  refine parts53At _ sev 7 2 7 [⟨#[112, 50]⟩, ⟨#[112, 51]⟩] _ _ rfl (by omega) sev_chk sev_all rfl HS2.out sev_ok ?_
  intro a2 c2 w2 hb hc
  have T2 : Hid (Below w1.heap.size w1 w2) := U2.out.trans (hb.mono U2.out.size)
  have HB2 : Hid (Below w.heap.size w w2) := HV2.out.trans (hb.mono HV2.out.size)
  have HC2 := Lib.hid hc
  clear hb hc
  go_wp2_with fail
  refine seven_any _ _ ?_
  intro s3 v3 hb hc
  have U3 := Lib.hid hb
  have HV3 : Hid (Below w.heap.size w v3) := HB2.out.trans (hb.mono HB2.out.size)
  have HS3 := Lib.hid hc
  clear hb hc
  go_wp2_with fail
  refine lots53At _ sev 7 2 7 [⟨#[88]⟩, ⟨#[89]⟩] _ _ rfl (by omega) sev_chk sev_lot rfl HS3.out sev_ok ?_
  intro a3 c3 w3 hb hc
  have T3 : Hid (Below w2.heap.size w2 w3) := U3.out.trans (hb.mono U3.out.size)
  have HB3 : Hid (Below w.heap.size w w3) := HV3.out.trans (hb.mono HV3.out.size)
  have HC3 := Lib.hid hc
  clear hb hc
  go_wp2_with fail
  refine seven_any _ _ ?_
  intro s4 v4 hb hc
  have U4 := Lib.hid hb
  have HV4 : Hid (Below w.heap.size w v4) := HB3.out.trans (hb.mono HB3.out.size)
  have HS4 := Lib.hid hc
  clear hb hc
  go_wp2_with fail
  refine reason53At _ sev 7 7 ⟨#[112, 51]⟩ 4 5 0 _ _ rfl (by omega) (by decide) sev_chk nm_3 (by decide +kernel) (.inl ⟨by decide +kernel, by decide +kernel, by decide +kernel, rfl⟩) HS4.out sev_ok ?_
  intro w4 hb
  have T4 : Hid (Below w3.heap.size w3 w4) := U4.out.trans (hb.mono U4.out.size)
  have HB4 : Hid (Below w.heap.size w w4) := HV4.out.trans (hb.mono HV4.out.size)
  clear hb
  go_wp2_with fail
  refine seven_any _ _ ?_
  intro s5 v5 hb hc
  have U5 := Lib.hid hb
  have HV5 : Hid (Below w.heap.size w v5) := HB4.out.trans (hb.mono HB4.out.size)
  have HS5 := Lib.hid hc
  clear hb hc
  go_wp2_with fail
  refine reason53At _ sev 7 7 ⟨#[112, 49]⟩ 0 0 14 _ _ rfl (by omega) (by decide) sev_chk nm_1 (by decide +kernel) (.inr ⟨by decide +kernel, rfl, rfl, rfl⟩) HS5.out sev_ok ?_
  intro w5 hb
  have T5 : Hid (Below w4.heap.size w4 w5) := U5.out.trans (hb.mono U5.out.size)
  have HB5 : Hid (Below w.heap.size w w5) := HV5.out.trans (hb.mono HV5.out.size)
  clear hb
  go_wp2_with fail
  refine seven_any _ _ ?_
  intro s6 v6 hb hc
  have U6 := Lib.hid hb
  have HV6 : Hid (Below w.heap.size w v6) := HB5.out.trans (hb.mono HB5.out.size)
  have HS6 : Hid (CellsAt v6 (some ⟨s6, 0, none⟩) (eC six)) := cells_take (b := eC (sev.drop 6)) hc
  clear hb hc
  go_wp2_with fail
  refine states53At _ six 6 7 [2, 1, 0, 3, 3, 0] _ _ rfl (by omega) six_chk six_st HS6.out six_ok ?_
  intro a6 c6 w6 hb hc
  have T6 : Hid (Below w5.heap.size w5 w6) := U6.out.trans (hb.mono U6.out.size)
  have HB6 : Hid (Below w.heap.size w w6) := HV6.out.trans (hb.mono HV6.out.size)
  have HC6 := Lib.hid hc
  clear hb hc
  go_wp2_with fail
  refine seven_any _ _ ?_
  intro s7 v7 hb hc
  have U7 := Lib.hid hb
  have HV7 : Hid (Below w.heap.size w v7) := HB6.out.trans (hb.mono HB6.out.size)
  have HS7 : Hid (CellsAt v7 (some ⟨s7, 0, none⟩) (eC six)) := cells_take (b := eC (sev.drop 6)) hc
  clear hb hc
  go_wp2_with fail
  refine unsure53At _ six 6 1 7 [⟨#[104]⟩] _ _ rfl (by omega) six_chk six_uns rfl HS7.out six_ok ?_
  intro a7 c7 w7 hb hc
  have T7 : Hid (Below w6.heap.size w6 w7) := U7.out.trans (hb.mono U7.out.size)
  have HB7 : Hid (Below w.heap.size w w7) := HV7.out.trans (hb.mono HV7.out.size)
  have HC7 := Lib.hid hc
  clear hb hc
  go_wp2_with fail
  refine seven_any _ _ ?_
  intro s8 v8 hb hc
  have U8 := Lib.hid hb
  have HV8 : Hid (Below w.heap.size w v8) := HB7.out.trans (hb.mono HB7.out.size)
  have HS8 : Hid (CellsAt v8 (some ⟨s8, 0, none⟩) (eC six)) := cells_take (b := eC (sev.drop 6)) hc
  clear hb hc
  go_wp2_with fail
  refine atRisk53At _ six 6 1 7 ⟨#[104]⟩ [⟨#[112, 50]⟩] _ _ rfl (by omega) (by decide) six_chk nm_h six_risk rfl HS8.out six_ok ?_
  intro a8 c8 w8 hb hc
  have T8 : Hid (Below w7.heap.size w7 w8) := U8.out.trans (hb.mono U8.out.size)
  have HB8 : Hid (Below w.heap.size w w8) := HV8.out.trans (hb.mono HV8.out.size)
  have HC8 := Lib.hid hc
  clear hb hc

  have D1 : Hid (CellsAt w8 a1 _) := HC1.out.below ((((((T2.out.trans (T3.out.mono T2.out.size)).trans (T4.out.mono (T2.out.trans (T3.out.mono T2.out.size)).size)).trans (T5.out.mono ((T2.out.trans (T3.out.mono T2.out.size)).trans (T4.out.mono (T2.out.trans (T3.out.mono T2.out.size)).size)).size)).trans (T6.out.mono (((T2.out.trans (T3.out.mono T2.out.size)).trans (T4.out.mono (T2.out.trans (T3.out.mono T2.out.size)).size)).trans (T5.out.mono ((T2.out.trans (T3.out.mono T2.out.size)).trans (T4.out.mono (T2.out.trans (T3.out.mono T2.out.size)).size)).size)).size)).trans (T7.out.mono ((((T2.out.trans (T3.out.mono T2.out.size)).trans (T4.out.mono (T2.out.trans (T3.out.mono T2.out.size)).size)).trans (T5.out.mono ((T2.out.trans (T3.out.mono T2.out.size)).trans (T4.out.mono (T2.out.trans (T3.out.mono T2.out.size)).size)).size)).trans (T6.out.mono (((T2.out.trans (T3.out.mono T2.out.size)).trans (T4.out.mono (T2.out.trans (T3.out.mono T2.out.size)).size)).trans (T5.out.mono ((T2.out.trans (T3.out.mono T2.out.size)).trans (T4.out.mono (T2.out.trans (T3.out.mono T2.out.size)).size)).size)).size)).size)).trans (T8.out.mono (((((T2.out.trans (T3.out.mono T2.out.size)).trans (T4.out.mono (T2.out.trans (T3.out.mono T2.out.size)).size)).trans (T5.out.mono ((T2.out.trans (T3.out.mono T2.out.size)).trans (T4.out.mono (T2.out.trans (T3.out.mono T2.out.size)).size)).size)).trans (T6.out.mono (((T2.out.trans (T3.out.mono T2.out.size)).trans (T4.out.mono (T2.out.trans (T3.out.mono T2.out.size)).size)).trans (T5.out.mono ((T2.out.trans (T3.out.mono T2.out.size)).trans (T4.out.mono (T2.out.trans (T3.out.mono T2.out.size)).size)).size)).size)).trans (T7.out.mono ((((T2.out.trans (T3.out.mono T2.out.size)).trans (T4.out.mono (T2.out.trans (T3.out.mono T2.out.size)).size)).trans (T5.out.mono ((T2.out.trans (T3.out.mono T2.out.size)).trans (T4.out.mono (T2.out.trans (T3.out.mono T2.out.size)).size)).size)).trans (T6.out.mono (((T2.out.trans (T3.out.mono T2.out.size)).trans (T4.out.mono (T2.out.trans (T3.out.mono T2.out.size)).size)).trans (T5.out.mono ((T2.out.trans (T3.out.mono T2.out.size)).trans (T4.out.mono (T2.out.trans (T3.out.mono T2.out.size)).size)).size)).size)).size)).size))
  have D2 : Hid (CellsAt w8 a2 _) := HC2.out.below (((((T3.out.trans (T4.out.mono T3.out.size)).trans (T5.out.mono (T3.out.trans (T4.out.mono T3.out.size)).size)).trans (T6.out.mono ((T3.out.trans (T4.out.mono T3.out.size)).trans (T5.out.mono (T3.out.trans (T4.out.mono T3.out.size)).size)).size)).trans (T7.out.mono (((T3.out.trans (T4.out.mono T3.out.size)).trans (T5.out.mono (T3.out.trans (T4.out.mono T3.out.size)).size)).trans (T6.out.mono ((T3.out.trans (T4.out.mono T3.out.size)).trans (T5.out.mono (T3.out.trans (T4.out.mono T3.out.size)).size)).size)).size)).trans (T8.out.mono ((((T3.out.trans (T4.out.mono T3.out.size)).trans (T5.out.mono (T3.out.trans (T4.out.mono T3.out.size)).size)).trans (T6.out.mono ((T3.out.trans (T4.out.mono T3.out.size)).trans (T5.out.mono (T3.out.trans (T4.out.mono T3.out.size)).size)).size)).trans (T7.out.mono (((T3.out.trans (T4.out.mono T3.out.size)).trans (T5.out.mono (T3.out.trans (T4.out.mono T3.out.size)).size)).trans (T6.out.mono ((T3.out.trans (T4.out.mono T3.out.size)).trans (T5.out.mono (T3.out.trans (T4.out.mono T3.out.size)).size)).size)).size)).size))
  have D3 : Hid (CellsAt w8 a3 _) := HC3.out.below ((((T4.out.trans (T5.out.mono T4.out.size)).trans (T6.out.mono (T4.out.trans (T5.out.mono T4.out.size)).size)).trans (T7.out.mono ((T4.out.trans (T5.out.mono T4.out.size)).trans (T6.out.mono (T4.out.trans (T5.out.mono T4.out.size)).size)).size)).trans (T8.out.mono (((T4.out.trans (T5.out.mono T4.out.size)).trans (T6.out.mono (T4.out.trans (T5.out.mono T4.out.size)).size)).trans (T7.out.mono ((T4.out.trans (T5.out.mono T4.out.size)).trans (T6.out.mono (T4.out.trans (T5.out.mono T4.out.size)).size)).size)).size))
  have D6 : Hid (CellsAt w8 a6 _) := HC6.out.below (T7.out.trans (T8.out.mono T7.out.size))
  have D7 : Hid (CellsAt w8 a7 _) := HC7.out.below T8.out
  obtain ⟨b6, o6, rfl, _, hcell⟩ := D6.out.ints (by decide)
  have x6 : w8.cell? ⟨b6, o6 + 1, none⟩ = some (.int .i64 1) := hcell 1 (by decide)
  clear hcell
  go_wp2_with fail
  refine equalI_same _ _ [2, 3, 0, 3, 3, 0, 0] 7 _ 7 _ _ rfl (by omega) (D1.out.below ((Below.refl w8.heap.size w8).alloc (Below.refl w8.heap.size w8).size _)) (lit_cells w8 _ _ _ rfl) ?_
  intro x1 hd
  have E1 : Hid (Below w8.heap.size w8 x1) := ((Below.refl w8.heap.size w8).alloc (Below.refl w8.heap.size w8).size _).trans (hd.below _)
  clear hd
  go_wp2_with fail
  refine equalS_same _ _ [⟨#[112, 50]⟩, ⟨#[112, 51]⟩] 2 _ 2 _ _ rfl (by omega) (D2.out.below (E1.out.alloc E1.out.size _)) (lit_cells x1 _ _ _ rfl) ?_
  intro x2 hd
  have E2 : Hid (Below w8.heap.size w8 x2) := (E1.out.alloc E1.out.size _).trans (hd.below _)
  clear hd
  go_wp2_with fail
  refine equalS_same _ _ [⟨#[88]⟩, ⟨#[89]⟩] 2 _ 2 _ _ rfl (by omega) (D3.out.below (E2.out.alloc E2.out.size _)) (lit_cells x2 _ _ _ rfl) ?_
  intro x3 hd
  have E3 : Hid (Below w8.heap.size w8 x3) := (E2.out.alloc E2.out.size _).trans (hd.below _)
  clear hd
  go_wp2_with fail
  refine equalS_same _ _ [⟨#[104]⟩] 1 _ 1 _ _ rfl (by omega) (D7.out.below (E3.out.alloc E3.out.size _)) (lit_cells x3 _ _ _ rfl) ?_
  intro x4 hd
  have E4 : Hid (Below w8.heap.size w8 x4) := (E3.out.alloc E3.out.size _).trans (hd.below _)
  clear hd
  go_wp2_with fail
  refine equalS_same _ _ [⟨#[112, 50]⟩] 1 _ 1 _ _ rfl (by omega) (HC8.out.below (E4.out.alloc E4.out.size _)) (lit_cells x4 _ _ _ rfl) ?_
  intro x5 hd
  have E5 : Hid (Below w8.heap.size w8 x5) := (E4.out.alloc E4.out.size _).trans (hd.below _)
  clear hd
  go_wp2_with fail
  exact HR.out _ (HB8.out.trans (E5.out.mono HB8.out.size))
end Go.Proofs.Ytfamennpajjajaa
