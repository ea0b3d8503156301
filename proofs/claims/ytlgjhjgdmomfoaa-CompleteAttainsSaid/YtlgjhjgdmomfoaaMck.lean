/- The walks of Names and Redundant of package complete. The walk of Put of the reference. The walk of All of reference 22. Names of reference 22; its names are the graph's. The walk of Few of reference 22. Regions inside a round, out of regions outside of one. A law for a range over an iterator all of whose rounds go on, and that may keep memory of its own between rounds; stores and look-ups in rounds. slices.Backward at events: its iterator. -/
import Derived.Deep.RegionHeld3
import Derived.Test.YtlgjhjgdmomfoaaMrad
import Derived.KernelRfl
import Derived.OrdersIn
import Derived.Shelf.RegionOpen
import Derived.Sort.QuietThIn
import Derived.RangeFuncNested
import Derived.RangeFuncBound
import Derived.RangeFuncCalls
import Derived.RangeFuncLeaves
import Derived.RangeFuncBox
import Derived.Shelf.Abstract
import Derived.OwnWalkIn
import Derived.TacticsInMore
import Derived.LoopNIn
import Derived.LoopIn
import Derived.Maps.AppendAt
import Derived.Maps.OwnIn
import Derived.Test.YtlgjhjgdmomfoaaMcm
namespace Go.Proofs.Ytlgjhjgdmomfoaa
open Go.RowKit Go.Maps

theorem giE_len {vs : List Dm} {ax : Int} (h : giE vs ax = 0) : vs.length ≤ 256 := by
  unfold giE at h
  by_cases e : 256 < vs.length
  · rw [if_pos e] at h; omega
  · omega
theorem take_ok {vs : List Dm} (h : DmsOk vs) (k : Nat) : DmsOk (vs.take k) := fun i hi => by
  have hi' : i < vs.length := by rw [List.length_take] at hi; omega
  rw [dAt_lt hi, List.getElem_take, ← dAt_lt hi']; exact h i hi'
theorem cells_takeD {w : World} {ao : Option Addr} {vs : List Dm} (h : CellsAt w ao (dC vs)) (k : Nat) : CellsAt w ao (dC (vs.take k)) := by
  intro h0
  have hsplit : dC vs = dC (vs.take k) ++ dC (vs.drop k) := by rw [← dC_append, List.take_append_drop]
  obtain ⟨b, o, e, hl, hj⟩ := h (by rw [hsplit, List.length_append]; omega)
  refine ⟨b, o, e, hl, fun j hj' => ?_⟩
  rw [hj j (by rw [hsplit, List.length_append]; omega), hsplit]
  simp only [List.getD_eq_getElem?_getD]
  rw [List.getElem?_append_left hj']
/-- The names, or none behind an error. -/
def nmX (vs : List Dm) (ax : Int) : List ByteArray := if giE vs ax = 0 then nmG vs ax else []
set_option maxRecDepth 100000 in
set_option maxHeartbeats 4000000 in
theorem names22_any (ao : Option Addr) (vs : List Dm) (c : Nat) (ax : Int) (w : World) (R : Ending → World → Prop) (hl : vs.length ≤ 9223372036854775807) (hc : CellsAt w ao (dC vs)) (hv : DmsOk vs)
   (hR : ∀ a n c' w', Below w.heap.size w w' → n = (nmX vs ax).length → CellsAt w' a (sC (nmX vs ax)) → R (.returned (.tuple #[.slice a n c', .int .i64 (giE vs ax)])) w') :
    Calls Try.prog 24 #[.slice ao vs.length c, .int .i64 ax] w R := by
  have HR := Lib.hid hR
  have HC := Lib.hid hc
  have HV := Lib.hid hv
  clear hR hc hv
  obtain ⟨E, hE⟩ : ∃ E, giE vs ax = E := ⟨_, rfl⟩
  have HE := Lib.hid hE
  clear hE
  go_enter Try.func24, Try.ntmps24
  go_wp2_with fail
  refine given_any ao vs c ax _ _ hl HC.out HV.out ?_
  rw [HE.out]
  intro w1 hb
  have HB1 := Lib.hid hb
  clear hb
  by_cases h0 : E = 0
  · subst h0
    have hX : Hid (nmX vs ax = nmG vs ax) := by unfold Hid nmX; rw [if_pos HE.out]
    go_wp2_with fail
    refine graphX_any ao vs c ax _ _ (giE_len HE.out) (HC.out.below HB1.out) HV.out ?_
    intro w2 hb hg
    obtain ⟨nv, dv, hg⟩ := hg
    have HB2 : Hid (Below w.heap.size w w2) := HB1.out.trans (hb.mono HB1.out.size)
    obtain ⟨a, c', rfl, hca, _⟩ := ownsRow_read hg.names
    have HCA := Lib.hid hca
    obtain ⟨g0, _, _, _⟩ := hg.cell
    have sG := hg.size
    clear hb hg hca
    go_wp2_with fail
    have h := HR.out a _ c' w2 HB2.out (by rw [hX.out]) (by rw [hX.out]; exact HCA.out)
    rw [HE.out] at h; exact h
  · have K : (E != 0) = true := by simpa using h0
    have hX : Hid (nmX vs ax = []) := by unfold Hid nmX; rw [if_neg (by rw [HE.out]; exact h0)]
    clear h0
    go_wp2_with fail
    have h := HR.out none 0 0 w1 HB1.out (by rw [hX.out]; rfl) (by rw [hX.out]; exact CellsAt.nil _ _)
    rw [HE.out] at h; exact h

/-- The redundant dimensions. -/
def rdF (vs : List Dm) (ax : Int) : Nat → List Nat
  | 0 => []
  | k + 1 => if ((dAt vs k).x == ax && jnX (vs.take k) ax (dAt vs k).f (dAt vs k).t) = true then rdF vs ax k ++ [k] else rdF vs ax k
theorem rdF_len (vs : List Dm) (ax : Int) : ∀ k, (rdF vs ax k).length ≤ k
  | 0 => Nat.le_refl _
  | k + 1 => by
    have := rdF_len vs ax k
    rw [rdF]
    split
    · rw [List.length_append]; simp; omega
    · omega
def rdX (vs : List Dm) (ax : Int) : List Nat := if giE vs ax = 0 then rdF vs ax vs.length else []
theorem graphT_any (ao : Option Addr) (vs : List Dm) (k c : Nat) (ax : Int) (w : World) (R : Ending → World → Prop) (hk : k ≤ vs.length) (hl : vs.length ≤ 256) (hc : CellsAt w ao (dC vs)) (hv : DmsOk vs)
   (hR : ∀ w', Below w.heap.size w w' → GrX w' w.heap.size ao c (vs.take k) ax → R (.returned (.pointer (some ⟨w.heap.size + 1, 0, none⟩))) w') :
    Calls Try.prog 49 #[.slice ao k c, .int .i64 ax] w R := by
  have hlen : (vs.take k).length = k := by rw [List.length_take]; omega
  have h := graphX_any ao (vs.take k) c ax w R (by omega) (cells_takeD hc k) (take_ok hv k) hR
  rw [hlen] at h; exact h
set_option maxRecDepth 100000 in
set_option maxHeartbeats 8000000 in
theorem redundant_any (ao : Option Addr) (vs : List Dm) (c : Nat) (ax : Int) (w : World) (R : Ending → World → Prop) (hl : vs.length ≤ 9223372036854775807) (hcl : vs.length ≤ c) (hc : CellsAt w ao (dC vs)) (hv : DmsOk vs)
   (hR : ∀ v w', Below w.heap.size w w' → w'.ownsRow w.heap.size 3 1 v (rdX vs ax).length (dI (rdX vs ax)) → R (.returned (.tuple #[v, .int .i64 (giE vs ax)])) w') :
    Calls Try.prog 28 #[.slice ao vs.length c, .int .i64 ax] w R := by
  have HR := Lib.hid hR
  have HC := Lib.hid hc
  have HV := Lib.hid hv
  clear hR hc hv
  obtain ⟨E, hE⟩ : ∃ E, giE vs ax = E := ⟨_, rfl⟩
  have HE := Lib.hid hE
  clear hE
  go_enter Try.func28, Try.ntmps28
  go_wp2_with fail
  refine given_any ao vs c ax _ _ hl HC.out HV.out ?_
  rw [HE.out]
  intro w1 hb
  have HB1 := Lib.hid hb
  clear hb
  by_cases h0 : E = 0
  · subst h0
    have hX : Hid (rdX vs ax = rdF vs ax vs.length) := by unfold Hid rdX; rw [if_pos HE.out]
    have hl2 := giE_len HE.out
    go_wp2_with fail
    go_loopw [18, 7] (fun j v wr => ∃ (k : Nat), k ≤ vs.length ∧ j = .int .i64 k ∧ Hid (Below w.heap.size w wr) ∧ Hid (wr.ownsRow w.heap.size 3 1 v (rdF vs ax k).length (dI (rdF vs ax k)))) (fun j _ _ => vs.length - (intOf j).toNat)
    case atStart => exact ⟨0, Nat.zero_le _, rfl, HB1, World.ownsRow_nil _ _ _ _⟩
    case round =>
      obtain ⟨k, hk, rfl, HB, HO⟩ := hrel
      have sB := HB.out.size
      have lnR := rdF_len vs ax k
      by_cases hlt : k < vs.length
      · obtain ⟨b, o, rfl, hbb, hcell⟩ := HC.out.dms (by omega)
        obtain ⟨c0, c1, c2, c3, c4⟩ := hcell k hlt
        have d0 := cellB HB.out c0 hbb
        have d1 := cellB HB.out c1 hbb
        have d2 := cellB HB.out c2 hbb
        have d3 := cellB HB.out c3 hbb
        have d4 := cellB HB.out c4 hbb
        have hok := Lib.hid (HV.out k hlt)
        have hst : Hid (rdF vs ax (k + 1) = if ((dAt vs k).x == ax && jnX (vs.take k) ax (dAt vs k).f (dAt vs k).t) = true then rdF vs ax k ++ [k] else rdF vs ax k) := rfl
        obtain ⟨u, hu⟩ : ∃ u, dAt vs k = u := ⟨_, rfl⟩
        obtain ⟨is, his⟩ : ∃ is, rdF vs ax k = is := ⟨_, rfl⟩
        rw [hu] at d0 d1 d2 d3 d4 hst hok
        rw [his] at hst HO lnR
        have HA : Hid (Below w.heap.size w (wr.alloc (.cells #[.string u.f, .string u.t, .int .i64 u.x, .int .i64 u.l, .int .i64 u.h] 73))) := HB.out.alloc sB _
        have OA : Hid ((wr.alloc (.cells #[.string u.f, .string u.t, .int .i64 u.x, .int .i64 u.l, .int .i64 u.h] 73)).ownsRow w.heap.size 3 1 u7 is.length (dI is)) := ownsRow_below HO.out ((Below.refl _ _).alloc (Nat.le_refl _) _)
        have X0 := World.alloc_heap_new wr (.cells #[.string u.f, .string u.t, .int .i64 u.x, .int .i64 u.l, .int .i64 u.h] 73)
        clear hcell hu his c0 c1 c2 c3 c4
        by_cases hx : u.x = ax
        · have K : (u.x == ax) = true := by simpa using hx
          rw [K, Bool.true_and] at hst
          clear hx
          obtain ⟨J, hJ'⟩ : ∃ J, jnX (vs.take k) ax u.f u.t = J := ⟨_, rfl⟩
          rw [hJ'] at hst
          have hJ := Lib.hid hJ'
          clear hJ'
          go_wp2_with fail
          obtain ⟨wA, hwA⟩ : ∃ wA, wr.alloc (.cells #[.string u.f, .string u.t, .int .i64 u.x, .int .i64 u.l, .int .i64 u.h] 73) = wA := ⟨_, rfl⟩
          have zA : wr.heap.size < wA.heap.size := by rw [← hwA]; simp
          rw [hwA] at HA OA X0 ⊢
          have e0 : wA.cell? ⟨wr.heap.size, 0, none⟩ = some (.string u.f) := cell_of X0 rfl
          have e1 : wA.cell? ⟨wr.heap.size, 1, none⟩ = some (.string u.t) := cell_of X0 rfl
          have e2 : wA.cell? ⟨wr.heap.size, 2, none⟩ = some (.int .i64 u.x) := cell_of X0 rfl
          have HBB : Hid (Below wA.heap.size wA wA.drew) := (Below.refl _ _).drew
          clear X0 hwA d0 d1 d2 d3 d4
          have sA := HA.out.size
          have q1 : (0 : Int) ≤ (k : Int) := by omega
          have q2 : (k : Int) ≤ (c : Int) := by omega
          cases J with
          | false =>
            go_region_held3 (fun w' => w'.cell? ⟨wr.heap.size, 0, none⟩ = some (.string u.f) ∧ w'.cell? ⟨wr.heap.size, 1, none⟩ = some (.string u.t) ∧ w'.cell? ⟨wr.heap.size, 2, none⟩ = some (.int .i64 u.x) ∧ Hid (Below wA.heap.size wA w'))
              (first | go_keep | exact ⟨e0, e1, e2, HBB⟩ | exact ⟨r0, r1, r2, r4⟩ | exact ⟨s0, s1', s2, s4⟩)
              (first
                | (go_at_call 49; refine graphT_any (some ⟨b, o, none⟩) vs k c ax _ _ (by omega) hl2 (HC.out.below (HA.out.trans (HBB.out.mono sA))) HV.out ?_; intro w10 hb10 hg10; have r4 : Hid (Below wA.heap.size wA w10) := HBB.out.trans (hb10.mono (Nat.le_refl _)); have r0 := cellB r4.out e0 zA; have r1 := cellB r4.out e1 zA; have r2 := cellB r4.out e2 zA; have G10 := Lib.hid hg10; clear hb10 hg10)
                | (go_at_call 50; refine joined_any (some ⟨b, o, none⟩) (vs.take k) c _ ax u.f u.t _ _ (by rw [List.length_take]; omega) (cells_takeD (HC.out.below (HA.out.trans (r4.out.mono sA))) k) (take_ok HV.out k) G10.out hok.out.1 hok.out.2 ?_; rw [hJ.out]; intro w11 hb11; have s4 : Hid (Below wA.heap.size wA w11) := r4.out.trans (hb11.mono r4.out.size); have s0 := cellB s4.out e0 zA; have s1' := cellB s4.out e1 zA; have s2 := cellB s4.out e2 zA; clear hb11))
            all_goals
              go_wp2_with fail
              refine ⟨⟨k + 1, by omega, by go_num, HA.out.trans (s4.out.mono sA), ?_⟩, by simp [intOf]; omega⟩
              rw [hst.out, if_neg (by simp)]; exact ownsRow_below OA.out s4.out
          | true =>
            have hst2 : Hid (rdF vs ax (k + 1) = is ++ [k]) := by have h := hst.out; unfold Hid; simpa using h
            go_region_held3 (fun w' => w'.cell? ⟨wr.heap.size, 0, none⟩ = some (.string u.f) ∧ w'.cell? ⟨wr.heap.size, 1, none⟩ = some (.string u.t) ∧ w'.cell? ⟨wr.heap.size, 2, none⟩ = some (.int .i64 u.x) ∧ Hid (Below wA.heap.size wA w'))
              (first | go_keep | exact ⟨e0, e1, e2, HBB⟩ | exact ⟨r0, r1, r2, r4⟩ | exact ⟨s0, s1', s2, s4⟩)
              (first
                | (go_at_call 49; refine graphT_any (some ⟨b, o, none⟩) vs k c ax _ _ (by omega) hl2 (HC.out.below (HA.out.trans (HBB.out.mono sA))) HV.out ?_; intro w10 hb10 hg10; have r4 : Hid (Below wA.heap.size wA w10) := HBB.out.trans (hb10.mono (Nat.le_refl _)); have r0 := cellB r4.out e0 zA; have r1 := cellB r4.out e1 zA; have r2 := cellB r4.out e2 zA; have G10 := Lib.hid hg10; clear hb10 hg10)
                | (go_at_call 50; refine joined_any (some ⟨b, o, none⟩) (vs.take k) c _ ax u.f u.t _ _ (by rw [List.length_take]; omega) (cells_takeD (HC.out.below (HA.out.trans (r4.out.mono sA))) k) (take_ok HV.out k) G10.out hok.out.1 hok.out.2 ?_; rw [hJ.out]; intro w11 hb11; have s4 : Hid (Below wA.heap.size wA w11) := r4.out.trans (hb11.mono r4.out.size); have s0 := cellB s4.out e0 zA; have s1' := cellB s4.out e1 zA; have s2 := cellB s4.out e2 zA; clear hb11))
            all_goals
              have O11 := Lib.hid (ownsRow_below OA.out s4.out)
              have B11 := Lib.hid (HA.out.trans (s4.out.mono sA))
              have sz11 := B11.out.size
              go_wp2_with (at_builtin; refine wp_appendT rfl (.tmp 39) (.tmp 41) 42 rfl w.heap.size 3 Try.underlying42 Try.infoI22 rfl (by decide) u7 is.length (dI is) rfl (ownsRow_below O11.out ((Below.refl _ _).alloc (Nat.le_refl _) _)) ⟨w11.heap.size, 0, none⟩ 1 1 [.int .i64 k] rfl rfl (by have h := cells_one w11 (.int .i64 k) 3; simpa using h) (one1 _ rfl) (by omega) (by omega) (by simp; omega) ?_; intro v5 w5 hown hgrow _; have O5 := Lib.hid hown; have B5 := Lib.hid ((B11.out.alloc sz11 _).grown hgrow (by simp; omega) (fun j e => (O11.out.lt j e).1)); clear hown hgrow)
              refine ⟨⟨k + 1, by omega, by go_num, B5, ?_⟩, by simp [intOf]; omega⟩
              rw [hst2.out, dI_append, List.length_append]; exact O5
        · have K : (u.x == ax) = false := by simpa using hx
          rw [K, Bool.false_and, if_neg (by simp)] at hst
          clear hx
          go_wp2_with fail
          go_quiet (fail)
          go_wp2_with fail
          refine ⟨⟨k + 1, by omega, by go_num, HA.out.trans ⟨rfl, rfl, rfl, Nat.le_refl _, fun _ _ => rfl⟩, ?_⟩, by simp [intOf]; omega⟩
          rw [hst.out]; exact OA.out
      · obtain rfl : k = vs.length := by omega
        go_wp2_with fail
        have h := HR.out _ wr HB.out (by rw [hX.out]; exact HO.out)
        rw [HE.out] at h; exact h
  · have K : (E != 0) = true := by simpa using h0
    have hX : Hid (rdX vs ax = []) := by unfold Hid rdX; rw [if_neg (by rw [HE.out]; exact h0)]
    clear h0
    go_wp2_with fail
    have h := HR.out (.slice none 0 0) w1 HB1.out (by rw [hX.out]; exact World.ownsRow_nil _ _ _ _)
    rw [HE.out] at h; exact h
end Go.Proofs.Ytlgjhjgdmomfoaa
namespace Go.Proofs.Ytlgjhjgdmomfoaa
open Go.RowKit

theorem putL_steps (s : ByteArray) (d : Bool) {ks : List ByteArray} {k : Nat} (h : k < ks.length) : putL s d (ks.drop k) = (if (!d && !ltB (kat ks k) s) = true then [s] else []) ++ ((if sameB (kat ks k) s = true then [] else [kat ks k]) ++ putL s (d || !ltB (kat ks k) s) (ks.drop (k + 1))) := by
  rw [kat_drop h, putL]

set_option maxRecDepth 100000 in
set_option maxHeartbeats 4000000 in
theorem rput_any (ao : Option Addr) (ks : List ByteArray) (c : Nat) (s : ByteArray) (w : World) (R : Ending → World → Prop) (hl : ks.length ≤ 1000000) (hc : CellsAt w ao (sC ks))
   (hR : ∀ v w', Below w.heap.size w w' → OwnL w' w.heap.size 9 1 v (putL s false ks).length (sC (putL s false ks)) → R (.returned v) w') :
    Calls Try.prog 42 #[.slice ao ks.length c, .string s] w R := by
  have HR := Lib.hid hR
  have HC := Lib.hid hc
  clear hR hc
  obtain ⟨X, hX⟩ : ∃ X, Hid (putL s false ks = X) := ⟨_, Lib.hid rfl⟩
  have hX2 : Hid ([] ++ putL s false (ks.drop 0) = X) := hX
  have hXl : Hid (X.length ≤ ks.length + 1) := by unfold Hid; rw [← hX.out]; exact putL_len _ _ _
  rw [hX.out] at HR
  go_enter Try.func42, Try.ntmps42
  go_wp2_with fail
  go_loopw [7, 5, 6] (fun j v d wr => ∃ (k : Nat) (dn : Bool) (pre : List ByteArray), k ≤ ks.length ∧ j = .int .i64 k ∧ d = .bool dn ∧ Hid (Below w.heap.size w wr) ∧ Hid (OwnL wr w.heap.size 9 1 v pre.length (sC pre)) ∧ Hid (pre ++ putL s dn (ks.drop k) = X)) (fun j _ _ _ => ks.length - (intOf j).toNat)
  case atStart => exact ⟨0, false, [], Nat.zero_le _, rfl, rfl, Below.refl _ _, OwnL.nil _ _ _ _, hX2⟩
  case round =>
    obtain ⟨k, dn, pre, hk, rfl, rfl, HB, HO, hL⟩ := hrel
    have hpl : pre.length ≤ ks.length + 1 := by have := hXl.out; rw [← hL.out, List.length_append] at this; omega
    have sB := HB.out.size
    by_cases hlt : k < ks.length
    · obtain ⟨b, o, rfl, hbb, hcell0⟩ := HC.out.strs (by omega)
      have hcell := hcell0 k hlt
      have hst' := putL_steps s dn hlt
      obtain ⟨u, hu⟩ : ∃ u, kat ks k = u := ⟨_, rfl⟩
      rw [hu] at hcell hst'
      have d0 := cellB HB.out hcell hbb
      clear hcell0 hu
      cases dn with
      | true =>
        cases hs : sameB u s with
        | true =>
          have hs1 : (u.toList == s.toList) = true := hs
          have hst : Hid (putL s true (ks.drop k) = putL s true (ks.drop (k + 1))) := by unfold Hid; rw [hst', hs]; (try rfl)
          clear hs hst'
          go_wp2_with fail
          exact ⟨⟨k + 1, true, pre, by omega, by go_num, rfl, HB, HO, by unfold Hid; rw [← hL.out, hst.out]; (try simp)⟩, by simp [intOf]; omega⟩
        | false =>
          have hs1 : (u.toList == s.toList) = false := hs
          have hst : Hid (putL s true (ks.drop k) = u :: putL s true (ks.drop (k + 1))) := by unfold Hid; rw [hst', hs]; (try rfl)
          clear hs hst'
          go_wp2_with (at_builtin; refine wp_append1 rfl (.tmp 34) (.tmp 39) 60 rfl w.heap.size 9 Try.underlying60 Try.infoStr53 rfl (by decide) (by decide) u5 (pre).length (sC (pre)) rfl (HO.out.alloc _) wr.heap.size [.string u] rfl rfl (new1 _ _ _) (one1 _ rfl) (by first | omega | (simp; omega)) (by have := HB.out.size; simp; omega) ?_; intro v2 w2 hown hb; have HO2 : Hid (OwnL w2 w.heap.size 9 1 v2 ((pre) ++ [u]).length (sC ((pre) ++ [u]))) := (by unfold Hid; rw [sC_append, List.length_append]; exact hown); have HB2 : Hid (Below w.heap.size w w2) := (HB.out.alloc HB.out.size _).trans hb; have d2 := cellB HB2.out hcell hbb; clear hown hb)
          exact ⟨⟨k + 1, true, pre ++ [u], by omega, by go_num, rfl, HB2, HO2, by unfold Hid; rw [← hL.out, hst.out]; (try simp)⟩, by simp [intOf]; omega⟩
      | false =>
        cases hq : ltB u s with
        | true =>
          have hq1 : Op.bytesLess u.toList s.toList = true := hq
          have hs := ltB_same hq
          have hs1 : (u.toList == s.toList) = false := hs
          have hst : Hid (putL s false (ks.drop k) = u :: putL s false (ks.drop (k + 1))) := by unfold Hid; rw [hst', hs, hq]; (try rfl)
          clear hs hst' hq
          go_wp2_with (at_builtin; refine wp_append1 rfl (.tmp 34) (.tmp 39) 60 rfl w.heap.size 9 Try.underlying60 Try.infoStr53 rfl (by decide) (by decide) u5 (pre).length (sC (pre)) rfl (HO.out.alloc _) wr.heap.size [.string u] rfl rfl (new1 _ _ _) (one1 _ rfl) (by first | omega | (simp; omega)) (by have := HB.out.size; simp; omega) ?_; intro v2 w2 hown hb; have HO2 : Hid (OwnL w2 w.heap.size 9 1 v2 ((pre) ++ [u]).length (sC ((pre) ++ [u]))) := (by unfold Hid; rw [sC_append, List.length_append]; exact hown); have HB2 : Hid (Below w.heap.size w w2) := (HB.out.alloc HB.out.size _).trans hb; have d2 := cellB HB2.out hcell hbb; clear hown hb)
          exact ⟨⟨k + 1, false, pre ++ [u], by omega, by go_num, rfl, HB2, HO2, by unfold Hid; rw [← hL.out, hst.out]; (try simp)⟩, by simp [intOf]; omega⟩
        | false =>
          have hq1 : Op.bytesLess u.toList s.toList = false := hq
          cases hs : sameB u s with
          | true =>
            have hs1 : (u.toList == s.toList) = true := hs
            have hst : Hid (putL s false (ks.drop k) = s :: putL s true (ks.drop (k + 1))) := by unfold Hid; rw [hst', hs, hq]; (try rfl)
            clear hs hst' hq
            go_wp2_with (at_builtin; refine wp_append1 rfl (.tmp 24) (.tmp 26) 60 rfl w.heap.size 9 Try.underlying60 Try.infoStr53 rfl (by decide) (by decide) u5 (pre).length (sC (pre)) rfl (HO.out.alloc _) wr.heap.size [.string s] rfl rfl (new1 _ _ _) (one1 _ rfl) (by first | omega | (simp; omega)) (by have := HB.out.size; simp; omega) ?_; intro v1 w1 hown hb; have HO1 : Hid (OwnL w1 w.heap.size 9 1 v1 ((pre) ++ [s]).length (sC ((pre) ++ [s]))) := (by unfold Hid; rw [sC_append, List.length_append]; exact hown); have HB1 : Hid (Below w.heap.size w w1) := (HB.out.alloc HB.out.size _).trans hb; have d1 := cellB HB1.out hcell hbb; clear hown hb)
            exact ⟨⟨k + 1, true, pre ++ [s], by omega, by go_num, rfl, HB1, HO1, by unfold Hid; rw [← hL.out, hst.out]; (try simp)⟩, by simp [intOf]; omega⟩
          | false =>
            have hs1 : (u.toList == s.toList) = false := hs
            have hst : Hid (putL s false (ks.drop k) = s :: u :: putL s true (ks.drop (k + 1))) := by unfold Hid; rw [hst', hs, hq]; (try rfl)
            clear hs hst' hq
            go_wp2_with (first | (at_builtin; refine wp_append1 rfl (.tmp 24) (.tmp 26) 60 rfl w.heap.size 9 Try.underlying60 Try.infoStr53 rfl (by decide) (by decide) u5 (pre).length (sC (pre)) rfl (HO.out.alloc _) wr.heap.size [.string s] rfl rfl (new1 _ _ _) (one1 _ rfl) (by first | omega | (simp; omega)) (by have := HB.out.size; simp; omega) ?_; intro v1 w1 hown hb; have HO1 : Hid (OwnL w1 w.heap.size 9 1 v1 ((pre) ++ [s]).length (sC ((pre) ++ [s]))) := (by unfold Hid; rw [sC_append, List.length_append]; exact hown); have HB1 : Hid (Below w.heap.size w w1) := (HB.out.alloc HB.out.size _).trans hb; have d1 := cellB HB1.out hcell hbb; clear hown hb) | (at_builtin; refine wp_append1 rfl (.tmp 34) (.tmp 39) 60 rfl w.heap.size 9 Try.underlying60 Try.infoStr53 rfl (by decide) (by decide) v1 (pre ++ [s]).length (sC (pre ++ [s])) rfl (HO1.out.alloc _) w1.heap.size [.string u] rfl rfl (new1 _ _ _) (one1 _ rfl) (by first | omega | (simp; omega)) (by have := HB1.out.size; simp; omega) ?_; intro v2 w2 hown hb; have HO2 : Hid (OwnL w2 w.heap.size 9 1 v2 ((pre ++ [s]) ++ [u]).length (sC ((pre ++ [s]) ++ [u]))) := (by unfold Hid; rw [sC_append, List.length_append]; exact hown); have HB2 : Hid (Below w.heap.size w w2) := (HB1.out.alloc HB1.out.size _).trans hb; have d2 := cellB HB2.out hcell hbb; clear hown hb))
            exact ⟨⟨k + 1, true, (pre ++ [s]) ++ [u], by omega, by go_num, rfl, HB2, HO2, by unfold Hid; rw [← hL.out, hst.out]; (try simp)⟩, by simp [intOf]; omega⟩
    · have hd : Hid (ks.drop k = []) := List.drop_of_length_le (by omega)
      cases dn with
      | true =>
        have e : Hid (X = pre) := by unfold Hid; rw [← hL.out, hd.out, putL]; simp
        go_wp2_with fail
        exact HR.out _ _ HB.out (by rw [e.out]; exact HO.out)
      | false =>
        have e : Hid (X = pre ++ [s]) := by unfold Hid; rw [← hL.out, hd.out, putL]; simp
        go_wp2_with (at_builtin; refine wp_append1 rfl (.tmp 43) (.tmp 45) 60 rfl w.heap.size 9 Try.underlying60 Try.infoStr53 rfl (by decide) (by decide) u5 (pre).length (sC (pre)) rfl (HO.out.alloc _) wr.heap.size [.string s] rfl rfl (new1 _ _ _) (one1 _ rfl) (by first | omega | (simp; omega)) (by have := HB.out.size; simp; omega) ?_; intro v3 w3 hown hb; have HO3 : Hid (OwnL w3 w.heap.size 9 1 v3 ((pre) ++ [s]).length (sC ((pre) ++ [s]))) := (by unfold Hid; rw [sC_append, List.length_append]; exact hown); have HB3 : Hid (Below w.heap.size w w3) := (HB.out.alloc HB.out.size _).trans hb; clear hown hb)
        exact HR.out _ _ HB3.out (by rw [e.out]; exact HO3.out)
end Go.Proofs.Ytlgjhjgdmomfoaa
namespace Go.Proofs.Ytlgjhjgdmomfoaa
open Go.RowKit Go.Maps

def alN (vs : List Dm) (ax : Int) : Nat → List ByteArray
  | 0 => []
  | k + 1 => if ((dAt vs k).x == ax) = true then putL (dAt vs k).t false (putL (dAt vs k).f false (alN vs ax k)) else alN vs ax k
theorem alN_len (vs : List Dm) (ax : Int) : ∀ k, (alN vs ax k).length ≤ 2 * k
  | 0 => Nat.le_refl _
  | k + 1 => by
    have h := alN_len vs ax k
    have h1 := putL_len (dAt vs k).f false (alN vs ax k)
    have h2 := putL_len (dAt vs k).t false (putL (dAt vs k).f false (alN vs ax k))
    rw [alN]
    split <;> omega
set_option maxRecDepth 100000 in
set_option maxHeartbeats 8000000 in
theorem rall_any (ao : Option Addr) (vs : List Dm) (c : Nat) (ax : Int) (w : World) (R : Ending → World → Prop) (hl : vs.length ≤ 400000) (hc : CellsAt w ao (dC vs))
   (hR : ∀ a n c' w', Below w.heap.size w w' → n = (alN vs ax vs.length).length → CellsAt w' a (sC (alN vs ax vs.length)) → R (.returned (.slice a n c')) w') :
    Calls Try.prog 53 #[.slice ao vs.length c, .int .i64 ax] w R := by
  have HR := Lib.hid hR
  have HC := Lib.hid hc
  clear hR hc
  go_enter Try.func53, Try.ntmps53
  go_wp2_with fail
  go_loopw [6, 5] (fun j v wr => ∃ (k n : Nat) (a : Option Addr) (c' : Nat), k ≤ vs.length ∧ j = .int .i64 k ∧ v = .slice a n c' ∧ Hid (n = (alN vs ax k).length) ∧ Hid (Below w.heap.size w wr) ∧ Hid (CellsAt wr a (sC (alN vs ax k)))) (fun j _ _ => vs.length - (intOf j).toNat)
  case atStart => exact ⟨0, 0, none, 0, Nat.zero_le _, rfl, rfl, rfl, Below.refl _ _, CellsAt.nil _ _⟩
  case round =>
    obtain ⟨k, n, a, c', hk, rfl, rfl, hn, HB, HK⟩ := hrel
    have sB := HB.out.size
    have lnK := alN_len vs ax k
    by_cases hlt : k < vs.length
    · obtain ⟨b, o, rfl, hbb, hcell⟩ := HC.out.dms (by omega)
      obtain ⟨c0, c1, c2, _, _⟩ := hcell k hlt
      have d0 := cellB HB.out c0 hbb
      have d1 := cellB HB.out c1 hbb
      have d2 := cellB HB.out c2 hbb
      have hst : Hid (alN vs ax (k + 1) = if ((dAt vs k).x == ax) = true then putL (dAt vs k).t false (putL (dAt vs k).f false (alN vs ax k)) else alN vs ax k) := rfl
      obtain ⟨u, hu⟩ : ∃ u, dAt vs k = u := ⟨_, rfl⟩
      obtain ⟨ks, hks⟩ : ∃ ks, alN vs ax k = ks := ⟨_, rfl⟩
      rw [hu] at d0 d1 d2 hst
      rw [hks] at hst hn HK lnK
      have hkl : ks.length ≤ 1000000 := by omega
      have hk1 := putL_len u.f false ks
      obtain rfl := hn.out
      have hbr : b < wr.heap.size := by omega
      clear hcell hu hks c0 c1 c2 hn
      cases hx : (u.x == ax) with
      | true =>
        have hst2 : Hid (alN vs ax (k + 1) = putL u.t false (putL u.f false ks)) := by have h := hst.out; rw [hx, if_pos rfl] at h; exact h
        clear hst
        go_wp2_with fail
        have HBB : Hid (Below wr.heap.size wr wr.drew) := (Below.refl _ _).drew
        go_region_held3 (fun w' => w'.cell? ⟨b, o + k * 5, none⟩ = some (.string u.f) ∧ w'.cell? ⟨b, o + k * 5 + 1, none⟩ = some (.string u.t) ∧ Hid (Below wr.heap.size wr w'))
          (first | go_keep | exact ⟨d0, d1, HBB⟩ | exact ⟨r0, r1, r4⟩ | exact ⟨s0, s1', s4⟩)
          (first
            | ((fail_if_success (have gg := r4.out)); go_at_call 42; refine rput_any a ks c' u.f _ _ hkl (HK.out.below HBB.out) ?_; intro v1 w1 hb1 ho1; obtain ⟨a1, c1, rfl, hc1, _⟩ := ownsRow_read ho1.1; have r4 : Hid (Below wr.heap.size wr w1) := HBB.out.trans (hb1.mono (Nat.le_refl _)); have r0 := cellB r4.out d0 hbr; have r1 := cellB r4.out d1 hbr; have K1 := Lib.hid hc1; clear hb1 ho1 hc1)
            | (have gg := r4.out; clear gg; go_at_call 42; refine rput_any a1 (putL u.f false ks) c1 u.t _ _ (by omega) K1.out ?_; intro v2 w2 hb2 ho2; obtain ⟨a2, c2, rfl, hc2, _⟩ := ownsRow_read ho2.1; have s4 : Hid (Below wr.heap.size wr w2) := r4.out.trans (hb2.mono r4.out.size); have s0 := cellB s4.out d0 hbr; have s1' := cellB s4.out d1 hbr; have K2 := Lib.hid hc2; clear hb2 ho2 hc2))
        all_goals
          go_wp2_with fail
          exact ⟨⟨k + 1, _, a2, c2, by omega, by go_num, rfl, by rw [hst2.out]; exact rfl, HB.out.trans (s4.out.mono sB), by rw [hst2.out]; exact K2⟩, by simp [intOf]; omega⟩
      | false =>
        have hst2 : Hid (alN vs ax (k + 1) = ks) := by have h := hst.out; rw [hx, if_neg (by simp)] at h; exact h
        clear hst
        go_wp2_with fail
        exact ⟨⟨k + 1, _, a, c', by omega, by go_num, rfl, by rw [hst2.out]; exact rfl, HB, by rw [hst2.out]; exact HK⟩, by simp [intOf]; omega⟩
    · obtain rfl : k = vs.length := by omega
      go_wp2_with fail
      exact HR.out a n c' wr HB.out hn.out HK.out
end Go.Proofs.Ytlgjhjgdmomfoaa
namespace Go.Proofs.Ytlgjhjgdmomfoaa
open Go.RowKit Go.Maps

set_option maxRecDepth 100000 in
set_option maxHeartbeats 4000000 in
theorem rnames22_any (ao : Option Addr) (vs : List Dm) (c : Nat) (ax : Int) (w : World) (R : Ending → World → Prop) (hl : vs.length ≤ 9223372036854775807) (hc : CellsAt w ao (dC vs)) (hv : DmsOk vs)
   (hR : ∀ a n c' w', Below w.heap.size w w' → n = (if giE vs ax = 0 then alN vs ax vs.length else []).length → CellsAt w' a (sC (if giE vs ax = 0 then alN vs ax vs.length else [])) → R (.returned (.tuple #[.slice a n c', .int .i64 (giE vs ax)])) w') :
    Calls Try.prog 25 #[.slice ao vs.length c, .int .i64 ax] w R := by
  have HR := Lib.hid hR
  have HC := Lib.hid hc
  have HV := Lib.hid hv
  clear hR hc hv
  obtain ⟨E, hE⟩ : ∃ E, giE vs ax = E := ⟨_, rfl⟩
  rw [hE] at HR
  have HE := Lib.hid hE
  clear hE
  go_enter Try.func25, Try.ntmps25
  go_wp2_with fail
  refine rgiven_any ao vs c ax _ _ hl HC.out HV.out ?_
  rw [HE.out]
  intro w1 hb
  have HB1 := Lib.hid hb
  clear hb
  by_cases h0 : E = 0
  · subst h0
    have hl2 := giE_len HE.out
    go_wp2_with fail
    refine rall_any ao vs c ax _ _ (by omega) (HC.out.below HB1.out) ?_
    intro a n c' w2 hb hn hca
    have HB2 : Hid (Below w.heap.size w w2) := HB1.out.trans (hb.mono HB1.out.size)
    have HN := Lib.hid hn
    have HCA := Lib.hid hca
    clear hb hn hca
    go_wp2_with fail
    exact HR.out a n c' w2 HB2.out (by exact HN.out) (by exact HCA.out)
  · have K : (E != 0) = true := by simpa using h0
    have H0 := Lib.hid h0
    clear h0
    go_wp2_with fail
    exact HR.out none 0 0 w1 HB1.out (by rw [if_neg H0.out]; rfl) (by rw [if_neg H0.out]; exact CellsAt.nil _ _)
open Classical in
theorem alN_srt (vs : List Dm) (ax : Int) : ∀ k, SrtIs (alN vs ax k) (fun s => decide (s ∈ rawN vs ax k))
  | 0 => ⟨List.Pairwise.nil, fun s => by simp [alN, rawN]⟩
  | k + 1 => by
    have ih := alN_srt vs ax k
    rw [alN]
    by_cases h : ((dAt vs k).x == ax) = true
    · rw [if_pos h]
      have e : rawN vs ax (k + 1) = rawN vs ax k ++ [(dAt vs k).f, (dAt vs k).t] := by rw [rawN, if_pos h]
      refine (ih.put (dAt vs k).f (Q' := fun s => decide (s ∈ rawN vs ax k ++ [(dAt vs k).f])) fun t => ?_).put (dAt vs k).t fun t => ?_
      · rw [Bool.eq_iff_iff, Bool.or_eq_true, sameB_iff]; simp; exact or_congr Iff.rfl eq_comm
      · rw [Bool.eq_iff_iff, Bool.or_eq_true, sameB_iff, e]; simp; rw [or_assoc]; exact or_congr Iff.rfl (or_congr Iff.rfl eq_comm)
    · rw [if_neg h]
      have e : rawN vs ax (k + 1) = rawN vs ax k := by rw [rawN, if_neg h]
      rw [e]; exact ih
theorem alN_eq (vs : List Dm) (ax : Int) : alN vs ax vs.length = nmG vs ax := by
  classical
  exact (alN_srt vs ax vs.length).unique (sortU_srt (rawN vs ax vs.length) _ (fun s => by simp))
end Go.Proofs.Ytlgjhjgdmomfoaa
namespace Go.Proofs.Ytlgjhjgdmomfoaa
open Go.RowKit Go.Maps

def anN (vs : List Dm) : Nat → List ByteArray
  | 0 => []
  | k + 1 => putL (dAt vs k).t false (putL (dAt vs k).f false (anN vs k))
theorem anN_len (vs : List Dm) : ∀ k, (anN vs k).length ≤ 2 * k
  | 0 => Nat.le_refl _
  | k + 1 => by
    have h := anN_len vs k
    have h1 := putL_len (dAt vs k).f false (anN vs k)
    have h2 := putL_len (dAt vs k).t false (putL (dAt vs k).f false (anN vs k))
    rw [anN]
    omega
def fw22 (vs : List Dm) : Bool := if fw17 vs = true then if giE vs 0 = 0 then decide (vs.length ≤ 8) && decide ((anN vs vs.length).length ≤ 6) else true else false
set_option maxRecDepth 100000 in
set_option maxHeartbeats 8000000 in
theorem rfew22_any (ao : Option Addr) (vs : List Dm) (c : Nat) (w : World) (R : Ending → World → Prop) (hl : vs.length ≤ 9223372036854775807) (hc : CellsAt w ao (dC vs)) (hv : DmsOk vs)
   (hR : ∀ w', Below w.heap.size w w' → R (.returned (.bool (fw22 vs))) w') :
    Calls Try.prog 10 #[.slice ao vs.length c] w R := by
  have HR := Lib.hid hR
  have HC := Lib.hid hc
  have HV := Lib.hid hv
  clear hR hc hv
  obtain ⟨F, hF⟩ : ∃ F, fw17 vs = F := ⟨_, rfl⟩
  obtain ⟨E, hE⟩ : ∃ E, giE vs 0 = E := ⟨_, rfl⟩
  have HE := Lib.hid hE
  have HF := Lib.hid hF
  clear hE hF
  go_enter Try.func10, Try.ntmps10
  go_wp2_with fail
  refine rfew17_any ao vs c _ _ hl HC.out HV.out ?_
  rw [HF.out]
  intro w1 hb
  have HB1 : Hid (Below w.heap.size w w1) := hb.below _
  clear hb
  cases F with
  | false =>
    have hV : Hid (fw22 vs = false) := by unfold Hid fw22; rw [if_neg (by rw [HF.out]; simp)]
    go_wp2_with fail
    exact ret_b (HR.out _ HB1.out) rfl hV.out
  | true =>
  go_wp2_with fail
  refine rgiven_any ao vs c 0 _ _ hl (HC.out.below HB1.out) HV.out ?_
  rw [HE.out]
  intro w2 hb
  have HB2 : Hid (Below w.heap.size w w2) := HB1.out.trans (hb.mono HB1.out.size)
  clear hb
  by_cases h0 : E = 0
  case neg =>
    have K : (E != 0) = true := by simpa using h0
    have hV : Hid (fw22 vs = true) := by unfold Hid fw22; rw [if_pos HF.out, if_neg (by rw [HE.out]; exact h0)]
    clear h0
    go_wp2_with fail
    exact ret_b (HR.out _ HB2.out) rfl hV.out
  subst h0
  have hl2 := giE_len HE.out
  have hV : Hid (fw22 vs = (decide (vs.length ≤ 8) && decide ((anN vs vs.length).length ≤ 6))) := by unfold Hid fw22; rw [if_pos HF.out, if_pos HE.out]
  go_wp2_with fail
  go_loopw [4, 3] (fun j v wr => ∃ (k n : Nat) (a : Option Addr) (c' : Nat), k ≤ vs.length ∧ j = .int .i64 k ∧ v = .slice a n c' ∧ Hid (n = (anN vs k).length) ∧ Hid (Below w.heap.size w wr) ∧ Hid (CellsAt wr a (sC (anN vs k)))) (fun j _ _ => vs.length - (intOf j).toNat)
  case atStart => exact ⟨0, 0, none, 0, Nat.zero_le _, rfl, rfl, rfl, HB2, CellsAt.nil _ _⟩
  case round =>
    obtain ⟨k, n, a, c', hk, rfl, rfl, hn, HB, HK⟩ := hrel
    have sB := HB.out.size
    have lnK := anN_len vs k
    by_cases hlt : k < vs.length
    · obtain ⟨b, o, rfl, hbb, hcell⟩ := HC.out.dms (by omega)
      obtain ⟨c0, c1, c2, _, _⟩ := hcell k hlt
      have d0 := cellB HB.out c0 hbb
      have d1 := cellB HB.out c1 hbb
      have d2 := cellB HB.out c2 hbb
      have hst : Hid (anN vs (k + 1) = putL (dAt vs k).t false (putL (dAt vs k).f false (anN vs k))) := rfl
      obtain ⟨u, hu⟩ : ∃ u, dAt vs k = u := ⟨_, rfl⟩
      obtain ⟨ks, hks⟩ : ∃ ks, anN vs k = ks := ⟨_, rfl⟩
      rw [hu] at d0 d1 d2 hst
      rw [hks] at hst hn HK lnK
      have hkl : ks.length ≤ 1000000 := by omega
      have hk1 := putL_len u.f false ks
      obtain rfl := hn.out
      have hbr : b < wr.heap.size := by omega
      clear hcell hu hks c0 c1 c2 hn
      go_wp2_with fail
      have HBB : Hid (Below wr.heap.size wr wr.drew) := (Below.refl _ _).drew
      go_region_held3 (fun w' => w'.cell? ⟨b, o + k * 5, none⟩ = some (.string u.f) ∧ w'.cell? ⟨b, o + k * 5 + 1, none⟩ = some (.string u.t) ∧ Hid (Below wr.heap.size wr w'))
        (first | go_keep | exact ⟨d0, d1, HBB⟩ | exact ⟨r0, r1, r4⟩ | exact ⟨s0, s1', s4⟩)
        (first
          | ((fail_if_success (have gg := r4.out)); go_at_call 42; refine rput_any a ks c' u.f _ _ hkl (HK.out.below HBB.out) ?_; intro v1 w1 hb1 ho1; obtain ⟨a1, c1, rfl, hc1, _⟩ := ownsRow_read ho1.1; have r4 : Hid (Below wr.heap.size wr w1) := HBB.out.trans (hb1.mono (Nat.le_refl _)); have r0 := cellB r4.out d0 hbr; have r1 := cellB r4.out d1 hbr; have K1 := Lib.hid hc1; clear hb1 ho1 hc1)
          | (have gg := r4.out; clear gg; go_at_call 42; refine rput_any a1 (putL u.f false ks) c1 u.t _ _ (by omega) K1.out ?_; intro v2 w2 hb2 ho2; obtain ⟨a2, c2, rfl, hc2, _⟩ := ownsRow_read ho2.1; have s4 : Hid (Below wr.heap.size wr w2) := r4.out.trans (hb2.mono r4.out.size); have s0 := cellB s4.out d0 hbr; have s1' := cellB s4.out d1 hbr; have K2 := Lib.hid hc2; clear hb2 ho2 hc2))
      all_goals
        go_wp2_with fail
        exact ⟨⟨k + 1, _, a2, c2, by omega, by go_num, rfl, by rw [hst.out]; exact rfl, HB.out.trans (s4.out.mono sB), by rw [hst.out]; exact K2⟩, by simp [intOf]; omega⟩
    · obtain rfl : k = vs.length := by omega
      have hV2 := hV.out
      rw [← hn.out] at hV2
      by_cases h8 : vs.length ≤ 8
      · have K8 : decide ((vs.length : Int) ≤ 8) = true := by simp; omega
        have e : decide (n ≤ 6) = decide ((n : Int) ≤ 6) := by rw [decide_eq_decide]; omega
        rw [decide_eq_true h8, Bool.true_and, e] at hV2
        have HV2 := Lib.hid hV2
        clear hV2 h8 e
        go_wp2_with fail
        exact ret_b (HR.out _ HB.out) rfl HV2.out
      · have K8 : decide ((vs.length : Int) ≤ 8) = false := by simp; omega
        rw [decide_eq_false h8, Bool.false_and] at hV2
        have HV2 := Lib.hid hV2
        clear hV2 h8
        go_wp2_with fail
        exact ret_b (HR.out _ HB.out) rfl HV2.out
end Go.Proofs.Ytlgjhjgdmomfoaa
namespace Go.Proofs.Ytlgjhjgdmomfoaa

variable {F : Fence} {n : Nat} {P : Program} {md : Region.Mode} {ops : Array Oper} {Q : Exit → Act → World → Prop}
theorem calls_round {l : Nat} {f : FuncId} {args : Array Value} {w : World} {R : Ending → World → Prop} (h : CallsIn F n P f args w R) : CallsIn (F.inRound l) n P f args w R := h
theorem rows_round {l : Nat} {row : String} {args : Array Value} {w : World} {R : Value → World → Prop} (h : RowsIn F n P row args w R) : RowsIn (F.inRound l) n P row args w R := h
theorem oper_round {l : Nat} {o : Oper} {a : Act} {w : World} {K : Act → World → Prop} (_hro : F.round = none) (hd : ∀ c, o.op ≠ Op.defer c) (h : o.wpIn F n P a w K Q) : o.wpIn (F.inRound l) n P a w K Q := by
  unfold Oper.wpIn at *
  refine ⟨h.1, ?_⟩
  have hh := h.2
  rw [Oper.semAt_eq _ _ _ hd] at hh ⊢
  generalize (execOp a.eval o).run P w = r at *
  cases r with
  | ok x w' => cases x <;> exact hh
  | halt x w' => cases x <;> exact hh
theorem wpAnyIn_round {l : Nat} (hro : F.round = none) (hd : ∀ (j : Nat) (o : Oper) (c : Call), ops[j]? = some o → o.op ≠ Op.defer c) : ∀ (fuel : Nat) (listed : Array Bool) (a : Act) (w : World),
    wpAnyIn F n P md ops Q fuel listed a w → wpAnyIn (F.inRound l) n P md ops Q fuel listed a w
  | 0, _, _, _, h => h
  | fuel + 1, listed, a, w, h => by
    refine ⟨h.1, fun i hi => ?_⟩
    have h1 := h.2 i hi
    unfold wpOpIn at *
    split
    · rename_i ho
      simp only [ho] at h1
      exact wpAnyIn_round hro hd fuel _ _ _ h1
    · rename_i o ho
      simp only [ho] at h1
      split
      · rename_i hw
        simp only [hw, if_true] at h1
        exact Oper.wpIn_mono (fun a' w' h' => wpAnyIn_round hro hd fuel _ _ _ h') (oper_round hro (fun c => hd i o c ho) h1)
      · rename_i hw
        simp only [hw] at h1
        exact ⟨h1.1, wpAnyIn_round hro hd fuel _ _ _ h1.2⟩
/-- No operation defers. -/
def noDefer (ops : Array Oper) : Bool := ops.all fun o => match o.op with | .defer _ => false | _ => true
theorem noDefer_all {ops : Array Oper} (h : noDefer ops = true) : ∀ (j : Nat) (o : Oper) (c : Call), ops[j]? = some o → o.op ≠ Op.defer c := by
  intro j o c hj e
  unfold noDefer at h
  rw [Array.all_eq_true] at h
  obtain ⟨hlt, he⟩ := Array.getElem?_eq_some_iff.1 hj
  have h1 := h j hlt
  rw [he, e] at h1
  cases h1
/-- A region that draws inside a round: walk it outside of one. -/
theorem region_round {l id : Nat} {a : Act} {w : World} (hm : P.follows .mixedOrders = true) (hro : F.round = none) (hd : noDefer ops = true)
    (h : wpAnyIn F n P .any ops Q ops.size (Array.replicate ops.size false) a { w with drawn := w.drawn + 1 }) : (Code.region id ops true).wpIn (F.inRound l) n P Q a w :=
  wpIn_region_any hm (wpAnyIn_round hro (noDefer_all hd) _ _ _ _ h)
theorem region_round_quiet_lit {l id : Nat} {a : Act} {w : World} {os : List Oper} (hm : P.follows .mixedOrders = true) (hB : Region.lexB .any os.toArray = true) (hd : noDefer os.toArray = true) (hro : F.round = none)
    (h : wpQuietIn F n P os.toArray (fun w' => ∃ n, w' = w.drewN n) (fun a' => ∀ w', (∃ n, w' = w.drewN n) → Q .normal a' w') os a) : (Code.region id os.toArray true).wpIn (F.inRound l) n P Q a w := by
  have hB' := hB
  simp only [Region.lexB, Bool.and_eq_true] at hB'
  refine region_round hm hro hd (wpAnyIn_of_quiet (C := fun w' => ∃ n, w' = w.drewN n) (Q := fun a' => ∀ w', (∃ n, w' = w.drewN n) → Q .normal a' w') hro (fun _ w' hw' h => h w' hw') _ _ _ _ ⟨1, rfl⟩ ?_)
  have := wpAnyQIn_lex (F := F) (n := n) (C := fun w' => ∃ n, w' = w.drewN n) (md := .any) hB'.1 os.toArray.toList 0 (Array.replicate os.toArray.size false) a (by simp) (by simpa using hB'.2) (by simpa using h)
  simpa using this
end Go.Proofs.Ytlgjhjgdmomfoaa
namespace Go.Proofs.Ytlgjhjgdmomfoaa
open Go.RowKit Go.Maps

/-- It rests on what lay below B alone. -/
def Old {β : Type} (B : Nat) (J : β → World → Prop) : Prop := ∀ s W W', J s W → Below B W W' → J s W'
/-- What lies at or beyond B lies as it lay. -/
structure KeepsUp (B : Nat) (W W' : World) : Prop where
  size : W.heap.size ≤ W'.heap.size
  block : ∀ k, B ≤ k → k < W.heap.size → W'.heap[k]? = W.heap[k]?
theorem KeepsUp.refl (B : Nat) (W : World) : KeepsUp B W W := ⟨Nat.le_refl _, fun _ _ _ => rfl⟩
theorem KeepsUp.trans {B : Nat} {X Y Z : World} (h : KeepsUp B X Y) (k : KeepsUp B Y Z) : KeepsUp B X Z :=
  ⟨Nat.le_trans h.size k.size, fun i hB hi => (k.block i hB (Nat.lt_of_lt_of_le hi h.size)).trans (h.block i hB hi)⟩
theorem KeepsUp.alloc {B : Nat} {X Y : World} (h : KeepsUp B X Y) (o : Obj) : KeepsUp B X (Y.alloc o) :=
  h.trans ⟨by simp, fun _ _ hk => Below.heap_alloc _ _ _ hk⟩
theorem KeepsUp.drew {B : Nat} {X Y : World} (h : KeepsUp B X Y) : KeepsUp B X Y.drew := ⟨h.size, h.block⟩
theorem KeepsUp.mono {B B' : Nat} {X Y : World} (h : KeepsUp B X Y) (hB : B ≤ B') : KeepsUp B' X Y := ⟨h.size, fun k h1 h2 => h.block k (by omega) h2⟩
theorem KeepsUp.below {B B' : Nat} {X Y : World} (h : Below B X Y) (hB : X.heap.size ≤ B) : KeepsUp B' X Y := ⟨h.size, fun k _ h2 => h.block k (by omega)⟩
/-- A store, a turn of a block below B or laid since. -/
theorem KeepsUp.grown {B : Nat} {X Y Z : World} {row : Option Nat} (h : KeepsUp B X Y) (hg : Y.grownBy Z row) (hr : ∀ k, row = some k → k < B ∨ X.heap.size ≤ k) : KeepsUp B X Z :=
  ⟨Nat.le_trans h.size hg.size, fun k h1 h2 => (hg.block k (Nat.lt_of_lt_of_le h2 h.size) (fun e => by rcases hr k e.symm with h3 | h3 <;> omega)).trans (h.block k h1 h2)⟩
theorem KeepsUp.setCell {B : Nat} {X Y : World} (h : KeepsUp B X Y) {p : Addr} (hp : p.block < B ∨ X.heap.size ≤ p.block) (u : Value) : KeepsUp B X (Y.setCell p u) := by
  refine ⟨Nat.le_trans h.size (Below.setCell (Below.refl p.block Y) (Nat.le_refl _) u).size, fun k h1 h2 => ?_⟩
  have hne : k ≠ p.block := by intro e; rcases hp with h3 | h3 <;> omega
  exact (Below.heap_setCell Y p u k hne).trans (h.block k h1 h2)
/-- These blocks lie as they lay. -/
def KeepsBs (bs : List Nat) (W W' : World) : Prop := ∀ k ∈ bs, W'.heap[k]? = W.heap[k]?

/-- What an iterator does all of whose rounds go on: xs come, in this order. -/
def Gives {α : Type} (F : Fence) (n : Nat) (P : Program) (g : Nat) (lb : Array Value) (encs : α → Array Value) (bs : List Nat) (xs : List α) (w0 : World) : Prop :=
  ∀ (l : Nat) (J : List α → World → Prop) (W : World), Below w0.heap.size w0 W → Old W.heap.size J →
    (∀ pre x W1, J pre W1 → (pre ++ [x]) <+: xs → YieldAt F (n - 1) P l (encs x) W1 fun e W' => e = .returned (.bool true) ∧ J (pre ++ [x]) W' ∧ KeepsUp W.heap.size W1 W' ∧ KeepsBs bs W1 W') →
    J [] W → CallsIn F n P g (#[.func (.yield l) #[] #[]] ++ lb) W fun e W' => (∃ v, e = .returned v) ∧ J xs W'

/-- How a round's body is left: off its end. -/
def allPost {α : Type} (B : Nat) (bs : List Nat) (I : List α → World → Prop) (xs : List α) (W : World) : Exit → Act → World → Prop
  | .normal, _, W' => KeepsUp B W W' ∧ KeepsBs bs W W' ∧ I xs W'
  | _, _, _ => False

theorem wpIn_rangeFunc_all {F : Fence} {n : Nat} {P : Program} {α : Type} {g : Operand} {ps : Array Tmp} {assign body : Code} {Q : Exit → Act → World → Prop} {a : Act} {w : World}
    (hro : F.round = none) (h1 : 1 ≤ n) {gf : Nat} {lb : Array Value} (hg : a.eval g = .func (.func gf) #[] lb) (hFg : F.fn gf) (eg : ∀ args w, (callFunc gf args).run P w = .ok (.enter gf args) w)
    {encs : α → Array Value} {bs : List Nat} {xs : List α} {w0 : World} (hseq : Gives F (n - 1) P gf lb encs bs xs w0) (hb0 : Below w0.heap.size w0 w) (hps : ∀ x, (encs x).size = ps.size) (hbs : ∀ k ∈ bs, k < w.heap.size)
    (I : List α → World → Prop) (hI : Old w.heap.size I) (h0 : I [] w) (Ax : α → Act → World → Prop) (hAx : ∀ x a' W l r o, W.heap[l]? = some (.loop r) → Ax x a' W → Ax x a' (W.putObj l o))
    (hassign : ∀ (l : Nat) (pre : List α) (x : α) (W : World) (K : Act → World → Prop), I pre W → w.heap.size ≤ W.heap.size → (pre ++ [x]) <+: xs → (∀ a' W', Below W.heap.size W W' → Ax x a' W' → K a' W') →
      assign.wpIn (F.inRound l) (n - 1 - 1) P (Exit.then K (fun _ _ _ => False)) { tmps := (ps.zip (encs x)).foldl (fun t (p, v) => t.setIfInBounds p v) a.tmps, defers := [] } W)
    (hbody : ∀ (l : Nat) (pre : List α) (x : α) (a' : Act) (W : World), I pre W → Ax x a' W → w.heap.size ≤ W.heap.size → (pre ++ [x]) <+: xs → body.wpIn (F.inRound l) (n - 1 - 1) P (allPost w.heap.size bs I (pre ++ [x]) W) a' W)
    (hdone : ∀ (D : Nat) (W : World), w.heap.size ≤ D → I xs W → W.heap[D]? = some (.deferred (some [])) → Q .normal { a with defers := { target := .collected D, args := #[] } :: a.defers } W) :
    (Code.rangeFunc g ps assign body).wpIn F n P Q a w := by
  refine wpIn_rangeFunc ?_
  intro fn hfn
  rw [hro]
  obtain ⟨W0, hW0⟩ : ∃ W0, ((w.alloc (.deferred (some []))).alloc (.loop { state := .ready, pending := none, fn, tmps := a.tmps, params := ps, assign, body, defers := w.heap.size })) = W0 := ⟨_, rfl⟩
  have hB : w.heap.size + 2 = W0.heap.size := by rw [← hW0]; simp
  have hL : W0.heap[w.heap.size + 1]? = some (.loop { state := .ready, pending := none, fn, tmps := a.tmps, params := ps, assign, body, defers := w.heap.size }) := by
    rw [← hW0]
    have := World.alloc_heap_new (w.alloc (.deferred (some []))) (.loop { state := .ready, pending := none, fn, tmps := a.tmps, params := ps, assign, body, defers := w.heap.size }); rwa [World.size_alloc] at this
  have hK : W0.heap[w.heap.size]? = some (.deferred (some [])) := by
    rw [← hW0]; exact (Below.heap_alloc _ _ _ (by simp)).trans (World.alloc_heap_new w _)
  have hbl : Below w.heap.size w W0 := by
    rw [← hW0]; exact ((Below.refl _ w).alloc (Nat.le_refl _) _).alloc (by simp) _
  refine ⟨w.heap.size + 1, [{ target := .collected w.heap.size, args := #[] }], W0, { target := .fn (.func gf) lb, args := #[.func (.yield (w.heap.size + 1)) #[] #[]] }, W0, gf,
    #[.func (.yield (w.heap.size + 1)) #[] #[]] ++ lb, W0, ?_, ?_, ?_, ?_, fun _ => h1, ?_⟩
  · rw [← hW0]; exact run_enterLoop_outer _ _ _ _ _
  · simp only [resolve, hg]
    simp [go_sem]
  · intro f' hf'; simp [Target.leads] at hf'; subst hf'; exact hFg
  · simp [invoke, go_sem, eg]
  · clear hW0
    refine (hseq (w.heap.size + 1)
      (fun pre W => I pre W ∧ W.heap[w.heap.size + 1]? = some (.loop { state := .ready, pending := none, fn, tmps := a.tmps, params := ps, assign, body, defers := w.heap.size }) ∧ W.heap[w.heap.size]? = some (.deferred (some [])))
      W0 (hb0.trans (hbl.mono hb0.size))
      (fun s A B hs hAB => ⟨hI s A B hs.1 (hAB.mono (by omega)), (hAB.block _ (by omega)).trans hs.2.1, (hAB.block _ (by omega)).trans hs.2.2⟩)
      ?_ ⟨hI _ _ _ h0 hbl, hL, hK⟩).mono ?_
    · rintro pre x W ⟨hi, hl, hk⟩ hpre
      have hlt : w.heap.size + 1 < W.heap.size := (Array.getElem?_eq_some_iff.1 hl).1
      refine ⟨fn, _, assign, body, run_yield (P := P) (args := encs x) hl (hps x), roundIn_of_wpIn hfn (hassign _ pre x W _ hi (by omega) hpre ?_)⟩
      intro a' Wa hba hax
      have hla := (hba.block _ hlt).trans hl
      have hka := (hba.block w.heap.size (by omega)).trans hk
      have hia := hI _ _ _ hi (hba.mono (by omega))
      have hsa := hba.size
      refine ⟨_, run_beginRound hla rfl, ?_⟩
      have hp : ∀ (V : World) (o : Obj), Below w.heap.size V (V.putObj (w.heap.size + 1) o) := fun V o => ⟨rfl, rfl, rfl, by simp, fun k hk => World.putObj_heap_other (by omega)⟩
      refine wpIn_mono (hbody _ pre x a' _ (hI _ _ _ hia (hp _ _)) (hAx _ _ _ _ _ _ hla hax) (by simp; omega) hpre) ?_
      rintro e a3 W3 hpost
      cases e with
      | normal =>
        obtain ⟨k1, k2, k3⟩ := hpost
        have hl3 := (k1.block (w.heap.size + 1) (by omega) (by simp; omega)).trans (World.putObj_heap_same (by omega))
        have hk3 := ((k1.block w.heap.size (by omega) (by simp; omega)).trans (World.putObj_heap_other (by omega))).trans hka
        refine ⟨_, _, run_endRound (P := P) none hl3, rfl, ⟨hI _ _ _ k3 (hp _ _), World.putObj_heap_same (Array.getElem?_eq_some_iff.1 hl3).1, (World.putObj_heap_other (by omega)).trans hk3⟩, ⟨?_, ?_⟩, ?_⟩
        · have := k1.size; simp at this ⊢; omega
        · intro k h1 h2
          exact ((World.putObj_heap_other (by omega)).trans (k1.block k (by omega) (by simp; omega))).trans ((World.putObj_heap_other (by omega)).trans (hba.block k h2))
        · intro k hk'
          have h2 := hbs k hk'
          exact ((World.putObj_heap_other (by omega)).trans (k2 k hk')).trans ((World.putObj_heap_other (by omega)).trans (hba.block k (by omega)))
      | ret => exact hpost.elim
      | exit id => exact hpost.elim
      | goto t => exact hpost.elim
      | panic ch => exact hpost.elim
      | outgrown => exact hpost.elim
    · rintro e W2 ⟨⟨v, rfl⟩, hi, hl, hk⟩
      have hlt : w.heap.size + 1 < W2.heap.size := (Array.getElem?_eq_some_iff.1 hl).1
      exact ⟨none, _, run_endLoop (P := P) hl (by simp), hdone _ _ (Nat.le_refl _) (hI _ _ _ hi ⟨rfl, rfl, rfl, by simp, fun k hk => World.putObj_heap_other (by omega)⟩) ((World.putObj_heap_other (by omega)).trans hk)⟩

/-! ### the function's end behind such loops -/
theorem endM {F : Fence} {n : Nat} {P : Program} {fn : Func} {R : Ending → World → Prop} {tmps : Array Value} {V : World} {v : Value} {D : Nat} (hK : V.heap[D]? = some (.deferred (some [])))
    (hr : ∀ w, (results fn tmps).run P w = .ok v w) (hR : Below D V (V.putObj D (.deferred none)) → R (.returned v) (V.putObj D (.deferred none))) :
    bodyPostM F n P fn R .ret { tmps := tmps, defers := [{ target := .collected D, args := #[] }] } V :=
  ⟨by simp, .inl ⟨_, _, rfl, run_takeDeferred hK, ⟨_, hr _, hR ⟨rfl, rfl, rfl, by simp, fun k hk => World.putObj_heap_other (by omega)⟩⟩⟩⟩
theorem endM0 {F : Fence} {n : Nat} {P : Program} {fn : Func} {R : Ending → World → Prop} {tmps : Array Value} {V : World} {v : Value}
    (hr : ∀ w, (results fn tmps).run P w = .ok v w) (hR : R (.returned v) V) : bodyPostM F n P fn R .ret { tmps := tmps, defers := [] } V := ⟨_, hr _, hR⟩
theorem res1 {fn : Func} {t : Tmp} {P : Program} (h : fn.results = #[.tmp t]) {tmps : Array Value} {x : Value} (hx : tmps.getD t undef = x) (w : World) : (results fn tmps).run P w = .ok x w := by rw [results_tmp h, hx]
theorem res2 {fn : Func} {t u : Tmp} {P : Program} (h : fn.results = #[.tmp t, .tmp u]) {tmps : Array Value} {x y : Value} (hx : tmps.getD t undef = x) (hy : tmps.getD u undef = y) (w : World) : (results fn tmps).run P w = .ok (.tuple #[x, y]) w := by rw [results_tmp2 h, hx, hy]

/-! ### maps in rounds -/
section
variable {F : Fence} {nF : Nat} {P : Program} {k t e : TypeId} {b n : Nat} {f : SMap}
theorem wpIn_mapStore (w : World) {ops : Array Oper} {rest : List Oper} {o : Oper} {a : Act} {Q : Exit → Act → World → Prop}
    (hg : o.guard = none) (m x v : Operand) (t : TypeId) (hop : o.op = Op.mapUpdate t m x v) (k e : TypeId) (hk : P.underlying k = some .string) (ht : P.underlying t = some (.map k e)) (b n : Nat) (f : SMap)
    (hm : a.eval m = .map (some b)) (h : MapIs P k w b n f) (hn : n < maxLen) (s : ByteArray) (val : Value) (hx : a.eval x = .string s) (hv : a.eval v = val) (hs : s.size ≤ maxLen)
    (hK : ∀ w', MapIs P k w' b (n + 1) (f.put s val) → w.grownBy w' (some b) → wpListIn F nF P ops Q rest (a.put o.dst undef) w') :
    wpListIn F nF P ops Q (o :: rest) a w := by
  obtain ⟨D, h1, h2⟩ := h
  exact wpListIn_mapUpdate_own w hg m x v t hop k e (string_keyed hk) ht heldR b n D hm h1 hn (.string s) val (keyL s) hx hv (keyOfS hk hs) (.held val) [] rfl
    fun w' h3 h4 => hK w' ⟨_, h3, put_view h1.isMap h2 s val⟩ h4
theorem wpIn_mapLookOk (w : World) {ops : Array Oper} {rest : List Oper} {o : Oper} {a : Act} {Q : Exit → Act → World → Prop}
    (hg : o.guard = none) (m x : Operand) (t : TypeId) (hop : o.op = Op.lookup t m x true) (k e : TypeId) (hk : P.underlying k = some .string) (ht : P.underlying t = some (.map k e)) (b n : Nat) (f : SMap)
    (hm : a.eval m = .map (some b)) (h : MapIs P k w b n f) {z : Value} (hz : (zeroValue e).run P w = .ok z w) (s : ByteArray) (hx : a.eval x = .string s) (hs : s.size ≤ maxLen) (u : Value) (ok : Bool) (hu : (f s).getD z = u) (hok : (f s).isSome = ok)
    (hK : wpListIn F nF P ops Q rest (a.put o.dst (.tuple #[u, .bool ok])) w) :
    wpListIn F nF P ops Q (o :: rest) a w := by
  refine wpListIn_plain hg fun K' hK' => ?_
  have hrun := h.lookOk hk ht hz hs
  rw [hu, hok] at hrun
  unfold Oper.wpIn
  refine ⟨by simp [Oper.about, hop], ?_⟩
  rw [Oper.semAt_plain F _ _ (by rw [hop]; intro c hc'; cases hc')]
  simp [execOp, hop, hm, hx, hrun, Result.andThen]
  exact hK' _ _ hK
theorem wpIn_mapLook (w : World) {ops : Array Oper} {rest : List Oper} {o : Oper} {a : Act} {Q : Exit → Act → World → Prop}
    (hg : o.guard = none) (m x : Operand) (t : TypeId) (hop : o.op = Op.lookup t m x false) (k e : TypeId) (hk : P.underlying k = some .string) (ht : P.underlying t = some (.map k e)) (b n : Nat) (f : SMap)
    (hm : a.eval m = .map (some b)) (h : MapIs P k w b n f) {z : Value} (hz : (zeroValue e).run P w = .ok z w) (s : ByteArray) (hx : a.eval x = .string s) (hs : s.size ≤ maxLen) (u : Value) (hu : (f s).getD z = u)
    (hK : wpListIn F nF P ops Q rest (a.put o.dst u) w) :
    wpListIn F nF P ops Q (o :: rest) a w := by
  refine wpListIn_plain hg fun K' hK' => ?_
  have hrun := h.look hk ht hz hs
  rw [hu] at hrun
  unfold Oper.wpIn
  refine ⟨by simp [Oper.about, hop], ?_⟩
  rw [Oper.semAt_plain F _ _ (by rw [hop]; intro c hc'; cases hc')]
  simp [execOp, hop, hm, hx, hrun, Result.andThen]
  exact hK' _ _ hK
end
end Go.Proofs.Ytlgjhjgdmomfoaa
namespace Go.Proofs.Ytlgjhjgdmomfoaa
open Go.RowKit Go.Maps
attribute [local go_sem] Oper.semAt_some

/-- The indices from the last one down, k of them. -/
def dnp (n k : Nat) : List Nat := (List.range k).map fun j => n - 1 - j
theorem dnp_length (n k : Nat) : (dnp n k).length = k := by simp [dnp]
theorem dnp_succ (n k : Nat) : dnp n (k + 1) = dnp n k ++ [n - 1 - k] := by simp [dnp, List.range_succ]
theorem dnp_prefix (n : Nat) {k m : Nat} (h : k ≤ m) : dnp n k <+: dnp n m := by
  induction m with
  | zero => obtain rfl : k = 0 := by omega
            exact List.prefix_refl _
  | succ c ih =>
    by_cases e : k = c + 1
    · subst e; exact List.prefix_refl _
    · rw [dnp_succ]; exact (ih (by omega)).trans (List.prefix_append _ _)
/-- What came before x: k indices, x is the next. -/
theorem dnp_at {n : Nat} {pre : List Nat} {x : Nat} (h : (pre ++ [x]) <+: dnp n n) : pre.length < n ∧ pre = dnp n pre.length ∧ x = n - 1 - pre.length := by
  have hl := h.length_le
  simp [dnp_length] at hl
  have h2 := dnp_prefix n (show pre.length + 1 ≤ n from hl)
  have h3 : (pre ++ [x]) = dnp n (pre.length + 1) := by
    have e1 := List.prefix_iff_eq_take.1 h
    have e2 := List.prefix_iff_eq_take.1 h2
    rw [e2, dnp_length, e1]; simp
  rw [dnp_succ] at h3
  have h4 := List.append_inj h3 (by rw [dnp_length])
  exact ⟨hl, h4.1, by simpa using h4.2⟩
def evEnc (vs : List Ev) (i : Nat) : Array Value := #[.int .i64 i, .agg #[.int .i64 (eAt vs i).k, .string (eAt vs i).g, .string (eAt vs i).p, .string (eAt vs i).t]]

/-- The block of a log. -/
def logBs (vs : List Ev) (ao : Option Addr) : List Nat := if vs.length = 0 then [] else match ao with | some a => [a.block] | none => []
theorem logBs_mem {vs : List Ev} {ao : Option Addr} (h0 : 0 < vs.length) (b o : Nat) (e : ao = some ⟨b, o, none⟩) : b ∈ logBs vs ao := by
  unfold logBs; rw [if_neg (by omega), e]; exact List.mem_singleton.2 rfl
theorem logBs_lt {vs : List Ev} {ao : Option Addr} {w : World} (h : CellsAt w ao (eC vs)) : ∀ k ∈ logBs vs ao, k < w.heap.size := by
  intro k hk
  unfold logBs at hk
  by_cases h0 : vs.length = 0
  · rw [if_pos h0] at hk; cases hk
  · obtain ⟨b, o, rfl, hb, _⟩ := h (by rw [eC_length]; omega)
    rw [if_neg h0] at hk
    rw [List.mem_singleton.1 hk]; exact hb
theorem logBs_keep {vs : List Ev} {ao : Option Addr} {w V V' : World} (h : CellsAt w ao (eC vs)) (hb : Below w.heap.size V V') : KeepsBs (logBs vs ao) V V' := fun k hk => hb.block k (logBs_lt h k hk)

end Go.Proofs.Ytlgjhjgdmomfoaa
