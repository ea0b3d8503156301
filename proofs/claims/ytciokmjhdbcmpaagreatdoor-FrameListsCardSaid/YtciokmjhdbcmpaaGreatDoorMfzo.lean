/- All of the library. (Printed by gen_fall.py.) The walk of Put of the reference. Names of datums: as the reference puts them, and as the library sorts and compacts them. Named, Datums of reference 19. (Printed by gen_named.py.) Sort and Compact at own rows of names; Datums of the library. (Printed by gen_fdat.py.) -/
import Derived.Test.YtciokmjhdbcmpaaGreatDoorMfzm
import Derived.Test.YtciokmjhdbcmpaaGreatDoorMrq
import Derived.Lib.SlicesCompact
import Derived.Sort.OwnSorted
namespace Go.Proofs.YtciokmjhdbcmpaaGreatDoor
open Go.RowKit

/-- The kind j is among the first i. -/
def snQ (fs : List Fm) (i j : Nat) : Bool := anyN (fun k => (fmAt fs k).k == (j : Int)) i
def SnAt (fs : List Fm) (i : Nat) (cs : Array Value) : Prop := cs.size = 9 ∧ ∀ j, j < 9 → cs[j]? = some (.bool (snQ fs i j))
theorem SnAt.start (fs : List Fm) : SnAt fs 0 #[.bool false, .bool false, .bool false, .bool false, .bool false, .bool false, .bool false, .bool false, .bool false] :=
  ⟨rfl, fun j hj => by
    obtain rfl | rfl | rfl | rfl | rfl | rfl | rfl | rfl | rfl : j = 0 ∨ j = 1 ∨ j = 2 ∨ j = 3 ∨ j = 4 ∨ j = 5 ∨ j = 6 ∨ j = 7 ∨ j = 8 := by omega
    all_goals rfl⟩
theorem SnAt.put {fs : List Fm} {i kn : Nat} {cs : Array Value} (h : SnAt fs i cs) (hk : (fmAt fs i).k = (kn : Int)) (hkn : kn < 9) : SnAt fs (i + 1) (cs.setIfInBounds kn (.bool true)) := by
  refine ⟨by rw [Array.size_setIfInBounds]; exact h.1, fun j hj => ?_⟩
  rw [Array.getElem?_setIfInBounds]
  unfold snQ
  rw [anyN, hk]
  by_cases e : kn = j
  · subst e
    rw [if_pos rfl, if_pos (by rw [h.1]; exact hkn)]
    simp
  · rw [if_neg e, h.2 j hj]
    have e2 : ((kn : Int) == (j : Int)) = false := by simpa using (by omega : ¬ (kn : Int) = j)
    rw [e2, Bool.or_false]
    rfl
set_option maxRecDepth 100000 in
set_option maxHeartbeats 8000000 in
theorem fall_any (f : Ft) (fo : Option Addr) (fc : Nat) (w : World) (R : Ending → World → Prop) (hok : FtOk w f fo fc) (hR : ∀ w', Below w.heap.size w w' → R (.returned (.int .i64 (alE f))) w') :
    Calls Tryz.prog 31 #[ftV f fo fc] w R := by
  have HR := Lib.hid hR
  have HOF := Lib.hid hok
  obtain ⟨fn, hfn⟩ : ∃ fn, f.fs.length = fn := ⟨_, rfl⟩
  have HFV : Hid (ftV f fo fc = .agg #[.string f.n, .int .i64 f.k, .int .i64 f.a, .int .i64 f.x, .int .i64 f.y, .int .i64 f.z, .int .i64 f.l, .int .i64 f.h, .slice fo fn fc]) := by unfold Hid ftV; rw [hfn]
  have HFN := Lib.hid hfn
  have HLF := Lib.hid (hfn ▸ hok.len)
  clear hfn
  rw [HFV.out]
  obtain ⟨w1, E1, HB1, s1, HX1⟩ := box_ex w #[.string f.n, .int .i64 f.k, .int .i64 f.a, .int .i64 f.x, .int .i64 f.y, .int .i64 f.z, .int .i64 f.l, .int .i64 f.h, .slice fo fn fc] 28
  clear hR hok
  obtain ⟨E, hE0⟩ : ∃ E, alE f = E := ⟨_, rfl⟩
  have hE : Hid (alE f = E) := hE0
  rw [hE0] at HR
  clear hE0
  obtain ⟨M, hM⟩ : ∃ M, ftE f = M := ⟨_, rfl⟩
  have HM := Lib.hid hM
  clear hM
  have p0 := cell_at HX1.out (j := 0) (v := .string f.n) rfl
  have p1 := cell_at HX1.out (j := 1) (v := .int .i64 f.k) rfl
  have p2 := cell_at HX1.out (j := 2) (v := .int .i64 f.a) rfl
  have p3 := cell_at HX1.out (j := 3) (v := .int .i64 f.x) rfl
  have p4 := cell_at HX1.out (j := 4) (v := .int .i64 f.y) rfl
  have p5 := cell_at HX1.out (j := 5) (v := .int .i64 f.z) rfl
  have p6 := cell_at HX1.out (j := 6) (v := .int .i64 f.l) rfl
  have p7 := cell_at HX1.out (j := 7) (v := .int .i64 f.h) rfl
  have p8 := cell_at HX1.out (j := 8) (v := .slice fo fn fc) rfl
  go_enter Tryz.func31, Tryz.ntmps31
  go_wp2_with (rw [E1])
  rw [← HFV.out]
  refine check18_any f fo fc _ _ (HOF.out.below HB1.out).name fun W1 hb => ?_
  rw [HM.out]
  have BW : Hid (Below w.heap.size w W1) := HB1.out.trans (hb.mono HB1.out.size)
  have HY := Lib.hid ((hb.block _ (lt_of_block HX1.out)).trans HX1.out)
  clear p0 p1 p2 p3 p4 p5 p6 p7 p8
  clear hb E1 HX1
  have p0 := cell_at HY.out (j := 0) (v := .string f.n) rfl
  have p1 := cell_at HY.out (j := 1) (v := .int .i64 f.k) rfl
  have p2 := cell_at HY.out (j := 2) (v := .int .i64 f.a) rfl
  have p3 := cell_at HY.out (j := 3) (v := .int .i64 f.x) rfl
  have p4 := cell_at HY.out (j := 4) (v := .int .i64 f.y) rfl
  have p5 := cell_at HY.out (j := 5) (v := .int .i64 f.z) rfl
  have p6 := cell_at HY.out (j := 6) (v := .int .i64 f.l) rfl
  have p7 := cell_at HY.out (j := 7) (v := .int .i64 f.h) rfl
  have p8 := cell_at HY.out (j := 8) (v := .slice fo fn fc) rfl
  by_cases m0 : M = 0
  rotate_left
  · have K3 : (M != 0) = true := by simpa using m0
    have e : Hid (E = M) := by unfold Hid; rw [← hE.out]; unfold alE; rw [if_neg (by rw [HM.out]; exact m0), HM.out]
    clear m0
    go_wp2_with fail
    exact ret_i (HR.out _ BW.out) rfl e.out
  subst m0
  by_cases h8 : 8 < fn
  · have K5 : (8 < fn) = True := eq_true h8
    have e : Hid (E = 5) := by unfold Hid; rw [← hE.out]; unfold alE; rw [if_pos HM.out, HFN.out, if_pos h8]
    go_wp2_with fail
    exact ret_i (HR.out _ BW.out) rfl e.out
  have K5 : (8 < fn) = False := eq_false h8
  obtain ⟨X, hX⟩ : ∃ X, loopE (alF f) fn 0 () = X := ⟨_, rfl⟩
  have e : Hid (E = errR X) := by unfold Hid; rw [← hE.out, ← hX]; unfold alE; rw [if_pos HM.out, HFN.out, if_neg h8]
  have hX' := Lib.hid hX
  clear hE hX
  obtain ⟨W2, EW, HBW, sW, XS⟩ := box_ex W1 #[.bool false, .bool false, .bool false, .bool false, .bool false, .bool false, .bool false, .bool false, .bool false] 115
  have HY2 := Lib.hid ((HBW.out.block _ (lt_of_block HY.out)).trans HY.out)
  obtain ⟨SB, hSB⟩ : ∃ b, W1.heap.size = b := ⟨_, rfl⟩
  have hlw : w.heap.size < SB := by rw [← hSB]; exact lt_of_block HY.out
  have hW1 : W1.heap.size ≤ SB := by omega
  have BW2 : Hid (Below w.heap.size w W2) := BW.out.trans (HBW.out.mono BW.out.size)
  rw [hSB] at XS
  have q0 := cell_at HY2.out (j := 0) (v := .string f.n) rfl
  have q1 := cell_at HY2.out (j := 1) (v := .int .i64 f.k) rfl
  have q2 := cell_at HY2.out (j := 2) (v := .int .i64 f.a) rfl
  have q3 := cell_at HY2.out (j := 3) (v := .int .i64 f.x) rfl
  have q4 := cell_at HY2.out (j := 4) (v := .int .i64 f.y) rfl
  have q5 := cell_at HY2.out (j := 5) (v := .int .i64 f.z) rfl
  have q6 := cell_at HY2.out (j := 6) (v := .int .i64 f.l) rfl
  have q7 := cell_at HY2.out (j := 7) (v := .int .i64 f.h) rfl
  have q8 := cell_at HY2.out (j := 8) (v := .slice fo fn fc) rfl
  go_wp2_with (rw [EW])
  clear p0 p1 p2 p3 p4 p5 p6 p7 p8
  clear q0 q1 q2 q3 q4 q5 q6 q7 q8
  clear EW
  (try rw [hSB])
  clear hSB
  go_loopw [20] (fun j wr => ∃ i : Nat, i ≤ fn ∧ j = .int .i64 i ∧ Hid (Below W1.heap.size W1 wr) ∧ Hid (∃ cs, SnAt f.fs i cs ∧ wr.heap[SB]? = some (.cells cs 115 (0, 0))) ∧ Hid (loopE (alF f) (fn - i) i () = X)) (fun j _ => fn - (intOf j).toNat)
  case atStart => exact ⟨0, Nat.zero_le _, rfl, HBW, ⟨_, SnAt.start _, XS.out⟩, hX'⟩
  case round =>
    obtain ⟨i, hi, rfl, HB, HS, hL⟩ := hrel
    obtain ⟨cs, hsn, hcs⟩ := HS.out
    have HSN := Lib.hid hsn
    have HSC := Lib.hid hcs
    clear HS hsn hcs
    have Br : Hid (Below w.heap.size w wr) := BW.out.trans (HB.out.mono BW.out.size)
    have HZ := Lib.hid ((HB.out.block _ (lt_of_block HY.out)).trans HY.out)
    by_cases hlt : i < fn
    · obtain ⟨b, og, ef, hbf, hcl⟩ := HOF.out.frames (by rw [HFN.out]; omega)
      subst ef
      obtain ⟨xa, xc, hxo, c0, c1, c2, c3, c4⟩ := hcl i (by rw [HFN.out]; exact hlt)
      obtain ⟨x, hx⟩ : ∃ x, fmAt f.fs i = x := ⟨_, rfl⟩
      rw [hx] at hxo c0 c1 c2 c3 c4
      have HO := Lib.hid hxo
      have HFX := Lib.hid hx
      have r0 := cellB Br.out c0 hbf
      have r1 := cellB Br.out c1 hbf
      have r2 := cellB Br.out c2 hbf
      have r3 := cellB Br.out c3 hbf
      have r4 := cellB Br.out c4 hbf
      clear hcl hx hxo c0 c1 c2 c3 c4
      obtain ⟨G, hG⟩ : ∃ g, fcE f x = g := ⟨_, rfl⟩
      have HG := Lib.hid hG
      clear hG
      have hF : Hid (alF f i () = if G = 0 then (if anyN (twQ f.fs i) i = true then .inr 7 else .inl ()) else .inr G) := by unfold Hid alF; rw [HFX.out, HG.out]
      have HXV : Hid (fmV x xa xc = .agg #[.int .i64 x.k, .bool x.d, .int .i64 x.t, .int .i64 x.m, .slice xa x.ds.length xc]) := rfl
      obtain ⟨wA, EA, HBA, sA, XA⟩ := box_ex wr #[.int .i64 0, .bool false, .int .i64 0, .int .i64 0, .slice none 0 0] 31
      obtain ⟨wB, EB, HBB, KB, XB⟩ := set5 wA wr.heap.size _ _ _ _ _ (.int .i64 x.k) (.bool x.d) (.int .i64 x.t) (.int .i64 x.m) (.slice xa x.ds.length xc) _ XA.out
      have z0 := cell_at XA.out (j := 0) (v := .int .i64 0) rfl
      have z1 := cell_at XA.out (j := 1) (v := .bool false) rfl
      have z2 := cell_at XA.out (j := 2) (v := .int .i64 0) rfl
      have z3 := cell_at XA.out (j := 3) (v := .int .i64 0) rfl
      have z4 := cell_at XA.out (j := 4) (v := .slice none 0 0) rfl
      have y0 := frozen_at XA.out 0
      have y1 := frozen_at XA.out 1
      have y2 := frozen_at XA.out 2
      have y3 := frozen_at XA.out 3
      have y4 := frozen_at XA.out 4
      have BWB : Hid (Below wr.heap.size wr wB) := HBA.out.trans HBB.out
      have hSw := lt_of_block HSC.out
      have HSC := Lib.hid ((BWB.out.block _ hSw).trans HSC.out)
      have HZ := Lib.hid ((BWB.out.block _ (lt_of_block HZ.out)).trans HZ.out)
      have BB2 : Hid (Below w.heap.size w wB) := Br.out.trans (BWB.out.mono Br.out.size)
      clear KB HBA HBB
      have p0 := cell_at HZ.out (j := 0) (v := .string f.n) rfl
      have p1 := cell_at HZ.out (j := 1) (v := .int .i64 f.k) rfl
      have p2 := cell_at HZ.out (j := 2) (v := .int .i64 f.a) rfl
      have p3 := cell_at HZ.out (j := 3) (v := .int .i64 f.x) rfl
      have p4 := cell_at HZ.out (j := 4) (v := .int .i64 f.y) rfl
      have p5 := cell_at HZ.out (j := 5) (v := .int .i64 f.z) rfl
      have p6 := cell_at HZ.out (j := 6) (v := .int .i64 f.l) rfl
      have p7 := cell_at HZ.out (j := 7) (v := .int .i64 f.h) rfl
      have p8 := cell_at HZ.out (j := 8) (v := .slice (some ⟨b, og, none⟩) fn fc) rfl
      have v0 := cell_at XB.out (j := 0) (v := .int .i64 x.k) rfl
      have v1 := cell_at XB.out (j := 1) (v := .bool x.d) rfl
      have v2 := cell_at XB.out (j := 2) (v := .int .i64 x.t) rfl
      have v3 := cell_at XB.out (j := 3) (v := .int .i64 x.m) rfl
      have v4 := cell_at XB.out (j := 4) (v := .slice xa x.ds.length xc) rfl
      skip
      go_wp2_with (first | rw [EA] | rw [EB])
      rw [← HFV.out, ← HXV.out]
      refine fcheck_any f (some ⟨b, og, none⟩) fc x xa xc _ _ (HOF.out.below BB2.out) (HO.out.below BB2.out) fun V1 hb => ?_
      rw [HG.out]
      have BV : Hid (Below w.heap.size w V1) := BB2.out.trans (hb.mono BB2.out.size)
      have BVr : Hid (Below wr.heap.size wr V1) := BWB.out.trans (hb.mono BWB.out.size)
      have HXB := Lib.hid ((hb.block _ (lt_of_block XB.out)).trans XB.out)
      have HSC := Lib.hid ((hb.block _ (lt_of_block HSC.out)).trans HSC.out)
      clear p0 p1 p2 p3 p4 p5 p6 p7 p8
      clear hb EA EB XA XB BWB z0 y0 v0 r0 z1 y1 v1 r1 z2 y2 v2 r2 z3 y3 v3 r3 z4 y4 v4 r4
      by_cases g0 : G = 0
      rotate_left
      · have K3 : (G != 0) = true := by simpa using g0
        have e2 : Hid (E = G) := by unfold Hid; rw [e.out, loopE_hit hL hlt (by rw [hF.out, if_neg g0])]; rfl
        clear g0
        go_wp2_with fail
        exact ret_i (HR.out _ BV.out) rfl e2.out
      subst g0
      have hF2 : Hid (alF f i () = if anyN (twQ f.fs i) i = true then .inr 7 else .inl ()) := by unfold Hid; rw [hF.out, if_pos rfl]
      clear hF
      obtain ⟨k0, k9, _⟩ := plE_all (fcE_good HG.out).2.1
      obtain ⟨kn, hkn⟩ : ∃ kn : Nat, x.k = kn := ⟨x.k.toNat, by omega⟩
      have hk9 : kn < 9 := by omega
      have hfk : (fmAt f.fs i).k = (kn : Int) := by rw [HFX.out, hkn]
      have hSQ : Hid (anyN (twQ f.fs i) i = snQ f.fs i kn) := by unfold Hid snQ; show anyN (fun k => (fmAt f.fs k).k == (fmAt f.fs i).k) i = _; rw [hfk]
      have v0 := cell_at HXB.out (j := 0) (v := .int .i64 x.k) rfl
      rw [hkn] at v0
      have s0 := cell_at HSC.out (HSN.out.2 kn hk9)
      have y0 := frozen_at HSC.out kn
      obtain ⟨bb, hbb⟩ : ∃ b, snQ f.fs i kn = b := ⟨_, rfl⟩
      rw [hbb] at s0 hSQ
      have HFK := Lib.hid hfk
      clear hbb hfk k0 k9 hkn
      cases bb with
      | true =>
        have e3 : Hid (E = 7) := by unfold Hid; rw [e.out, loopE_hit hL hlt (by rw [hF2.out, if_pos hSQ.out])]; rfl
        go_wp2_with fail
        exact ret_i (HR.out _ BV.out) rfl e3.out
      | false =>
        have hstep := loopE_step hL hlt (by rw [hF2.out, if_neg (by rw [hSQ.out]; simp)])
        go_wp2_with fail
        exact ⟨⟨i + 1, by omega, by go_num, (HB.out.trans (BVr.out.mono HB.out.size)).setCell hW1 _, ⟨_, HSN.out.put HFK.out hk9, heap_setCell_same _ _ _ _ _ _ HSC.out⟩, hstep⟩, by simp [intOf]; omega⟩
    · obtain rfl : i = fn := by omega
      have e2 : Hid (E = 0) := by unfold Hid; rw [e.out, loopE_done hL hlt]; rfl
      go_wp2_with fail
      exact ret_i (HR.out _ Br.out) rfl e2.out
end Go.Proofs.YtciokmjhdbcmpaaGreatDoor
namespace Go.Proofs.YtciokmjhdbcmpaaGreatDoor
open Go.RowKit

theorem putL_steps (s : ByteArray) (d : Bool) {ks : List ByteArray} {k : Nat} (h : k < ks.length) : putL s d (ks.drop k) = (if (!d && !ltB (kat ks k) s) = true then [s] else []) ++ ((if sameB (kat ks k) s = true then [] else [kat ks k]) ++ putL s (d || !ltB (kat ks k) s) (ks.drop (k + 1))) := by
  rw [kat_drop h, putL]

set_option maxRecDepth 100000 in
set_option maxHeartbeats 4000000 in
theorem rput_any (ao : Option Addr) (ks : List ByteArray) (c : Nat) (s : ByteArray) (w : World) (R : Ending → World → Prop) (hl : ks.length ≤ 1000000) (hc : CellsAt w ao (sC ks))
   (hR : ∀ v w', Below w.heap.size w w' → OwnL w' w.heap.size 9 1 v (putL s false ks).length (sC (putL s false ks)) → R (.returned v) w') :
    Calls Tryz.prog 106 #[.slice ao ks.length c, .string s] w R := by
  have HR := Lib.hid hR
  have HC := Lib.hid hc
  clear hR hc
  obtain ⟨X, hX⟩ : ∃ X, Hid (putL s false ks = X) := ⟨_, Lib.hid rfl⟩
  have hX2 : Hid ([] ++ putL s false (ks.drop 0) = X) := hX
  have hXl : Hid (X.length ≤ ks.length + 1) := by unfold Hid; rw [← hX.out]; exact putL_len _ _ _
  rw [hX.out] at HR
  go_enter Tryz.func106, Tryz.ntmps106
  go_wp2_with fail
  go_loopw [7, 5, 6] (fun j v d wr => ∃ (k : Nat) (dn : Bool) (pre : List ByteArray), k ≤ ks.length ∧ j = .int .i64 k ∧ d = .bool dn ∧ Hid (Below w.heap.size w wr) ∧ Hid (OwnL wr w.heap.size 9 1 v pre.length (sC pre)) ∧ Hid (pre ++ putL s dn (ks.drop k) = X)) (fun j _ _ _ => ks.length - (intOf j).toNat)
  case atStart => exact ⟨0, false, [], Nat.zero_le _, rfl, rfl, Below.refl _ _, OwnL.nil _ _ _ _, hX2⟩
  case round =>
    obtain ⟨k, dn, pre, hk, rfl, rfl, HB, HO, hL⟩ := hrel
    have hpl : pre.length ≤ ks.length + 1 := by have := hXl.out; rw [← hL.out, List.length_append] at this; omega
    have sB := HB.out.size
    by_cases hlt : k < ks.length
    · obtain ⟨b, o, rfl, hbb, hcell0⟩ := HC.out.strs (by omega)
      have hcell := hcell0 k hlt
      have hst' := putL_steps s dn hlt
      obtain ⟨u, hu⟩ : ∃ u, kat ks k = u := ⟨_, rfl⟩
      rw [hu] at hcell hst'
      have d0 := cellB HB.out hcell hbb
      clear hcell0 hu
      cases dn with
      | true =>
        cases hs : sameB u s with
        | true =>
          have hs1 : (u.toList == s.toList) = true := hs
          have hst : Hid (putL s true (ks.drop k) = putL s true (ks.drop (k + 1))) := by unfold Hid; rw [hst', hs]; (try rfl)
          clear hs hst'
          go_wp2_with fail
          exact ⟨⟨k + 1, true, pre, by omega, by go_num, rfl, HB, HO, by unfold Hid; rw [← hL.out, hst.out]; (try simp)⟩, by simp [intOf]; omega⟩
        | false =>
          have hs1 : (u.toList == s.toList) = false := hs
          have hst : Hid (putL s true (ks.drop k) = u :: putL s true (ks.drop (k + 1))) := by unfold Hid; rw [hst', hs]; (try rfl)
          clear hs hst'
          go_wp2_with (at_builtin; refine wp_append1 rfl (.tmp 34) (.tmp 39) 63 rfl w.heap.size 9 Tryz.underlying63 Tryz.infoStr53 rfl (by decide) (by decide) u5 (pre).length (sC (pre)) rfl (HO.out.alloc _) wr.heap.size [.string u] rfl rfl (new1 _ _ _) (one1 _ rfl) (by first | omega | (simp; omega)) (by have := HB.out.size; simp; omega) ?_; intro v2 w2 hown hb; have HO2 : Hid (OwnL w2 w.heap.size 9 1 v2 ((pre) ++ [u]).length (sC ((pre) ++ [u]))) := (by unfold Hid; rw [sC_append, List.length_append]; exact hown); have HB2 : Hid (Below w.heap.size w w2) := (HB.out.alloc HB.out.size _).trans hb; have d2 := cellB HB2.out hcell hbb; clear hown hb)
          exact ⟨⟨k + 1, true, pre ++ [u], by omega, by go_num, rfl, HB2, HO2, by unfold Hid; rw [← hL.out, hst.out]; (try simp)⟩, by simp [intOf]; omega⟩
      | false =>
        cases hq : ltB u s with
        | true =>
          have hq1 : Op.bytesLess u.toList s.toList = true := hq
          have hs := ltB_same hq
          have hs1 : (u.toList == s.toList) = false := hs
          have hst : Hid (putL s false (ks.drop k) = u :: putL s false (ks.drop (k + 1))) := by unfold Hid; rw [hst', hs, hq]; (try rfl)
          clear hs hst' hq
          go_wp2_with (at_builtin; refine wp_append1 rfl (.tmp 34) (.tmp 39) 63 rfl w.heap.size 9 Tryz.underlying63 Tryz.infoStr53 rfl (by decide) (by decide) u5 (pre).length (sC (pre)) rfl (HO.out.alloc _) wr.heap.size [.string u] rfl rfl (new1 _ _ _) (one1 _ rfl) (by first | omega | (simp; omega)) (by have := HB.out.size; simp; omega) ?_; intro v2 w2 hown hb; have HO2 : Hid (OwnL w2 w.heap.size 9 1 v2 ((pre) ++ [u]).length (sC ((pre) ++ [u]))) := (by unfold Hid; rw [sC_append, List.length_append]; exact hown); have HB2 : Hid (Below w.heap.size w w2) := (HB.out.alloc HB.out.size _).trans hb; have d2 := cellB HB2.out hcell hbb; clear hown hb)
          exact ⟨⟨k + 1, false, pre ++ [u], by omega, by go_num, rfl, HB2, HO2, by unfold Hid; rw [← hL.out, hst.out]; (try simp)⟩, by simp [intOf]; omega⟩
        | false =>
          have hq1 : Op.bytesLess u.toList s.toList = false := hq
          cases hs : sameB u s with
          | true =>
            have hs1 : (u.toList == s.toList) = true := hs
            have hst : Hid (putL s false (ks.drop k) = s :: putL s true (ks.drop (k + 1))) := by unfold Hid; rw [hst', hs, hq]; (try rfl)
            clear hs hst' hq
            go_wp2_with (at_builtin; refine wp_append1 rfl (.tmp 24) (.tmp 26) 63 rfl w.heap.size 9 Tryz.underlying63 Tryz.infoStr53 rfl (by decide) (by decide) u5 (pre).length (sC (pre)) rfl (HO.out.alloc _) wr.heap.size [.string s] rfl rfl (new1 _ _ _) (one1 _ rfl) (by first | omega | (simp; omega)) (by have := HB.out.size; simp; omega) ?_; intro v1 w1 hown hb; have HO1 : Hid (OwnL w1 w.heap.size 9 1 v1 ((pre) ++ [s]).length (sC ((pre) ++ [s]))) := (by unfold Hid; rw [sC_append, List.length_append]; exact hown); have HB1 : Hid (Below w.heap.size w w1) := (HB.out.alloc HB.out.size _).trans hb; have d1 := cellB HB1.out hcell hbb; clear hown hb)
            exact ⟨⟨k + 1, true, pre ++ [s], by omega, by go_num, rfl, HB1, HO1, by unfold Hid; rw [← hL.out, hst.out]; (try simp)⟩, by simp [intOf]; omega⟩
          | false =>
            have hs1 : (u.toList == s.toList) = false := hs
            have hst : Hid (putL s false (ks.drop k) = s :: u :: putL s true (ks.drop (k + 1))) := by unfold Hid; rw [hst', hs, hq]; (try rfl)
            clear hs hst' hq
            go_wp2_with (first | (at_builtin; refine wp_append1 rfl (.tmp 24) (.tmp 26) 63 rfl w.heap.size 9 Tryz.underlying63 Tryz.infoStr53 rfl (by decide) (by decide) u5 (pre).length (sC (pre)) rfl (HO.out.alloc _) wr.heap.size [.string s] rfl rfl (new1 _ _ _) (one1 _ rfl) (by first | omega | (simp; omega)) (by have := HB.out.size; simp; omega) ?_; intro v1 w1 hown hb; have HO1 : Hid (OwnL w1 w.heap.size 9 1 v1 ((pre) ++ [s]).length (sC ((pre) ++ [s]))) := (by unfold Hid; rw [sC_append, List.length_append]; exact hown); have HB1 : Hid (Below w.heap.size w w1) := (HB.out.alloc HB.out.size _).trans hb; have d1 := cellB HB1.out hcell hbb; clear hown hb) | (at_builtin; refine wp_append1 rfl (.tmp 34) (.tmp 39) 63 rfl w.heap.size 9 Tryz.underlying63 Tryz.infoStr53 rfl (by decide) (by decide) v1 (pre ++ [s]).length (sC (pre ++ [s])) rfl (HO1.out.alloc _) w1.heap.size [.string u] rfl rfl (new1 _ _ _) (one1 _ rfl) (by first | omega | (simp; omega)) (by have := HB1.out.size; simp; omega) ?_; intro v2 w2 hown hb; have HO2 : Hid (OwnL w2 w.heap.size 9 1 v2 ((pre ++ [s]) ++ [u]).length (sC ((pre ++ [s]) ++ [u]))) := (by unfold Hid; rw [sC_append, List.length_append]; exact hown); have HB2 : Hid (Below w.heap.size w w2) := (HB1.out.alloc HB1.out.size _).trans hb; have d2 := cellB HB2.out hcell hbb; clear hown hb))
            exact ⟨⟨k + 1, true, (pre ++ [s]) ++ [u], by omega, by go_num, rfl, HB2, HO2, by unfold Hid; rw [← hL.out, hst.out]; (try simp)⟩, by simp [intOf]; omega⟩
    · have hd : Hid (ks.drop k = []) := List.drop_of_length_le (by omega)
      cases dn with
      | true =>
        have e : Hid (X = pre) := by unfold Hid; rw [← hL.out, hd.out, putL]; simp
        go_wp2_with fail
        exact HR.out _ _ HB.out (by rw [e.out]; exact HO.out)
      | false =>
        have e : Hid (X = pre ++ [s]) := by unfold Hid; rw [← hL.out, hd.out, putL]; simp
        go_wp2_with (at_builtin; refine wp_append1 rfl (.tmp 43) (.tmp 45) 63 rfl w.heap.size 9 Tryz.underlying63 Tryz.infoStr53 rfl (by decide) (by decide) u5 (pre).length (sC (pre)) rfl (HO.out.alloc _) wr.heap.size [.string s] rfl rfl (new1 _ _ _) (one1 _ rfl) (by first | omega | (simp; omega)) (by have := HB.out.size; simp; omega) ?_; intro v3 w3 hown hb; have HO3 : Hid (OwnL w3 w.heap.size 9 1 v3 ((pre) ++ [s]).length (sC ((pre) ++ [s]))) := (by unfold Hid; rw [sC_append, List.length_append]; exact hown); have HB3 : Hid (Below w.heap.size w w3) := (HB.out.alloc HB.out.size _).trans hb; clear hown hb)
        exact HR.out _ _ HB3.out (by rw [e.out]; exact HO3.out)
end Go.Proofs.YtciokmjhdbcmpaaGreatDoor
namespace Go.Proofs.YtciokmjhdbcmpaaGreatDoor
open Go.RowKit

/-- The names of the datums of frames, in order. -/
def nmsF (fs : List Fm) : List ByteArray := fs.flatMap (fun x => x.ds.map Dt.n)
/-- Names put into a list one behind the other: ascending, each once. -/
def putsL (ns : List ByteArray) : List ByteArray := ns.foldl (fun a s => putL s false a) []
theorem foldl_srt (ns : List ByteArray) : ∀ (acc : List ByteArray) (Q : ByteArray → Bool), SrtIs acc Q → SrtIs (ns.foldl (fun a s => putL s false a) acc) (fun s => Q s || hasL ns s) := by
  induction ns with
  | nil => intro acc Q h; exact ⟨h.up, fun s => by rw [List.foldl_nil, h.mem]; simp [hasL]⟩
  | cons n ns ih =>
    intro acc Q h
    have h1 := ih _ _ (h.put n (Q' := fun t => Q t || sameB n t) (fun _ => rfl))
    refine ⟨h1.up, fun s => ?_⟩
    rw [List.foldl_cons, h1.mem]
    unfold hasL; rw [List.any_cons, Bool.or_assoc]
theorem putsL_srt (ns : List ByteArray) : SrtIs (putsL ns) (hasL ns) := by
  have h := foldl_srt ns [] (fun _ => false) ⟨List.Pairwise.nil, fun s => by simp⟩
  exact ⟨h.up, fun s => by unfold putsL; rw [h.mem, Bool.false_or]⟩
theorem putsL_snoc (ns : List ByteArray) (s : ByteArray) : putsL (ns ++ [s]) = putL s false (putsL ns) := by unfold putsL; rw [List.foldl_append]; rfl
theorem putsL_len (ns : List ByteArray) : (putsL ns).length ≤ ns.length := by
  have h : ∀ (ns acc : List ByteArray), (ns.foldl (fun a s => putL s false a) acc).length ≤ acc.length + ns.length := by
    intro ns
    induction ns with
    | nil => intro acc; simp
    | cons n ns ih => intro acc; rw [List.foldl_cons, List.length_cons]; have := ih (putL n false acc); have := putL_len n false acc; omega
  have := h ns []
  simpa [putsL] using this
theorem nmsF_take {fs : List Fm} {i : Nat} (h : i < fs.length) : nmsF (fs.take (i + 1)) = nmsF (fs.take i) ++ (fmAt fs i).ds.map Dt.n := by
  unfold nmsF
  rw [List.take_add_one, List.getElem?_eq_getElem h, List.flatMap_append, fmAt_lt h]
  simp
theorem nms_step {ns : List ByteArray} {ds : List Dt} {k : Nat} (h : k < ds.length) : ns ++ (ds.take (k + 1)).map Dt.n = (ns ++ (ds.take k).map Dt.n) ++ [(dtAt ds k).n] := by
  rw [List.take_add_one, List.getElem?_eq_getElem h, dtAt_lt h, List.map_append, List.append_assoc]
  simp
/-- Frames with few datums. -/
def FewDs (fs : List Fm) : Prop := fs.length ≤ 8 ∧ ∀ i, i < fs.length → (fmAt fs i).ds.length ≤ 3
theorem nmsF_len {fs : List Fm} (h : FewDs fs) : ∀ i, i ≤ fs.length → (nmsF (fs.take i)).length ≤ i * 3
  | 0, _ => by simp [nmsF]
  | i + 1, hi => by
    have h1 := nmsF_len h i (by omega)
    rw [nmsF_take (by omega), List.length_append, List.length_map]
    have := h.2 i (by omega)
    omega
theorem nmsF_few {fs : List Fm} (h : FewDs fs) : (nmsF fs).length ≤ 24 := by
  have h1 := nmsF_len h fs.length (Nat.le_refl _)
  rw [List.take_length] at h1
  have := h.1
  omega
/-! ### compaction of a sorted list -/
theorem cpt_srt (d : Array (List UInt8)) (h : ∀ i j, i < j → j < d.size → d[i]! ≤ d[j]!) : ∀ m, m ≤ d.size →
    (Lib.compactUpTo d m).Pairwise (· < ·) ∧ (∀ x, x ∈ Lib.compactUpTo d m ↔ ∃ j, j < m ∧ d[j]! = x)
  | 0, _ => by
    have e : Lib.compactUpTo d 0 = [] := rfl
    rw [e]
    exact ⟨List.Pairwise.nil, fun x => by simp⟩
  | m + 1, hm => by
    obtain ⟨h1, h2⟩ := cpt_srt d h m (by omega)
    rw [Lib.compactUpTo_succ]
    by_cases hk : Lib.keeps d m = true
    · rw [if_pos hk]
      have hne : m = 0 ∨ d[m]! ≠ d[m - 1]! := by simpa [Lib.keeps] using hk
      refine ⟨List.pairwise_append.2 ⟨h1, List.pairwise_singleton _ _, fun a ha b hb => ?_⟩, fun x => ?_⟩
      · obtain rfl := List.mem_singleton.1 hb
        obtain ⟨j, hj, rfl⟩ := (h2 a).1 ha
        rcases hne with e | e
        · omega
        · have a2 := h (m - 1) m (by omega) (by omega)
          have a1 : d[j]! ≤ d[m - 1]! := by
            by_cases e2 : j = m - 1
            · subst e2; exact List.le_refl _
            · exact h j (m - 1) (by omega) (by omega)
          refine Std.lt_of_le_of_ne (List.le_trans a1 a2) (fun e3 => e ?_)
          rw [e3] at a1
          exact List.le_antisymm a1 a2
      · rw [List.mem_append, h2, List.mem_singleton]
        exact ⟨fun hx => by
            rcases hx with ⟨j, hj, e⟩ | e
            · exact ⟨j, by omega, e⟩
            · exact ⟨m, by omega, e.symm⟩,
          fun ⟨j, hj, e⟩ => by
            by_cases e2 : j = m
            · subst e2; exact .inr e.symm
            · exact .inl ⟨j, by omega, e⟩⟩
    · rw [if_neg hk, List.append_nil]
      have hne : m ≠ 0 ∧ d[m]! = d[m - 1]! := by simpa [Lib.keeps] using hk
      refine ⟨h1, fun x => ?_⟩
      rw [h2]
      exact ⟨fun ⟨j, hj, e⟩ => ⟨j, by omega, e⟩, fun ⟨j, hj, e⟩ => by
        by_cases e2 : j = m
        · exact ⟨m - 1, by omega, by rw [← hne.2, ← e2]; exact e⟩
        · exact ⟨j, by omega, e⟩⟩
/-- Sorted and compacted: the list that the reference makes. -/
theorem compact_puts (ns : List ByteArray) : (Lib.compact ((ns.map bL).mergeSort fun x y => decide (x ≤ y))).map ofL = putsL ns := by
  have tr : ∀ a b c : List UInt8, decide (a ≤ b) = true → decide (b ≤ c) = true → decide (a ≤ c) = true := fun a b c h1 h2 => by simp only [decide_eq_true_eq] at *; exact List.le_trans h1 h2
  have tt : ∀ a b : List UInt8, (decide (a ≤ b) || decide (b ≤ a)) = true := fun a b => by simp only [Bool.or_eq_true, decide_eq_true_eq]; exact List.le_total a b
  have hp := List.mergeSort_perm (ns.map bL) fun x y => decide (x ≤ y)
  have hs := List.pairwise_mergeSort tr tt (ns.map bL)
  obtain ⟨zs, hz⟩ : ∃ zs, (ns.map bL).mergeSort (fun x y => decide (x ≤ y)) = zs := ⟨_, rfl⟩
  rw [hz] at hp hs ⊢
  have hget : ∀ j, j < zs.length → zs.toArray[j]! = zs.getD j [] := fun j hj => by simp [hj]
  obtain ⟨q1, q2⟩ := cpt_srt zs.toArray (fun i j hi hj => by
    have hj' : j < zs.length := by simpa using hj
    rw [hget i (by omega), hget j hj', List.getD_eq_getElem?_getD, List.getD_eq_getElem?_getD, List.getElem?_eq_getElem (by omega), List.getElem?_eq_getElem hj']
    have := List.pairwise_iff_getElem.1 hs i j (by omega) hj' hi
    simpa using this) zs.length (by simp)
  refine SrtIs.unique (Q := hasL ns) ⟨?_, fun s => ?_⟩ (putsL_srt ns)
  · rw [List.pairwise_map]
    exact q1.imp (fun {a b} h => by rw [bL_ofL, bL_ofL]; exact h)
  · have hm : ∀ l, l ∈ Lib.compact zs ↔ l ∈ ns.map bL := fun l => by
      rw [← hp.mem_iff]
      show l ∈ Lib.compactUpTo zs.toArray zs.length ↔ _
      rw [q2]
      constructor
      · rintro ⟨j, hj, rfl⟩
        rw [hget j hj, List.getD_eq_getElem?_getD, List.getElem?_eq_getElem hj]
        exact List.getElem_mem _
      · intro h
        obtain ⟨j, hj, e⟩ := List.mem_iff_getElem.1 h
        exact ⟨j, hj, by rw [hget j hj, List.getD_eq_getElem?_getD, List.getElem?_eq_getElem hj]; exact e⟩
    rw [List.mem_map, hasL_iff]
    constructor
    · rintro ⟨l, hl, rfl⟩
      obtain ⟨s, hs2, e⟩ := List.mem_map.1 ((hm l).1 hl)
      rw [← e, ofL_bL]; exact hs2
    · intro h
      exact ⟨bL s, (hm _).2 (List.mem_map.2 ⟨s, h, rfl⟩), ofL_bL s⟩
theorem compact_len (ns : List ByteArray) : (Lib.compact ((ns.map bL).mergeSort fun x y => decide (x ≤ y))).length = (putsL ns).length := by rw [← compact_puts, List.length_map]
end Go.Proofs.YtciokmjhdbcmpaaGreatDoor
namespace Go.Proofs.YtciokmjhdbcmpaaGreatDoor
open Go.RowKit

theorem loopE_ne {F : Nat → Unit → Unit ⊕ Int} (hne : ∀ i e, F i () = .inr e → e ≠ 0) (n : Nat) : ∀ i e, loopE F n i () = .inr e → e ≠ 0 := by
  induction n with
  | zero => intro i e h; cases h
  | succ n ih =>
    intro i e h
    rw [loopE] at h
    cases hf : F i () with
    | inl u => rw [hf] at h; exact ih _ _ h
    | inr e' => rw [hf] at h; cases h; exact hne _ _ hf
theorem loopE_inl {F : Nat → Unit → Unit ⊕ Int} (n : Nat) : ∀ i, loopE F n i () = .inl () ↔ ∀ k, k < n → F (i + k) () = .inl () := by
  induction n with
  | zero => intro i; exact ⟨fun _ k hk => absurd hk (by omega), fun _ => rfl⟩
  | succ n ih =>
    intro i
    rw [loopE]
    cases hf : F i () with
    | inl u =>
      show loopE F n (i + 1) () = _ ↔ _
      rw [ih]
      constructor
      · intro h k hk
        cases k with
        | zero => rw [Nat.add_zero, hf]
        | succ k => have := h k (by omega); rwa [show i + 1 + k = i + (k + 1) from by omega] at this
      · intro h k hk
        have := h (k + 1) (by omega)
        rwa [show i + (k + 1) = i + 1 + k from by omega] at this
    | inr e =>
      constructor
      · intro h; cases h
      · intro h; have := h 0 (by omega); rw [Nat.add_zero, hf] at this; cases this
/-- When all frames of a feature are right. -/
theorem alE_zero {f : Ft} : alE f = 0 ↔ ftE f = 0 ∧ f.fs.length ≤ 8 ∧ ∀ i, i < f.fs.length → fcE f (fmAt f.fs i) = 0 ∧ ∀ k, k < i → (fmAt f.fs k).k ≠ (fmAt f.fs i).k := by
  unfold alE
  by_cases h0 : ftE f = 0
  · rw [if_pos h0]
    by_cases h8 : 8 < f.fs.length
    · rw [if_pos h8]
      exact ⟨fun h => absurd h (by decide), fun h => absurd h.2.1 (by omega)⟩
    · rw [if_neg h8]
      have hF : ∀ i, alF f i () = .inl () ↔ fcE f (fmAt f.fs i) = 0 ∧ ∀ k, k < i → (fmAt f.fs k).k ≠ (fmAt f.fs i).k := fun i => by
        unfold alF
        by_cases hc : fcE f (fmAt f.fs i) = 0
        · rw [if_pos hc]
          by_cases ha : anyN (twQ f.fs i) i = true
          · rw [if_pos ha]
            refine ⟨fun h => (by cases h), fun h => ?_⟩
            rw [anyN_none (fun k hk => by have := h.2 k hk; simpa [twQ] using this)] at ha
            cases ha
          · rw [if_neg ha]
            exact ⟨fun _ => ⟨hc, fun k hk => by have := anyN_each (eq_false_of_ne_true ha) k hk; simpa [twQ] using this⟩, fun _ => rfl⟩
        · rw [if_neg hc]
          exact ⟨fun h => (by cases h), fun h => absurd h.1 hc⟩
      have hne : ∀ i e, alF f i () = .inr e → e ≠ 0 := fun i e h => by
        unfold alF at h
        repeat' split at h
        all_goals first | (cases h; done) | (cases h; decide) | (cases h; assumption)
      have key : errR (loopE (alF f) f.fs.length 0 ()) = 0 ↔ loopE (alF f) f.fs.length 0 () = .inl () := by
        cases hl : loopE (alF f) f.fs.length 0 () with
        | inl u => exact ⟨fun _ => rfl, fun _ => rfl⟩
        | inr e =>
          refine ⟨fun h => ?_, fun h => (by cases h)⟩
          have he : e = 0 := h
          exact absurd he (loopE_ne hne _ _ _ hl)
      rw [key, loopE_inl]
      constructor
      · intro h; exact ⟨h0, by omega, fun i hi => (hF i).1 (by have := h i hi; rwa [Nat.zero_add] at this)⟩
      · intro h k hk; rw [Nat.zero_add]; exact (hF k).2 (h.2.2 k hk)
  · rw [if_neg h0]
    exact ⟨fun h => absurd h h0, fun h => absurd h.1 h0⟩
theorem alE_few {f : Ft} (h : alE f = 0) : FewDs f.fs := by
  obtain ⟨_, h8, hi⟩ := alE_zero.1 h
  exact ⟨h8, fun i hi' => plE_few (fcE_good (hi i hi').1).2.1⟩
/-- The names of the datums of a feature. -/
def dmL (f : Ft) : List ByteArray := if alE f = 0 then putsL (nmsF f.fs) else []
set_option maxRecDepth 100000 in
set_option maxHeartbeats 4000000 in
theorem rnamed_any (f : Ft) (fo : Option Addr) (fc : Nat) (w : World) (R : Ending → World → Prop) (hok : FtOk w f fo fc) (hfd : FewDs f.fs)
   (hR : ∀ v w', Below w.heap.size w w' → OwnL w' w.heap.size 9 1 v (putsL (nmsF f.fs)).length (sC (putsL (nmsF f.fs))) → R (.returned v) w') :
    Calls Tryz.prog 73 #[ftV f fo fc] w R := by
  have HR := Lib.hid hR
  have HOF := Lib.hid hok
  have HFD := Lib.hid hfd
  obtain ⟨fn, hfn⟩ : ∃ fn, f.fs.length = fn := ⟨_, rfl⟩
  have HFV : Hid (ftV f fo fc = .agg #[.string f.n, .int .i64 f.k, .int .i64 f.a, .int .i64 f.x, .int .i64 f.y, .int .i64 f.z, .int .i64 f.l, .int .i64 f.h, .slice fo fn fc]) := by unfold Hid ftV; rw [hfn]
  have HFN := Lib.hid hfn
  have HLF := Lib.hid (hfn ▸ hok.len)
  clear hfn
  rw [HFV.out]
  obtain ⟨w1, E1, HB1, s1, HX1⟩ := box_ex w #[.string f.n, .int .i64 f.k, .int .i64 f.a, .int .i64 f.x, .int .i64 f.y, .int .i64 f.z, .int .i64 f.l, .int .i64 f.h, .slice fo fn fc] 28
  have hfn8 : fn ≤ 8 := by have := hfd.1; rw [HFN.out] at this; exact this
  clear hR hok hfd
  obtain ⟨Z, hZ⟩ : ∃ Z, putsL (nmsF f.fs) = Z := ⟨_, rfl⟩
  rw [hZ] at HR
  have HZ0 := Lib.hid hZ
  clear hZ
  have p0 := cell_at HX1.out (j := 0) (v := .string f.n) rfl
  have p1 := cell_at HX1.out (j := 1) (v := .int .i64 f.k) rfl
  have p2 := cell_at HX1.out (j := 2) (v := .int .i64 f.a) rfl
  have p3 := cell_at HX1.out (j := 3) (v := .int .i64 f.x) rfl
  have p4 := cell_at HX1.out (j := 4) (v := .int .i64 f.y) rfl
  have p5 := cell_at HX1.out (j := 5) (v := .int .i64 f.z) rfl
  have p6 := cell_at HX1.out (j := 6) (v := .int .i64 f.l) rfl
  have p7 := cell_at HX1.out (j := 7) (v := .int .i64 f.h) rfl
  have p8 := cell_at HX1.out (j := 8) (v := .slice fo fn fc) rfl
  go_enter Tryz.func73, Tryz.ntmps73
  go_wp2_with (rw [E1])
  clear p0 p1 p2 p3 p4 p5 p6 p7 p8
  clear E1
  go_loopw [4, 3] (fun j v wr => ∃ (i : Nat) (L : List ByteArray) (av : Option Addr) (cv : Nat), i ≤ fn ∧ j = .int .i64 i ∧ v = .slice av L.length cv ∧ Hid (putsL (nmsF (f.fs.take i)) = L) ∧ Hid (Below w1.heap.size w1 wr) ∧ Hid (OwnL wr w.heap.size 9 1 (.slice av L.length cv) L.length (sC L))) (fun j _ _ => fn - (intOf j).toNat)
  case atStart => exact ⟨0, [], none, 0, Nat.zero_le _, rfl, rfl, rfl, Below.refl _ _, OwnL.nil _ _ _ _⟩
  case round =>
    obtain ⟨i, L, av, cv, hi, rfl, rfl, hL, HB, HO⟩ := hrel
    have Br : Hid (Below w.heap.size w wr) := HB1.out.trans (HB.out.mono HB1.out.size)
    have HZ := Lib.hid ((HB.out.block _ (lt_of_block HX1.out)).trans HX1.out)
    have p0 := cell_at HZ.out (j := 0) (v := .string f.n) rfl
    have p1 := cell_at HZ.out (j := 1) (v := .int .i64 f.k) rfl
    have p2 := cell_at HZ.out (j := 2) (v := .int .i64 f.a) rfl
    have p3 := cell_at HZ.out (j := 3) (v := .int .i64 f.x) rfl
    have p4 := cell_at HZ.out (j := 4) (v := .int .i64 f.y) rfl
    have p5 := cell_at HZ.out (j := 5) (v := .int .i64 f.z) rfl
    have p6 := cell_at HZ.out (j := 6) (v := .int .i64 f.l) rfl
    have p7 := cell_at HZ.out (j := 7) (v := .int .i64 f.h) rfl
    have p8 := cell_at HZ.out (j := 8) (v := .slice fo fn fc) rfl
    by_cases hlt : i < fn
    · obtain ⟨b, og, ef, hbf, hcl⟩ := HOF.out.frames (by rw [HFN.out]; omega)
      subst ef
      obtain ⟨xa, xc, hxo, c0, c1, c2, c3, c4⟩ := hcl i (by rw [HFN.out]; exact hlt)
      have hx3 := HFD.out.2 i (by rw [HFN.out]; exact hlt)
      have hstep : Hid (nmsF (f.fs.take (i + 1)) = nmsF (f.fs.take i) ++ (fmAt f.fs i).ds.map Dt.n) := nmsF_take (by rw [HFN.out]; exact hlt)
      have hlen : Hid ((nmsF (f.fs.take i)).length ≤ 24) := by unfold Hid; have := nmsF_len HFD.out i (by rw [HFN.out]; omega); have := HFD.out.1; rw [HFN.out] at this; omega
      obtain ⟨x, hx⟩ : ∃ x, fmAt f.fs i = x := ⟨_, rfl⟩
      rw [hx] at hxo c0 c1 c2 c3 c4 hx3 hstep
      have HO2 := Lib.hid hxo
      have C4 := Lib.hid c4
      have HBF := Lib.hid hbf
      obtain ⟨dn, hdn⟩ : ∃ dn, x.ds.length = dn := ⟨_, rfl⟩
      have HDN := Lib.hid hdn
      have h3 : dn ≤ 3 := by omega
      clear hx3
      obtain ⟨N, hN⟩ : ∃ N, nmsF (f.fs.take i) = N := ⟨_, rfl⟩
      rw [hN] at hstep hL hlen
      have r4 := cellB Br.out c4 hbf
      rw [hdn] at r4
      clear hcl hx hxo c0 c1 c2 c3 c4 hN hdn hbf
      obtain ⟨wo, hwo⟩ : ∃ wo, wo = wr := ⟨_, rfl⟩
      subst hwo
      go_wp2_with fail
      clear p0 p1 p2 p3 p4 p5 p6 p7 p8 r4
      go_loopw [5, 3] (fun j v wr => ∃ (k : Nat) (L : List ByteArray) (av : Option Addr) (cv : Nat), k ≤ dn ∧ j = .int .i64 k ∧ v = .slice av L.length cv ∧ Hid (putsL (N ++ (x.ds.take k).map Dt.n) = L) ∧ Hid (Below wo.heap.size wo wr) ∧ Hid (OwnL wr w.heap.size 9 1 (.slice av L.length cv) L.length (sC L))) (fun j _ _ => dn - (intOf j).toNat)
      case atStart => exact ⟨0, L, av, cv, Nat.zero_le _, rfl, rfl, by unfold Hid; rw [List.take_zero, List.map_nil, List.append_nil]; exact hL.out, Below.refl _ _, HO⟩
      case round =>
        obtain ⟨k, M, am, cm, hk, rfl, rfl, hM, HB2, HOM⟩ := hrel
        have Bk : Hid (Below w.heap.size w wr) := Br.out.trans (HB2.out.mono Br.out.size)
        have HZk := Lib.hid ((HB2.out.block _ (lt_of_block HZ.out)).trans HZ.out)
        have p0 := cell_at HZk.out (j := 0) (v := .string f.n) rfl
        have p1 := cell_at HZk.out (j := 1) (v := .int .i64 f.k) rfl
        have p2 := cell_at HZk.out (j := 2) (v := .int .i64 f.a) rfl
        have p3 := cell_at HZk.out (j := 3) (v := .int .i64 f.x) rfl
        have p4 := cell_at HZk.out (j := 4) (v := .int .i64 f.y) rfl
        have p5 := cell_at HZk.out (j := 5) (v := .int .i64 f.z) rfl
        have p6 := cell_at HZk.out (j := 6) (v := .int .i64 f.l) rfl
        have p7 := cell_at HZk.out (j := 7) (v := .int .i64 f.h) rfl
        have p8 := cell_at HZk.out (j := 8) (v := .slice (some ⟨b, og, none⟩) fn fc) rfl
        have r4 := cellB Bk.out C4.out HBF.out
        rw [HDN.out] at r4
        by_cases hlk : k < dn
        · obtain ⟨db, dg, ed, hbd, hdc⟩ := HO2.out.cells.dts (by rw [HDN.out]; omega)
          subst ed
          obtain ⟨e0, _⟩ := hdc k (by rw [HDN.out]; exact hlk)
          have hs2 : Hid (N ++ (x.ds.take (k + 1)).map Dt.n = (N ++ (x.ds.take k).map Dt.n) ++ [(dtAt x.ds k).n]) := nms_step (by rw [HDN.out]; exact hlk)
          obtain ⟨s, hs⟩ : ∃ s, (dtAt x.ds k).n = s := ⟨_, rfl⟩
          rw [hs] at e0 hs2
          have t0 := cellB Bk.out e0 hbd
          have hML : Hid (M.length ≤ 1000000) := by unfold Hid; have h := putsL_len (N ++ (x.ds.take k).map Dt.n); rw [hM.out, List.length_append, List.length_map, List.length_take] at h; have := hlen.out; omega
          have hput : Hid (putsL (N ++ (x.ds.take (k + 1)).map Dt.n) = putL s false M) := by unfold Hid; rw [hs2.out, putsL_snoc, hM.out]
          clear hdc e0 hs hs2
          obtain ⟨ar, cr, er, hcr, _⟩ := HOM.out.read
          have hcr2 : CellsAt wr am (sC M) := by cases er; exact hcr
          have HCR := Lib.hid hcr2
          clear er hcr hcr2
          go_wp2_with fail
          refine rput_any _ M cm s _ _ hML.out HCR.out ?_
          intro v2 w2 hb2 ho2
          obtain ⟨a2, c2, rfl, _⟩ := ho2.read
          have HB3 : Hid (Below wo.heap.size wo w2) := HB2.out.trans (hb2.mono HB2.out.size)
          have HO3 := Lib.hid (ho2.mono (base' := w.heap.size) Bk.out.size)
          clear hb2 ho2
          go_wp2_with fail
          exact ⟨⟨k + 1, _, _, _, by omega, by go_num, rfl, hput, HB3, HO3⟩, by simp [intOf]; omega⟩
        · obtain rfl : k = dn := by omega
          have e2 : Hid (putsL (nmsF (f.fs.take (i + 1))) = M) := by unfold Hid; rw [hstep.out, ← hM.out, ← HDN.out, List.take_length]
          go_wp2_with fail
          exact ⟨⟨i + 1, M, am, cm, by omega, by go_num, rfl, e2, HB.out.trans (HB2.out.mono HB.out.size), HOM⟩, by simp [intOf]; omega⟩
    · obtain rfl : i = fn := by omega
      have e2 : Hid (Z = L) := by unfold Hid; rw [← HZ0.out, ← hL.out, ← HFN.out, List.take_length]
      go_wp2_with fail
      exact HR.out _ _ Br.out (by rw [e2.out]; exact HO.out)

set_option maxRecDepth 100000 in
set_option maxHeartbeats 4000000 in
theorem rdatums_any19 (f : Ft) (fo : Option Addr) (fc : Nat) (w : World) (R : Ending → World → Prop) (hok : FtOk w f fo fc)
   (hR : ∀ a c w', Below w.heap.size w w' → CellsAt w' a (sC (dmL f)) → R (.returned (.tuple #[.slice a (dmL f).length c, .int .i64 (alE f)])) w') :
    Calls Tryz.prog 30 #[ftV f fo fc] w R := by
  have HR := Lib.hid hR
  have HOF := Lib.hid hok
  obtain ⟨fn, hfn⟩ : ∃ fn, f.fs.length = fn := ⟨_, rfl⟩
  have HFV : Hid (ftV f fo fc = .agg #[.string f.n, .int .i64 f.k, .int .i64 f.a, .int .i64 f.x, .int .i64 f.y, .int .i64 f.z, .int .i64 f.l, .int .i64 f.h, .slice fo fn fc]) := by unfold Hid ftV; rw [hfn]
  have HFN := Lib.hid hfn
  have HLF := Lib.hid (hfn ▸ hok.len)
  clear hfn
  rw [HFV.out]
  obtain ⟨w1, E1, HB1, s1, HX1⟩ := box_ex w #[.string f.n, .int .i64 f.k, .int .i64 f.a, .int .i64 f.x, .int .i64 f.y, .int .i64 f.z, .int .i64 f.l, .int .i64 f.h, .slice fo fn fc] 28
  clear hR hok
  obtain ⟨E, hE0⟩ : ∃ E, alE f = E := ⟨_, rfl⟩
  have hE : Hid (alE f = E) := hE0
  rw [hE0] at HR
  clear hE0
  have p0 := cell_at HX1.out (j := 0) (v := .string f.n) rfl
  have p1 := cell_at HX1.out (j := 1) (v := .int .i64 f.k) rfl
  have p2 := cell_at HX1.out (j := 2) (v := .int .i64 f.a) rfl
  have p3 := cell_at HX1.out (j := 3) (v := .int .i64 f.x) rfl
  have p4 := cell_at HX1.out (j := 4) (v := .int .i64 f.y) rfl
  have p5 := cell_at HX1.out (j := 5) (v := .int .i64 f.z) rfl
  have p6 := cell_at HX1.out (j := 6) (v := .int .i64 f.l) rfl
  have p7 := cell_at HX1.out (j := 7) (v := .int .i64 f.h) rfl
  have p8 := cell_at HX1.out (j := 8) (v := .slice fo fn fc) rfl
  go_enter Tryz.func30, Tryz.ntmps30
  go_wp2_with (rw [E1])
  rw [← HFV.out]
  refine rall_any f fo fc _ _ (HOF.out.below HB1.out) fun W1 hb => ?_
  rw [hE.out]
  have BW : Hid (Below w.heap.size w W1) := HB1.out.trans (hb.mono HB1.out.size)
  have HY := Lib.hid ((hb.block _ (lt_of_block HX1.out)).trans HX1.out)
  clear p0 p1 p2 p3 p4 p5 p6 p7 p8
  clear hb E1 HX1
  have p0 := cell_at HY.out (j := 0) (v := .string f.n) rfl
  have p1 := cell_at HY.out (j := 1) (v := .int .i64 f.k) rfl
  have p2 := cell_at HY.out (j := 2) (v := .int .i64 f.a) rfl
  have p3 := cell_at HY.out (j := 3) (v := .int .i64 f.x) rfl
  have p4 := cell_at HY.out (j := 4) (v := .int .i64 f.y) rfl
  have p5 := cell_at HY.out (j := 5) (v := .int .i64 f.z) rfl
  have p6 := cell_at HY.out (j := 6) (v := .int .i64 f.l) rfl
  have p7 := cell_at HY.out (j := 7) (v := .int .i64 f.h) rfl
  have p8 := cell_at HY.out (j := 8) (v := .slice fo fn fc) rfl
  by_cases m0 : E = 0
  rotate_left
  · have K3 : (E != 0) = true := by simpa using m0
    have e : Hid (dmL f = []) := by unfold Hid dmL; rw [if_neg (by rw [hE.out]; exact m0)]
    clear m0
    go_wp2_with fail
    have h := HR.out none 0 _ BW.out (by rw [e.out]; exact CellsAt.nil _ _)
    rw [e.out] at h
    exact h
  subst m0
  have e : Hid (dmL f = putsL (nmsF f.fs)) := by unfold Hid dmL; rw [if_pos hE.out]
  rw [e.out] at HR
  go_wp2_with fail
  rw [← HFV.out]
  refine rnamed_any f fo fc _ _ (HOF.out.below BW.out) (alE_few hE.out) fun v W2 hb2 ho2 => ?_
  obtain ⟨a2, c2, rfl, h2, _⟩ := ho2.read
  have B2 : Hid (Below w.heap.size w W2) := BW.out.trans (hb2.mono BW.out.size)
  have HC2 := Lib.hid h2
  clear p0 p1 p2 p3 p4 p5 p6 p7 p8
  clear hb2 ho2 h2
  go_wp2_with fail
  exact HR.out _ _ _ B2.out HC2.out
end Go.Proofs.YtciokmjhdbcmpaaGreatDoor
namespace Go.Proofs.YtciokmjhdbcmpaaGreatDoor
open Go.RowKit Go.Sort

theorem enc_bL (ks : List ByteArray) : (ks.map bL).map encStr = sC ks := by
  unfold sC
  rw [List.map_map]
  refine List.map_congr_left fun s _ => ?_
  show Value.string ⟨s.data.toList.toArray⟩ = .string s
  simp
theorem sC_ofL (zs : List (List UInt8)) : sC (zs.map ofL) = zs.map encStr := by
  unfold sC
  rw [List.map_map]
  rfl
theorem cells_take {w : World} {ao : Option Addr} {a b : List Value} (h : CellsAt w ao (a ++ b)) : CellsAt w ao a := by
  intro h0
  obtain ⟨x, y, e, hl, hc⟩ := h (by rw [List.length_append]; omega)
  refine ⟨x, y, e, hl, fun j hj => ?_⟩
  rw [hc j (by rw [List.length_append]; omega), List.getD_eq_getElem?_getD, List.getElem?_append_left hj, List.getD_eq_getElem?_getD]
/-- slices.Sort of an own list of names. -/
theorem sortN_any (base : Nat) (ks : List ByteArray) (v : Value) (w : World) (R : Ending → World → Prop) (hk : ks.length ≤ 1000) (hbase : base ≤ w.heap.size) (ho : w.ownsRow base 9 1 v ks.length (sC ks))
   (hR : ∀ w', Below base w w' → w'.ownsRow base 9 1 v ks.length (((ks.map bL).mergeSort fun x y => decide (x ≤ y)).map encStr) → R (.returned (.tuple #[])) w') :
    Calls Tryz.prog 71 #[v] w R := by
  have HR := Lib.hid hR
  clear hR
  rcases ho.2 with ⟨rfl, h0⟩ | ⟨g, cap, cur, rfl, hb, hgg, h1, h2, h3, h4⟩
  · have hk0 : ks.length = 0 := h0
    obtain rfl := List.length_eq_zero_iff.1 hk0
    refine (Tryz.slices_Sort_string_none none 0 w).mono ?_
    rintro e w' ⟨rfl, rfl⟩
    refine HR.out _ (Below.refl _ _) ?_
    rw [List.map_nil, List.mergeSort_nil, List.map_nil]; exact ho
  · have ht : cur.toList.take (ks.map bL).length = (ks.map bL).map encStr := by rw [enc_bL, List.length_map, ← h4, Nat.mul_one]
    have hc := Tryz.slices_Sort_string g 0 cap (ks.map bL) w (holds_of_block hgg ht) (lt_of_block hgg) (by rw [List.length_map]; omega)
    rw [List.length_map] at hc
    refine hc.mono ?_
    rintro e w' ⟨rfl, n, os, rfl⟩
    have hO := ownsRow_sorted (n := n) (os := os) (ss := ks.map bL) (ts := (ks.map bL).mergeSort fun x y => decide (x ≤ y)) (by rw [List.length_mergeSort]) hb hgg (by rw [List.length_map]; exact h1) h2 h3
    rw [List.length_map] at hO
    exact HR.out _ ((Below.refl _ _).grown (grownBy_sorted _) hbase (fun k e => by cases e; exact hb)) hO
theorem cpt_le (zs : List (List UInt8)) : (Lib.compact zs).length ≤ zs.length := by
  unfold Lib.compact Lib.compactUpTo
  rw [List.length_map]
  have := List.length_filter_le (Lib.keeps zs.toArray) (List.range zs.length)
  rwa [List.length_range] at this
/-- slices.Compact of an own list of names. -/
theorem compactN_any (base : Nat) (zs : List (List UInt8)) (v : Value) (w : World) (R : Ending → World → Prop) (hk : zs.length ≤ 1000) (hbase : base ≤ w.heap.size) (ho : w.ownsRow base 9 1 v zs.length (zs.map encStr))
   (hR : ∀ a c w', Below base w w' → CellsAt w' a (sC ((Lib.compact zs).map ofL)) → (∀ b o, a = some ⟨b, o, none⟩ → base ≤ b) → R (.returned (.slice a (Lib.compact zs).length c)) w') :
    Calls Tryz.prog 72 #[v] w R := by
  have HR := Lib.hid hR
  clear hR
  rcases ho.2 with ⟨rfl, h0⟩ | ⟨g, cap, cur, rfl, hb, hgg, h1, h2, h3, h4⟩
  · have hk0 : zs.length = 0 := h0
    obtain rfl := List.length_eq_zero_iff.1 hk0
    refine (Tryz.slices_Compact_string_empty none 0 w).mono ?_
    rintro e w' ⟨rfl, rfl⟩
    exact HR.out none 0 _ (Below.refl _ _) (CellsAt.nil _ _) (fun b o e => by cases e)
  · have ht : cur.toList.take zs.length = zs.map encStr := by rw [← h4, Nat.mul_one]
    refine (Tryz.slices_Compact_string g 0 cap zs w (holds_of_block hgg ht) (by omega) h1).mono ?_
    rintro e w' ⟨rfl, q, rfl⟩
    have hO := ownsRow_sorted (n := q) (os := #[]) (ss := zs) (ts := Lib.compact zs ++ List.replicate (zs.length - (Lib.compact zs).length) []) (by rw [List.length_append, List.length_replicate]; have := cpt_le zs; omega) hb hgg h1 h2 h3
    have hB := (Below.refl base w).grown (grownBy_sorted (w := w) (g := g) (n := q) (os := #[]) (Lib.compact zs ++ List.replicate (zs.length - (Lib.compact zs).length) []).toArray) hbase (fun k e => by cases e; exact hb)
    rw [Sort.grow_empty] at hO hB
    refine HR.out _ _ _ hB ?_ (fun b o e => by cases e; exact hb)
    rw [sC_ofL]
    rw [List.map_append] at hO
    rcases hO.2 with ⟨e1, _⟩ | ⟨g2, cap2, cur2, e1, _, k2, k3, _, k5, k6⟩
    · cases e1
    · cases e1
      intro hpos
      refine ⟨_, 0, rfl, lt_of_block k2, fun j hj => ?_⟩
      rw [List.length_map] at hj
      have hlen := cpt_le zs
      have hj2 : j < cur2.size := by omega
      have e3 : ((Lib.compact zs).map encStr)[j]? = cur2[j]? := by
        have h8 : (cur2.toList.take (zs.length * 1))[j]? = ((Lib.compact zs).map encStr ++ (List.replicate (zs.length - (Lib.compact zs).length) []).map encStr)[j]? := by rw [k6]
        rw [List.getElem?_append_left (by rw [List.length_map]; exact hj), List.getElem?_take, if_pos (by omega), Array.getElem?_toList] at h8
        exact h8.symm
      rw [List.getD_eq_getElem?_getD, e3]
      simp [World.cell?, k2, hj2]
theorem set2 (w : World) (b : Nat) (z u x y : Value) (T : TypeId) (h : w.heap[b]? = some (.cells #[z, u] T (0, 0))) : ∃ w', (w.setCell ⟨b, 0, none⟩ x).setCell ⟨b, 1, none⟩ y = w' ∧ Hid (Below b w w') ∧ Hid (∀ j, j ≠ b → w'.heap[j]? = w.heap[j]?) ∧ Hid (w'.heap[b]? = some (.cells #[x, y] T (0, 0))) :=
  ⟨_, rfl, ((Below.refl b w).setCell (Nat.le_refl _) x).setCell (Nat.le_refl _) y, fun j hj => (Below.heap_setCell _ ⟨b, 1, none⟩ _ j hj).trans (Below.heap_setCell _ ⟨b, 0, none⟩ _ j hj), heap_setCell_same _ b 1 _ _ y (heap_setCell_same w b 0 _ _ x h)⟩

set_option maxRecDepth 100000 in
set_option maxHeartbeats 8000000 in
theorem fdatums_fresh (f : Ft) (fo : Option Addr) (fc : Nat) (w : World) (R : Ending → World → Prop) (hok : FtOk w f fo fc)
   (hR : ∀ a c w', Below w.heap.size w w' → CellsAt w' a (sC (dmL f)) → (∀ b o, a = some ⟨b, o, none⟩ → w.heap.size ≤ b) → R (.returned (.tuple #[.slice a (dmL f).length c, .int .i64 (alE f)])) w') :
    Calls Tryz.prog 29 #[ftV f fo fc] w R := by
  have HR := Lib.hid hR
  have HOF := Lib.hid hok
  obtain ⟨fn, hfn⟩ : ∃ fn, f.fs.length = fn := ⟨_, rfl⟩
  have HFV : Hid (ftV f fo fc = .agg #[.string f.n, .int .i64 f.k, .int .i64 f.a, .int .i64 f.x, .int .i64 f.y, .int .i64 f.z, .int .i64 f.l, .int .i64 f.h, .slice fo fn fc]) := by unfold Hid ftV; rw [hfn]
  have HFN := Lib.hid hfn
  have HLF := Lib.hid (hfn ▸ hok.len)
  clear hfn
  rw [HFV.out]
  obtain ⟨w1, E1, HB1, s1, HX1⟩ := box_ex w #[.string f.n, .int .i64 f.k, .int .i64 f.a, .int .i64 f.x, .int .i64 f.y, .int .i64 f.z, .int .i64 f.l, .int .i64 f.h, .slice fo fn fc] 28
  clear hR hok
  obtain ⟨E, hE0⟩ : ∃ E, alE f = E := ⟨_, rfl⟩
  have hE : Hid (alE f = E) := hE0
  rw [hE0] at HR
  clear hE0
  have p0 := cell_at HX1.out (j := 0) (v := .string f.n) rfl
  have p1 := cell_at HX1.out (j := 1) (v := .int .i64 f.k) rfl
  have p2 := cell_at HX1.out (j := 2) (v := .int .i64 f.a) rfl
  have p3 := cell_at HX1.out (j := 3) (v := .int .i64 f.x) rfl
  have p4 := cell_at HX1.out (j := 4) (v := .int .i64 f.y) rfl
  have p5 := cell_at HX1.out (j := 5) (v := .int .i64 f.z) rfl
  have p6 := cell_at HX1.out (j := 6) (v := .int .i64 f.l) rfl
  have p7 := cell_at HX1.out (j := 7) (v := .int .i64 f.h) rfl
  have p8 := cell_at HX1.out (j := 8) (v := .slice fo fn fc) rfl
  go_enter Tryz.func29, Tryz.ntmps29
  go_wp2_with (rw [E1])
  rw [← HFV.out]
  refine fall_any f fo fc _ _ (HOF.out.below HB1.out) fun W1 hb => ?_
  rw [hE.out]
  have BW : Hid (Below w.heap.size w W1) := HB1.out.trans (hb.mono HB1.out.size)
  have HY := Lib.hid ((hb.block _ (lt_of_block HX1.out)).trans HX1.out)
  clear p0 p1 p2 p3 p4 p5 p6 p7 p8
  clear hb E1 HX1
  have p0 := cell_at HY.out (j := 0) (v := .string f.n) rfl
  have p1 := cell_at HY.out (j := 1) (v := .int .i64 f.k) rfl
  have p2 := cell_at HY.out (j := 2) (v := .int .i64 f.a) rfl
  have p3 := cell_at HY.out (j := 3) (v := .int .i64 f.x) rfl
  have p4 := cell_at HY.out (j := 4) (v := .int .i64 f.y) rfl
  have p5 := cell_at HY.out (j := 5) (v := .int .i64 f.z) rfl
  have p6 := cell_at HY.out (j := 6) (v := .int .i64 f.l) rfl
  have p7 := cell_at HY.out (j := 7) (v := .int .i64 f.h) rfl
  have p8 := cell_at HY.out (j := 8) (v := .slice fo fn fc) rfl
  by_cases m0 : E = 0
  rotate_left
  · have K3 : (E != 0) = true := by simpa using m0
    have e : Hid (dmL f = []) := by unfold Hid dmL; rw [if_neg (by rw [hE.out]; exact m0)]
    clear m0
    go_wp2_with fail
    have h := HR.out none 0 _ BW.out (by rw [e.out]; exact CellsAt.nil _ _) (fun b o e => by cases e)
    rw [e.out] at h
    exact h
  subst m0
  have HFD := Lib.hid (alE_few hE.out)
  have hfn8 : fn ≤ 8 := by have := HFD.out.1; rw [HFN.out] at this; exact this
  have e : Hid (dmL f = putsL (nmsF f.fs)) := by unfold Hid dmL; rw [if_pos hE.out]
  rw [e.out] at HR
  clear e
  obtain ⟨Z, hZ⟩ : ∃ Z, nmsF f.fs = Z := ⟨_, rfl⟩
  rw [hZ] at HR
  have HZ0 := Lib.hid hZ
  have HZL : Hid (Z.length ≤ 24) := by unfold Hid; rw [← hZ]; exact nmsF_few HFD.out
  clear hZ
  go_wp2_with fail
  clear p0 p1 p2 p3 p4 p5 p6 p7 p8
  go_loopw [18, 5] (fun j v wr => ∃ i : Nat, i ≤ fn ∧ j = .int .i64 i ∧ Hid (Below W1.heap.size W1 wr) ∧ Hid (OwnL wr W1.heap.size 9 1 v (nmsF (f.fs.take i)).length (sC (nmsF (f.fs.take i))))) (fun j _ _ => fn - (intOf j).toNat)
  case atStart => exact ⟨0, Nat.zero_le _, rfl, Below.refl _ _, OwnL.nil _ _ _ _⟩
  case round =>
    obtain ⟨i, hi, rfl, HB, HO⟩ := hrel
    have Br : Hid (Below w.heap.size w wr) := BW.out.trans (HB.out.mono BW.out.size)
    by_cases hlt : i < fn
    · obtain ⟨b, og, ef, hbf, hcl⟩ := HOF.out.frames (by rw [HFN.out]; omega)
      subst ef
      obtain ⟨xa, xc, hxo, c0, c1, c2, c3, c4⟩ := hcl i (by rw [HFN.out]; exact hlt)
      have hx3 := HFD.out.2 i (by rw [HFN.out]; exact hlt)
      have hstep : Hid (nmsF (f.fs.take (i + 1)) = nmsF (f.fs.take i) ++ (fmAt f.fs i).ds.map Dt.n) := nmsF_take (by rw [HFN.out]; exact hlt)
      have hlen : Hid ((nmsF (f.fs.take i)).length ≤ 24) := by unfold Hid; have := nmsF_len HFD.out i (by rw [HFN.out]; omega); have := HFD.out.1; rw [HFN.out] at this; omega
      obtain ⟨x, hx⟩ : ∃ x, fmAt f.fs i = x := ⟨_, rfl⟩
      rw [hx] at hxo c0 c1 c2 c3 c4 hx3 hstep
      have HO2 := Lib.hid hxo
      have r0 := cellB Br.out c0 hbf
      have r1 := cellB Br.out c1 hbf
      have r2 := cellB Br.out c2 hbf
      have r3 := cellB Br.out c3 hbf
      have r4 := cellB Br.out c4 hbf
      obtain ⟨dn, hdn⟩ : ∃ dn, x.ds.length = dn := ⟨_, rfl⟩
      have HDN := Lib.hid hdn
      have h3 : dn ≤ 3 := by omega
      rw [hdn] at r4
      clear hcl hx hxo c0 c1 c2 c3 c4 hx3 hdn hbf
      obtain ⟨N, hN⟩ : ∃ N, nmsF (f.fs.take i) = N := ⟨_, rfl⟩
      rw [hN] at hstep hlen HO
      clear hN
      obtain ⟨wA, EA, HBA, sA, XA⟩ := box_ex wr #[.int .i64 0, .bool false, .int .i64 0, .int .i64 0, .slice none 0 0] 31
      obtain ⟨wB, EB, HBB, KB, XB⟩ := set5 wA wr.heap.size _ _ _ _ _ (.int .i64 x.k) (.bool x.d) (.int .i64 x.t) (.int .i64 x.m) (.slice xa dn xc) _ XA.out
      have z0 := cell_at XA.out (j := 0) (v := .int .i64 0) rfl
      have z1 := cell_at XA.out (j := 1) (v := .bool false) rfl
      have z2 := cell_at XA.out (j := 2) (v := .int .i64 0) rfl
      have z3 := cell_at XA.out (j := 3) (v := .int .i64 0) rfl
      have z4 := cell_at XA.out (j := 4) (v := .slice none 0 0) rfl
      have y0 := frozen_at XA.out 0
      have y1 := frozen_at XA.out 1
      have y2 := frozen_at XA.out 2
      have y3 := frozen_at XA.out 3
      have y4 := frozen_at XA.out 4
      have BWB : Hid (Below wr.heap.size wr wB) := HBA.out.trans HBB.out
      have BB2 : Hid (Below w.heap.size w wB) := Br.out.trans (BWB.out.mono Br.out.size)
      have BB1 : Hid (Below W1.heap.size W1 wB) := HB.out.trans (BWB.out.mono HB.out.size)
      have HOB : Hid (OwnL wB W1.heap.size 9 1 u5 N.length (sC N)) := HO.out.below BWB.out
      clear KB HBA HBB HO HB Br
      have v0 := cell_at XB.out (j := 0) (v := .int .i64 x.k) rfl
      have v1 := cell_at XB.out (j := 1) (v := .bool x.d) rfl
      have v2 := cell_at XB.out (j := 2) (v := .int .i64 x.t) rfl
      have v3 := cell_at XB.out (j := 3) (v := .int .i64 x.m) rfl
      have v4 := cell_at XB.out (j := 4) (v := .slice xa dn xc) rfl
      go_wp2_with (first | rw [EA] | rw [EB])
      clear EA EB XA XB BWB z0 y0 v0 r0 z1 y1 v1 r1 z2 y2 v2 r2 z3 y3 v3 r3 z4 y4 v4 r4
      go_loopw [25, 5] (fun j v wr => ∃ k : Nat, k ≤ dn ∧ j = .int .i64 k ∧ Hid (Below W1.heap.size W1 wr) ∧ Hid (OwnL wr W1.heap.size 9 1 v (N ++ (x.ds.take k).map Dt.n).length (sC (N ++ (x.ds.take k).map Dt.n)))) (fun j _ _ => dn - (intOf j).toNat)
      case atStart => exact ⟨0, Nat.zero_le _, rfl, BB1, by unfold Hid; rw [List.take_zero, List.map_nil, List.append_nil]; exact HOB.out⟩
      case round =>
        obtain ⟨k, hk, rfl, HBk, HOk⟩ := hrel
        have Bk : Hid (Below w.heap.size w wr) := BW.out.trans (HBk.out.mono BW.out.size)
        by_cases hlk : k < dn
        · obtain ⟨db, dg, ed, hbd, hdc⟩ := HO2.out.cells.dts (by rw [HDN.out]; omega)
          subst ed
          obtain ⟨e0, e1⟩ := hdc k (by rw [HDN.out]; exact hlk)
          have hs2 : Hid (N ++ (x.ds.take (k + 1)).map Dt.n = (N ++ (x.ds.take k).map Dt.n) ++ [(dtAt x.ds k).n]) := nms_step (by rw [HDN.out]; exact hlk)
          obtain ⟨s, hs⟩ : ∃ s, (dtAt x.ds k).n = s := ⟨_, rfl⟩
          obtain ⟨m, hm⟩ : ∃ m, (dtAt x.ds k).m = m := ⟨_, rfl⟩
          rw [hs] at e0 hs2
          rw [hm] at e1
          have t0 := cellB Bk.out e0 hbd
          have t1 := cellB Bk.out e1 hbd
          clear hdc e0 e1 hs hm
          obtain ⟨M, hM⟩ : ∃ M, N ++ (x.ds.take k).map Dt.n = M := ⟨_, rfl⟩
          have hML : Hid (M.length ≤ 1000) := by unfold Hid; rw [← hM, List.length_append, List.length_map, List.length_take]; have := hlen.out; omega
          rw [hM] at hs2 HOk
          clear hM
          obtain ⟨wC, EC, HBC, sC1, XC⟩ := box_ex wr #[.string ⟨#[]⟩, .int .i64 0] 76
          obtain ⟨wD, ED, HBD, KD, XD⟩ := set2 wC wr.heap.size _ _ (.string s) (.int .i64 m) _ XC.out
          have z0 := cell_at XC.out (j := 0) (v := .string ⟨#[]⟩) rfl
          have z1 := cell_at XC.out (j := 1) (v := .int .i64 0) rfl
          have y0 := frozen_at XC.out 0
          have y1 := frozen_at XC.out 1
          have v0 := cell_at XD.out (j := 0) (v := .string s) rfl
          have v1 := cell_at XD.out (j := 1) (v := .int .i64 m) rfl
          have BWD : Hid (Below wr.heap.size wr wD) := HBC.out.trans HBD.out
          have BD1 : Hid (Below W1.heap.size W1 wD) := HBk.out.trans (BWD.out.mono HBk.out.size)
          have HOD : Hid (OwnL wD W1.heap.size 9 1 u5 M.length (sC M)) := HOk.out.below BWD.out
          have hbs : W1.heap.size ≤ wD.heap.size := BD1.out.size
          have hml : M.length ≤ 1000000000 := by have := hML.out; omega
          clear KD HBC HBD HOk HBk Bk BWD
          go_wp2_with (first | rw [EC] | rw [ED] | (at_builtin; refine wp_append1 rfl (.tmp 29) (.tmp 32) 63 rfl W1.heap.size 9 Tryz.underlying63 Tryz.infoStr53 rfl (by decide) (by decide) u5 M.length (sC M) rfl (HOD.out.alloc _) wD.heap.size [.string s] rfl rfl (new1 _ _ _) (one1 _ rfl) hml (by simp; omega) ?_; intro v2 w2 hown hb; have HO3 : Hid (OwnL w2 W1.heap.size 9 1 v2 (M ++ [s]).length (sC (M ++ [s]))) := (by unfold Hid; rw [sC_append, List.length_append]; exact hown); have HB3 : Hid (Below W1.heap.size W1 w2) := (BD1.out.alloc BD1.out.size _).trans hb; clear hown hb))
          exact ⟨⟨k + 1, by omega, by go_num, HB3, by unfold Hid; rw [hs2.out]; exact HO3.out⟩, by simp [intOf]; omega⟩
        · obtain rfl : k = dn := by omega
          have e2 : Hid (nmsF (f.fs.take (i + 1)) = N ++ (x.ds.take k).map Dt.n) := by unfold Hid; rw [hstep.out, ← HDN.out, List.take_length]
          go_wp2_with fail
          exact ⟨⟨i + 1, by omega, by go_num, HBk, by unfold Hid; rw [e2.out]; exact HOk.out⟩, by simp [intOf]; omega⟩
    · obtain rfl : i = fn := by omega
      have e2 : Hid (nmsF (f.fs.take i) = Z) := by unfold Hid; rw [← HZ0.out, ← HFN.out, List.take_length]
      rw [e2.out] at HO
      have hz : Z.length ≤ 1000 := by have := HZL.out; omega
      have hbs := HB.out.size
      go_wp2_with fail
      refine sortN_any W1.heap.size Z _ _ _ hz hbs HO.out.1 fun w2 hb2 ho2 => ?_
      have HB2 : Hid (Below W1.heap.size W1 w2) := HB.out.trans hb2
      have HO2 := Lib.hid ho2
      have hbs2 := HB2.out.size
      have HZC : Hid (((Z.map bL).mergeSort fun x y => decide (x ≤ y)).length = Z.length) := by unfold Hid; rw [List.length_mergeSort, List.length_map]
      clear hb2 ho2
      go_wp2_with fail
      rw [← HZC.out] at HO2 hz
      refine compactN_any W1.heap.size _ _ _ _ hz hbs2 HO2.out fun a c w3 hb3 hc3 hfr => ?_
      have HB3 : Hid (Below w.heap.size w w3) := BW.out.trans ((HB2.out.trans hb3).mono BW.out.size)
      rw [compact_puts] at hc3
      rw [compact_len]
      have HC3 := Lib.hid hc3
      clear hb3 hc3
      go_wp2_with fail
      exact HR.out _ _ _ HB3.out HC3.out (fun b o e => Nat.le_trans BW.out.size (hfr b o e))
theorem fdatums_any (f : Ft) (fo : Option Addr) (fc : Nat) (w : World) (R : Ending → World → Prop) (hok : FtOk w f fo fc)
   (hR : ∀ a c w', Below w.heap.size w w' → CellsAt w' a (sC (dmL f)) → R (.returned (.tuple #[.slice a (dmL f).length c, .int .i64 (alE f)])) w') :
    Calls Tryz.prog 29 #[ftV f fo fc] w R := fdatums_fresh f fo fc w R hok fun a c w' hb hc _ => hR a c w' hb hc
end Go.Proofs.YtciokmjhdbcmpaaGreatDoor
