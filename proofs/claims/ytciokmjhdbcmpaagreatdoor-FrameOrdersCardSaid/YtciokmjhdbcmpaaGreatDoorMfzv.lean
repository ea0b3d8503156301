/- The order of the frames does not matter, and fewer of them are right, too: the law FrameOrders of layer 19. (Printed by gen_law19e.py.) A feature that came in: a nil slice of frames has length and capacity 0. -/
import Derived.Test.YtciokmjhdbcmpaaGreatDoorMfzt
import Derived.Test.YtciokmjhdbcmpaaGreatDoorMfzd
namespace Go.Proofs.YtciokmjhdbcmpaaGreatDoor
open Go.RowKit

theorem cells_of_block {w w' : World} {a : Option Addr} {cs : List Value} (h : CellsAt w a cs) (hk : ∀ b o, a = some ⟨b, o, none⟩ → w'.heap[b]? = w.heap[b]?) : CellsAt w' a cs := by
  intro h0
  obtain ⟨b, o, e, hl, hc⟩ := h h0
  have h1 := hk b o e
  rw [Array.getElem?_eq_getElem hl] at h1
  exact ⟨b, o, e, lt_of_block h1, fun j hj => (World.cell?_of_block (w := w) (w' := w') (a := ⟨b, o + j, none⟩) (hk b o e)).trans (hc j hj)⟩
theorem FtOk.wf {w : World} {f : Ft} {fo : Option Addr} {fc : Nat} (h : FtOk w f fo fc) {gs : List Fm} {ga : Option Addr} {gc : Nat} (hg : FmsAt w ga gs) (hl : gs.length ≤ 9223372036854775807) : FtOk w (f.wf gs) ga gc := ⟨hg, h.name, hl⟩
theorem rev_rows {w : World} {g : Nat} {ps : List Fr5} {fs : List Fm} (hm : ps.map Fr5.x = fs) (hc : CellsAt w (some ⟨g, 0, none⟩) (frC ps.reverse)) (hp : ∀ i, i < ps.length → FmOk w (frAt ps i).x (frAt ps i).a (frAt ps i).c) : FmsAt w (some ⟨g, 0, none⟩) fs.reverse := by
  rw [← hm, ← List.map_reverse]
  refine FmsAt.ofRows hc fun i hi => ?_
  rw [List.length_reverse] at hi
  rw [frAt_rev hi]
  exact hp _ (by omega)
theorem tail_rows {w : World} {g : Nat} {ps : List Fr5} {fs : List Fm} {x : Fm} {gs : List Fm} (hm : ps.map Fr5.x = fs) (e : fs.reverse = x :: gs) (hc : CellsAt w (some ⟨g, 0, none⟩) (frC ps.reverse)) (hp : ∀ i, i < ps.length → FmOk w (frAt ps i).x (frAt ps i).a (frAt ps i).c) : FmsAt w (some ⟨g, 5, none⟩) gs := by
  rw [← hm, ← List.map_reverse] at e
  obtain ⟨q, qs, e2⟩ : ∃ q qs, ps.reverse = q :: qs := by
    cases h : ps.reverse with
    | nil => rw [h] at e; cases e
    | cons q qs => exact ⟨q, qs, rfl⟩
  rw [e2, List.map_cons] at e
  obtain ⟨_, rfl⟩ := List.cons.inj e
  rw [e2] at hc
  refine FmsAt.ofRows (frC_tail hc) fun i hi => ?_
  have hl : qs.length + 1 = ps.length := by have h := congrArg List.length e2; rw [List.length_reverse] at h; simpa using h.symm
  have h := hp (ps.length - 1 - (i + 1)) (by omega)
  rw [← frAt_rev (by omega), e2, frAt_succ] at h
  exact h
set_option maxRecDepth 100000 in
set_option maxHeartbeats 16000000 in
theorem lawFrameOrders (f : Ft) (fo : Option Addr) (fc : Nat) (w : World) (R : Ending → World → Prop) (hok : FtOk w f fo fc) (hE : Env w) (hnil : fo = none → f.fs.length = 0 ∧ fc = 0)
   (hR : ∀ w', Below w.heap.size w w' → R (.returned (.bool true)) w') :
    Calls Tryz.prog 9 #[ftV f fo fc] w R := by
  have HR := Lib.hid hR
  have HOF := Lib.hid hok
  have HEV := Lib.hid hE
  obtain ⟨fn, hfn⟩ : ∃ fn, f.fs.length = fn := ⟨_, rfl⟩
  have HFV : Hid (ftV f fo fc = .agg #[.string f.n, .int .i64 f.k, .int .i64 f.a, .int .i64 f.x, .int .i64 f.y, .int .i64 f.z, .int .i64 f.l, .int .i64 f.h, .slice fo fn fc]) := by unfold Hid ftV; rw [hfn]
  have HFN := Lib.hid hfn
  have HLF := Lib.hid (hfn ▸ hok.len)
  clear hfn
  rw [HFV.out]
  obtain ⟨w1, E1, HB1, s1, HX1⟩ := box_ex w #[.string f.n, .int .i64 f.k, .int .i64 f.a, .int .i64 f.x, .int .i64 f.y, .int .i64 f.z, .int .i64 f.l, .int .i64 f.h, .slice fo fn fc] 28
  clear hR hok hE
  have BW0 : Hid (Below w.heap.size w w1) := HB1
  obtain ⟨FB, hFB⟩ : ∃ b, fewB f = b := ⟨_, rfl⟩
  have HFB := Lib.hid hFB
  clear hFB
  obtain ⟨E, hEE⟩ : ∃ E, alE f = E := ⟨_, rfl⟩
  have HEE := Lib.hid hEE
  clear hEE
  have p0 := cell_at HX1.out (j := 0) (v := .string f.n) rfl
  have p1 := cell_at HX1.out (j := 1) (v := .int .i64 f.k) rfl
  have p2 := cell_at HX1.out (j := 2) (v := .int .i64 f.a) rfl
  have p3 := cell_at HX1.out (j := 3) (v := .int .i64 f.x) rfl
  have p4 := cell_at HX1.out (j := 4) (v := .int .i64 f.y) rfl
  have p5 := cell_at HX1.out (j := 5) (v := .int .i64 f.z) rfl
  have p6 := cell_at HX1.out (j := 6) (v := .int .i64 f.l) rfl
  have p7 := cell_at HX1.out (j := 7) (v := .int .i64 f.h) rfl
  have p8 := cell_at HX1.out (j := 8) (v := .slice fo fn fc) rfl
  go_enter Tryz.func9, Tryz.ntmps9
  have HNL := Lib.hid hnil
  clear hnil
  go_wp2_with (rw [E1])
  rw [← HFV.out]
  refine few18_any f fo fc _ _ (HOF.out.below BW0.out) fun W1 hb => ?_
  rw [HFB.out]
  have BW1 : Hid (Below w.heap.size w W1) := BW0.out.trans (hb.mono BW0.out.size)
  have HX1_1 := Lib.hid ((hb.block _ (lt_of_block HX1.out)).trans HX1.out)
  clear hb p0 p1 p2 p3 p4 p5 p6 p7 p8
  have p0 := cell_at HX1_1.out (j := 0) (v := .string f.n) rfl
  have p1 := cell_at HX1_1.out (j := 1) (v := .int .i64 f.k) rfl
  have p2 := cell_at HX1_1.out (j := 2) (v := .int .i64 f.a) rfl
  have p3 := cell_at HX1_1.out (j := 3) (v := .int .i64 f.x) rfl
  have p4 := cell_at HX1_1.out (j := 4) (v := .int .i64 f.y) rfl
  have p5 := cell_at HX1_1.out (j := 5) (v := .int .i64 f.z) rfl
  have p6 := cell_at HX1_1.out (j := 6) (v := .int .i64 f.l) rfl
  have p7 := cell_at HX1_1.out (j := 7) (v := .int .i64 f.h) rfl
  have p8 := cell_at HX1_1.out (j := 8) (v := .slice fo fn fc) rfl
  clear E1
  cases FB with
  | false =>
    go_wp2_with fail
    refine awake19_any _ _ (HEV.out.below BW1.out) fun WZ hb => ?_
    have BZ : Hid (Below w.heap.size w WZ) := BW1.out.trans (hb.mono BW1.out.size)
    clear hb p0 p1 p2 p3 p4 p5 p6 p7 p8
    go_wp2_with fail
    exact HR.out _ BZ.out
  | true =>
    go_wp2_with fail
    rw [← HFV.out]
    refine rall_any f fo fc _ _ (HOF.out.below BW1.out) fun W2 hb => ?_
    rw [HEE.out]
    have BW2 : Hid (Below w.heap.size w W2) := BW1.out.trans (hb.mono BW1.out.size)
    have HX1_2 := Lib.hid ((hb.block _ (lt_of_block HX1_1.out)).trans HX1_1.out)
    clear hb p0 p1 p2 p3 p4 p5 p6 p7 p8
    have p0 := cell_at HX1_2.out (j := 0) (v := .string f.n) rfl
    have p1 := cell_at HX1_2.out (j := 1) (v := .int .i64 f.k) rfl
    have p2 := cell_at HX1_2.out (j := 2) (v := .int .i64 f.a) rfl
    have p3 := cell_at HX1_2.out (j := 3) (v := .int .i64 f.x) rfl
    have p4 := cell_at HX1_2.out (j := 4) (v := .int .i64 f.y) rfl
    have p5 := cell_at HX1_2.out (j := 5) (v := .int .i64 f.z) rfl
    have p6 := cell_at HX1_2.out (j := 6) (v := .int .i64 f.l) rfl
    have p7 := cell_at HX1_2.out (j := 7) (v := .int .i64 f.h) rfl
    have p8 := cell_at HX1_2.out (j := 8) (v := .slice fo fn fc) rfl
    by_cases e0 : E = 0
    rotate_left
    · have K : (E != 0) = true := by simpa using e0
      clear e0
      go_wp2_with fail
      refine awake19_any _ _ (HEV.out.below BW2.out) fun WZ hb => ?_
      have BZ : Hid (Below w.heap.size w WZ) := BW2.out.trans (hb.mono BW2.out.size)
      clear hb p0 p1 p2 p3 p4 p5 p6 p7 p8
      go_wp2_with fail
      exact HR.out _ BZ.out
    subst e0
    obtain ⟨wA, EA, HBA, sA, XA⟩ := box_ex W2 #[.string ⟨#[]⟩, .int .i64 0, .int .i64 0, .int .i64 0, .int .i64 0, .int .i64 0, .int .i64 0, .int .i64 0, .slice none 0 0] 28
    obtain ⟨W3, EB, HBB, KB, XB⟩ := set9 wA W2.heap.size _ _ _ _ _ _ _ _ _ (.string f.n) (.int .i64 f.k) (.int .i64 f.a) (.int .i64 f.x) (.int .i64 f.y) (.int .i64 f.z) (.int .i64 f.l) (.int .i64 f.h) (.slice fo fn fc) _ XA.out
    have z0 := cell_at XA.out (j := 0) (v := .string ⟨#[]⟩) rfl
    have z1 := cell_at XA.out (j := 1) (v := .int .i64 0) rfl
    have z2 := cell_at XA.out (j := 2) (v := .int .i64 0) rfl
    have z3 := cell_at XA.out (j := 3) (v := .int .i64 0) rfl
    have z4 := cell_at XA.out (j := 4) (v := .int .i64 0) rfl
    have z5 := cell_at XA.out (j := 5) (v := .int .i64 0) rfl
    have z6 := cell_at XA.out (j := 6) (v := .int .i64 0) rfl
    have z7 := cell_at XA.out (j := 7) (v := .int .i64 0) rfl
    have z8 := cell_at XA.out (j := 8) (v := .slice none 0 0) rfl
    have y0 := frozen_at XA.out 0
    have y1 := frozen_at XA.out 1
    have y2 := frozen_at XA.out 2
    have y3 := frozen_at XA.out 3
    have y4 := frozen_at XA.out 4
    have y5 := frozen_at XA.out 5
    have y6 := frozen_at XA.out 6
    have y7 := frozen_at XA.out 7
    have y8 := frozen_at XA.out 8
    have BWA : Hid (Below W2.heap.size W2 W3) := HBA.out.trans HBB.out
    have BW3 : Hid (Below w.heap.size w W3) := BW2.out.trans (BWA.out.mono BW2.out.size)
    have HX1_3 := Lib.hid ((BWA.out.block _ (lt_of_block HX1_2.out)).trans HX1_2.out)
    clear KB HBA HBB
    have q0 := cell_at HX1_3.out (j := 0) (v := .string f.n) rfl
    have q1 := cell_at HX1_3.out (j := 1) (v := .int .i64 f.k) rfl
    have q2 := cell_at HX1_3.out (j := 2) (v := .int .i64 f.a) rfl
    have q3 := cell_at HX1_3.out (j := 3) (v := .int .i64 f.x) rfl
    have q4 := cell_at HX1_3.out (j := 4) (v := .int .i64 f.y) rfl
    have q5 := cell_at HX1_3.out (j := 5) (v := .int .i64 f.z) rfl
    have q6 := cell_at HX1_3.out (j := 6) (v := .int .i64 f.l) rfl
    have q7 := cell_at HX1_3.out (j := 7) (v := .int .i64 f.h) rfl
    have q8 := cell_at HX1_3.out (j := 8) (v := .slice fo fn fc) rfl
    go_wp2_with (first | rw [EA] | rw [EB])
    obtain ⟨OB, hOB⟩ : ∃ b, W2.heap.size = b := ⟨_, rfl⟩
    have hwo : w.heap.size < OB := by rw [← hOB]; exact lt_of_block HX1_2.out
    rw [hOB] at XB
    (try rw [hOB])
    have HX2_3 := XB
    have hO3 : OB < W3.heap.size := lt_of_block XB.out
    clear hOB EA EB XA XB BWA z0 y0 p0 q0 z1 y1 p1 q1 z2 y2 p2 q2 z3 y3 p3 q3 z4 y4 p4 q4 z5 y5 p5 q5 z6 y6 p6 q6 z7 y7 p7 q7 z8 y8 p8 q8
    obtain ⟨ps, hps, hpc, hpo⟩ := FmsAt.rows HOF.out.frames
    have hpn : ps.length = fn := by rw [← HFN.out, ← hps, List.length_map]
    obtain ⟨he8, hes⟩ : fn ≤ 8 ∧ True := ⟨by have := (alE_few HEE.out).1; rw [HFN.out] at this; exact this, trivial⟩
    have HPM := Lib.hid hps
    have HPO := Lib.hid hpo
    have HPN := Lib.hid hpn
    have hnl2 : fo = none → fn = 0 ∧ fc = 0 := by have := HNL.out; rw [HFN.out] at this; exact this
    clear hps hpo
    have p0 := cell_at HX1_3.out (j := 0) (v := .string f.n) rfl
    have p1 := cell_at HX1_3.out (j := 1) (v := .int .i64 f.k) rfl
    have p2 := cell_at HX1_3.out (j := 2) (v := .int .i64 f.a) rfl
    have p3 := cell_at HX1_3.out (j := 3) (v := .int .i64 f.x) rfl
    have p4 := cell_at HX1_3.out (j := 4) (v := .int .i64 f.y) rfl
    have p5 := cell_at HX1_3.out (j := 5) (v := .int .i64 f.z) rfl
    have p6 := cell_at HX1_3.out (j := 6) (v := .int .i64 f.l) rfl
    have p7 := cell_at HX1_3.out (j := 7) (v := .int .i64 f.h) rfl
    have p8 := cell_at HX1_3.out (j := 8) (v := .slice fo fn fc) rfl
    have o0 := cell_at HX2_3.out (j := 0) (v := .string f.n) rfl
    have o1 := cell_at HX2_3.out (j := 1) (v := .int .i64 f.k) rfl
    have o2 := cell_at HX2_3.out (j := 2) (v := .int .i64 f.a) rfl
    have o3 := cell_at HX2_3.out (j := 3) (v := .int .i64 f.x) rfl
    have o4 := cell_at HX2_3.out (j := 4) (v := .int .i64 f.y) rfl
    have o5 := cell_at HX2_3.out (j := 5) (v := .int .i64 f.z) rfl
    have o6 := cell_at HX2_3.out (j := 6) (v := .int .i64 f.l) rfl
    have o7 := cell_at HX2_3.out (j := 7) (v := .int .i64 f.h) rfl
    have o8 := cell_at HX2_3.out (j := 8) (v := .slice fo fn fc) rfl
    refine cloneF_any fo ps fn fc _ _ hpn (by omega) hnl2 (hpc.below BW3.out) fun v W4 hb ho4 => ?_
    have BW4 : Hid (Below w.heap.size w W4) := BW3.out.trans (hb.mono BW3.out.size)
    have HX1_4 := Lib.hid ((hb.block _ (lt_of_block HX1_3.out)).trans HX1_3.out)
    have HX2_4 := Lib.hid ((hb.block _ (lt_of_block HX2_3.out)).trans HX2_3.out)
    clear hb hpc hnl2 p0 o0 p1 o1 p2 o2 p3 o3 p4 o4 p5 o5 p6 o6 p7 o7 p8 o8
    have HO4 := Lib.hid ho4
    clear ho4
    obtain ⟨DL, hDL⟩ : ∃ l, dmL f = l := ⟨_, rfl⟩
    have hdl : DL.length ≤ 24 := by rw [← hDL]; exact dmL_len f
    have HDL := Lib.hid hDL
    obtain ⟨DN, hDN⟩ : ∃ n, DL.length = n := ⟨_, rfl⟩
    rw [hDN] at hdl
    have HDN := Lib.hid hDN
    have HER := Lib.hid (alE_rev HEE.out)
    have HDR : Hid (dmL (f.wf f.fs.reverse) = DL) := (dmL_rev HEE.out).trans HDL.out
    have HUP : Hid (DL.Pairwise (fun a b => bL a < bL b)) := by unfold Hid; rw [← HDL.out]; exact dmL_up f
    clear hDL hDN
    by_cases hz : fn = 0
    · subst hz
      have hfs : f.fs = [] := List.length_eq_zero_iff.1 HFN.out
      obtain ⟨ca, cc, rfl⟩ : ∃ ca cc, v = .slice ca 0 cc := by
        rcases HO4.out.2 with ⟨h1, _⟩ | ⟨g, cap, cur, h1, _⟩
        · exact ⟨_, _, h1⟩
        · exact ⟨_, _, h1⟩
      obtain ⟨W5, ES⟩ : ∃ v, W4.setCell ⟨OB, 8, none⟩ (.slice ca 0 cc) = v := ⟨_, rfl⟩
      have HX2_5 : Hid (W5.heap[OB]? = some (.cells #[.string f.n, .int .i64 f.k, .int .i64 f.a, .int .i64 f.x, .int .i64 f.y, .int .i64 f.z, .int .i64 f.l, .int .i64 f.h, .slice ca 0 cc] 28 (0, 0))) := by unfold Hid; rw [← ES]; exact set_step HX2_4.out 8 _ _ rfl
      have BS : Hid (Below OB W4 W5) := by unfold Hid; rw [← ES]; exact (Below.refl OB W4).setCell (p := ⟨OB, 8, none⟩) (Nat.le_refl _) _
      have KS : Hid (∀ j, j ≠ OB → W5.heap[j]? = W4.heap[j]?) := by unfold Hid; rw [← ES]; exact fun j hj => Below.heap_setCell _ ⟨OB, 8, none⟩ _ j hj
      have BW5 : Hid (Below w.heap.size w W5) := BW4.out.trans (BS.out.mono (Nat.le_of_lt hwo))
      have HX1_5 := Lib.hid ((KS.out _ (by omega)).trans HX1_4.out)
      have dl0 : DN = 0 := by rw [← HDN.out, ← HDL.out]; unfold dmL; rw [hfs]; split <;> rfl
      subst dl0
      clear HO4 BS KS
      have p0 := cell_at HX1_4.out (j := 0) (v := .string f.n) rfl
      have p1 := cell_at HX1_4.out (j := 1) (v := .int .i64 f.k) rfl
      have p2 := cell_at HX1_4.out (j := 2) (v := .int .i64 f.a) rfl
      have p3 := cell_at HX1_4.out (j := 3) (v := .int .i64 f.x) rfl
      have p4 := cell_at HX1_4.out (j := 4) (v := .int .i64 f.y) rfl
      have p5 := cell_at HX1_4.out (j := 5) (v := .int .i64 f.z) rfl
      have p6 := cell_at HX1_4.out (j := 6) (v := .int .i64 f.l) rfl
      have p7 := cell_at HX1_4.out (j := 7) (v := .int .i64 f.h) rfl
      have p8 := cell_at HX1_4.out (j := 8) (v := .slice fo 0 fc) rfl
      have o0 := cell_at HX2_4.out (j := 0) (v := .string f.n) rfl
      have o1 := cell_at HX2_4.out (j := 1) (v := .int .i64 f.k) rfl
      have o2 := cell_at HX2_4.out (j := 2) (v := .int .i64 f.a) rfl
      have o3 := cell_at HX2_4.out (j := 3) (v := .int .i64 f.x) rfl
      have o4 := cell_at HX2_4.out (j := 4) (v := .int .i64 f.y) rfl
      have o5 := cell_at HX2_4.out (j := 5) (v := .int .i64 f.z) rfl
      have o6 := cell_at HX2_4.out (j := 6) (v := .int .i64 f.l) rfl
      have o7 := cell_at HX2_4.out (j := 7) (v := .int .i64 f.h) rfl
      have o8 := cell_at HX2_4.out (j := 8) (v := .slice fo 0 fc) rfl
      have fz := frozen_at HX2_4.out 8
      have q8 := cell_at HX2_5.out (j := 8) (v := .slice ca 0 cc) rfl
      go_wp2_with (rw [ES])
      clear q8 fz ES p0 o0 p1 o1 p2 o2 p3 o3 p4 o4 p5 o5 p6 o6 p7 o7 p8 o8
      have p0 := cell_at HX1_5.out (j := 0) (v := .string f.n) rfl
      have p1 := cell_at HX1_5.out (j := 1) (v := .int .i64 f.k) rfl
      have p2 := cell_at HX1_5.out (j := 2) (v := .int .i64 f.a) rfl
      have p3 := cell_at HX1_5.out (j := 3) (v := .int .i64 f.x) rfl
      have p4 := cell_at HX1_5.out (j := 4) (v := .int .i64 f.y) rfl
      have p5 := cell_at HX1_5.out (j := 5) (v := .int .i64 f.z) rfl
      have p6 := cell_at HX1_5.out (j := 6) (v := .int .i64 f.l) rfl
      have p7 := cell_at HX1_5.out (j := 7) (v := .int .i64 f.h) rfl
      have p8 := cell_at HX1_5.out (j := 8) (v := .slice fo 0 fc) rfl
      have o0 := cell_at HX2_5.out (j := 0) (v := .string f.n) rfl
      have o1 := cell_at HX2_5.out (j := 1) (v := .int .i64 f.k) rfl
      have o2 := cell_at HX2_5.out (j := 2) (v := .int .i64 f.a) rfl
      have o3 := cell_at HX2_5.out (j := 3) (v := .int .i64 f.x) rfl
      have o4 := cell_at HX2_5.out (j := 4) (v := .int .i64 f.y) rfl
      have o5 := cell_at HX2_5.out (j := 5) (v := .int .i64 f.z) rfl
      have o6 := cell_at HX2_5.out (j := 6) (v := .int .i64 f.l) rfl
      have o7 := cell_at HX2_5.out (j := 7) (v := .int .i64 f.h) rfl
      have o8 := cell_at HX2_5.out (j := 8) (v := .slice ca 0 cc) rfl
      refine reverseF_zero ca cc _ _ ?_
      have HX1_6 := HX1_5
      have HX2_6 := HX2_5
      obtain ⟨W6, hW6⟩ : ∃ v, W5 = v := ⟨_, rfl⟩
      rw [hW6] at HX1_6 HX2_6 BW5 ⊢
      have BW6 := BW5
      clear hW6 p0 o0 p1 o1 p2 o2 p3 o3 p4 o4 p5 o5 p6 o6 p7 o7 p8 o8
      have HOG : Hid (FtOk W6 (f.wf f.fs.reverse) ca cc) := (HOF.out.below BW6.out).wf (by rw [hfs]; exact fun h => absurd h (by simp)) (by rw [hfs]; simp)
      have HGV : Hid (ftV (f.wf f.fs.reverse) ca cc = .agg #[.string f.n, .int .i64 f.k, .int .i64 f.a, .int .i64 f.x, .int .i64 f.y, .int .i64 f.z, .int .i64 f.l, .int .i64 f.h, .slice ca 0 cc]) := by unfold Hid; show Value.agg #[_, _, _, _, _, _, _, _, .slice ca f.fs.reverse.length cc] = _; rw [hfs]; rfl
      have p0 := cell_at HX1_6.out (j := 0) (v := .string f.n) rfl
      have p1 := cell_at HX1_6.out (j := 1) (v := .int .i64 f.k) rfl
      have p2 := cell_at HX1_6.out (j := 2) (v := .int .i64 f.a) rfl
      have p3 := cell_at HX1_6.out (j := 3) (v := .int .i64 f.x) rfl
      have p4 := cell_at HX1_6.out (j := 4) (v := .int .i64 f.y) rfl
      have p5 := cell_at HX1_6.out (j := 5) (v := .int .i64 f.z) rfl
      have p6 := cell_at HX1_6.out (j := 6) (v := .int .i64 f.l) rfl
      have p7 := cell_at HX1_6.out (j := 7) (v := .int .i64 f.h) rfl
      have p8 := cell_at HX1_6.out (j := 8) (v := .slice fo 0 fc) rfl
      have o0 := cell_at HX2_6.out (j := 0) (v := .string f.n) rfl
      have o1 := cell_at HX2_6.out (j := 1) (v := .int .i64 f.k) rfl
      have o2 := cell_at HX2_6.out (j := 2) (v := .int .i64 f.a) rfl
      have o3 := cell_at HX2_6.out (j := 3) (v := .int .i64 f.x) rfl
      have o4 := cell_at HX2_6.out (j := 4) (v := .int .i64 f.y) rfl
      have o5 := cell_at HX2_6.out (j := 5) (v := .int .i64 f.z) rfl
      have o6 := cell_at HX2_6.out (j := 6) (v := .int .i64 f.l) rfl
      have o7 := cell_at HX2_6.out (j := 7) (v := .int .i64 f.h) rfl
      have o8 := cell_at HX2_6.out (j := 8) (v := .slice ca 0 cc) rfl
      go_wp2_with fail
      rw [← HFV.out]
      have hO6 : OB < W6.heap.size := lt_of_block HX2_6.out
      refine fdatums_fresh f fo fc _ _ (HOF.out.below BW6.out) fun a1 c1 W7 hb hf1 hfr1 => ?_
      have HFR1 := Lib.hid hfr1
      clear hfr1
      have B6_7 : Hid (Below W6.heap.size W6 W7) := hb
      rw [HEE.out, HDL.out, HDN.out]
      rw [HDL.out] at hf1
      have HC1 := Lib.hid hf1
      have BW7 : Hid (Below w.heap.size w W7) := BW6.out.trans (hb.mono BW6.out.size)
      have HOG7 := Lib.hid (HOG.out.below hb)
      have HX1_7 := Lib.hid ((hb.block _ (lt_of_block HX1_6.out)).trans HX1_6.out)
      have HX2_7 := Lib.hid ((hb.block _ (lt_of_block HX2_6.out)).trans HX2_6.out)
      clear hb hf1 p0 o0 p1 o1 p2 o2 p3 o3 p4 o4 p5 o5 p6 o6 p7 o7 p8 o8
      have p0 := cell_at HX1_7.out (j := 0) (v := .string f.n) rfl
      have p1 := cell_at HX1_7.out (j := 1) (v := .int .i64 f.k) rfl
      have p2 := cell_at HX1_7.out (j := 2) (v := .int .i64 f.a) rfl
      have p3 := cell_at HX1_7.out (j := 3) (v := .int .i64 f.x) rfl
      have p4 := cell_at HX1_7.out (j := 4) (v := .int .i64 f.y) rfl
      have p5 := cell_at HX1_7.out (j := 5) (v := .int .i64 f.z) rfl
      have p6 := cell_at HX1_7.out (j := 6) (v := .int .i64 f.l) rfl
      have p7 := cell_at HX1_7.out (j := 7) (v := .int .i64 f.h) rfl
      have p8 := cell_at HX1_7.out (j := 8) (v := .slice fo 0 fc) rfl
      have o0 := cell_at HX2_7.out (j := 0) (v := .string f.n) rfl
      have o1 := cell_at HX2_7.out (j := 1) (v := .int .i64 f.k) rfl
      have o2 := cell_at HX2_7.out (j := 2) (v := .int .i64 f.a) rfl
      have o3 := cell_at HX2_7.out (j := 3) (v := .int .i64 f.x) rfl
      have o4 := cell_at HX2_7.out (j := 4) (v := .int .i64 f.y) rfl
      have o5 := cell_at HX2_7.out (j := 5) (v := .int .i64 f.z) rfl
      have o6 := cell_at HX2_7.out (j := 6) (v := .int .i64 f.l) rfl
      have o7 := cell_at HX2_7.out (j := 7) (v := .int .i64 f.h) rfl
      have o8 := cell_at HX2_7.out (j := 8) (v := .slice ca 0 cc) rfl
      go_wp2_with fail
      rw [← HGV.out]
      refine fdatums_any _ _ _ _ _ HOG7.out fun a2 c2 W8 hb hf2 => ?_
      rw [HER.out, HDR.out, HDN.out]
      rw [HDR.out] at hf2
      have HC2 := Lib.hid hf2
      have HC1 := Lib.hid (HC1.out.below hb)
      have BW8 : Hid (Below w.heap.size w W8) := BW7.out.trans (hb.mono BW7.out.size)
      have B6_8 : Hid (Below W6.heap.size W6 W8) := B6_7.out.trans (hb.mono B6_7.out.size)
      have HOG8 := Lib.hid (HOG7.out.below hb)
      have HX1_8 := Lib.hid ((hb.block _ (lt_of_block HX1_7.out)).trans HX1_7.out)
      have HX2_8 := Lib.hid ((hb.block _ (lt_of_block HX2_7.out)).trans HX2_7.out)
      clear hb hf2 HOG7 p0 o0 p1 o1 p2 o2 p3 o3 p4 o4 p5 o5 p6 o6 p7 o7 p8 o8
      have p0 := cell_at HX1_8.out (j := 0) (v := .string f.n) rfl
      have p1 := cell_at HX1_8.out (j := 1) (v := .int .i64 f.k) rfl
      have p2 := cell_at HX1_8.out (j := 2) (v := .int .i64 f.a) rfl
      have p3 := cell_at HX1_8.out (j := 3) (v := .int .i64 f.x) rfl
      have p4 := cell_at HX1_8.out (j := 4) (v := .int .i64 f.y) rfl
      have p5 := cell_at HX1_8.out (j := 5) (v := .int .i64 f.z) rfl
      have p6 := cell_at HX1_8.out (j := 6) (v := .int .i64 f.l) rfl
      have p7 := cell_at HX1_8.out (j := 7) (v := .int .i64 f.h) rfl
      have p8 := cell_at HX1_8.out (j := 8) (v := .slice fo 0 fc) rfl
      have o0 := cell_at HX2_8.out (j := 0) (v := .string f.n) rfl
      have o1 := cell_at HX2_8.out (j := 1) (v := .int .i64 f.k) rfl
      have o2 := cell_at HX2_8.out (j := 2) (v := .int .i64 f.a) rfl
      have o3 := cell_at HX2_8.out (j := 3) (v := .int .i64 f.x) rfl
      have o4 := cell_at HX2_8.out (j := 4) (v := .int .i64 f.y) rfl
      have o5 := cell_at HX2_8.out (j := 5) (v := .int .i64 f.z) rfl
      have o6 := cell_at HX2_8.out (j := 6) (v := .int .i64 f.l) rfl
      have o7 := cell_at HX2_8.out (j := 7) (v := .int .i64 f.h) rfl
      have o8 := cell_at HX2_8.out (j := 8) (v := .slice ca 0 cc) rfl
      go_wp2_with fail
      refine equalS_same a1 a2 DL 0 c1 c2 _ _ HDN.out (by omega) HC1.out HC2.out fun W9 hd => ?_
      have hb : Below W8.heap.size W8 W9 := hd.below _
      have HC1 := Lib.hid (HC1.out.below hb)
      have BW9 : Hid (Below w.heap.size w W9) := BW8.out.trans (hb.mono BW8.out.size)
      have B6_9 : Hid (Below W6.heap.size W6 W9) := B6_8.out.trans (hb.mono B6_8.out.size)
      have HOG9 := Lib.hid (HOG8.out.below hb)
      have HX1_9 := Lib.hid ((hb.block _ (lt_of_block HX1_8.out)).trans HX1_8.out)
      have HX2_9 := Lib.hid ((hb.block _ (lt_of_block HX2_8.out)).trans HX2_8.out)
      clear hd hb HC2 HOG8 p0 o0 p1 o1 p2 o2 p3 o3 p4 o4 p5 o5 p6 o6 p7 o7 p8 o8
      have p0 := cell_at HX1_9.out (j := 0) (v := .string f.n) rfl
      have p1 := cell_at HX1_9.out (j := 1) (v := .int .i64 f.k) rfl
      have p2 := cell_at HX1_9.out (j := 2) (v := .int .i64 f.a) rfl
      have p3 := cell_at HX1_9.out (j := 3) (v := .int .i64 f.x) rfl
      have p4 := cell_at HX1_9.out (j := 4) (v := .int .i64 f.y) rfl
      have p5 := cell_at HX1_9.out (j := 5) (v := .int .i64 f.z) rfl
      have p6 := cell_at HX1_9.out (j := 6) (v := .int .i64 f.l) rfl
      have p7 := cell_at HX1_9.out (j := 7) (v := .int .i64 f.h) rfl
      have p8 := cell_at HX1_9.out (j := 8) (v := .slice fo 0 fc) rfl
      have o0 := cell_at HX2_9.out (j := 0) (v := .string f.n) rfl
      have o1 := cell_at HX2_9.out (j := 1) (v := .int .i64 f.k) rfl
      have o2 := cell_at HX2_9.out (j := 2) (v := .int .i64 f.a) rfl
      have o3 := cell_at HX2_9.out (j := 3) (v := .int .i64 f.x) rfl
      have o4 := cell_at HX2_9.out (j := 4) (v := .int .i64 f.y) rfl
      have o5 := cell_at HX2_9.out (j := 5) (v := .int .i64 f.z) rfl
      have o6 := cell_at HX2_9.out (j := 6) (v := .int .i64 f.l) rfl
      have o7 := cell_at HX2_9.out (j := 7) (v := .int .i64 f.h) rfl
      have o8 := cell_at HX2_9.out (j := 8) (v := .slice ca 0 cc) rfl
      go_wp2_with fail
      refine sorted36_any a1 DL 0 c1 _ _ HDN.out (by omega) HC1.out HUP.out fun W10 hb => ?_
      have HC1 := Lib.hid (HC1.out.below hb)
      have BW10 : Hid (Below w.heap.size w W10) := BW9.out.trans (hb.mono BW9.out.size)
      have B6_10 : Hid (Below W6.heap.size W6 W10) := B6_9.out.trans (hb.mono B6_9.out.size)
      have HOG10 := Lib.hid (HOG9.out.below hb)
      have HX1_10 := Lib.hid ((hb.block _ (lt_of_block HX1_9.out)).trans HX1_9.out)
      have HX2_10 := Lib.hid ((hb.block _ (lt_of_block HX2_9.out)).trans HX2_9.out)
      clear hb HOG9 p0 o0 p1 o1 p2 o2 p3 o3 p4 o4 p5 o5 p6 o6 p7 o7 p8 o8
      have p0 := cell_at HX1_10.out (j := 0) (v := .string f.n) rfl
      have p1 := cell_at HX1_10.out (j := 1) (v := .int .i64 f.k) rfl
      have p2 := cell_at HX1_10.out (j := 2) (v := .int .i64 f.a) rfl
      have p3 := cell_at HX1_10.out (j := 3) (v := .int .i64 f.x) rfl
      have p4 := cell_at HX1_10.out (j := 4) (v := .int .i64 f.y) rfl
      have p5 := cell_at HX1_10.out (j := 5) (v := .int .i64 f.z) rfl
      have p6 := cell_at HX1_10.out (j := 6) (v := .int .i64 f.l) rfl
      have p7 := cell_at HX1_10.out (j := 7) (v := .int .i64 f.h) rfl
      have p8 := cell_at HX1_10.out (j := 8) (v := .slice fo 0 fc) rfl
      have o0 := cell_at HX2_10.out (j := 0) (v := .string f.n) rfl
      have o1 := cell_at HX2_10.out (j := 1) (v := .int .i64 f.k) rfl
      have o2 := cell_at HX2_10.out (j := 2) (v := .int .i64 f.a) rfl
      have o3 := cell_at HX2_10.out (j := 3) (v := .int .i64 f.x) rfl
      have o4 := cell_at HX2_10.out (j := 4) (v := .int .i64 f.y) rfl
      have o5 := cell_at HX2_10.out (j := 5) (v := .int .i64 f.z) rfl
      have o6 := cell_at HX2_10.out (j := 6) (v := .int .i64 f.l) rfl
      have o7 := cell_at HX2_10.out (j := 7) (v := .int .i64 f.h) rfl
      have o8 := cell_at HX2_10.out (j := 8) (v := .slice ca 0 cc) rfl
      go_wp2_with fail
      rw [← HGV.out]
      refine fall_any _ _ _ _ _ HOG10.out fun W11 hb => ?_
      rw [HER.out]
      have HC1 := Lib.hid (HC1.out.below hb)
      have BW11 : Hid (Below w.heap.size w W11) := BW10.out.trans (hb.mono BW10.out.size)
      have B6_11 : Hid (Below W6.heap.size W6 W11) := B6_10.out.trans (hb.mono B6_10.out.size)
      have HX1_11 := Lib.hid ((hb.block _ (lt_of_block HX1_10.out)).trans HX1_10.out)
      have HX2_11 := Lib.hid ((hb.block _ (lt_of_block HX2_10.out)).trans HX2_10.out)
      have HB10 := Lib.hid hb
      clear hb p0 o0 p1 o1 p2 o2 p3 o3 p4 o4 p5 o5 p6 o6 p7 o7 p8 o8
      have p0 := cell_at HX1_11.out (j := 0) (v := .string f.n) rfl
      have p1 := cell_at HX1_11.out (j := 1) (v := .int .i64 f.k) rfl
      have p2 := cell_at HX1_11.out (j := 2) (v := .int .i64 f.a) rfl
      have p3 := cell_at HX1_11.out (j := 3) (v := .int .i64 f.x) rfl
      have p4 := cell_at HX1_11.out (j := 4) (v := .int .i64 f.y) rfl
      have p5 := cell_at HX1_11.out (j := 5) (v := .int .i64 f.z) rfl
      have p6 := cell_at HX1_11.out (j := 6) (v := .int .i64 f.l) rfl
      have p7 := cell_at HX1_11.out (j := 7) (v := .int .i64 f.h) rfl
      have p8 := cell_at HX1_11.out (j := 8) (v := .slice fo 0 fc) rfl
      have o0 := cell_at HX2_11.out (j := 0) (v := .string f.n) rfl
      have o1 := cell_at HX2_11.out (j := 1) (v := .int .i64 f.k) rfl
      have o2 := cell_at HX2_11.out (j := 2) (v := .int .i64 f.a) rfl
      have o3 := cell_at HX2_11.out (j := 3) (v := .int .i64 f.x) rfl
      have o4 := cell_at HX2_11.out (j := 4) (v := .int .i64 f.y) rfl
      have o5 := cell_at HX2_11.out (j := 5) (v := .int .i64 f.z) rfl
      have o6 := cell_at HX2_11.out (j := 6) (v := .int .i64 f.l) rfl
      have o7 := cell_at HX2_11.out (j := 7) (v := .int .i64 f.h) rfl
      have o8 := cell_at HX2_11.out (j := 8) (v := .slice ca 0 cc) rfl
      go_wp2_with fail
      refine awake19_any _ _ (HEV.out.below BW11.out) fun WZ hb => ?_
      have BZ : Hid (Below w.heap.size w WZ) := BW11.out.trans (hb.mono BW11.out.size)
      clear hb p0 o0 p1 o1 p2 o2 p3 o3 p4 o4 p5 o5 p6 o6 p7 o7 p8 o8
      go_wp2_with fail
      exact HR.out _ BZ.out
    · obtain ⟨g, cc, cur, rfl, hgb, hgg, hnc, hcs, hct⟩ : ∃ (g cc : Nat) (cur : Array Value), v = .slice (some ⟨g, 0, none⟩) fn cc ∧ W3.heap.size ≤ g ∧ W4.heap[g]? = some (.cells cur 31 (0, 0)) ∧ fn ≤ cc ∧ cur.size = cc * 5 ∧ cur.toList.take (fn * 5) = frC ps := by
        rcases HO4.out.2 with ⟨_, h1⟩ | ⟨g, cap, cur, h1, h2, h3, h4, _, h6, h7⟩
        · exact absurd h1 hz
        · exact ⟨g, cap, cur, h1, h2, h3, h4, h6, h7⟩
      have hOg : OB < g := by omega
      obtain ⟨W5, ES⟩ : ∃ v, W4.setCell ⟨OB, 8, none⟩ (.slice (some ⟨g, 0, none⟩) fn cc) = v := ⟨_, rfl⟩
      have HX2_5 : Hid (W5.heap[OB]? = some (.cells #[.string f.n, .int .i64 f.k, .int .i64 f.a, .int .i64 f.x, .int .i64 f.y, .int .i64 f.z, .int .i64 f.l, .int .i64 f.h, .slice (some ⟨g, 0, none⟩) fn cc] 28 (0, 0))) := by unfold Hid; rw [← ES]; exact set_step HX2_4.out 8 _ _ rfl
      have BS : Hid (Below OB W4 W5) := by unfold Hid; rw [← ES]; exact (Below.refl OB W4).setCell (p := ⟨OB, 8, none⟩) (Nat.le_refl _) _
      have KS : Hid (∀ j, j ≠ OB → W5.heap[j]? = W4.heap[j]?) := by unfold Hid; rw [← ES]; exact fun j hj => Below.heap_setCell _ ⟨OB, 8, none⟩ _ j hj
      have BW5 : Hid (Below w.heap.size w W5) := BW4.out.trans (BS.out.mono (Nat.le_of_lt hwo))
      have HX1_5 := Lib.hid ((KS.out _ (by omega)).trans HX1_4.out)
      have HG5 := Lib.hid ((KS.out g (by omega)).trans hgg)
      clear HO4
      have p0 := cell_at HX1_4.out (j := 0) (v := .string f.n) rfl
      have p1 := cell_at HX1_4.out (j := 1) (v := .int .i64 f.k) rfl
      have p2 := cell_at HX1_4.out (j := 2) (v := .int .i64 f.a) rfl
      have p3 := cell_at HX1_4.out (j := 3) (v := .int .i64 f.x) rfl
      have p4 := cell_at HX1_4.out (j := 4) (v := .int .i64 f.y) rfl
      have p5 := cell_at HX1_4.out (j := 5) (v := .int .i64 f.z) rfl
      have p6 := cell_at HX1_4.out (j := 6) (v := .int .i64 f.l) rfl
      have p7 := cell_at HX1_4.out (j := 7) (v := .int .i64 f.h) rfl
      have p8 := cell_at HX1_4.out (j := 8) (v := .slice fo fn fc) rfl
      have o0 := cell_at HX2_4.out (j := 0) (v := .string f.n) rfl
      have o1 := cell_at HX2_4.out (j := 1) (v := .int .i64 f.k) rfl
      have o2 := cell_at HX2_4.out (j := 2) (v := .int .i64 f.a) rfl
      have o3 := cell_at HX2_4.out (j := 3) (v := .int .i64 f.x) rfl
      have o4 := cell_at HX2_4.out (j := 4) (v := .int .i64 f.y) rfl
      have o5 := cell_at HX2_4.out (j := 5) (v := .int .i64 f.z) rfl
      have o6 := cell_at HX2_4.out (j := 6) (v := .int .i64 f.l) rfl
      have o7 := cell_at HX2_4.out (j := 7) (v := .int .i64 f.h) rfl
      have o8 := cell_at HX2_4.out (j := 8) (v := .slice fo fn fc) rfl
      have fz := frozen_at HX2_4.out 8
      have hcc : Hid (fn ≤ cc) := hnc
      clear hgg hgb
      have q8 := cell_at HX2_5.out (j := 8) (v := .slice (some ⟨g, 0, none⟩) fn cc) rfl
      go_wp2_with (rw [ES])
      clear q8 fz ES p0 o0 p1 o1 p2 o2 p3 o3 p4 o4 p5 o5 p6 o6 p7 o7 p8 o8
      have hsz5 : fn * 5 ≤ cur.size := by rw [hcs]; omega
      have p0 := cell_at HX1_5.out (j := 0) (v := .string f.n) rfl
      have p1 := cell_at HX1_5.out (j := 1) (v := .int .i64 f.k) rfl
      have p2 := cell_at HX1_5.out (j := 2) (v := .int .i64 f.a) rfl
      have p3 := cell_at HX1_5.out (j := 3) (v := .int .i64 f.x) rfl
      have p4 := cell_at HX1_5.out (j := 4) (v := .int .i64 f.y) rfl
      have p5 := cell_at HX1_5.out (j := 5) (v := .int .i64 f.z) rfl
      have p6 := cell_at HX1_5.out (j := 6) (v := .int .i64 f.l) rfl
      have p7 := cell_at HX1_5.out (j := 7) (v := .int .i64 f.h) rfl
      have p8 := cell_at HX1_5.out (j := 8) (v := .slice fo fn fc) rfl
      have o0 := cell_at HX2_5.out (j := 0) (v := .string f.n) rfl
      have o1 := cell_at HX2_5.out (j := 1) (v := .int .i64 f.k) rfl
      have o2 := cell_at HX2_5.out (j := 2) (v := .int .i64 f.a) rfl
      have o3 := cell_at HX2_5.out (j := 3) (v := .int .i64 f.x) rfl
      have o4 := cell_at HX2_5.out (j := 4) (v := .int .i64 f.y) rfl
      have o5 := cell_at HX2_5.out (j := 5) (v := .int .i64 f.z) rfl
      have o6 := cell_at HX2_5.out (j := 6) (v := .int .i64 f.l) rfl
      have o7 := cell_at HX2_5.out (j := 7) (v := .int .i64 f.h) rfl
      have o8 := cell_at HX2_5.out (j := 8) (v := .slice (some ⟨g, 0, none⟩) fn cc) rfl
      refine reverseF_any ps fn cc g cur _ _ HPN.out (by omega) HG5.out hsz5 hct fun W6 hb hcr => ?_
      have BW6 : Hid (Below w.heap.size w W6) := BW5.out.trans (hb.mono (by omega))
      have HX1_6 := Lib.hid ((hb.block _ (by omega)).trans HX1_5.out)
      have HX2_6 := Lib.hid ((hb.block _ hOg).trans HX2_5.out)
      have HCR := Lib.hid hcr
      have HPO6 : Hid (∀ i, i < ps.length → FmOk W6 (frAt ps i).x (frAt ps i).a (frAt ps i).c) := fun i hi => (HPO.out i hi).below BW6.out
      clear hb hcr hsz5 hct hcs HG5 BS KS p0 o0 p1 o1 p2 o2 p3 o3 p4 o4 p5 o5 p6 o6 p7 o7 p8 o8
      have HOG : Hid (FtOk W6 (f.wf f.fs.reverse) (some ⟨g, 0, none⟩) cc) := (HOF.out.below BW6.out).wf (rev_rows HPM.out HCR.out HPO6.out) (by rw [List.length_reverse, HFN.out]; omega)
      have HGV : Hid (ftV (f.wf f.fs.reverse) (some ⟨g, 0, none⟩) cc = .agg #[.string f.n, .int .i64 f.k, .int .i64 f.a, .int .i64 f.x, .int .i64 f.y, .int .i64 f.z, .int .i64 f.l, .int .i64 f.h, .slice (some ⟨g, 0, none⟩) fn cc]) := by unfold Hid; show Value.agg #[_, _, _, _, _, _, _, _, .slice _ f.fs.reverse.length cc] = _; rw [List.length_reverse, HFN.out]; rfl
      have p0 := cell_at HX1_6.out (j := 0) (v := .string f.n) rfl
      have p1 := cell_at HX1_6.out (j := 1) (v := .int .i64 f.k) rfl
      have p2 := cell_at HX1_6.out (j := 2) (v := .int .i64 f.a) rfl
      have p3 := cell_at HX1_6.out (j := 3) (v := .int .i64 f.x) rfl
      have p4 := cell_at HX1_6.out (j := 4) (v := .int .i64 f.y) rfl
      have p5 := cell_at HX1_6.out (j := 5) (v := .int .i64 f.z) rfl
      have p6 := cell_at HX1_6.out (j := 6) (v := .int .i64 f.l) rfl
      have p7 := cell_at HX1_6.out (j := 7) (v := .int .i64 f.h) rfl
      have p8 := cell_at HX1_6.out (j := 8) (v := .slice fo fn fc) rfl
      have o0 := cell_at HX2_6.out (j := 0) (v := .string f.n) rfl
      have o1 := cell_at HX2_6.out (j := 1) (v := .int .i64 f.k) rfl
      have o2 := cell_at HX2_6.out (j := 2) (v := .int .i64 f.a) rfl
      have o3 := cell_at HX2_6.out (j := 3) (v := .int .i64 f.x) rfl
      have o4 := cell_at HX2_6.out (j := 4) (v := .int .i64 f.y) rfl
      have o5 := cell_at HX2_6.out (j := 5) (v := .int .i64 f.z) rfl
      have o6 := cell_at HX2_6.out (j := 6) (v := .int .i64 f.l) rfl
      have o7 := cell_at HX2_6.out (j := 7) (v := .int .i64 f.h) rfl
      have o8 := cell_at HX2_6.out (j := 8) (v := .slice (some ⟨g, 0, none⟩) fn cc) rfl
      go_wp2_with fail
      rw [← HFV.out]
      have hO6 : OB < W6.heap.size := lt_of_block HX2_6.out
      refine fdatums_fresh f fo fc _ _ (HOF.out.below BW6.out) fun a1 c1 W7 hb hf1 hfr1 => ?_
      have HFR1 := Lib.hid hfr1
      clear hfr1
      have B6_7 : Hid (Below W6.heap.size W6 W7) := hb
      rw [HEE.out, HDL.out, HDN.out]
      rw [HDL.out] at hf1
      have HC1 := Lib.hid hf1
      have BW7 : Hid (Below w.heap.size w W7) := BW6.out.trans (hb.mono BW6.out.size)
      have HOG7 := Lib.hid (HOG.out.below hb)
      have HX1_7 := Lib.hid ((hb.block _ (lt_of_block HX1_6.out)).trans HX1_6.out)
      have HX2_7 := Lib.hid ((hb.block _ (lt_of_block HX2_6.out)).trans HX2_6.out)
      clear hb hf1 p0 o0 p1 o1 p2 o2 p3 o3 p4 o4 p5 o5 p6 o6 p7 o7 p8 o8
      have p0 := cell_at HX1_7.out (j := 0) (v := .string f.n) rfl
      have p1 := cell_at HX1_7.out (j := 1) (v := .int .i64 f.k) rfl
      have p2 := cell_at HX1_7.out (j := 2) (v := .int .i64 f.a) rfl
      have p3 := cell_at HX1_7.out (j := 3) (v := .int .i64 f.x) rfl
      have p4 := cell_at HX1_7.out (j := 4) (v := .int .i64 f.y) rfl
      have p5 := cell_at HX1_7.out (j := 5) (v := .int .i64 f.z) rfl
      have p6 := cell_at HX1_7.out (j := 6) (v := .int .i64 f.l) rfl
      have p7 := cell_at HX1_7.out (j := 7) (v := .int .i64 f.h) rfl
      have p8 := cell_at HX1_7.out (j := 8) (v := .slice fo fn fc) rfl
      have o0 := cell_at HX2_7.out (j := 0) (v := .string f.n) rfl
      have o1 := cell_at HX2_7.out (j := 1) (v := .int .i64 f.k) rfl
      have o2 := cell_at HX2_7.out (j := 2) (v := .int .i64 f.a) rfl
      have o3 := cell_at HX2_7.out (j := 3) (v := .int .i64 f.x) rfl
      have o4 := cell_at HX2_7.out (j := 4) (v := .int .i64 f.y) rfl
      have o5 := cell_at HX2_7.out (j := 5) (v := .int .i64 f.z) rfl
      have o6 := cell_at HX2_7.out (j := 6) (v := .int .i64 f.l) rfl
      have o7 := cell_at HX2_7.out (j := 7) (v := .int .i64 f.h) rfl
      have o8 := cell_at HX2_7.out (j := 8) (v := .slice (some ⟨g, 0, none⟩) fn cc) rfl
      go_wp2_with fail
      rw [← HGV.out]
      refine fdatums_any _ _ _ _ _ HOG7.out fun a2 c2 W8 hb hf2 => ?_
      rw [HER.out, HDR.out, HDN.out]
      rw [HDR.out] at hf2
      have HC2 := Lib.hid hf2
      have HC1 := Lib.hid (HC1.out.below hb)
      have BW8 : Hid (Below w.heap.size w W8) := BW7.out.trans (hb.mono BW7.out.size)
      have B6_8 : Hid (Below W6.heap.size W6 W8) := B6_7.out.trans (hb.mono B6_7.out.size)
      have HOG8 := Lib.hid (HOG7.out.below hb)
      have HX1_8 := Lib.hid ((hb.block _ (lt_of_block HX1_7.out)).trans HX1_7.out)
      have HX2_8 := Lib.hid ((hb.block _ (lt_of_block HX2_7.out)).trans HX2_7.out)
      clear hb hf2 HOG7 p0 o0 p1 o1 p2 o2 p3 o3 p4 o4 p5 o5 p6 o6 p7 o7 p8 o8
      have p0 := cell_at HX1_8.out (j := 0) (v := .string f.n) rfl
      have p1 := cell_at HX1_8.out (j := 1) (v := .int .i64 f.k) rfl
      have p2 := cell_at HX1_8.out (j := 2) (v := .int .i64 f.a) rfl
      have p3 := cell_at HX1_8.out (j := 3) (v := .int .i64 f.x) rfl
      have p4 := cell_at HX1_8.out (j := 4) (v := .int .i64 f.y) rfl
      have p5 := cell_at HX1_8.out (j := 5) (v := .int .i64 f.z) rfl
      have p6 := cell_at HX1_8.out (j := 6) (v := .int .i64 f.l) rfl
      have p7 := cell_at HX1_8.out (j := 7) (v := .int .i64 f.h) rfl
      have p8 := cell_at HX1_8.out (j := 8) (v := .slice fo fn fc) rfl
      have o0 := cell_at HX2_8.out (j := 0) (v := .string f.n) rfl
      have o1 := cell_at HX2_8.out (j := 1) (v := .int .i64 f.k) rfl
      have o2 := cell_at HX2_8.out (j := 2) (v := .int .i64 f.a) rfl
      have o3 := cell_at HX2_8.out (j := 3) (v := .int .i64 f.x) rfl
      have o4 := cell_at HX2_8.out (j := 4) (v := .int .i64 f.y) rfl
      have o5 := cell_at HX2_8.out (j := 5) (v := .int .i64 f.z) rfl
      have o6 := cell_at HX2_8.out (j := 6) (v := .int .i64 f.l) rfl
      have o7 := cell_at HX2_8.out (j := 7) (v := .int .i64 f.h) rfl
      have o8 := cell_at HX2_8.out (j := 8) (v := .slice (some ⟨g, 0, none⟩) fn cc) rfl
      go_wp2_with fail
      refine equalS_same a1 a2 DL DN c1 c2 _ _ HDN.out (by omega) HC1.out HC2.out fun W9 hd => ?_
      have hb : Below W8.heap.size W8 W9 := hd.below _
      have HC1 := Lib.hid (HC1.out.below hb)
      have BW9 : Hid (Below w.heap.size w W9) := BW8.out.trans (hb.mono BW8.out.size)
      have B6_9 : Hid (Below W6.heap.size W6 W9) := B6_8.out.trans (hb.mono B6_8.out.size)
      have HOG9 := Lib.hid (HOG8.out.below hb)
      have HX1_9 := Lib.hid ((hb.block _ (lt_of_block HX1_8.out)).trans HX1_8.out)
      have HX2_9 := Lib.hid ((hb.block _ (lt_of_block HX2_8.out)).trans HX2_8.out)
      clear hd hb HC2 HOG8 p0 o0 p1 o1 p2 o2 p3 o3 p4 o4 p5 o5 p6 o6 p7 o7 p8 o8
      have p0 := cell_at HX1_9.out (j := 0) (v := .string f.n) rfl
      have p1 := cell_at HX1_9.out (j := 1) (v := .int .i64 f.k) rfl
      have p2 := cell_at HX1_9.out (j := 2) (v := .int .i64 f.a) rfl
      have p3 := cell_at HX1_9.out (j := 3) (v := .int .i64 f.x) rfl
      have p4 := cell_at HX1_9.out (j := 4) (v := .int .i64 f.y) rfl
      have p5 := cell_at HX1_9.out (j := 5) (v := .int .i64 f.z) rfl
      have p6 := cell_at HX1_9.out (j := 6) (v := .int .i64 f.l) rfl
      have p7 := cell_at HX1_9.out (j := 7) (v := .int .i64 f.h) rfl
      have p8 := cell_at HX1_9.out (j := 8) (v := .slice fo fn fc) rfl
      have o0 := cell_at HX2_9.out (j := 0) (v := .string f.n) rfl
      have o1 := cell_at HX2_9.out (j := 1) (v := .int .i64 f.k) rfl
      have o2 := cell_at HX2_9.out (j := 2) (v := .int .i64 f.a) rfl
      have o3 := cell_at HX2_9.out (j := 3) (v := .int .i64 f.x) rfl
      have o4 := cell_at HX2_9.out (j := 4) (v := .int .i64 f.y) rfl
      have o5 := cell_at HX2_9.out (j := 5) (v := .int .i64 f.z) rfl
      have o6 := cell_at HX2_9.out (j := 6) (v := .int .i64 f.l) rfl
      have o7 := cell_at HX2_9.out (j := 7) (v := .int .i64 f.h) rfl
      have o8 := cell_at HX2_9.out (j := 8) (v := .slice (some ⟨g, 0, none⟩) fn cc) rfl
      go_wp2_with fail
      refine sorted36_any a1 DL DN c1 _ _ HDN.out (by omega) HC1.out HUP.out fun W10 hb => ?_
      have HC1 := Lib.hid (HC1.out.below hb)
      have BW10 : Hid (Below w.heap.size w W10) := BW9.out.trans (hb.mono BW9.out.size)
      have B6_10 : Hid (Below W6.heap.size W6 W10) := B6_9.out.trans (hb.mono B6_9.out.size)
      have HOG10 := Lib.hid (HOG9.out.below hb)
      have HX1_10 := Lib.hid ((hb.block _ (lt_of_block HX1_9.out)).trans HX1_9.out)
      have HX2_10 := Lib.hid ((hb.block _ (lt_of_block HX2_9.out)).trans HX2_9.out)
      clear hb HOG9 p0 o0 p1 o1 p2 o2 p3 o3 p4 o4 p5 o5 p6 o6 p7 o7 p8 o8
      have p0 := cell_at HX1_10.out (j := 0) (v := .string f.n) rfl
      have p1 := cell_at HX1_10.out (j := 1) (v := .int .i64 f.k) rfl
      have p2 := cell_at HX1_10.out (j := 2) (v := .int .i64 f.a) rfl
      have p3 := cell_at HX1_10.out (j := 3) (v := .int .i64 f.x) rfl
      have p4 := cell_at HX1_10.out (j := 4) (v := .int .i64 f.y) rfl
      have p5 := cell_at HX1_10.out (j := 5) (v := .int .i64 f.z) rfl
      have p6 := cell_at HX1_10.out (j := 6) (v := .int .i64 f.l) rfl
      have p7 := cell_at HX1_10.out (j := 7) (v := .int .i64 f.h) rfl
      have p8 := cell_at HX1_10.out (j := 8) (v := .slice fo fn fc) rfl
      have o0 := cell_at HX2_10.out (j := 0) (v := .string f.n) rfl
      have o1 := cell_at HX2_10.out (j := 1) (v := .int .i64 f.k) rfl
      have o2 := cell_at HX2_10.out (j := 2) (v := .int .i64 f.a) rfl
      have o3 := cell_at HX2_10.out (j := 3) (v := .int .i64 f.x) rfl
      have o4 := cell_at HX2_10.out (j := 4) (v := .int .i64 f.y) rfl
      have o5 := cell_at HX2_10.out (j := 5) (v := .int .i64 f.z) rfl
      have o6 := cell_at HX2_10.out (j := 6) (v := .int .i64 f.l) rfl
      have o7 := cell_at HX2_10.out (j := 7) (v := .int .i64 f.h) rfl
      have o8 := cell_at HX2_10.out (j := 8) (v := .slice (some ⟨g, 0, none⟩) fn cc) rfl
      go_wp2_with fail
      rw [← HGV.out]
      refine fall_any _ _ _ _ _ HOG10.out fun W11 hb => ?_
      rw [HER.out]
      have HC1 := Lib.hid (HC1.out.below hb)
      have BW11 : Hid (Below w.heap.size w W11) := BW10.out.trans (hb.mono BW10.out.size)
      have B6_11 : Hid (Below W6.heap.size W6 W11) := B6_10.out.trans (hb.mono B6_10.out.size)
      have HX1_11 := Lib.hid ((hb.block _ (lt_of_block HX1_10.out)).trans HX1_10.out)
      have HX2_11 := Lib.hid ((hb.block _ (lt_of_block HX2_10.out)).trans HX2_10.out)
      have HB10 := Lib.hid hb
      clear hb p0 o0 p1 o1 p2 o2 p3 o3 p4 o4 p5 o5 p6 o6 p7 o7 p8 o8
      have p0 := cell_at HX1_11.out (j := 0) (v := .string f.n) rfl
      have p1 := cell_at HX1_11.out (j := 1) (v := .int .i64 f.k) rfl
      have p2 := cell_at HX1_11.out (j := 2) (v := .int .i64 f.a) rfl
      have p3 := cell_at HX1_11.out (j := 3) (v := .int .i64 f.x) rfl
      have p4 := cell_at HX1_11.out (j := 4) (v := .int .i64 f.y) rfl
      have p5 := cell_at HX1_11.out (j := 5) (v := .int .i64 f.z) rfl
      have p6 := cell_at HX1_11.out (j := 6) (v := .int .i64 f.l) rfl
      have p7 := cell_at HX1_11.out (j := 7) (v := .int .i64 f.h) rfl
      have p8 := cell_at HX1_11.out (j := 8) (v := .slice fo fn fc) rfl
      have o0 := cell_at HX2_11.out (j := 0) (v := .string f.n) rfl
      have o1 := cell_at HX2_11.out (j := 1) (v := .int .i64 f.k) rfl
      have o2 := cell_at HX2_11.out (j := 2) (v := .int .i64 f.a) rfl
      have o3 := cell_at HX2_11.out (j := 3) (v := .int .i64 f.x) rfl
      have o4 := cell_at HX2_11.out (j := 4) (v := .int .i64 f.y) rfl
      have o5 := cell_at HX2_11.out (j := 5) (v := .int .i64 f.z) rfl
      have o6 := cell_at HX2_11.out (j := 6) (v := .int .i64 f.l) rfl
      have o7 := cell_at HX2_11.out (j := 7) (v := .int .i64 f.h) rfl
      have o8 := cell_at HX2_11.out (j := 8) (v := .slice (some ⟨g, 0, none⟩) fn cc) rfl
      have K0 : (fn == 0) = false := by simpa using hz
      have hcc1 := hcc.out
      obtain ⟨x0, gs, hgs⟩ : ∃ x gs, f.fs.reverse = x :: gs := by
        cases h : f.fs.reverse with
        | nil => exact absurd (by rw [← HFN.out, ← List.length_reverse, h]; rfl) hz
        | cons x gs => exact ⟨x, gs, rfl⟩
      have hgl : gs.length + 1 = fn := by have h := congrArg List.length hgs; rw [List.length_reverse, HFN.out] at h; simpa using h.symm
      have HET := Lib.hid (alE_tail HEE.out hgs)
      obtain ⟨CL, hCL⟩ : ∃ l, dmL (f.wf gs) = l := ⟨_, rfl⟩
      have hsub : ∀ s ∈ CL, s ∈ DL := by rw [← hCL, ← HDL.out]; exact dmL_tail HEE.out hgs
      have hcl : CL.length ≤ 24 := by rw [← hCL]; exact dmL_len _
      have HCL := Lib.hid hCL
      have HSUB := Lib.hid hsub
      obtain ⟨CN, hCN⟩ : ∃ n, CL.length = n := ⟨_, rfl⟩
      rw [hCN] at hcl
      have HCN := Lib.hid hCN
      have HGS := Lib.hid hgs
      have HGL := Lib.hid hgl
      clear hCL hCN hsub hgl
      by_cases h1 : cc = 1
      · obtain rfl : fn = 1 := by omega
        subst h1
        obtain ⟨W12, ES⟩ : ∃ v, W11.setCell ⟨OB, 8, none⟩ (.slice (some ⟨g, 0, none⟩) 0 0) = v := ⟨_, rfl⟩
        have HX2_12 : Hid (W12.heap[OB]? = some (.cells #[.string f.n, .int .i64 f.k, .int .i64 f.a, .int .i64 f.x, .int .i64 f.y, .int .i64 f.z, .int .i64 f.l, .int .i64 f.h, .slice (some ⟨g, 0, none⟩) 0 0] 28 (0, 0))) := by unfold Hid; rw [← ES]; exact set_step HX2_11.out 8 _ _ rfl
        have BS : Hid (Below OB W11 W12) := by unfold Hid; rw [← ES]; exact (Below.refl OB W11).setCell (p := ⟨OB, 8, none⟩) (Nat.le_refl _) _
        have KS : Hid (∀ j, j ≠ OB → W12.heap[j]? = W11.heap[j]?) := by unfold Hid; rw [← ES]; exact fun j hj => Below.heap_setCell _ ⟨OB, 8, none⟩ _ j hj
        have BW12 : Hid (Below w.heap.size w W12) := BW11.out.trans (BS.out.mono (Nat.le_of_lt hwo))
        have HX1_12 := Lib.hid ((KS.out _ (by omega)).trans HX1_11.out)
        have fz := frozen_at HX2_11.out 8
        have q0 := cell_at HX2_12.out (j := 0) (v := .string f.n) rfl
        have q1 := cell_at HX2_12.out (j := 1) (v := .int .i64 f.k) rfl
        have q2 := cell_at HX2_12.out (j := 2) (v := .int .i64 f.a) rfl
        have q3 := cell_at HX2_12.out (j := 3) (v := .int .i64 f.x) rfl
        have q4 := cell_at HX2_12.out (j := 4) (v := .int .i64 f.y) rfl
        have q5 := cell_at HX2_12.out (j := 5) (v := .int .i64 f.z) rfl
        have q6 := cell_at HX2_12.out (j := 6) (v := .int .i64 f.l) rfl
        have q7 := cell_at HX2_12.out (j := 7) (v := .int .i64 f.h) rfl
        have q8 := cell_at HX2_12.out (j := 8) (v := .slice (some ⟨g, 0, none⟩) 0 0) rfl
        go_wp2_with (rw [ES])
        clear fz ES BS q0 q1 q2 q3 q4 q5 q6 q7 q8 p0 o0 p1 o1 p2 o2 p3 o3 p4 o4 p5 o5 p6 o6 p7 o7 p8 o8
        have HTV : Hid (ftV (f.wf gs) (some ⟨g, 0, none⟩) 0 = .agg #[.string f.n, .int .i64 f.k, .int .i64 f.a, .int .i64 f.x, .int .i64 f.y, .int .i64 f.z, .int .i64 f.l, .int .i64 f.h, .slice (some ⟨g, 0, none⟩) 0 0]) := by unfold Hid; show Value.agg #[_, _, _, _, _, _, _, _, .slice _ gs.length _] = _; rw [show gs.length = 0 from by have := HGL.out; omega]; rfl
        rw [← HTV.out]
        have HOT : Hid (FtOk W12 (f.wf gs) (some ⟨g, 0, none⟩) 0) := (HOF.out.below BW12.out).wf (by have e0 : gs = [] := List.length_eq_zero_iff.1 (by have := HGL.out; omega); rw [e0]; exact fun h => absurd h (by simp)) (by have := HGL.out; omega)
        refine fdatums_any _ _ _ _ _ HOT.out fun a3 c3 W13 hb hf3 => ?_
        rw [HET.out, HCL.out, HCN.out]
        rw [HCL.out] at hf3
        have HC3 := Lib.hid hf3
        have BW13 : Hid (Below w.heap.size w W13) := BW12.out.trans (hb.mono BW12.out.size)
        have HC1 := Lib.hid ((cells_of_block HC1.out (fun b o e => KS.out b (by have := HFR1.out b o e; omega))).below hb)
        clear hb hf3 HOT KS
        go_wp2_with fail
        go_loopw [81] (fun j wr => ∃ k : Nat, k ≤ CN ∧ j = .int .i64 k ∧ wr = W13) (fun j _ => CN - (intOf j).toNat)
        case atStart => exact ⟨0, Nat.zero_le _, rfl, rfl⟩
        case round =>
          obtain ⟨k, hk, rfl, rfl⟩ := hrel
          by_cases hlt : k < CN
          · obtain ⟨b3, o3, rfl, hb3, hcell⟩ := HC3.out.strs (by rw [HCN.out]; omega)
            have d0 := hcell k (by rw [HCN.out]; exact hlt)
            have hin : kat CL k ∈ DL := HSUB.out _ (by rw [kat_lt (by rw [HCN.out]; exact hlt)]; exact List.getElem_mem _)
            obtain ⟨s, hs⟩ : ∃ s, kat CL k = s := ⟨_, rfl⟩
            rw [hs] at d0 hin
            have HIN := Lib.hid hin
            clear hcell hs hin
            go_wp2_with fail
            refine cont37_any a1 DL DN c1 s _ _ HDN.out (by omega) HC1.out HIN.out ?_
            go_wp2_with fail
            exact ⟨⟨k + 1, by omega, by go_num, by first | rfl | trivial⟩, by simp [intOf]; omega⟩
          · go_wp2_with fail
            refine awake19_any _ _ (HEV.out.below BW13.out) fun WZ hb => ?_
            have BZ : Hid (Below w.heap.size w WZ) := BW13.out.trans (hb.mono BW13.out.size)
            clear hb
            go_wp2_with fail
            exact HR.out _ BZ.out
      · obtain ⟨f1, hf1⟩ : ∃ f1, fn = f1 + 1 := ⟨fn - 1, by omega⟩
        obtain ⟨c1', hc1'⟩ : ∃ c1', cc = c1' + 2 := ⟨cc - 2, by omega⟩
        subst hf1
        subst hc1'
        obtain ⟨W12, ES⟩ : ∃ v, W11.setCell ⟨OB, 8, none⟩ (.slice (some ⟨g, 5, none⟩) f1 (c1' + 1)) = v := ⟨_, rfl⟩
        have HX2_12 : Hid (W12.heap[OB]? = some (.cells #[.string f.n, .int .i64 f.k, .int .i64 f.a, .int .i64 f.x, .int .i64 f.y, .int .i64 f.z, .int .i64 f.l, .int .i64 f.h, .slice (some ⟨g, 5, none⟩) f1 (c1' + 1)] 28 (0, 0))) := by unfold Hid; rw [← ES]; exact set_step HX2_11.out 8 _ _ rfl
        have BS : Hid (Below OB W11 W12) := by unfold Hid; rw [← ES]; exact (Below.refl OB W11).setCell (p := ⟨OB, 8, none⟩) (Nat.le_refl _) _
        have KS : Hid (∀ j, j ≠ OB → W12.heap[j]? = W11.heap[j]?) := by unfold Hid; rw [← ES]; exact fun j hj => Below.heap_setCell _ ⟨OB, 8, none⟩ _ j hj
        have BW12 : Hid (Below w.heap.size w W12) := BW11.out.trans (BS.out.mono (Nat.le_of_lt hwo))
        have HX1_12 := Lib.hid ((KS.out _ (by omega)).trans HX1_11.out)
        have fz := frozen_at HX2_11.out 8
        have q0 := cell_at HX2_12.out (j := 0) (v := .string f.n) rfl
        have q1 := cell_at HX2_12.out (j := 1) (v := .int .i64 f.k) rfl
        have q2 := cell_at HX2_12.out (j := 2) (v := .int .i64 f.a) rfl
        have q3 := cell_at HX2_12.out (j := 3) (v := .int .i64 f.x) rfl
        have q4 := cell_at HX2_12.out (j := 4) (v := .int .i64 f.y) rfl
        have q5 := cell_at HX2_12.out (j := 5) (v := .int .i64 f.z) rfl
        have q6 := cell_at HX2_12.out (j := 6) (v := .int .i64 f.l) rfl
        have q7 := cell_at HX2_12.out (j := 7) (v := .int .i64 f.h) rfl
        have q8 := cell_at HX2_12.out (j := 8) (v := .slice (some ⟨g, 5, none⟩) f1 (c1' + 1)) rfl
        go_wp2_with (rw [ES])
        clear fz ES BS q0 q1 q2 q3 q4 q5 q6 q7 q8 p0 o0 p1 o1 p2 o2 p3 o3 p4 o4 p5 o5 p6 o6 p7 o7 p8 o8
        have HTV : Hid (ftV (f.wf gs) (some ⟨g, 5, none⟩) (c1' + 1) = .agg #[.string f.n, .int .i64 f.k, .int .i64 f.a, .int .i64 f.x, .int .i64 f.y, .int .i64 f.z, .int .i64 f.l, .int .i64 f.h, .slice (some ⟨g, 5, none⟩) f1 (c1' + 1)]) := by unfold Hid; show Value.agg #[_, _, _, _, _, _, _, _, .slice _ gs.length _] = _; rw [show gs.length = f1 from by have := HGL.out; omega]; rfl
        rw [← HTV.out]
        have HOT : Hid (FtOk W12 (f.wf gs) (some ⟨g, 5, none⟩) (c1' + 1)) := (HOF.out.below BW12.out).wf (tail_rows HPM.out HGS.out (cells_of_block (HCR.out.below B6_11.out) (fun b o e => by cases e; exact KS.out g (by omega))) (fun i hi => (HPO.out i hi).below BW12.out)) (by have := HGL.out; omega)
        refine fdatums_any _ _ _ _ _ HOT.out fun a3 c3 W13 hb hf3 => ?_
        rw [HET.out, HCL.out, HCN.out]
        rw [HCL.out] at hf3
        have HC3 := Lib.hid hf3
        have BW13 : Hid (Below w.heap.size w W13) := BW12.out.trans (hb.mono BW12.out.size)
        have HC1 := Lib.hid ((cells_of_block HC1.out (fun b o e => KS.out b (by have := HFR1.out b o e; omega))).below hb)
        clear hb hf3 HOT KS
        go_wp2_with fail
        go_loopw [81] (fun j wr => ∃ k : Nat, k ≤ CN ∧ j = .int .i64 k ∧ wr = W13) (fun j _ => CN - (intOf j).toNat)
        case atStart => exact ⟨0, Nat.zero_le _, rfl, rfl⟩
        case round =>
          obtain ⟨k, hk, rfl, rfl⟩ := hrel
          by_cases hlt : k < CN
          · obtain ⟨b3, o3, rfl, hb3, hcell⟩ := HC3.out.strs (by rw [HCN.out]; omega)
            have d0 := hcell k (by rw [HCN.out]; exact hlt)
            have hin : kat CL k ∈ DL := HSUB.out _ (by rw [kat_lt (by rw [HCN.out]; exact hlt)]; exact List.getElem_mem _)
            obtain ⟨s, hs⟩ : ∃ s, kat CL k = s := ⟨_, rfl⟩
            rw [hs] at d0 hin
            have HIN := Lib.hid hin
            clear hcell hs hin
            go_wp2_with fail
            refine cont37_any a1 DL DN c1 s _ _ HDN.out (by omega) HC1.out HIN.out ?_
            go_wp2_with fail
            exact ⟨⟨k + 1, by omega, by go_num, by first | rfl | trivial⟩, by simp [intOf]; omega⟩
          · go_wp2_with fail
            refine awake19_any _ _ (HEV.out.below BW13.out) fun WZ hb => ?_
            have BZ : Hid (Below w.heap.size w WZ) := BW13.out.trans (hb.mono BW13.out.size)
            clear hb
            go_wp2_with fail
            exact HR.out _ BZ.out
end Go.Proofs.YtciokmjhdbcmpaaGreatDoor
namespace Go.Proofs.YtciokmjhdbcmpaaGreatDoor
open Go.RowKit Go.Joins Go.ChangeShapes Go.WideShapes Go.Deep

section
variable {H : Type} {enc : TypeId × Value → H} {w : World} {base : Nat} {spare : Nat → Bool} {held : Bool}
set_option maxRecDepth 100000 in
theorem open_feature_nil {d : DataW H} {p : List MemPlace} {f : Ft} {fo : Option Addr} {fc : Nat} (h : DataW.Trod enc Tryz.prog w base spare held 28 (ftV f fo fc) d p) : fo = none → f.fs.length = 0 ∧ fc = 0 := by
  have c5 : Tryz.prog.cellsOf 26 = 1 := by kernel_rfl
  obtain ⟨cs, hcs⟩ : ∃ cs, ftV f fo fc = .agg cs := ⟨_, rfl⟩
  rw [hcs] at h
  obtain ⟨fuel, hf0⟩ := h
  obtain ⟨ys, n', _, _, _, hyl, hf⟩ := DataW.trod_struct Tryz.underlying28 hf0
  cases hcs
  have hy5 : ys.length = 6 := hyl
  have t5 : DataW.trod enc Tryz.prog w base spare held n' 26 (([.string f.n, .int .i64 f.k, .int .i64 f.a, .int .i64 f.x, .int .i64 f.y, .int .i64 f.z, .int .i64 f.l, .int .i64 f.h, .slice fo f.fs.length fc].drop 8).take (Tryz.prog.cellsOf 26)) = ys[5]? := hf 5 _ rfl
  rw [c5] at t5
  have t5 := some_of t5 (by omega)
  rcases open_slice Tryz.underlying26 (cs := [.slice fo f.fs.length fc]) t5 with ⟨hc1, _⟩ | ⟨a, n, cap, mm, k, D, Pl, hc1, _⟩
  · intro _
    have h1 := (List.cons.inj hc1).1
    obtain ⟨_, h3, h4⟩ := Value.slice.inj h1
    exact ⟨h3, h4⟩
  · intro hn
    have h1 := (List.cons.inj hc1).1
    obtain ⟨h2, _, _⟩ := Value.slice.inj h1
    rw [hn] at h2; cases h2
end
end Go.Proofs.YtciokmjhdbcmpaaGreatDoor
