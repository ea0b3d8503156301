/- The walk of Return of package stock. -/
import Derived.Test.YteoniejpfmeibaaDoorSk
namespace Go.Proofs.YteoniejpfmeibaaDoor
open Go.RowKit Go.Shelf

theorem Copied.put312 {w : World} {base C : Nat} {most : Int} {bs : List B5} {g n cap : Nat} (h : Copied w base C most bs (.slice (some ⟨g, 0, none⟩) n cap)) (hg : g ≠ C) (i : Nat) (hi : i < bs.length) (p q : Int) (s : ByteArray) :
    Copied (((w.setCell ⟨g, i * 4 + 3, none⟩ (.string s)).setCell ⟨g, i * 4 + 1, none⟩ (.int .i64 p)).setCell ⟨g, i * 4 + 2, none⟩ (.int .i64 q)) base C most (bs.set i ⟨(bAt bs i).l, p, q, s⟩) (.slice (some ⟨g, 0, none⟩) n cap) := by
  have h1 := h.put hg _ _ (bC_set3 hi s) (by simp)
  have h2 := h1.put hg _ _ (bC_set1 (by simpa using hi) p) (by simp)
  have h3 := h2.put hg _ _ (bC_set2 (by simpa using hi) q) (by simp)
  rw [List.set_set, List.set_set] at h3
  rw [List.set_set, bAt_set hi, if_pos rfl, bAt_set hi, if_pos rfl] at h3
  exact h3
theorem CellsAt.setOther {w : World} {b o : Nat} {cs : List Value} (h : CellsAt w (some ⟨b, o, none⟩) cs) {a : Addr} (ha : a.block ≠ b) (u : Value) : CellsAt (w.setCell a u) (some ⟨b, o, none⟩) cs := by
  intro h0
  obtain ⟨b', o', e, hl, hc⟩ := h h0
  cases e
  exact ⟨b, o, rfl, by simpa [World.setCell] using hl, fun j hj => (World.cell?_of_block (w := w) (Below.heap_setCell _ _ _ _ (fun e => ha e.symm))).trans (hc j hj)⟩

set_option maxHeartbeats 2000000 in
theorem returnS_any (most : Int) (ao : Option Addr) (bs : List B5) (c : Nat) (who : ByteArray) (x : Int) (w : World) (R : Ending → World → Prop) (hl : bs.length ≤ 9223372036854775807) (hn : ao = none → bs.length = 0 ∧ c = 0) (hc : CellsAt w ao (bC bs)) (hs : StrOk bs) (hw : who.size ≤ 9223372036854775807)
   (hR : ∀ a' c' w', Below w.heap.size w w' → BSl w' a' c' (rtB most bs who x) → Fresh w.heap.size a' → R (.returned (.tuple #[.agg #[.int .i64 (okM most (rtE most bs who x)), .slice a' (rtB most bs who x).length c'], .int .i64 (rtE most bs who x)])) w') :
    Calls Tryd.prog 27 #[.agg #[.int .i64 most, .slice ao bs.length c], .string who, .int .i64 x] w R := by
  have HR := Lib.hid hR
  have HC := Lib.hid hc
  have HN := Lib.hid hn
  clear hR hc hn
  obtain ⟨w1, E1', HB1, s1, X1⟩ := box_ex w #[.int .i64 most, .slice ao bs.length c] 24
  have E1 := Lib.hid E1'
  clear E1'
  have hz1 : w1.heap.size = w.heap.size + 1 := by rw [← E1.out]; simp
  obtain ⟨w2, E2', HB2, s2, X2⟩ := box_ex w1 #[.int .i64 0, .slice none 0 0] 24
  have E2 := Lib.hid E2'
  clear E2'
  have HV2 : Hid (Below w.heap.size w w2) := HB1.out.trans (HB2.out.mono (by omega))
  have X1' : Hid (w2.heap[w.heap.size]? = some (.cells #[.int .i64 most, .slice ao bs.length c] 24 (0, 0))) := heap_below X1.out HB2.out s1
  have X2' : Hid (w2.heap[w.heap.size + 1]? = some (.cells #[.int .i64 0, .slice none 0 0] 24 (0, 0))) := by unfold Hid; rw [← hz1]; exact X2.out
  have k0 : w2.cell? ⟨w.heap.size, 0, none⟩ = some (.int .i64 most) := cell_at X1'.out rfl
  have k1 : w2.cell? ⟨w.heap.size, 1, none⟩ = some (.slice ao bs.length c) := cell_at X1'.out rfl
  have hs2 : w.heap.size + 1 < w2.heap.size := by omega
  have HZ : Hid (∀ w3 : World, Below w.heap.size w w3 → ∀ e : Int, rtE most bs who x = e → e ≠ 0 → R (.returned (.tuple #[.agg #[.int .i64 0, .slice none 0 0], .int .i64 e])) ((w3.setCell ⟨w.heap.size + 1, 0, none⟩ (.int .i64 0)).setCell ⟨w.heap.size + 1, 1, none⟩ (.slice none 0 0))) := by
    intro w3 hb e he h0
    have HDB : rtB most bs who x = [] := by rw [rtB, if_neg (by rw [he]; exact h0)]
    have HR' := HR.out none 0 _ ((hb.setCell (p := ⟨w.heap.size + 1, 0, none⟩) (by show w.heap.size ≤ w.heap.size + 1; omega) (.int .i64 0)).setCell (p := ⟨w.heap.size + 1, 1, none⟩) (by show w.heap.size ≤ w.heap.size + 1; omega) (.slice none 0 0)) (by rw [HDB]; exact BSl.nil _) (Fresh.nil _)
    rw [HDB, he, okM, if_neg h0] at HR'
    exact HR'
  by_cases hE : nmS most bs who = 0
  · have hlen := chkS_len (nmS_chk hE)
    cases hx : inB x 0 100000 with
    | true =>
      obtain ⟨L, hL⟩ : ∃ L, Hid (pickL (heldP who) bs = L) := ⟨_, rfl⟩
      have hLl : L.length ≤ bs.length := by rw [← hL.out]; exact pickTo_length _ _ _
      have hLb : Hid (∀ j, j < L.length → ∃ i : Nat, at0 L j = i ∧ i < bs.length) := by
        unfold Hid; rw [← hL.out]; intro j hj; obtain ⟨i, h1, h2, _⟩ := pick_bd hj; exact ⟨i, h1, h2⟩
      by_cases h0 : L.length = 0
      · have HD : Hid (rtE most bs who x = 6) := by unfold Hid rtE; rw [if_pos hE, if_pos hx, hL.out, if_pos h0]
        have h0' : ((L.length : Int) == 0) = true := by rw [beq_iff_eq]; omega
        have HE := Lib.hid hE
        clear hE h0
        go_enter Tryd.func27, Tryd.ntmps27
        go_wp2_with fail
        rw [E1.out, E2.out]
        refine named_any most ao bs c who _ _ hl HN.out (HC.out.below HV2.out) hs hw ?_ (fun h => absurd HE.out h)
        intro _ C v w3 hb3 hcp3
        have HB3 : Hid (Below w.heap.size w w3) := HV2.out.trans (hb3.mono HV2.out.size)
        have X3 : Hid (w3.heap[w.heap.size + 1]? = some (.cells #[.int .i64 0, .slice none 0 0] 24 (0, 0))) := heap_below X2'.out hb3 hs2
        obtain ⟨a2, c2, rfl, r1, r2, r3, r4⟩ := hcp3.read
        have q1 := Lib.hid r1
        have q3 := Lib.hid r3
        have q4 := Lib.hid r4
        have s3 := hb3.size
        clear hb3 hcp3 r1 r2 r3 r4
        go_wp2_with fail
        refine in_any _ _ _ _ _ ?_
        go_wp2_with fail
        refine held_any C most who a2 bs c2 _ _ hlen q3.out q4.out q1.out ?_
        rw [hL.out]
        intro v w4 hb4 ho4
        have HB4 : Hid (Below w.heap.size w w4) := HB3.out.trans (hb4.mono HB3.out.size)
        have X4 : Hid (w4.heap[w.heap.size + 1]? = some (.cells #[.int .i64 0, .slice none 0 0] 24 (0, 0))) := heap_below X3.out hb4 (by omega)
        obtain ⟨a4, c4, rfl, r1, _⟩ := ho4.read
        have f0 := frozen_at X4.out 0
        have f1 := frozen_at X4.out 1
        have y0 : w4.cell? ⟨w.heap.size + 1, 0, none⟩ = some (.int .i64 0) := cell_at X4.out rfl
        have y1 : w4.cell? ⟨w.heap.size + 1, 1, none⟩ = some (.slice none 0 0) := cell_at X4.out rfl
        clear hb4 ho4 r1
        go_wp2_with fail
        refine bodyPost_ret (v := .tuple #[.agg #[.int .i64 0, .slice none 0 0], .int .i64 6]) (by simp [results, Tryd.results27, go_sem, y0, y1]) rfl ?_
        exact HZ.out _ HB4.out 6 HD.out (by omega)
      · have h0' : ((L.length : Int) == 0) = false := by rw [beq_eq_false_iff_ne]; omega
        have HD : Hid (rtE most bs who x = rtR2 (rtX bs L x)) := by unfold Hid rtE; rw [if_pos hE, if_pos hx, hL.out, if_neg h0]
        have HDB : Hid (rtE most bs who x = 0 → rtB most bs who x = rtR1 (rtX bs L x)) := by unfold Hid; intro h; rw [rtB, if_pos h, hL.out]
        have HE := Lib.hid hE
        have HLn : 0 < L.length := by omega
        clear hE h0
        go_enter Tryd.func27, Tryd.ntmps27
        go_wp2_with fail
        rw [E1.out, E2.out]
        refine named_any most ao bs c who _ _ hl HN.out (HC.out.below HV2.out) hs hw ?_ (fun h => absurd HE.out h)
        intro _ C v w3 hb3 hcp3
        have HB3 : Hid (Below w.heap.size w w3) := HV2.out.trans (hb3.mono HV2.out.size)
        have X3 : Hid (w3.heap[w.heap.size + 1]? = some (.cells #[.int .i64 0, .slice none 0 0] 24 (0, 0))) := heap_below X2'.out hb3 hs2
        have HCP3 := Lib.hid hcp3
        obtain ⟨g, cap, rfl, hg, hgl, hgC, _⟩ := hcp3.row (by omega)
        obtain ⟨a2, c2, e2, r1, r2, r3, r4⟩ := hcp3.read
        cases e2
        have q1 := Lib.hid r1
        have q3 := Lib.hid r3
        have q4 := Lib.hid r4
        have s3 := hb3.size
        clear hb3 hcp3 r1 r2 r3 r4
        go_wp2_with fail
        refine in_any _ _ _ _ _ ?_
        go_wp2_with fail
        refine held_any C most who _ bs cap _ _ hlen q3.out q4.out q1.out ?_
        rw [hL.out]
        intro v w4 hb4 ho4
        have HB4 : Hid (Below w.heap.size w w4) := HB3.out.trans (hb4.mono HB3.out.size)
        have X4 : Hid (w4.heap[w.heap.size + 1]? = some (.cells #[.int .i64 0, .slice none 0 0] 24 (0, 0))) := heap_below X3.out hb4 (by omega)
        have HCP4 := Lib.hid (HCP3.out.below hb4)
        obtain ⟨a4, c4, rfl, r1, hbase, _⟩ := ho4.read
        obtain ⟨bL, oL, rfl, _, _⟩ := r1.ints HLn
        have hbL : g ≠ bL := by have := hbase bL oL rfl; omega
        have HCL := Lib.hid r1
        have Hgs : g < w4.heap.size := by have := hb4.size; omega
        clear hb4 ho4 r1 hbase
        obtain ⟨n, hnn⟩ : ∃ n, bs.length = n := ⟨_, rfl⟩
        have HNN := Lib.hid hnn
        rw [hnn] at HCP4 ⊢
        rw [hnn] at hLl hlen hLb
        go_wp2_with fail
        go_loopw [37] (fun i wr => ∃ (k : Nat) (bs' : List B5), k ≤ L.length ∧ i = .int .i64 k ∧ bs'.length ≤ n ∧ n ≤ bs'.length ∧ Hid (Below w.heap.size w wr) ∧ Hid (wr.heap[w.heap.size + 1]? = some (.cells #[.int .i64 0, .slice none 0 0] 24 (0, 0))) ∧
          Hid (Copied wr w2.heap.size C most bs' (.slice (some ⟨g, 0, none⟩) n cap)) ∧ Hid (CellsAt wr (some ⟨bL, oL, none⟩) (I64s L)) ∧ Hid (loopE (rtF L x) (L.length - k) k bs' = rtX bs L x)) (fun i _ => L.length - (intOf i).toNat)
        case atStart => exact ⟨0, bs, Nat.zero_le _, rfl, by have := HNN.out; omega, by have := HNN.out; omega, HB4, X4, HCP4, HCL, rfl⟩
        case round =>
          obtain ⟨k, bs', hk, rfl, hn1, hn2, HB, XZ, HCP, HCLr, hLp⟩ := hrel
          obtain ⟨g', cap', e2, hgw, hgl', _, hf⟩ := HCP.out.row (by omega)
          have hbn := HCP.out.bsl.1
          obtain ⟨ar, cr, e3, r1, _, r3, r4⟩ := HCP.out.read
          cases e2
          cases e3
          have hgw1 : w.heap.size + 1 < g := by omega
          have f0 := frozen_at XZ.out 0
          have f1 := frozen_at XZ.out 1
          have y0 : wr.cell? ⟨w.heap.size + 1, 0, none⟩ = some (.int .i64 0) := cell_at XZ.out rfl
          have y1 : wr.cell? ⟨w.heap.size + 1, 1, none⟩ = some (.slice none 0 0) := cell_at XZ.out rfl
          by_cases hlt : k < L.length
          · obtain ⟨i, hi1, hi2⟩ := hLb.out k hlt
            have hib : i < bs'.length := by omega
            obtain ⟨hr0, hr1, hr2, hr3⟩ := bC_get bs' i hib
            have d1 : wr.cell? ⟨g, i * 4 + 1, none⟩ = some (.int .i64 (bAt bs' i).w) := by have := r1.get rfl hr1; rwa [Nat.zero_add] at this
            have d2 : wr.cell? ⟨g, i * 4 + 2, none⟩ = some (.int .i64 (bAt bs' i).u) := by have := r1.get rfl hr2; rwa [Nat.zero_add] at this
            have d3 : wr.cell? ⟨g, i * 4 + 3, none⟩ = some (.string (bAt bs' i).h) := by have := r1.get rfl hr3; rwa [Nat.zero_add] at this
            have hf1 := hf (i * 4 + 1)
            have hf2 := hf (i * 4 + 2)
            have hf3 := hf (i * 4 + 3)
            obtain ⟨b', o', e', _, hcl⟩ := HCLr.out.ints (by omega)
            have d0 := hcl k hlt
            cases e'
            rw [hi1] at d0
            have HII := Lib.hid hi1
            obtain ⟨p, hp⟩ : ∃ p, wrap64 ((bAt bs' i).w + x) = p := ⟨_, rfl⟩
            obtain ⟨q, hq⟩ : ∃ q, wrap64 ((bAt bs' i).u + 1) = q := ⟨_, rfl⟩
            have HPQ : Hid (rtF L x k bs' = if 100000 < p ∨ 1048576 < q then .inr 11 else .inl (bs'.set i ⟨(bAt bs' i).l, p, q, ⟨#[]⟩⟩)) := by
              unfold Hid rtF; rw [hi1, Int.toNat_natCast, hp, hq]
            have HCP5 : Hid (Copied (((wr.setCell ⟨g, i * 4 + 3, none⟩ (.string ⟨#[]⟩)).setCell ⟨g, i * 4 + 1, none⟩ (.int .i64 p)).setCell ⟨g, i * 4 + 2, none⟩ (.int .i64 q)) w2.heap.size C most (bs'.set i ⟨(bAt bs' i).l, p, q, ⟨#[]⟩⟩) (.slice (some ⟨g, 0, none⟩) bs'.length cap)) := HCP.out.put312 hgC i hib p q ⟨#[]⟩
            have HB5 : Hid (Below w.heap.size w (((wr.setCell ⟨g, i * 4 + 3, none⟩ (.string ⟨#[]⟩)).setCell ⟨g, i * 4 + 1, none⟩ (.int .i64 p)).setCell ⟨g, i * 4 + 2, none⟩ (.int .i64 q))) := ((HB.out.setCell (by show w.heap.size ≤ g; omega) _).setCell (by show w.heap.size ≤ g; omega) _).setCell (by show w.heap.size ≤ g; omega) _
            have HCL5 : Hid (CellsAt (((wr.setCell ⟨g, i * 4 + 3, none⟩ (.string ⟨#[]⟩)).setCell ⟨g, i * 4 + 1, none⟩ (.int .i64 p)).setCell ⟨g, i * 4 + 2, none⟩ (.int .i64 q)) (some ⟨bL, oL, none⟩) (I64s L)) := ((HCLr.out.setOther (by exact hbL) _).setOther (by exact hbL) _).setOther (by exact hbL) _
            have XZ5 : Hid ((((wr.setCell ⟨g, i * 4 + 3, none⟩ (.string ⟨#[]⟩)).setCell ⟨g, i * 4 + 1, none⟩ (.int .i64 p)).setCell ⟨g, i * 4 + 2, none⟩ (.int .i64 q)).heap[w.heap.size + 1]? = some (.cells #[.int .i64 0, .slice none 0 0] 24 (0, 0))) :=
              (Below.heap_setCell _ _ _ _ (by show w.heap.size + 1 ≠ g; omega)).trans ((Below.heap_setCell _ _ _ _ (by show w.heap.size + 1 ≠ g; omega)).trans ((Below.heap_setCell _ _ _ _ (by show w.heap.size + 1 ≠ g; omega)).trans XZ.out))
            clear r1 hr0 hr1 hr2 hr3 hf hcl hi1
            by_cases g1 : 100000 < p
            · have hr : Hid (rtX bs L x = .inr 11) := loopE_hit hLp hlt (by rw [HPQ.out, if_pos (.inl g1)])
              go_wp2_with fail
              refine bodyPost_ret (v := .tuple #[.agg #[.int .i64 0, .slice none 0 0], .int .i64 11]) (by simp [results, Tryd.results27, go_sem, y0, y1]) rfl ?_
              exact HZ.out _ HB5.out 11 (by rw [HD.out, hr.out]; rfl) (by omega)
            · by_cases g2 : 1048576 < q
              · have hr : Hid (rtX bs L x = .inr 11) := loopE_hit hLp hlt (by rw [HPQ.out, if_pos (.inr g2)])
                go_wp2_with fail
                refine bodyPost_ret (v := .tuple #[.agg #[.int .i64 0, .slice none 0 0], .int .i64 11]) (by simp [results, Tryd.results27, go_sem, y0, y1]) rfl ?_
                exact HZ.out _ HB5.out 11 (by rw [HD.out, hr.out]; rfl) (by omega)
              · have hst : Hid (rtF L x k bs' = .inl (bs'.set i ⟨(bAt bs' i).l, p, q, ⟨#[]⟩⟩)) := by unfold Hid; rw [HPQ.out, if_neg (by omega)]
                go_wp2_with fail
                exact ⟨⟨k + 1, _, by omega, by go_num, by rw [List.length_set]; exact hn1, by rw [List.length_set]; exact hn2, HB5, XZ5, HCP5, HCL5, loopE_step hLp hlt hst.out⟩, by simp [intOf]; omega⟩
          · have hr : Hid (rtX bs L x = .inl bs') := loopE_done hLp hlt
            have HE0 : Hid (rtE most bs who x = 0) := by unfold Hid; rw [HD.out, hr.out]; rfl
            go_wp2_with fail
            refine bodyPost_ret (v := .tuple #[.agg #[.int .i64 most, .slice (some ⟨g, 0, none⟩) bs'.length cap], .int .i64 0]) (by simp [results, Tryd.results27, go_sem, y0, y1]) rfl ?_
            have HCP6 := (HCP.out.out (a := ⟨w.heap.size + 1, 0, none⟩) (by show w.heap.size + 1 < w2.heap.size; omega) (.int .i64 most)).out (a := ⟨w.heap.size + 1, 1, none⟩) (by show w.heap.size + 1 < w2.heap.size; omega) (.slice (some ⟨g, 0, none⟩) bs'.length cap)
            have HR' := HR.out (some ⟨g, 0, none⟩) cap _ ((HB.out.setCell (p := ⟨w.heap.size + 1, 0, none⟩) (by show w.heap.size ≤ w.heap.size + 1; omega) (.int .i64 most)).setCell (p := ⟨w.heap.size + 1, 1, none⟩) (by show w.heap.size ≤ w.heap.size + 1; omega) (.slice (some ⟨g, 0, none⟩) bs'.length cap)) (by rw [HDB.out HE0.out, hr.out]; exact HCP6.bsl.2) (Fresh.blk (by omega))
            rw [HE0.out, HDB.out HE0.out, hr.out, okM, if_pos rfl] at HR'
            exact HR'
    | false =>
      have HD : Hid (rtE most bs who x = 2) := by unfold Hid rtE; rw [if_pos hE, if_neg (by rw [hx]; simp)]
      have HE := Lib.hid hE
      clear hE
      go_enter Tryd.func27, Tryd.ntmps27
      go_wp2_with fail
      rw [E1.out, E2.out]
      refine named_any most ao bs c who _ _ hl HN.out (HC.out.below HV2.out) hs hw ?_ (fun h => absurd HE.out h)
      intro _ C v w3 hb3 hcp3
      have HB3 : Hid (Below w.heap.size w w3) := HV2.out.trans (hb3.mono HV2.out.size)
      have X3 : Hid (w3.heap[w.heap.size + 1]? = some (.cells #[.int .i64 0, .slice none 0 0] 24 (0, 0))) := heap_below X2'.out hb3 hs2
      have f0 := frozen_at X3.out 0
      have f1 := frozen_at X3.out 1
      have y0 : w3.cell? ⟨w.heap.size + 1, 0, none⟩ = some (.int .i64 0) := cell_at X3.out rfl
      have y1 : w3.cell? ⟨w.heap.size + 1, 1, none⟩ = some (.slice none 0 0) := cell_at X3.out rfl
      clear hb3 hcp3
      go_wp2_with fail
      refine in_any _ _ _ _ _ ?_
      go_wp2_with fail
      refine bodyPost_ret (v := .tuple #[.agg #[.int .i64 0, .slice none 0 0], .int .i64 2]) (by simp [results, Tryd.results27, go_sem, y0, y1]) rfl ?_
      exact HZ.out _ HB3.out 2 HD.out (by omega)
  · have HD : Hid (rtE most bs who x = nmS most bs who) := by unfold Hid rtE; rw [if_neg hE]
    have HE := Lib.hid hE
    have hE' : (nmS most bs who == 0) = false := by simpa using hE
    have hE'' : (nmS most bs who != 0) = true := by simpa using hE
    clear hE
    go_enter Tryd.func27, Tryd.ntmps27
    go_wp2_with fail
    rw [E1.out, E2.out]
    refine named_any most ao bs c who _ _ hl HN.out (HC.out.below HV2.out) hs hw (fun h => absurd h HE.out) ?_
    intro _ p w3 hb3
    have HB3 : Hid (Below w.heap.size w w3) := HV2.out.trans (hb3.mono HV2.out.size)
    have X3 : Hid (w3.heap[w.heap.size + 1]? = some (.cells #[.int .i64 0, .slice none 0 0] 24 (0, 0))) := heap_below X2'.out hb3 hs2
    have f0 := frozen_at X3.out 0
    have f1 := frozen_at X3.out 1
    have y0 : w3.cell? ⟨w.heap.size + 1, 0, none⟩ = some (.int .i64 0) := cell_at X3.out rfl
    have y1 : w3.cell? ⟨w.heap.size + 1, 1, none⟩ = some (.slice none 0 0) := cell_at X3.out rfl
    clear hb3
    go_wp2_with fail
    refine bodyPost_ret (v := .tuple #[.agg #[.int .i64 0, .slice none 0 0], .int .i64 (nmS most bs who)]) (by simp [results, Tryd.results27, go_sem, y0, y1]) rfl ?_
    exact HZ.out _ HB3.out _ HD.out HE.out
end Go.Proofs.YteoniejpfmeibaaDoor
