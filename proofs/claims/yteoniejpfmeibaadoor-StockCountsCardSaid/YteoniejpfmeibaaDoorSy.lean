/- The walk of Return of the reference of package stock. -/
import Derived.Deep.RegionWith
import Derived.Test.YteoniejpfmeibaaDoorSw
import Derived.Test.YteoniejpfmeibaaDoorSl
namespace Go.Proofs.YteoniejpfmeibaaDoor
open Go.RowKit Go.Shelf

theorem box_drew (w : World) (cs : Array Value) (e : TypeId) : ∃ w1, Hid ((w.alloc (.cells cs e)).drew = w1) ∧ Hid (Below w.heap.size w w1) ∧ w.heap.size < w1.heap.size ∧ Hid (w1.heap[w.heap.size]? = some (.cells cs e (0, 0))) := by
  obtain ⟨w1, h1, h2, h3, h4⟩ := box_ex w cs e
  exact ⟨w1.drew, by rw [← h1]; rfl, h2.out.drew, h3, h4⟩

set_option maxHeartbeats 2000000 in
theorem rreturn_any (most : Int) (ao : Option Addr) (bs : List B5) (c : Nat) (who : ByteArray) (x : Int) (w : World) (R : Ending → World → Prop) (hl : bs.length ≤ 9223372036854775807) (hc : CellsAt w ao (bC bs)) (hs : StrOk bs) (hw : who.size ≤ 9223372036854775807)
   (hR : ∀ a' c' w', Below w.heap.size w w' → BSl w' a' c' (rtB most bs who x) → Fresh w.heap.size a' → R (.returned (.tuple #[.agg #[.int .i64 (okM most (rtE most bs who x)), .slice a' (rtB most bs who x).length c'], .int .i64 (rtE most bs who x)])) w') :
    Calls Tryd.prog 28 #[.agg #[.int .i64 most, .slice ao bs.length c], .string who, .int .i64 x] w R := by
  have HR := Lib.hid hR
  have HC := Lib.hid hc
  clear hR hc
  obtain ⟨w1, E1', HB1, s1, X1⟩ := box_ex w #[.int .i64 most, .slice ao bs.length c] 28
  have E1 := Lib.hid E1'
  clear E1'
  have hz1 : w1.heap.size = w.heap.size + 1 := by rw [← E1.out]; simp
  obtain ⟨w2, E2', HB2, s2, X2⟩ := box_ex w1 #[.int .i64 0, .slice none 0 0] 28
  have E2 := Lib.hid E2'
  clear E2'
  have HV2 : Hid (Below w.heap.size w w2) := HB1.out.trans (HB2.out.mono (by omega))
  have X1' : Hid (w2.heap[w.heap.size]? = some (.cells #[.int .i64 most, .slice ao bs.length c] 28 (0, 0))) := heap_below X1.out HB2.out s1
  have X2' : Hid (w2.heap[w.heap.size + 1]? = some (.cells #[.int .i64 0, .slice none 0 0] 28 (0, 0))) := by unfold Hid; rw [← hz1]; exact X2.out
  have k0 : w2.cell? ⟨w.heap.size, 0, none⟩ = some (.int .i64 most) := cell_at X1'.out rfl
  have k1 : w2.cell? ⟨w.heap.size, 1, none⟩ = some (.slice ao bs.length c) := cell_at X1'.out rfl
  have hs2 : w.heap.size + 1 < w2.heap.size := by omega
  have HZ : Hid (∀ w3 : World, Below w.heap.size w w3 → ∀ e : Int, rtE most bs who x = e → e ≠ 0 → R (.returned (.tuple #[.agg #[.int .i64 0, .slice none 0 0], .int .i64 e])) ((w3.setCell ⟨w.heap.size + 1, 0, none⟩ (.int .i64 0)).setCell ⟨w.heap.size + 1, 1, none⟩ (.slice none 0 0))) := by
    intro w3 hb e he h0
    have HDB : rtB most bs who x = [] := by rw [rtB, if_neg (by rw [he]; exact h0)]
    have HR' := HR.out none 0 _ ((hb.setCell (p := ⟨w.heap.size + 1, 0, none⟩) (by show w.heap.size ≤ w.heap.size + 1; omega) (.int .i64 0)).setCell (p := ⟨w.heap.size + 1, 1, none⟩) (by show w.heap.size ≤ w.heap.size + 1; omega) (.slice none 0 0)) (by rw [HDB]; exact BSl.nil _) (Fresh.nil _)
    rw [HDB, he, okM, if_neg h0] at HR'
    exact HR'
  by_cases hE : nmS most bs who = 0
  · have hlen := chkS_len (nmS_chk hE)
    cases hx : inB x 0 100000 with
    | true =>
      obtain ⟨L, hL⟩ : ∃ L, Hid (pickL (heldP who) bs = L) := ⟨_, rfl⟩
      have hLl : L.length ≤ bs.length := by rw [← hL.out]; exact pickTo_length _ _ _
      have hLb : Hid (∀ j, j < L.length → ∃ i : Nat, at0 L j = i ∧ i < bs.length) := by
        unfold Hid; rw [← hL.out]; intro j hj; obtain ⟨i, h1, h2, _⟩ := pick_bd hj; exact ⟨i, h1, h2⟩
      by_cases h0 : L.length = 0
      · have HD : Hid (rtE most bs who x = 6) := by unfold Hid rtE; rw [if_pos hE, if_pos hx, hL.out, if_pos h0]
        have h0' : ((L.length : Int) == 0) = true := by rw [beq_iff_eq]; omega
        have HE := Lib.hid hE
        clear hE h0
        go_enter Tryd.func28, Tryd.ntmps28
        go_wp2_with fail
        rw [E1.out, E2.out]
        refine rnamed_any most ao bs c who _ _ hl (HC.out.below HV2.out) hs hw ?_
        rw [HE.out]
        intro w3 hb3
        have HB3 : Hid (Below w.heap.size w w3) := HV2.out.trans (hb3.mono HV2.out.size)
        have X0 : Hid (w3.heap[w.heap.size]? = some (.cells #[.int .i64 most, .slice ao bs.length c] 28 (0, 0))) := heap_below X1'.out hb3 (by omega)
        have X3 : Hid (w3.heap[w.heap.size + 1]? = some (.cells #[.int .i64 0, .slice none 0 0] 28 (0, 0))) := heap_below X2'.out hb3 hs2
        have e0 : w3.cell? ⟨w.heap.size, 0, none⟩ = some (.int .i64 most) := cell_at X0.out rfl
        have e1 : w3.cell? ⟨w.heap.size, 1, none⟩ = some (.slice ao bs.length c) := cell_at X0.out rfl
        have s3 := hb3.size
        clear hb3 k0 k1
        go_wp2_with fail
        refine length_any _ _ _ _ ?_
        go_wp2_with fail
        refine rheld_any most ao bs c who _ _ hlen (HC.out.below HB3.out) ?_
        rw [hL.out]
        intro v w4 hb4 ho4
        have HB4 : Hid (Below w.heap.size w w4) := HB3.out.trans (hb4.mono HB3.out.size)
        have X4 : Hid (w4.heap[w.heap.size + 1]? = some (.cells #[.int .i64 0, .slice none 0 0] 28 (0, 0))) := heap_below X3.out hb4 (by omega)
        have X04 : Hid (w4.heap[w.heap.size]? = some (.cells #[.int .i64 most, .slice ao bs.length c] 28 (0, 0))) := heap_below X0.out hb4 (by omega)
        have s4 := hb4.size
        obtain ⟨a4, c4, rfl, r1, hbase, _⟩ := ho4.read
        have f0 := frozen_at X4.out 0
        have f1 := frozen_at X4.out 1
        have y0 : w4.cell? ⟨w.heap.size + 1, 0, none⟩ = some (.int .i64 0) := cell_at X4.out rfl
        have y1 : w4.cell? ⟨w.heap.size + 1, 1, none⟩ = some (.slice none 0 0) := cell_at X4.out rfl
        clear hb4 ho4 r1 hbase
        go_wp2_with fail
        refine bodyPost_ret (v := .tuple #[.agg #[.int .i64 0, .slice none 0 0], .int .i64 6]) (by simp [results, Tryd.results28, go_sem, y0, y1]) rfl ?_
        exact HZ.out _ HB4.out 6 HD.out (by omega)
      · have h0' : ((L.length : Int) == 0) = false := by rw [beq_eq_false_iff_ne]; omega
        have HD : Hid (rtE most bs who x = rtR2 (rtX bs L x)) := by unfold Hid rtE; rw [if_pos hE, if_pos hx, hL.out, if_neg h0]
        have HDB : Hid (rtE most bs who x = 0 → rtB most bs who x = rtR1 (rtX bs L x)) := by unfold Hid; intro h; rw [rtB, if_pos h, hL.out]
        have HE := Lib.hid hE
        have HLn : 0 < L.length := by omega
        clear hE h0
        go_enter Tryd.func28, Tryd.ntmps28
        go_wp2_with fail
        rw [E1.out, E2.out]
        refine rnamed_any most ao bs c who _ _ hl (HC.out.below HV2.out) hs hw ?_
        rw [HE.out]
        intro w3 hb3
        have HB3 : Hid (Below w.heap.size w w3) := HV2.out.trans (hb3.mono HV2.out.size)
        have X0 : Hid (w3.heap[w.heap.size]? = some (.cells #[.int .i64 most, .slice ao bs.length c] 28 (0, 0))) := heap_below X1'.out hb3 (by omega)
        have X3 : Hid (w3.heap[w.heap.size + 1]? = some (.cells #[.int .i64 0, .slice none 0 0] 28 (0, 0))) := heap_below X2'.out hb3 hs2
        have e0 : w3.cell? ⟨w.heap.size, 0, none⟩ = some (.int .i64 most) := cell_at X0.out rfl
        have e1 : w3.cell? ⟨w.heap.size, 1, none⟩ = some (.slice ao bs.length c) := cell_at X0.out rfl
        have s3 := hb3.size
        clear hb3 k0 k1
        go_wp2_with fail
        refine length_any _ _ _ _ ?_
        go_wp2_with fail
        refine rheld_any most ao bs c who _ _ hlen (HC.out.below HB3.out) ?_
        rw [hL.out]
        intro v w4 hb4 ho4
        have HB4 : Hid (Below w.heap.size w w4) := HB3.out.trans (hb4.mono HB3.out.size)
        have X4 : Hid (w4.heap[w.heap.size + 1]? = some (.cells #[.int .i64 0, .slice none 0 0] 28 (0, 0))) := heap_below X3.out hb4 (by omega)
        have X04 : Hid (w4.heap[w.heap.size]? = some (.cells #[.int .i64 most, .slice ao bs.length c] 28 (0, 0))) := heap_below X0.out hb4 (by omega)
        have s4 := hb4.size
        obtain ⟨a4, c4, rfl, r1, hbase, _⟩ := ho4.read
        obtain ⟨bL, oL, rfl, _, _⟩ := r1.ints HLn
        have hbL : w3.heap.size ≤ bL := hbase bL oL rfl
        have HCL := Lib.hid r1
        have HC4 := Lib.hid (HC.out.below HB4.out)
        clear hb4 ho4 r1 hbase e0 e1
        obtain ⟨n, hnn⟩ : ∃ n, bs.length = n := ⟨_, rfl⟩
        have HNN := Lib.hid hnn
        rw [hnn] at X04 ⊢
        rw [hnn] at hLl hlen hLb
        go_wp2_with fail
        go_loopw [10] (fun i wr => ∃ (k : Nat) (bs' : List B5) (a' : Option Addr) (c' : Nat), k ≤ L.length ∧ i = .int .i64 k ∧ bs'.length ≤ n ∧ n ≤ bs'.length ∧ Hid (Below w.heap.size w wr) ∧ w4.heap.size ≤ wr.heap.size ∧ Hid (wr.heap[w.heap.size]? = some (.cells #[.int .i64 most, .slice a' n c'] 28 (0, 0))) ∧ Hid (wr.heap[w.heap.size + 1]? = some (.cells #[.int .i64 0, .slice none 0 0] 28 (0, 0))) ∧
          Hid (CellsAt wr a' (bC bs')) ∧ Hid (k = 0 ∨ (BSl wr a' c' bs' ∧ Fresh (w.heap.size + 2) a')) ∧ Hid (CellsAt wr (some ⟨bL, oL, none⟩) (I64s L)) ∧ Hid (bL < w4.heap.size) ∧ Hid (loopE (rtF L x) (L.length - k) k bs' = rtX bs L x)) (fun i _ => L.length - (intOf i).toNat)
        case atStart => exact ⟨0, bs, ao, c, Nat.zero_le _, rfl, by have := HNN.out; omega, by have := HNN.out; omega, HB4, Nat.le_refl _, X04, X4, HC4, .inl rfl, HCL, by obtain ⟨_, _, e, hlt, _⟩ := HCL.out.ints HLn; cases e; exact hlt, rfl⟩
        case round =>
          obtain ⟨k, bs', a', c', hk, rfl, hn1, hn2, HB, sr, XS, XZ, HCr, HFr, HCLr, hbL2, hLp⟩ := hrel
          have e0 : wr.cell? ⟨w.heap.size, 0, none⟩ = some (.int .i64 most) := cell_at XS.out rfl
          have e1 : wr.cell? ⟨w.heap.size, 1, none⟩ = some (.slice a' n c') := cell_at XS.out rfl
          by_cases hlt : k < L.length
          · obtain ⟨i, hi1, hi2⟩ := hLb.out k hlt
            have hib : i < bs'.length := by omega
            obtain ⟨bb, ob, rfl, _, hcell⟩ := HCr.out.blks (by omega)
            obtain ⟨d0, d1, d2, d3⟩ := hcell i hib
            obtain ⟨b', o', e', _, hcl⟩ := HCLr.out.ints (by omega)
            have dL := hcl k hlt
            cases e'
            rw [hi1] at dL
            have HII := Lib.hid hi1
            obtain ⟨p, hp⟩ : ∃ p, wrap64 ((bAt bs' i).w + x) = p := ⟨_, rfl⟩
            obtain ⟨q, hq⟩ : ∃ q, wrap64 ((bAt bs' i).u + 1) = q := ⟨_, rfl⟩
            have HPQ : Hid (rtF L x k bs' = if 100000 < p ∨ 1048576 < q then .inr 11 else .inl (bs'.set i ⟨(bAt bs' i).l, p, q, ⟨#[]⟩⟩)) := by
              unfold Hid rtF; rw [hi1, Int.toNat_natCast, hp, hq]
            obtain ⟨w5, E5, HB5, s5, X5⟩ := box_drew wr #[.int .i64 (bAt bs' i).l, .int .i64 (bAt bs' i).w, .int .i64 (bAt bs' i).u, .string (bAt bs' i).h] 78
            have v1 := cell_at X5.out (j := 1) (v := .int .i64 (bAt bs' i).w) rfl
            have v2 := cell_at X5.out (j := 2) (v := .int .i64 (bAt bs' i).u) rfl
            have v3 := cell_at X5.out (j := 3) (v := .string (bAt bs' i).h) rfl
            have h1 := frozen_at X5.out 1
            have h2 := frozen_at X5.out 2
            have h3 := frozen_at X5.out 3
            obtain ⟨w6, E6⟩ : ∃ w6, Hid ((((w5.setCell ⟨wr.heap.size, 3, none⟩ (.string ⟨#[]⟩)).setCell ⟨wr.heap.size, 1, none⟩ (.int .i64 p)).setCell ⟨wr.heap.size, 2, none⟩ (.int .i64 q)) = w6) := ⟨_, rfl⟩
            have HB6 : Hid (Below wr.heap.size wr w6) := by rw [← E6.out]; exact ((HB5.out.setCell (p := ⟨wr.heap.size, 3, none⟩) (Nat.le_refl _) _).setCell (p := ⟨wr.heap.size, 1, none⟩) (Nat.le_refl _) _).setCell (p := ⟨wr.heap.size, 2, none⟩) (Nat.le_refl _) _
            have X6 : Hid (w6.heap[wr.heap.size]? = some (.cells #[.int .i64 (bAt bs' i).l, .int .i64 p, .int .i64 q, .string ⟨#[]⟩] 78 (0, 0))) := by unfold Hid; rw [← E6.out]; exact heap_setCell_same _ _ 2 _ _ _ (heap_setCell_same _ _ 1 _ _ _ (heap_setCell_same w5 wr.heap.size 3 _ _ _ X5.out))
            have s6 : wr.heap.size < w6.heap.size := lt_of_block X6.out
            have r0 := cell_at X6.out (j := 0) (v := .int .i64 (bAt bs' i).l) rfl
            have r1 := cell_at X6.out (j := 1) (v := .int .i64 p) rfl
            have r2 := cell_at X6.out (j := 2) (v := .int .i64 q) rfl
            have r3 := cell_at X6.out (j := 3) (v := .string ⟨#[]⟩) rfl
            have HV6 : Hid (Below w.heap.size w w6) := HB.out.trans (HB6.out.mono HB.out.size)
            have HU6 : Hid (Below w4.heap.size wr w6) := HB6.out.mono sr
            have m0 := cellB HB6.out e0 (by omega)
            have m1 := cellB HB6.out e1 (by omega)
            have XS6 : Hid (w6.heap[w.heap.size]? = some (.cells #[.int .i64 most, .slice (some ⟨bb, ob, none⟩) n c'] 28 (0, 0))) := heap_below XS.out HB6.out (by omega)
            have XZ6 : Hid (w6.heap[w.heap.size + 1]? = some (.cells #[.int .i64 0, .slice none 0 0] 28 (0, 0))) := heap_below XZ.out HB6.out (by omega)
            have dL6 := cellB HB6.out dL (by have := hbL2.out; omega)
            have y0 := cell_at XZ6.out (j := 0) (v := .int .i64 0) rfl
            have y1 := cell_at XZ6.out (j := 1) (v := .slice none 0 0) rfl
            have f0 := frozen_at XZ6.out 0
            have f1 := frozen_at XZ6.out 1
            rw [← E6.out] at m0 m1 r0 r1 r2 r3 dL6 y0 y1 f0 f1
            clear hcell hcl hi1
            go_wp2_with fail
            go_region_held3 (fun w' => w'.cell? ⟨w.heap.size, 1, none⟩ = some (.slice (some ⟨bb, ob, none⟩) n c') ∧ w'.cell? ⟨bL, oL + k, none⟩ = some (.int .i64 i) ∧ w'.cell? ⟨bb, ob + i * 4, none⟩ = some (.int .i64 (bAt bs' i).l) ∧ w'.cell? ⟨bb, ob + i * 4 + 1, none⟩ = some (.int .i64 (bAt bs' i).w) ∧ w'.cell? ⟨bb, ob + i * 4 + 2, none⟩ = some (.int .i64 (bAt bs' i).u) ∧ w'.cell? ⟨bb, ob + i * 4 + 3, none⟩ = some (.string (bAt bs' i).h))
              (first | go_keep)
              (fail)
            rw [E5.out]
            by_cases g1 : 100000 < p
            · have hr : Hid (rtX bs L x = .inr 11) := loopE_hit hLp hlt (by rw [HPQ.out, if_pos (.inl g1)])
              go_wp2_with fail
              rw [E6.out] at y0 y1 ⊢
              refine bodyPost_ret (v := .tuple #[.agg #[.int .i64 0, .slice none 0 0], .int .i64 11]) (by simp [results, Tryd.results28, go_sem, y0, y1]) rfl ?_
              exact HZ.out _ HV6.out 11 (by rw [HD.out, hr.out]; rfl) (by omega)
            · by_cases g2 : 1048576 < q
              · have hr : Hid (rtX bs L x = .inr 11) := loopE_hit hLp hlt (by rw [HPQ.out, if_pos (.inr g2)])
                go_wp2_with fail
                rw [E6.out] at y0 y1 ⊢
                refine bodyPost_ret (v := .tuple #[.agg #[.int .i64 0, .slice none 0 0], .int .i64 11]) (by simp [results, Tryd.results28, go_sem, y0, y1]) rfl ?_
                exact HZ.out _ HV6.out 11 (by rw [HD.out, hr.out]; rfl) (by omega)
              · have hst : Hid (rtF L x k bs' = .inl (bs'.set i ⟨(bAt bs' i).l, p, q, ⟨#[]⟩⟩)) := by unfold Hid; rw [HPQ.out, if_neg (by omega)]
                obtain rfl : n = bs'.length := by omega
                go_wp2_with fail
                rw [E6.out] at m0 m1 r0 r1 r2 r3 dL6 ⊢
                have HC6 := Lib.hid (HCr.out.below HB6.out)
                have HBD : Hid (Below w6.heap.size w6 w6.drew) := (Below.refl _ _).drew
                have hbw : w.heap.size ≠ bL := by omega
                have lt0 : w.heap.size < w6.heap.size := by omega
                have ltL : bL < w6.heap.size := by have := hbL2.out; omega
                have HL6 := Lib.hid (HCLr.out.below HB6.out)
                have hl512 : bs'.length ≤ 512 := by omega
                clear y0 y1 f0 f1 e0 e1 d0 d1 d2 d3 dL v1 v2 v3 h1 h2 h3
                go_region_with ((go_at_call 55; refine with_any most (some ⟨bb, ob, none⟩) bs' c' i ⟨(bAt bs' i).l, p, q, ⟨#[]⟩⟩ _ _ hl512 hib (HC6.out.below HBD.out) ?_; intro a7 c7 w7 hb7 hs7 hf7; have HU7 : Hid (Below w6.heap.size w6 w7) := HBD.out.trans (hb7.mono (Nat.le_refl _)); have HB7 : Hid (Below w.heap.size w w7) := HV6.out.trans (HU7.out.mono HV6.out.size); have XS7 : Hid (w7.heap[w.heap.size]? = some (.cells #[.int .i64 most, .slice (some ⟨bb, ob, none⟩) bs'.length c'] 28 (0, 0))) := heap_below XS6.out HU7.out lt0; have XZ7 : Hid (w7.heap[w.heap.size + 1]? = some (.cells #[.int .i64 0, .slice none 0 0] 28 (0, 0))) := heap_below XZ6.out HU7.out (by omega); have HS7 := Lib.hid hs7; have HF7 : Hid (Fresh w6.heap.size a7) := hf7; have HCL7 := Lib.hid (HL6.out.below HU7.out); have sz7 := HU7.out.size; have g0' := frozen_at XS7.out 0; have g1' := frozen_at XS7.out 1; have z0 := cell_at XS7.out (j := 0) (v := .int .i64 most) rfl; have z1 := cell_at XS7.out (j := 1) (v := .slice (some ⟨bb, ob, none⟩) bs'.length c') rfl; have n2 := cellB HU7.out dL6 ltL; have n3 := cellB HU7.out r0 s6; have n4 := cellB HU7.out r1 s6; have n5 := cellB HU7.out r2 s6; have n6 := cellB HU7.out r3 s6; clear hb7 hs7 hf7))
                all_goals
                  go_wp2_with fail
                  have hS := (HS7.out.set HF7.out (p := ⟨w.heap.size, 0, none⟩) (by show w.heap.size < w6.heap.size; omega) (.int .i64 most)).set HF7.out (p := ⟨w.heap.size, 1, none⟩) (by show w.heap.size < w6.heap.size; omega) (.slice a7 bs'.length c7)
                  refine ⟨⟨k + 1, _, a7, c7, by omega, by go_num, by rw [List.length_set]; omega, by rw [List.length_set]; omega, (HB7.out.setCell (p := ⟨w.heap.size, 0, none⟩) (Nat.le_refl _) (.int .i64 most)).setCell (p := ⟨w.heap.size, 1, none⟩) (Nat.le_refl _) (.slice a7 bs'.length c7), by simp; omega, box_set2 XS7.out, ?_, hS.1, .inr ⟨hS, HF7.out.mono (by omega)⟩, (HCL7.out.setOther (a := ⟨w.heap.size, 0, none⟩) hbw _).setOther (a := ⟨w.heap.size, 1, none⟩) hbw _, hbL2, loopE_step hLp hlt hst.out⟩, by simp [intOf]; omega⟩
                  exact (Below.heap_setCell _ _ _ _ (by show w.heap.size + 1 ≠ w.heap.size; omega)).trans ((Below.heap_setCell _ _ _ _ (by show w.heap.size + 1 ≠ w.heap.size; omega)).trans XZ7.out)
          · have hr : Hid (rtX bs L x = .inl bs') := loopE_done hLp hlt
            have HE0 : Hid (rtE most bs who x = 0) := by unfold Hid; rw [HD.out, hr.out]; rfl
            obtain rfl : n = bs'.length := by omega
            obtain ⟨HS, HF⟩ : Hid (BSl wr a' c' bs') ∧ Hid (Fresh (w.heap.size + 2) a') := by
              rcases HFr.out with h | h
              · omega
              · exact h
            have f0 := frozen_at XZ.out 0
            have f1 := frozen_at XZ.out 1
            have y0 : wr.cell? ⟨w.heap.size + 1, 0, none⟩ = some (.int .i64 0) := cell_at XZ.out rfl
            have y1 : wr.cell? ⟨w.heap.size + 1, 1, none⟩ = some (.slice none 0 0) := cell_at XZ.out rfl
            go_wp2_with fail
            refine bodyPost_ret (v := .tuple #[.agg #[.int .i64 most, .slice a' bs'.length c'], .int .i64 0]) (by simp [results, Tryd.results28, go_sem, y0, y1]) rfl ?_
            have hS := (HS.out.set HF.out (p := ⟨w.heap.size + 1, 0, none⟩) (by show w.heap.size + 1 < w.heap.size + 2; omega) (.int .i64 most)).set HF.out (p := ⟨w.heap.size + 1, 1, none⟩) (by show w.heap.size + 1 < w.heap.size + 2; omega) (.slice a' bs'.length c')
            have HR' := HR.out a' c' _ ((HB.out.setCell (p := ⟨w.heap.size + 1, 0, none⟩) (by show w.heap.size ≤ w.heap.size + 1; omega) (.int .i64 most)).setCell (p := ⟨w.heap.size + 1, 1, none⟩) (by show w.heap.size ≤ w.heap.size + 1; omega) (.slice a' bs'.length c')) (by rw [HDB.out HE0.out, hr.out]; exact hS) (HF.out.mono (by omega))
            rw [HE0.out, HDB.out HE0.out, hr.out, okM, if_pos rfl] at HR'
            exact HR'
    | false =>
      have HD : Hid (rtE most bs who x = 2) := by unfold Hid rtE; rw [if_pos hE, if_neg (by rw [hx]; simp)]
      have HE := Lib.hid hE
      clear hE
      go_enter Tryd.func28, Tryd.ntmps28
      go_wp2_with fail
      rw [E1.out, E2.out]
      refine rnamed_any most ao bs c who _ _ hl (HC.out.below HV2.out) hs hw ?_
      rw [HE.out]
      intro w3 hb3
      have HB3 : Hid (Below w.heap.size w w3) := HV2.out.trans (hb3.mono HV2.out.size)
      have X0 : Hid (w3.heap[w.heap.size]? = some (.cells #[.int .i64 most, .slice ao bs.length c] 28 (0, 0))) := heap_below X1'.out hb3 (by omega)
      have X3 : Hid (w3.heap[w.heap.size + 1]? = some (.cells #[.int .i64 0, .slice none 0 0] 28 (0, 0))) := heap_below X2'.out hb3 hs2
      have e0 : w3.cell? ⟨w.heap.size, 0, none⟩ = some (.int .i64 most) := cell_at X0.out rfl
      have e1 : w3.cell? ⟨w.heap.size, 1, none⟩ = some (.slice ao bs.length c) := cell_at X0.out rfl
      have s3 := hb3.size
      clear hb3 k0 k1
      have f0 := frozen_at X3.out 0
      have f1 := frozen_at X3.out 1
      have y0 : w3.cell? ⟨w.heap.size + 1, 0, none⟩ = some (.int .i64 0) := cell_at X3.out rfl
      have y1 : w3.cell? ⟨w.heap.size + 1, 1, none⟩ = some (.slice none 0 0) := cell_at X3.out rfl
      go_wp2_with fail
      refine length_any _ _ _ _ ?_
      go_wp2_with fail
      refine bodyPost_ret (v := .tuple #[.agg #[.int .i64 0, .slice none 0 0], .int .i64 2]) (by simp [results, Tryd.results28, go_sem, y0, y1]) rfl ?_
      exact HZ.out _ HB3.out 2 HD.out (by omega)
  · have HD : Hid (rtE most bs who x = nmS most bs who) := by unfold Hid rtE; rw [if_neg hE]
    have HE := Lib.hid hE
    have hE' : (nmS most bs who == 0) = false := by simpa using hE
    have hE'' : (nmS most bs who != 0) = true := by simpa using hE
    clear hE
    go_enter Tryd.func28, Tryd.ntmps28
    go_wp2_with fail
    rw [E1.out, E2.out]
    refine rnamed_any most ao bs c who _ _ hl (HC.out.below HV2.out) hs hw ?_
    intro w3 hb3
    have HB3 : Hid (Below w.heap.size w w3) := HV2.out.trans (hb3.mono HV2.out.size)
    have X0 : Hid (w3.heap[w.heap.size]? = some (.cells #[.int .i64 most, .slice ao bs.length c] 28 (0, 0))) := heap_below X1'.out hb3 (by omega)
    have X3 : Hid (w3.heap[w.heap.size + 1]? = some (.cells #[.int .i64 0, .slice none 0 0] 28 (0, 0))) := heap_below X2'.out hb3 hs2
    have e0 : w3.cell? ⟨w.heap.size, 0, none⟩ = some (.int .i64 most) := cell_at X0.out rfl
    have e1 : w3.cell? ⟨w.heap.size, 1, none⟩ = some (.slice ao bs.length c) := cell_at X0.out rfl
    have s3 := hb3.size
    clear hb3 k0 k1
    have f0 := frozen_at X3.out 0
    have f1 := frozen_at X3.out 1
    have y0 : w3.cell? ⟨w.heap.size + 1, 0, none⟩ = some (.int .i64 0) := cell_at X3.out rfl
    have y1 : w3.cell? ⟨w.heap.size + 1, 1, none⟩ = some (.slice none 0 0) := cell_at X3.out rfl
    go_wp2_with fail
    refine bodyPost_ret (v := .tuple #[.agg #[.int .i64 0, .slice none 0 0], .int .i64 (nmS most bs who)]) (by simp [results, Tryd.results28, go_sem, y0, y1]) rfl ?_
    exact HZ.out _ HB3.out _ HD.out HE.out
end Go.Proofs.YteoniejpfmeibaaDoor
