/- The walks of Replace, New of package stock. -/
import Derived.Test.YteoniejpfmeibaaDoorSj
namespace Go.Proofs.YteoniejpfmeibaaDoor
open Go.RowKit Go.Shelf

theorem Copied.put4 {w : World} {base C : Nat} {most : Int} {bs : List B5} {g n cap : Nat} (h : Copied w base C most bs (.slice (some ⟨g, 0, none⟩) n cap)) (hg : g ≠ C) (i : Nat) (hi : i < bs.length) (b : B5) :
    Copied ((((w.setCell ⟨g, i * 4, none⟩ (.int .i64 b.l)).setCell ⟨g, i * 4 + 1, none⟩ (.int .i64 b.w)).setCell ⟨g, i * 4 + 2, none⟩ (.int .i64 b.u)).setCell ⟨g, i * 4 + 3, none⟩ (.string b.h)) base C most (bs.set i b) (.slice (some ⟨g, 0, none⟩) n cap) := by
  have hn : n = bs.length := h.bsl.1
  subst hn
  refine ⟨h.1, ?_, ?_⟩
  · exact (Below.heap_setCell _ _ _ _ (fun e => hg e.symm)).trans ((Below.heap_setCell _ _ _ _ (fun e => hg e.symm)).trans ((Below.heap_setCell _ _ _ _ (fun e => hg e.symm)).trans ((Below.heap_setCell _ _ _ _ (fun e => hg e.symm)).trans h.2.1)))
  · rw [List.length_set, bC_set bs i b hi]
    exact (World.ownsRow.stored (World.ownsRow.stored (World.ownsRow.stored (World.ownsRow.stored h.2.2 (i * 4) (.int .i64 b.l)).1 (i * 4 + 1) (.int .i64 b.w)).1 (i * 4 + 2) (.int .i64 b.u)).1 (i * 4 + 3) (.string b.h)).1
theorem cells4 (w : World) (x y z u : Value) (e : TypeId) : CellsAt (w.alloc (.cells #[x, y, z, u] e)) (some ⟨w.heap.size, 0, none⟩) [x, y, z, u] := by
  intro _
  refine ⟨_, 0, rfl, by simp, fun j hj => ?_⟩
  rw [Nat.zero_add, World.cell?_alloc_new]
  match j, hj with
  | 0, _ => rfl
  | 1, _ => rfl
  | 2, _ => rfl
  | 3, _ => rfl
theorem one4 (x y z : Int) (s : ByteArray) : ∀ u ∈ [Value.int .i64 x, .int .i64 y, .int .i64 z, .string s], u.oneCell' = true := by
  intro u hu
  simp only [List.mem_cons, List.not_mem_nil, or_false] at hu
  rcases hu with rfl | rfl | rfl | rfl <;> rfl

set_option maxHeartbeats 1000000 in
theorem replace_any (most : Int) (ao : Option Addr) (bs : List B5) (c : Nat) (l : Int) (w : World) (R : Ending → World → Prop) (hl : bs.length ≤ 9223372036854775807) (hn : ao = none → bs.length = 0 ∧ c = 0) (hc : CellsAt w ao (bC bs)) (hs : StrOk bs)
   (hR : ∀ a' c' w', Below w.heap.size w w' → BSl w' a' c' (rpB most bs l) → Fresh w.heap.size a' → R (.returned (.tuple #[.agg #[.int .i64 (okM most (rsE most bs l)), .slice a' (rpB most bs l).length c'], .int .i64 (rsE most bs l)])) w') :
    Calls Tryd.prog 31 #[.agg #[.int .i64 most, .slice ao bs.length c], .int .i64 l] w R := by
  have HR := Lib.hid hR
  have HC := Lib.hid hc
  have HN := Lib.hid hn
  clear hR hc hn
  obtain ⟨w1, E1', HB1, s1, X1⟩ := box_ex w #[.int .i64 most, .slice ao bs.length c] 24
  have E1 := Lib.hid E1'
  clear E1'
  have hz1 : w1.heap.size = w.heap.size + 1 := by rw [← E1.out]; simp
  obtain ⟨w2, E2', HB2, s2, X2⟩ := box_ex w1 #[.int .i64 0, .slice none 0 0] 24
  have E2 := Lib.hid E2'
  clear E2'
  have HV2 : Hid (Below w.heap.size w w2) := HB1.out.trans (HB2.out.mono (by omega))
  have X1' : Hid (w2.heap[w.heap.size]? = some (.cells #[.int .i64 most, .slice ao bs.length c] 24 (0, 0))) := heap_below X1.out HB2.out s1
  have X2' : Hid (w2.heap[w.heap.size + 1]? = some (.cells #[.int .i64 0, .slice none 0 0] 24 (0, 0))) := by unfold Hid; rw [← hz1]; exact X2.out
  have k0 : w2.cell? ⟨w.heap.size, 0, none⟩ = some (.int .i64 most) := cell_at X1'.out rfl
  have k1 : w2.cell? ⟨w.heap.size, 1, none⟩ = some (.slice ao bs.length c) := cell_at X1'.out rfl
  have hs2 : w.heap.size + 1 < w2.heap.size := by omega
  by_cases hE : rsE most bs l = 0
  · have HDB : Hid (rpB most bs l = bs.set (rsI bs l) ⟨l, 0, 0, ⟨#[]⟩⟩) := by unfold Hid rpB; rw [if_pos hE]
    obtain ⟨i, hi⟩ : ∃ i, Hid (rsI bs l = i) := ⟨_, rfl⟩
    have HE := Lib.hid hE
    clear hE
    go_enter Tryd.func31, Tryd.ntmps31
    go_wp2_with fail
    rw [E1.out, E2.out]
    refine resting_any most ao bs c l _ _ hl HN.out (HC.out.below HV2.out) hs ?_ (fun h => absurd HE.out h)
    rw [hi.out]
    intro _ hib C v w3 hb3 hcp3
    have HB3 : Hid (Below w.heap.size w w3) := HV2.out.trans (hb3.mono HV2.out.size)
    have X3 : Hid (w3.heap[w.heap.size + 1]? = some (.cells #[.int .i64 0, .slice none 0 0] 24 (0, 0))) := heap_below X2'.out hb3 hs2
    obtain ⟨g, cap, rfl, hg, hgl, hgC, hf⟩ := hcp3.row (by omega)
    obtain ⟨a2, c2, e2, r1, r2, r3, r4⟩ := hcp3.read
    cases e2
    obtain ⟨hr0, hr1, hr2, hr3⟩ := bC_get bs i hib
    have d0 : w3.cell? ⟨g, i * 4, none⟩ = some (.int .i64 (bAt bs i).l) := by have := r1.get rfl hr0; rwa [Nat.zero_add] at this
    have d1 : w3.cell? ⟨g, i * 4 + 1, none⟩ = some (.int .i64 (bAt bs i).w) := by have := r1.get rfl hr1; rwa [Nat.zero_add] at this
    have d2 : w3.cell? ⟨g, i * 4 + 2, none⟩ = some (.int .i64 (bAt bs i).u) := by have := r1.get rfl hr2; rwa [Nat.zero_add] at this
    have d3 : w3.cell? ⟨g, i * 4 + 3, none⟩ = some (.string (bAt bs i).h) := by have := r1.get rfl hr3; rwa [Nat.zero_add] at this
    have hf0 := hf (i * 4)
    have hf1 := hf (i * 4 + 1)
    have hf2 := hf (i * 4 + 2)
    have hf3 := hf (i * 4 + 3)
    have HCP4 : Hid (Copied ((((w3.setCell ⟨g, i * 4, none⟩ (.int .i64 l)).setCell ⟨g, i * 4 + 1, none⟩ (.int .i64 0)).setCell ⟨g, i * 4 + 2, none⟩ (.int .i64 0)).setCell ⟨g, i * 4 + 3, none⟩ (.string ⟨#[]⟩)) w2.heap.size C most (bs.set i ⟨l, 0, 0, ⟨#[]⟩⟩) (.slice (some ⟨g, 0, none⟩) bs.length cap)) := hcp3.put4 hgC i hib ⟨l, 0, 0, ⟨#[]⟩⟩
    have HB4 : Hid (Below w.heap.size w ((((w3.setCell ⟨g, i * 4, none⟩ (.int .i64 l)).setCell ⟨g, i * 4 + 1, none⟩ (.int .i64 0)).setCell ⟨g, i * 4 + 2, none⟩ (.int .i64 0)).setCell ⟨g, i * 4 + 3, none⟩ (.string ⟨#[]⟩))) := (((HB3.out.setCell (by show w.heap.size ≤ g; omega) _).setCell (by show w.heap.size ≤ g; omega) _).setCell (by show w.heap.size ≤ g; omega) _).setCell (by show w.heap.size ≤ g; omega) _
    have f0 := frozen_at X3.out 0
    have f1 := frozen_at X3.out 1
    have y0 : w3.cell? ⟨w.heap.size + 1, 0, none⟩ = some (.int .i64 0) := cell_at X3.out rfl
    have y1 : w3.cell? ⟨w.heap.size + 1, 1, none⟩ = some (.slice none 0 0) := cell_at X3.out rfl
    clear r1 r2 hf hr0 hr1 hr2 hr3 hb3 hcp3
    go_wp2_with fail
    refine bodyPost_ret (v := .tuple #[.agg #[.int .i64 most, .slice (some ⟨g, 0, none⟩) bs.length cap], .int .i64 0]) (by simp [results, Tryd.results31, go_sem, y0, y1]) rfl ?_
    have HCP5 := (HCP4.out.out (a := ⟨w.heap.size + 1, 0, none⟩) (by show w.heap.size + 1 < w2.heap.size; omega) (.int .i64 most)).out (a := ⟨w.heap.size + 1, 1, none⟩) (by show w.heap.size + 1 < w2.heap.size; omega) (.slice (some ⟨g, 0, none⟩) bs.length cap)
    have HR' := HR.out (some ⟨g, 0, none⟩) cap _ ((HB4.out.setCell (p := ⟨w.heap.size + 1, 0, none⟩) (by show w.heap.size ≤ w.heap.size + 1; omega) (.int .i64 most)).setCell (p := ⟨w.heap.size + 1, 1, none⟩) (by show w.heap.size ≤ w.heap.size + 1; omega) (.slice (some ⟨g, 0, none⟩) bs.length cap)) (by rw [HDB.out, hi.out]; exact HCP5.bsl.2) (Fresh.blk (by omega))
    rw [HDB.out, List.length_set, HE.out] at HR'
    exact HR'
  · have HDB : Hid (rpB most bs l = []) := by unfold Hid rpB; rw [if_neg hE]
    have HE := Lib.hid hE
    have hE' : (rsE most bs l == 0) = false := by simpa using hE
    have hE'' : (rsE most bs l != 0) = true := by simpa using hE
    clear hE
    go_enter Tryd.func31, Tryd.ntmps31
    go_wp2_with fail
    rw [E1.out, E2.out]
    refine resting_any most ao bs c l _ _ hl HN.out (HC.out.below HV2.out) hs (fun h => absurd h HE.out) ?_
    intro _ w3 hb3
    have HB3 : Hid (Below w.heap.size w w3) := HV2.out.trans (hb3.mono HV2.out.size)
    have X3 : Hid (w3.heap[w.heap.size + 1]? = some (.cells #[.int .i64 0, .slice none 0 0] 24 (0, 0))) := heap_below X2'.out hb3 hs2
    have f0 := frozen_at X3.out 0
    have f1 := frozen_at X3.out 1
    have y0 : w3.cell? ⟨w.heap.size + 1, 0, none⟩ = some (.int .i64 0) := cell_at X3.out rfl
    have y1 : w3.cell? ⟨w.heap.size + 1, 1, none⟩ = some (.slice none 0 0) := cell_at X3.out rfl
    clear hb3
    go_wp2_with fail
    refine bodyPost_ret (v := .tuple #[.agg #[.int .i64 0, .slice none 0 0], .int .i64 (rsE most bs l)]) (by simp [results, Tryd.results31, go_sem, y0, y1]) rfl ?_
    have HR' := HR.out none 0 _ ((HB3.out.setCell (p := ⟨w.heap.size + 1, 0, none⟩) (by show w.heap.size ≤ w.heap.size + 1; omega) (.int .i64 0)).setCell (p := ⟨w.heap.size + 1, 1, none⟩) (by show w.heap.size ≤ w.heap.size + 1; omega) (.slice none 0 0)) (by rw [HDB.out]; exact BSl.nil _) (Fresh.nil _)
    rw [HDB.out, okM, if_neg (by exact HE.out)] at HR'
    exact HR'
set_option maxHeartbeats 2000000 in
theorem newS_any (most : Int) (ao : Option Addr) (zs : List Int) (c : Nat) (w : World) (R : Ending → World → Prop) (hl : zs.length ≤ 9223372036854775807) (hc : CellsAt w ao (I64s zs))
   (hR : ∀ a' c' w', Below w.heap.size w w' → BSl w' a' c' (nwB most zs) → Fresh w.heap.size a' → R (.returned (.tuple #[.agg #[.int .i64 (okM most (nwE most zs)), .slice a' (nwB most zs).length c'], .int .i64 (nwE most zs)])) w') :
    Calls Tryd.prog 22 #[.int .i64 most, .slice ao zs.length c] w R := by
  have HR := Lib.hid hR
  have HC := Lib.hid hc
  clear hR hc
  obtain ⟨w1, E1', HB1, s1, X1⟩ := box_ex w #[.int .i64 0, .slice none 0 0] 24
  have E1 := Lib.hid E1'
  clear E1'
  have f0 := frozen_at X1.out 0
  have f1 := frozen_at X1.out 1
  have y0 : w1.cell? ⟨w.heap.size, 0, none⟩ = some (.int .i64 0) := cell_at X1.out rfl
  have y1 : w1.cell? ⟨w.heap.size, 1, none⟩ = some (.slice none 0 0) := cell_at X1.out rfl
  have hz1 : w1.heap.size = w.heap.size + 1 := by rw [← E1.out]; simp
  cases hm : inB most 0 100000 with
  | false =>
    have HD : Hid (nwE most zs = 2) := by unfold Hid nwE; rw [if_neg (by rw [hm]; simp)]
    have HDB : Hid (nwB most zs = []) := by unfold Hid nwB; rw [if_neg (by rw [HD.out]; omega)]
    go_enter Tryd.func22, Tryd.ntmps22
    go_wp2_with fail
    rw [E1.out]
    refine in_any _ _ _ _ _ ?_
    go_wp2_with fail
    refine bodyPost_ret (v := .tuple #[.agg #[.int .i64 0, .slice none 0 0], .int .i64 2]) (by simp [results, Tryd.results22, go_sem, y0, y1]) rfl ?_
    have HR' := HR.out none 0 _ ((HB1.out.setCell (p := ⟨w.heap.size, 0, none⟩) (Nat.le_refl _) (.int .i64 0)).setCell (p := ⟨w.heap.size, 1, none⟩) (Nat.le_refl _) (.slice none 0 0)) (by rw [HDB.out]; exact BSl.nil _) (Fresh.nil _)
    rw [HDB.out, HD.out, okM, if_neg (by omega)] at HR'
    exact HR'
  | true =>
    by_cases hE : chk zs = 0
    · have HD : Hid (nwE most zs = 0) := by unfold Hid nwE; rw [if_pos hm]; exact hE
      have HDB : Hid (nwB most zs = newTo zs zs.length) := by unfold Hid nwB; rw [if_pos HD.out]
      have hlen : zs.length ≤ 256 := ((chk_zero zs).1 hE).1
      have HE := Lib.hid hE
      obtain ⟨w2, E2', HB2, s2, X2⟩ := box_ex w1 #[.int .i64 most, .slice none 0 0] 24
      have E2 := Lib.hid E2'
      have hz2 : w2.heap.size = w.heap.size + 2 := by rw [← E2', World.size_alloc]; omega
      clear E2'
      have HV2 : Hid (Below w.heap.size w w2) := HB1.out.trans (HB2.out.mono (by omega))
      go_enter Tryd.func22, Tryd.ntmps22
      go_wp2_with fail
      rw [E1.out]
      refine in_any _ _ _ _ _ ?_
      go_wp2_with fail
      refine check_any ao zs c _ _ hl (HC.out.below HB1.out) ?_
      go_wp2_with fail
      rw [E2.out]
      rw [hz1] at X2
      have X12 : Hid (w2.heap[w.heap.size]? = some (.cells #[.int .i64 0, .slice none 0 0] 24 (0, 0))) := heap_below X1.out HB2.out s1
      clear f0 f1 y0 y1
      go_loopw [24] (fun i wr => ∃ (k : Nat) (v : Value), k ≤ zs.length ∧ i = .int .i64 k ∧ Hid (Below w.heap.size w wr) ∧ w.heap.size + 2 ≤ wr.heap.size ∧ Hid (wr.heap[w.heap.size]? = some (.cells #[.int .i64 0, .slice none 0 0] 24 (0, 0))) ∧
        Hid (wr.heap[w.heap.size + 1]? = some (.cells #[.int .i64 most, v] 24 (0, 0))) ∧ Hid (wr.ownsRow (w.heap.size + 2) 66 4 v k (bC (newTo zs k)))) (fun i _ => zs.length - (intOf i).toNat)
      case atStart => exact ⟨0, .slice none 0 0, Nat.zero_le _, rfl, HV2, by omega, X12, X2, World.ownsRow_nil _ _ _ _⟩
      case round =>
        obtain ⟨k, v, hk, rfl, HB, sB, Y0, Y1, HO⟩ := hrel
        obtain ⟨av, cv, rfl, _, _⟩ := ownsRow_read HO.out
        have d1 : wr.cell? ⟨w.heap.size + 1, 1, none⟩ = some (.slice av k cv) := cell_at Y1.out rfl
        have d0 : wr.cell? ⟨w.heap.size + 1, 0, none⟩ = some (.int .i64 most) := cell_at Y1.out rfl
        by_cases hlt : k < zs.length
        · obtain ⟨b, o, rfl, _, hcell⟩ := (HC.out.below HB.out).ints (by omega)
          have c1 := hcell k hlt
          clear hcell
          obtain ⟨x, hx⟩ : ∃ x, at0 zs k = x := ⟨_, rfl⟩
          have HX := Lib.hid hx
          rw [hx] at c1
          clear hx
          go_wp2_with (at_builtin; refine wp_appendS rfl (.tmp 29) (.tmp 32) 22 rfl (w.heap.size + 2) 66 Tryd.underlying22 Tryd.infoBlk rfl (by decide) (by decide) (.slice av k cv) k (bC (newTo zs k)) rfl (ownsRow_below HO.out ((Below.refl _ _).alloc (Nat.le_refl _) _)) ⟨wr.heap.size, 0, none⟩ 1 1 [.int .i64 x, .int .i64 0, .int .i64 0, .string ⟨#[]⟩] rfl rfl (cells4 _ _ _ _ _ _) (one4 _ _ _ _) (by omega) (by simp; omega) ?_; intro v1 w3 hown1 hgrow1 hn1; have Hg1 : Hid (Below (w.heap.size + 2) wr w3) := (Below.grown ((Below.refl _ wr).alloc sB _) hgrow1 (by simp; omega) (fun j e => (HO.out.lt j e).1)); have H1 := Lib.hid hown1; clear hown1 hgrow1 hn1; obtain ⟨a1, cc1, rfl, _, _⟩ := ownsRow_read H1.out; have Y1' : Hid (w3.heap[w.heap.size + 1]? = some (.cells #[.int .i64 most, .slice av k cv] 24 (0, 0))) := heap_below Y1.out Hg1.out (by omega); have g1 : w3.cell? ⟨w.heap.size + 1, 1, none⟩ = some (.slice av k cv) := cell_at Y1'.out rfl; have g2 := frozen_at Y1'.out 1)
          have s3 := Hg1.out.size
          refine ⟨⟨k + 1, .slice a1 (k + 1) cc1, by omega, by go_num, (HB.out.trans (Hg1.out.mono (by omega))).setCell (by show w.heap.size ≤ w.heap.size + 1; omega) _, by simp; omega, (Below.heap_setCell _ _ _ _ (by show w.heap.size ≠ w.heap.size + 1; omega)).trans (heap_below Y0.out Hg1.out (by omega)), ?_, ?_⟩, by simp [intOf]; omega⟩
          · exact heap_setCell_same w3 (w.heap.size + 1) 1 _ _ _ Y1'.out
          · have h := ownsRow_set H1.out (a := ⟨w.heap.size + 1, 1, none⟩) (by show w.heap.size + 1 < w.heap.size + 2; omega) (.slice a1 (k + 1) cc1)
            unfold Hid
            rw [newTo, bC_append, HX.out]
            exact h
        · obtain rfl : k = zs.length := by omega
          have f0 := frozen_at Y0.out 0
          have f1 := frozen_at Y0.out 1
          have y0 : wr.cell? ⟨w.heap.size, 0, none⟩ = some (.int .i64 0) := cell_at Y0.out rfl
          have y1 : wr.cell? ⟨w.heap.size, 1, none⟩ = some (.slice none 0 0) := cell_at Y0.out rfl
          go_wp2_with fail
          refine bodyPost_ret (v := .tuple #[.agg #[.int .i64 most, .slice av zs.length cv], .int .i64 0]) (by simp [results, Tryd.results22, go_sem, y0, y1]) rfl ?_
          have hrow := ownsRow_set (ownsRow_set HO.out (a := ⟨w.heap.size, 0, none⟩) (by show w.heap.size < w.heap.size + 2; omega) (.int .i64 most)) (a := ⟨w.heap.size, 1, none⟩) (by show w.heap.size < w.heap.size + 2; omega) (.slice av zs.length cv)
          obtain ⟨a', c', e', q1, q2⟩ := ownsRow_read hrow
          cases e'
          have HR' := HR.out av cv _ ((HB.out.setCell (p := ⟨w.heap.size, 0, none⟩) (Nat.le_refl _) (.int .i64 most)).setCell (p := ⟨w.heap.size, 1, none⟩) (Nat.le_refl _) (.slice av zs.length cv)) (by rw [HDB.out]; exact ⟨q1, by rw [newTo_length]; exact q2⟩) (ownsRow_fresh hrow (by omega))
          rw [HDB.out, HD.out, okM, if_pos rfl, newTo_length] at HR'
          exact HR'
    · have HD : Hid (nwE most zs = chk zs) := by unfold Hid nwE; rw [if_pos hm]
      have HDB : Hid (nwB most zs = []) := by unfold Hid nwB; rw [if_neg (by rw [HD.out]; exact hE)]
      have HE := Lib.hid hE
      have hE' : (chk zs == 0) = false := by simpa using hE
      have hE'' : (chk zs != 0) = true := by simpa using hE
      clear hE
      go_enter Tryd.func22, Tryd.ntmps22
      go_wp2_with fail
      rw [E1.out]
      refine in_any _ _ _ _ _ ?_
      go_wp2_with fail
      refine check_any ao zs c _ _ hl (HC.out.below HB1.out) ?_
      go_wp2_with fail
      refine bodyPost_ret (v := .tuple #[.agg #[.int .i64 0, .slice none 0 0], .int .i64 (chk zs)]) (by simp [results, Tryd.results22, go_sem, y0, y1]) rfl ?_
      have HR' := HR.out none 0 _ ((HB1.out.setCell (p := ⟨w.heap.size, 0, none⟩) (Nat.le_refl _) (.int .i64 0)).setCell (p := ⟨w.heap.size, 1, none⟩) (Nat.le_refl _) (.slice none 0 0)) (by rw [HDB.out]; exact BSl.nil _) (Fresh.nil _)
      rw [HDB.out, HD.out, okM, if_neg (by exact HE.out)] at HR'
      exact HR'
end Go.Proofs.YteoniejpfmeibaaDoor
