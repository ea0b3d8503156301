/- The walk of Take of the reference of package stock. -/
import Derived.Deep.RegionWith
import Derived.Deep.AppendLies
import Derived.Deep.RegionLaw
import Derived.Test.YteoniejpfmeibaaDoorSy
import Derived.Test.YteoniejpfmeibaaDoorSm
import Derived.Test.YteoniejpfmeibaaDoorSz
namespace Go.Proofs.YteoniejpfmeibaaDoor
open Go.RowKit Go.Shelf

theorem few_ne {zs : List Int} {l : Int} (h : fewE zs l = 0) : (fewL zs l).length ≠ 0 := by
  unfold fewE at h
  split at h
  · rename_i hg
    split at h
    · rename_i hr
      obtain ⟨hz, h1, _⟩ := gvn_zero hg
      unfold fewL
      rw [if_pos ⟨hg, hr⟩]
      exact best_ne hz hr (by omega)
    · cases h
  · rename_i hg; exact absurd h hg

theorem with_len (m : Int) (ao : Option Addr) (bs : List B5) (c i : Nat) (b : B5) (w : World) (R : Ending → World → Prop) (n : Nat) (hn : n = bs.length) (hl : n ≤ 512) (hi : i < n) (hc : CellsAt w ao (bC bs))
   (hR : ∀ a' c' w', Below w.heap.size w w' → w'.ownsRow w.heap.size 78 4 (.slice a' n c') n (bC (bs.set i b)) → Fresh w.heap.size a' → R (.returned (.agg #[.int .i64 m, .slice a' n c'])) w') :
    Calls Tryd.prog 55 #[.agg #[.int .i64 m, .slice ao n c], .int .i64 i, .agg #[.int .i64 b.l, .int .i64 b.w, .int .i64 b.u, .string b.h]] w R := by
  subst hn
  exact with_own m ao bs c i b w R hl hi hc (fun a' c' w' h1 h2 _ h3 => hR a' c' w' h1 h2 h3)
theorem own_apart {w : World} {b1 b2 : Nat} {e1 e2 : TypeId} {s1 s2 : Nat} {v1 v2 : Value} {n1 n2 : Nat} {xs1 xs2 : List Value} (h1 : w.ownsRow b1 e1 s1 v1 n1 xs1) (h2 : w.ownsRow b2 e2 s2 v2 n2 xs2) (he : e1 ≠ e2) : v1.ownBlock = none ∨ v1.ownBlock ≠ v2.ownBlock := by
  rcases h1.2 with ⟨rfl, _⟩ | ⟨g, cap, cur, rfl, _, hg, _⟩
  · exact .inl rfl
  · refine .inr fun e => ?_
    rcases h2.2 with ⟨rfl, _⟩ | ⟨g', cap', cur', rfl, _, hg', _⟩
    · cases e
    · simp only [Value.ownBlock, Option.some.injEq] at e
      subst e
      have := hg.symm.trans hg'
      simp only [Option.some.injEq, Obj.cells.injEq] at this
      exact he this.2.1
theorem row_keep {w w9 : World} {B B' n c' m : Nat} {T E : TypeId} {a' : Option Addr} {xs ys : List Value} {v : Value} {o : Obj} (hc : CellsAt w a' xs)
    (h : (∀ b o, a' = some ⟨b, o, none⟩ → b < B) ∨ w.ownsRow B' T 4 (.slice a' n c') n xs) (ho : w.ownsRow B E 1 v m ys) (hTE : T ≠ E) (hg : (w.alloc o).grownBy w9 v.ownBlock) : CellsAt w9 a' xs := by
  rcases h with h | h
  · intro h0
    obtain ⟨b, o', e, hlt, hcl⟩ := hc h0
    have hb := h b o' e
    have hk : w9.heap[b]? = w.heap[b]? := (hg.block b (by rw [World.size_alloc]; omega) (fun e2 => by have := (ho.lt b e2.symm).1; omega)).trans (Below.heap_alloc _ _ _ hlt)
    exact ⟨b, o', e, by have := hg.size; rw [World.size_alloc] at this; omega, fun j hj => (World.cell?_of_block hk).trans (hcl j hj)⟩
  · obtain ⟨a1, c1, e, q, _⟩ := ownsRow_read ((h.alloc o).kept hg (own_apart h ho hTE))
    obtain ⟨rfl, -, rfl⟩ := Value.slice.inj e
    exact q

set_option maxRecDepth 100000 in
set_option maxHeartbeats 4000000 in
theorem rtake_any (most : Int) (ao : Option Addr) (bs : List B5) (c : Nat) (who : ByteArray) (l : Int) (w : World) (R : Ending → World → Prop) (hl : bs.length ≤ 9223372036854775807) (h8 : chkS most bs = 0 → bs.length ≤ 8) (hc : CellsAt w ao (bC bs)) (hs : StrOk bs) (hw : who.size ≤ 9223372036854775807)
   (hR : ∀ a' c' a2' c2' w', Below w.heap.size w w' → BSl w' a' c' (tkB most bs who l) → CellsAt w' a2' (I64s (tkO most bs who l)) → Fresh w.heap.size a' → Fresh w.heap.size a2' → R (.returned (.tuple #[.agg #[.int .i64 (okM most (tkE most bs who l)), .slice a' (tkB most bs who l).length c'], .slice a2' (tkO most bs who l).length c2', .int .i64 (tkE most bs who l)])) w') :
    Calls Tryd.prog 26 #[.agg #[.int .i64 most, .slice ao bs.length c], .string who, .int .i64 l] w R := by
  have HR := Lib.hid hR
  have HC := Lib.hid hc
  clear hR hc
  obtain ⟨w1, E1', HB1, s1, X1⟩ := box_ex w #[.int .i64 most, .slice ao bs.length c] 28
  have E1 := Lib.hid E1'
  clear E1'
  have hz1 : w1.heap.size = w.heap.size + 1 := by rw [← E1.out]; simp
  obtain ⟨w2, E2', HB2, s2, X2⟩ := box_ex w1 #[.int .i64 0, .slice none 0 0] 28
  have E2 := Lib.hid E2'
  clear E2'
  have HV2 : Hid (Below w.heap.size w w2) := HB1.out.trans (HB2.out.mono (by omega))
  have X1' : Hid (w2.heap[w.heap.size]? = some (.cells #[.int .i64 most, .slice ao bs.length c] 28 (0, 0))) := heap_below X1.out HB2.out s1
  have X2' : Hid (w2.heap[w.heap.size + 1]? = some (.cells #[.int .i64 0, .slice none 0 0] 28 (0, 0))) := by unfold Hid; rw [← hz1]; exact X2.out
  have k0 : w2.cell? ⟨w.heap.size, 0, none⟩ = some (.int .i64 most) := cell_at X1'.out rfl
  have k1 : w2.cell? ⟨w.heap.size, 1, none⟩ = some (.slice ao bs.length c) := cell_at X1'.out rfl
  have hs2 : w.heap.size + 1 < w2.heap.size := by omega
  have HZ : Hid (∀ w3 : World, Below w.heap.size w w3 → ∀ e : Int, tkE most bs who l = e → e ≠ 0 → R (.returned (.tuple #[.agg #[.int .i64 0, .slice none 0 0], .slice none 0 0, .int .i64 e])) ((w3.setCell ⟨w.heap.size + 1, 0, none⟩ (.int .i64 0)).setCell ⟨w.heap.size + 1, 1, none⟩ (.slice none 0 0))) := by
    intro w3 hb e he h0
    have HDB : tkB most bs who l = [] := by rw [tkB, if_neg (by rw [he]; exact h0)]
    have HDO : tkO most bs who l = [] := by rw [tkO, if_neg (by rw [he]; exact h0)]
    have HR' := HR.out none 0 none 0 _ ((hb.setCell (p := ⟨w.heap.size + 1, 0, none⟩) (by show w.heap.size ≤ w.heap.size + 1; omega) (.int .i64 0)).setCell (p := ⟨w.heap.size + 1, 1, none⟩) (by show w.heap.size ≤ w.heap.size + 1; omega) (.slice none 0 0)) (by rw [HDB]; exact BSl.nil _) (by rw [HDO]; exact CellsAt.nil _ _) (Fresh.nil _) (Fresh.nil _)
    rw [HDB, HDO, he, okM, if_neg h0] at HR'
    exact HR'
  by_cases hE : nmS most bs who = 0
  · have hlen := chkS_len (nmS_chk hE)
    have hlen8 := h8 (nmS_chk hE)
    clear h8
    by_cases h0 : (pickL (heldP who) bs).length = 0
    · have HD : Hid (tkE most bs who l = fewE (tkSet most bs) l) := by unfold Hid tkE; rw [if_pos hE, if_pos h0]
      obtain ⟨F, hF⟩ : ∃ F, Hid (pickL (freeP most) bs = F) := ⟨_, rfl⟩
      have hFl : F.length ≤ bs.length := by rw [← hF.out]; exact pickTo_length _ _ _
      have hFb : Hid (∀ j, j < F.length → ∃ i : Nat, at0 F j = i ∧ i < bs.length) := by
        unfold Hid; rw [← hF.out]; intro j hj; obtain ⟨i, h1, h2, _⟩ := pick_bd hj; exact ⟨i, h1, h2⟩
      obtain ⟨Z, hZ⟩ : ∃ Z, Hid (tkSet most bs = Z) := ⟨_, rfl⟩
      have hZF : Hid (lensTo bs F F.length = Z) := by unfold Hid; rw [← hZ.out, tkSet, hF.out]; rfl
      have hZl : Hid (Z.length = F.length) := by unfold Hid; rw [← hZF.out, lensTo_length]
      obtain ⟨H, hH⟩ : ∃ H, pickL (heldP who) bs = H := ⟨_, rfl⟩
      rw [hH] at h0
      have HHH := Lib.hid hH
      have h0' : decide ((0 : Int) < (H.length : Int)) = false := by rw [decide_eq_false_iff_not]; omega
      have h0'' : ¬ 0 < H.length := by omega
      have HE := Lib.hid hE
      clear hE h0 hH
      go_enter Tryd.func26, Tryd.ntmps26
      go_wp2_with fail
      rw [E1.out, E2.out]
      refine rnamed_any most ao bs c who _ _ hl (HC.out.below HV2.out) hs hw ?_
      rw [HE.out]
      intro w3 hb3
      have HB3 : Hid (Below w.heap.size w w3) := HV2.out.trans (hb3.mono HV2.out.size)
      have X0 : Hid (w3.heap[w.heap.size]? = some (.cells #[.int .i64 most, .slice ao bs.length c] 28 (0, 0))) := heap_below X1'.out hb3 (by omega)
      have X3 : Hid (w3.heap[w.heap.size + 1]? = some (.cells #[.int .i64 0, .slice none 0 0] 28 (0, 0))) := heap_below X2'.out hb3 hs2
      have e0 : w3.cell? ⟨w.heap.size, 0, none⟩ = some (.int .i64 most) := cell_at X0.out rfl
      have e1 : w3.cell? ⟨w.heap.size, 1, none⟩ = some (.slice ao bs.length c) := cell_at X0.out rfl
      have s3 := hb3.size
      clear hb3 k0 k1
      go_wp2_with fail
      refine rheld_any most ao bs c who _ _ hlen (HC.out.below HB3.out) ?_
      rw [HHH.out]
      intro v w4 hb4 ho4
      have HB4 : Hid (Below w.heap.size w w4) := HB3.out.trans (hb4.mono HB3.out.size)
      have X4 : Hid (w4.heap[w.heap.size + 1]? = some (.cells #[.int .i64 0, .slice none 0 0] 28 (0, 0))) := heap_below X3.out hb4 (by omega)
      have X04 : Hid (w4.heap[w.heap.size]? = some (.cells #[.int .i64 most, .slice ao bs.length c] 28 (0, 0))) := heap_below X0.out hb4 (by omega)
      have s4 := hb4.size
      obtain ⟨a4, c4, rfl, _, _⟩ := ho4.read
      clear hb4 ho4 e0 e1
      have e0 : w4.cell? ⟨w.heap.size, 0, none⟩ = some (.int .i64 most) := cell_at X04.out rfl
      have e1 : w4.cell? ⟨w.heap.size, 1, none⟩ = some (.slice ao bs.length c) := cell_at X04.out rfl
      go_wp2_with fail
      refine avail_any most ao bs c _ _ hlen (HC.out.below HB4.out) ?_
      rw [hF.out]
      intro v w5 hb5 ho5
      have HB5 : Hid (Below w.heap.size w w5) := HB4.out.trans (hb5.mono HB4.out.size)
      have X5 : Hid (w5.heap[w.heap.size + 1]? = some (.cells #[.int .i64 0, .slice none 0 0] 28 (0, 0))) := heap_below X4.out hb5 (by omega)
      have X05 : Hid (w5.heap[w.heap.size]? = some (.cells #[.int .i64 most, .slice ao bs.length c] 28 (0, 0))) := heap_below X04.out hb5 (by omega)
      have s5 := hb5.size
      obtain ⟨aF, cF, rfl, rF, hFbase, _⟩ := ho5.read
      have HFC := Lib.hid rF
      have HFBs := Lib.hid hFbase
      have HC5 := Lib.hid (HC.out.below HB5.out)
      clear hb5 ho5 rF hFbase e0 e1
      go_wp2_with fail
      go_loopw [12, 11] (fun i v wr => ∃ k : Nat, k ≤ F.length ∧ i = .int .i64 k ∧ Hid (Below w5.heap.size w5 wr) ∧ Hid (OwnL wr w5.heap.size 3 1 v (lensTo bs F k).length (I64s (lensTo bs F k)))) (fun i _ _ => F.length - (intOf i).toNat)
      case atStart => exact ⟨0, Nat.zero_le _, rfl, Below.refl _ _, OwnL.nil _ _ _ _⟩
      case round =>
        obtain ⟨k, hk, rfl, HB, HO⟩ := hrel
        have sr := HB.out.size
        have XR0 : Hid (wr.heap[w.heap.size]? = some (.cells #[.int .i64 most, .slice ao bs.length c] 28 (0, 0))) := heap_below X05.out HB.out (by omega)
        have XR1 : Hid (wr.heap[w.heap.size + 1]? = some (.cells #[.int .i64 0, .slice none 0 0] 28 (0, 0))) := heap_below X5.out HB.out (by omega)
        have e0 := cell_at XR0.out (j := 0) (v := .int .i64 most) rfl
        have e1 := cell_at XR0.out (j := 1) (v := .slice ao bs.length c) rfl
        by_cases hlt : k < F.length
        · obtain ⟨i, hi1, hi2⟩ := hFb.out k hlt
          obtain ⟨bF, oF, rfl, _, hcl⟩ := (HFC.out.below HB.out).ints (by omega)
          have d0 := hcl k hlt
          rw [hi1] at d0
          obtain ⟨bb, ob, rfl, _, hcell⟩ := (HC5.out.below HB.out).blks (by omega)
          obtain ⟨d1, _, _, _⟩ := hcell i hi2
          have HT : Hid (lensTo bs F (k + 1) = lensTo bs F k ++ [(bAt bs i).l]) := by unfold Hid; rw [lensTo, hi1, Int.toNat_natCast]
          have hll : (lensTo bs F k).length ≤ 256 := by rw [lensTo_length]; omega
          clear hcl hcell hi1
          obtain ⟨i0, hi0, hi1', hi2', hi3⟩ := info_parts Tryd.infoInt
          obtain ⟨av, cv, rfl, _, _, _⟩ := HO.out.read
          obtain ⟨y, hy⟩ : ∃ y, (bAt bs i).l = y := ⟨_, rfl⟩
          rw [hy] at d1 HT
          clear hy
          go_wp2_with fail
          go_region_law ((refine step_append_lies _ (by rfl) (.tmp 40) (.tmp 50) _ (by rfl) w5.heap.size 3 i0 _ 1 8 Tryd.underlying31 hi0 hi1' hi2' hi3 rfl (by omega) (.slice av (lensTo bs F k).length cv) (lensTo bs F k).length (I64s (lensTo bs F k)) (by rfl) (ownsRow_below HO.out.1 (((Below.refl _ _).alloc (Nat.le_refl _) _).drew)) ⟨wr.heap.size, 0, none⟩ 1 1 [.int .i64 y] (by rfl) (by rfl) (World.news_of_block (cs := #[.int .i64 y]) (fr := (0, 0)) (heap_alloc_new wr _)) (one1 _ rfl) (by omega) (by unfold maxLen; omega) (by omega) (by simp; omega) (wr.heap.size + 1) (by simp) ?_; intro gg cap w6 hown1 hgrow hat hlt; have Hb6 : Hid (Below w5.heap.size w5 w6) := HB.out.trans (Below.grown (((Below.refl _ wr).alloc sr _).drew) hgrow (by simp; omega) (fun j e => (HO.out.1.lt j e).1)); have H6 := Lib.hid hown1; clear hown1 hgrow hat hlt))
          all_goals
            go_wp2_with fail
            exact ⟨⟨k + 1, by omega, by go_num, Hb6, by unfold Hid; rw [HT.out]; exact ⟨by simpa [I64s] using H6.out, by simp⟩⟩, by simp [intOf]; omega⟩
        · obtain rfl : k = F.length := by omega
          rw [hZF.out] at HO
          obtain ⟨aZ, cZ, rfl, rZ, _, _⟩ := HO.out.read
          have HZC := Lib.hid rZ
          have hZlen : Z.length ≤ 8 := by have := hZl.out; omega
          clear rZ e0 e1
          go_wp2_with fail
          refine rfewestY_any aZ Z cZ l _ _ (by omega) (fun _ => by omega) HZC.out ?_
          intro aS cS w7 hb7 hcS hfr
          have HB7 : Hid (Below w5.heap.size w5 w7) := HB.out.trans (hb7.mono sr)
          have HB7' : Hid (Below w.heap.size w w7) := HB5.out.trans (HB7.out.mono HB5.out.size)
          have X7 : Hid (w7.heap[w.heap.size + 1]? = some (.cells #[.int .i64 0, .slice none 0 0] 28 (0, 0))) := heap_below X5.out HB7.out (by omega)
          have X07 : Hid (w7.heap[w.heap.size]? = some (.cells #[.int .i64 most, .slice ao bs.length c] 28 (0, 0))) := heap_below X05.out HB7.out (by omega)
          have s7 := HB7.out.size
          have sZ := hb7.size
          have HFC7 := Lib.hid (HFC.out.below HB7.out)
          have HSC := Lib.hid hcS
          have HSf : Hid (∀ b o, aS = some ⟨b, o, none⟩ → w5.heap.size ≤ b) := fun b o e => by have := hfr b o e; omega
          clear hb7 hcS hfr
          rw [hZ.out] at HD
          by_cases hfe : fewE Z l = 0
          · have HFE := Lib.hid hfe
            rw [HFE.out]
            obtain ⟨S, hS⟩ : ∃ S, fewL Z l = S := ⟨_, rfl⟩
            have hSn : S.length ≠ 0 := by rw [← hS]; exact few_ne hfe
            have hSb : Hid (∀ j, j < S.length → ∃ i : Nat, at0 S j = i ∧ i < F.length) := by
              unfold Hid; rw [← hS]; intro j hj; obtain ⟨i, h1, h2⟩ := few_bd hj; exact ⟨i, h1, by have := hZl.out; omega⟩
            have HDB : Hid (tkB most bs who l = tkTo bs F S who S.length) := by unfold Hid; rw [tkB, if_pos (by rw [HD.out]; exact hfe), hF.out, hZ.out, hS]
            have HDO : Hid (tkO most bs who l = tkOut F S S.length) := by unfold Hid; rw [tkO, if_pos (by rw [HD.out]; exact hfe), hF.out, hZ.out, hS]
            have hSl2 : S.length ≤ 8 := by have h := fewL_length' Z l; rw [hS] at h; omega
            rw [hS] at HSC ⊢
            clear hfe hS
            have HC7 := Lib.hid (HC.out.below HB7'.out)
            go_wp2_with fail
            go_loopw [16, 15] (fun i v wr => ∃ (k : Nat) (a' : Option Addr) (c' : Nat), k ≤ S.length ∧ i = .int .i64 k ∧ Hid (Below w.heap.size w wr) ∧ w7.heap.size ≤ wr.heap.size ∧ Hid (wr.heap[w.heap.size]? = some (.cells #[.int .i64 most, .slice a' bs.length c'] 28 (0, 0))) ∧ Hid (wr.heap[w.heap.size + 1]? = some (.cells #[.int .i64 0, .slice none 0 0] 28 (0, 0))) ∧
              Hid (CellsAt wr a' (bC (tkTo bs F S who k))) ∧ Hid ((k = 0 ∧ ∀ b o, a' = some ⟨b, o, none⟩ → b < w7.heap.size) ∨ wr.ownsRow (w.heap.size + 2) 78 4 (.slice a' bs.length c') bs.length (bC (tkTo bs F S who k))) ∧ Hid (CellsAt wr aF (I64s F)) ∧ Hid (CellsAt wr aS (I64s S)) ∧ Hid (OwnL wr w7.heap.size 3 1 v (tkOut F S k).length (I64s (tkOut F S k)))) (fun i _ _ => S.length - (intOf i).toNat)
            case atStart => exact ⟨0, ao, c, Nat.zero_le _, rfl, HB7', Nat.le_refl _, X07, X7, HC7, .inl ⟨rfl, fun b o e => by obtain ⟨_, _, e', hlt, _⟩ := HC.out.blks (by obtain ⟨j, _, hj⟩ := hSb.out 0 (by omega); obtain ⟨i, _, hi⟩ := hFb.out j hj; omega); cases e'.symm.trans e; omega⟩, HFC7, HSC, OwnL.nil _ _ _ _⟩
            case round =>
              obtain ⟨k, a', c', hk, rfl, HBr, srr, XS, XZ, HCr, HFre, HFr, HSr, HOr⟩ := hrel
              have e0 := cell_at XS.out (j := 0) (v := .int .i64 most) rfl
              have e1 := cell_at XS.out (j := 1) (v := .slice a' bs.length c') rfl
              have hbl1 : (tkTo bs F S who k).length ≤ bs.length := Nat.le_of_eq (tkTo_length bs F S who k)
              have hbl2 : bs.length ≤ (tkTo bs F S who k).length := Nat.le_of_eq (tkTo_length bs F S who k).symm
              by_cases hlt' : k < S.length
              · obtain ⟨j, hj1, hj2⟩ := hSb.out k hlt'
                obtain ⟨i, hi1, hi2⟩ := hFb.out j hj2
                have HI : Hid (tkI F S k = i) := by unfold Hid tkI; rw [hj1, Int.toNat_natCast, hi1, Int.toNat_natCast]
                obtain ⟨bS, oS, rfl, _, hclS⟩ := HSr.out.ints (by omega)
                have dS := hclS k hlt'
                rw [hj1] at dS
                obtain ⟨bF, oF, rfl, _, hclF⟩ := HFr.out.ints (by omega)
                have dF := hclF j hj2
                rw [hi1] at dF
                clear hclS hclF
                have hol : (tkOut F S k).length ≤ 300 := by rw [tkOut_length]; omega
                obtain ⟨aO, cO, eO, _, _, _⟩ := HOr.out.read
                subst eO
                obtain ⟨bb, ob, rfl, hbbl, _⟩ := HCr.out.blks (by omega)
                go_wp2_with (at_builtin; refine wp_appendS rfl (.tmp 75) (.tmp 77) 31 rfl w7.heap.size 3 Tryd.underlying31 Tryd.infoInt rfl (by decide) (by decide) (.slice aO (tkOut F S k).length cO) (tkOut F S k).length (I64s (tkOut F S k)) rfl (HOr.out.alloc _).1 ⟨wr.heap.size, 0, none⟩ 1 1 [.int .i64 i] rfl rfl (CellsAt.new1 _ _ _) (one1 _ rfl) (by omega) (by simp; omega) ?_; intro v9 w9 hown9 hgrow9 hnil9; have H9 := Lib.hid hown9; have HG9 := Lib.hid hgrow9; have Hb9 : Hid (Below w7.heap.size wr w9) := (Below.grown ((Below.refl _ wr).alloc srr _) hgrow9 (by simp; omega) (fun j e => (HOr.out.1.lt j e).1)); have s9 := Hb9.out.size; have XS9 := Lib.hid (heap_below XS.out Hb9.out (by omega)); have XZ9 := Lib.hid (heap_below XZ.out Hb9.out (by omega)); have g0 := cell_at XS9.out (j := 0) (v := .int .i64 most) rfl; have g1 := cell_at XS9.out (j := 1) (v := .slice (some ⟨bb, ob, none⟩) bs.length c') rfl; have HC9 : Hid (CellsAt w9 (some ⟨bb, ob, none⟩) (bC (tkTo bs F S who k))) := row_keep HCr.out (HFre.out.imp (fun h => h.2) id) HOr.out.1 (by decide) HG9.out; obtain ⟨_, _, e9, _, hcell9⟩ := HC9.out.blks (by omega); cases e9; obtain ⟨d0, d1, d2, d3⟩ := hcell9 i (by omega); clear hcell9 hown9; obtain ⟨w10, E10', HB10, s10, X10⟩ := box_ex w9 #[.int .i64 (bAt (tkTo bs F S who k) i).l, .int .i64 (bAt (tkTo bs F S who k) i).w, .int .i64 (bAt (tkTo bs F S who k) i).u, .string who] 78; have E10 := Lib.hid E10'; clear E10'; have m0 := cellB HB10.out g0 (by omega); have m1 := cellB HB10.out g1 (by omega); have r0 := cell_at X10.out (j := 0) (v := .int .i64 (bAt (tkTo bs F S who k) i).l) rfl; have r1 := cell_at X10.out (j := 1) (v := .int .i64 (bAt (tkTo bs F S who k) i).w) rfl; have r2 := cell_at X10.out (j := 2) (v := .int .i64 (bAt (tkTo bs F S who k) i).u) rfl; have r3 := cell_at X10.out (j := 3) (v := .string who) rfl; rw [← E10.out] at m0 m1 r0 r1 r2 r3)
                rw [E10.out]
                have HT : Hid (tkTo bs F S who (k + 1) = (tkTo bs F S who k).set i ⟨(bAt (tkTo bs F S who k) i).l, (bAt (tkTo bs F S who k) i).w, (bAt (tkTo bs F S who k) i).u, who⟩) := by unfold Hid; rw [tkTo, HI.out]
                have HTO : Hid (tkOut F S (k + 1) = tkOut F S k ++ [(i : Int)]) := by unfold Hid; rw [tkOut, HI.out]
                refine with_len most (some ⟨bb, ob, none⟩) (tkTo bs F S who k) c' i ⟨(bAt (tkTo bs F S who k) i).l, (bAt (tkTo bs F S who k) i).w, (bAt (tkTo bs F S who k) i).u, who⟩ _ _ bs.length (tkTo_length bs F S who k).symm (by omega) (by omega) (HC9.out.below HB10.out) ?_
                intro a7 c7 w11 hb11 ho11 hf11
                have HU11 : Hid (Below w9.heap.size w9 w11) := HB10.out.trans (hb11.mono (by omega))
                have HV11 : Hid (Below w.heap.size w w11) := HBr.out.trans ((Hb9.out.mono (by omega)).trans (HU11.out.mono (by omega)))
                have XS11 := Lib.hid (heap_below XS9.out HU11.out (by omega))
                have XZ11 := Lib.hid (heap_below XZ9.out HU11.out (by omega))
                have s11 := HU11.out.size
                have hbS7 : bS < w7.heap.size := by obtain ⟨b', o', e', h, _⟩ := HSC.out.ints (by omega); cases e'; exact h
                have hbF7 : bF < w7.heap.size := by obtain ⟨b', o', e', h, _⟩ := HFC7.out.ints (by omega); cases e'; exact h
                have hbS5 := HSf.out bS oS rfl
                have hbF4 := HFBs.out bF oF rfl
                have HF11 : Hid (CellsAt w11 (some ⟨bF, oF, none⟩) (I64s F)) := (HFr.out.keep Hb9.out (fun b o e => by cases e; exact hbF7)).below HU11.out
                have HS11 : Hid (CellsAt w11 (some ⟨bS, oS, none⟩) (I64s S)) := (HSr.out.keep Hb9.out (fun b o e => by cases e; exact hbS7)).below HU11.out
                have HO11 : Hid (OwnL w11 w7.heap.size 3 1 v9 (tkOut F S (k + 1)).length (I64s (tkOut F S (k + 1)))) := by
                  unfold Hid; rw [HTO.out, List.length_append, List.length_singleton]
                  exact (OwnL.of (by have h := H9.out; simpa [I64s] using h)).below HU11.out
                have HR11 := Lib.hid (ownsRow_base ho11 (base' := w.heap.size + 2) (by omega))
                rw [← HT.out] at HR11
                have g0' := frozen_at XS11.out 0
                have g1' := frozen_at XS11.out 1
                have z0 := cell_at XS11.out (j := 0) (v := .int .i64 most) rfl
                have z1 := cell_at XS11.out (j := 1) (v := .slice (some ⟨bb, ob, none⟩) bs.length c') rfl
                clear hb11 ho11 d0 d1 d2 d3 g0 g1 m0 m1 r0 r1 r2 r3 dS dF e0 e1
                go_wp2_with fail
                have hrow := ownsRow_set (ownsRow_set HR11.out (a := ⟨w.heap.size, 0, none⟩) (by show w.heap.size < w.heap.size + 2; omega) (.int .i64 most)) (a := ⟨w.heap.size, 1, none⟩) (by show w.heap.size < w.heap.size + 2; omega) (.slice a7 bs.length c7)
                obtain ⟨ar, cr, er, rr, _⟩ := ownsRow_read hrow
                obtain ⟨rfl, -, rfl⟩ := Value.slice.inj er
                refine ⟨⟨k + 1, a7, c7, by omega, by go_num, (HV11.out.setCell (p := ⟨w.heap.size, 0, none⟩) (Nat.le_refl _) (.int .i64 most)).setCell (p := ⟨w.heap.size, 1, none⟩) (Nat.le_refl _) (.slice a7 bs.length c7), by simp; omega, box_set2 XS11.out, ?_, rr, .inr hrow, (HF11.out.setOther (a := ⟨w.heap.size, 0, none⟩) (by show w.heap.size ≠ bF; omega) _).setOther (a := ⟨w.heap.size, 1, none⟩) (by show w.heap.size ≠ bF; omega) _, (HS11.out.setOther (a := ⟨w.heap.size, 0, none⟩) (by show w.heap.size ≠ bS; omega) _).setOther (a := ⟨w.heap.size, 1, none⟩) (by show w.heap.size ≠ bS; omega) _, (HO11.out.setOld (a := ⟨w.heap.size, 0, none⟩) (by show w.heap.size < w7.heap.size; omega) _).setOld (a := ⟨w.heap.size, 1, none⟩) (by show w.heap.size < w7.heap.size; omega) _⟩, by simp [intOf]; omega⟩
                exact (Below.heap_setCell _ _ _ _ (by show w.heap.size + 1 ≠ w.heap.size; omega)).trans ((Below.heap_setCell _ _ _ _ (by show w.heap.size + 1 ≠ w.heap.size; omega)).trans XZ11.out)
              · obtain rfl : k = S.length := by omega
                have hrow : wr.ownsRow (w.heap.size + 2) 78 4 (.slice a' bs.length c') bs.length (bC (tkTo bs F S who S.length)) := by
                  rcases HFre.out with h | h
                  · omega
                  · exact h
                obtain ⟨aO, cO, rfl, rO, _⟩ := HOr.out.read
                have HB10 : Hid (Below w.heap.size w ((wr.setCell ⟨w.heap.size + 1, 0, none⟩ (.int .i64 most)).setCell ⟨w.heap.size + 1, 1, none⟩ (.slice a' bs.length c'))) := (HBr.out.setCell (p := ⟨w.heap.size + 1, 0, none⟩) (by show w.heap.size ≤ w.heap.size + 1; omega) (.int .i64 most)).setCell (p := ⟨w.heap.size + 1, 1, none⟩) (by show w.heap.size ≤ w.heap.size + 1; omega) _
                have hrow2 := ownsRow_set (ownsRow_set hrow (a := ⟨w.heap.size + 1, 0, none⟩) (by show w.heap.size + 1 < w.heap.size + 2; omega) (.int .i64 most)) (a := ⟨w.heap.size + 1, 1, none⟩) (by show w.heap.size + 1 < w.heap.size + 2; omega) (.slice a' bs.length c')
                have HO10 := (HOr.out.setOld (a := ⟨w.heap.size + 1, 0, none⟩) (by show w.heap.size + 1 < w7.heap.size; omega) (.int .i64 most)).setOld (a := ⟨w.heap.size + 1, 1, none⟩) (by show w.heap.size + 1 < w7.heap.size; omega) (.slice a' bs.length c')
                obtain ⟨aP, cP, eP, rP, rPb, _⟩ := HO10.read
                obtain ⟨rfl, -, rfl⟩ := Value.slice.inj eP
                have HP := Lib.hid rP
                have HPb : Fresh w7.heap.size aO := rPb
                have HRW := Lib.hid hrow2
                clear rP rPb rO hrow hrow2 HO10 eP
                have f0 := frozen_at XZ.out 0
                have f1 := frozen_at XZ.out 1
                have y0 : wr.cell? ⟨w.heap.size + 1, 0, none⟩ = some (.int .i64 0) := cell_at XZ.out rfl
                have y1 : wr.cell? ⟨w.heap.size + 1, 1, none⟩ = some (.slice none 0 0) := cell_at XZ.out rfl
                go_wp2_with fail
                obtain ⟨ar, cr, er, rr, rn⟩ := ownsRow_read HRW.out
                obtain ⟨rfl, -, rfl⟩ := Value.slice.inj er
                refine bodyPost_ret (v := .tuple #[.agg #[.int .i64 most, .slice a' bs.length c'], .slice aO (tkOut F S S.length).length cO, .int .i64 0]) (by simp [results, Tryd.results26, go_sem, y0, y1]) rfl ?_
                have HE0 : tkE most bs who l = 0 := by rw [HD.out]; exact HFE.out
                have HR' := HR.out a' c' aO cO _ HB10.out (by rw [HDB.out]; exact ⟨rr, by rw [tkTo_length]; exact rn⟩) (by rw [HDO.out]; exact HP.out) (ownsRow_fresh HRW.out (by omega)) (Fresh.mono HPb (by omega))
                rw [HDB.out, HDO.out, HE0, okM, if_pos rfl, tkTo_length] at HR'
                exact HR'
          · have HFE := Lib.hid hfe
            have hfe' : (fewE Z l == 0) = false := by simpa using hfe
            have hfe'' : (fewE Z l != 0) = true := by simpa using hfe
            clear hfe
            have f0 := frozen_at X7.out 0
            have f1 := frozen_at X7.out 1
            have y0 : w7.cell? ⟨w.heap.size + 1, 0, none⟩ = some (.int .i64 0) := cell_at X7.out rfl
            have y1 : w7.cell? ⟨w.heap.size + 1, 1, none⟩ = some (.slice none 0 0) := cell_at X7.out rfl
            go_wp2_with fail
            refine bodyPost_ret (v := .tuple #[.agg #[.int .i64 0, .slice none 0 0], .slice none 0 0, .int .i64 (fewE Z l)]) (by simp [results, Tryd.results26, go_sem, y0, y1]) rfl ?_
            exact HZ.out _ HB7'.out _ HD.out HFE.out
    · have HD : Hid (tkE most bs who l = 7) := by unfold Hid tkE; rw [if_pos hE, if_neg h0]
      obtain ⟨H, hH⟩ : ∃ H, pickL (heldP who) bs = H := ⟨_, rfl⟩
      rw [hH] at h0
      have HHH := Lib.hid hH
      have h0' : decide ((0 : Int) < (H.length : Int)) = true := by rw [decide_eq_true_eq]; omega
      have h0'' : 0 < H.length := by omega
      have HE := Lib.hid hE
      clear hE h0 hH
      go_enter Tryd.func26, Tryd.ntmps26
      go_wp2_with fail
      rw [E1.out, E2.out]
      refine rnamed_any most ao bs c who _ _ hl (HC.out.below HV2.out) hs hw ?_
      rw [HE.out]
      intro w3 hb3
      have HB3 : Hid (Below w.heap.size w w3) := HV2.out.trans (hb3.mono HV2.out.size)
      have X0 : Hid (w3.heap[w.heap.size]? = some (.cells #[.int .i64 most, .slice ao bs.length c] 28 (0, 0))) := heap_below X1'.out hb3 (by omega)
      have X3 : Hid (w3.heap[w.heap.size + 1]? = some (.cells #[.int .i64 0, .slice none 0 0] 28 (0, 0))) := heap_below X2'.out hb3 hs2
      have e0 : w3.cell? ⟨w.heap.size, 0, none⟩ = some (.int .i64 most) := cell_at X0.out rfl
      have e1 : w3.cell? ⟨w.heap.size, 1, none⟩ = some (.slice ao bs.length c) := cell_at X0.out rfl
      have s3 := hb3.size
      clear hb3 k0 k1
      go_wp2_with fail
      refine rheld_any most ao bs c who _ _ hlen (HC.out.below HB3.out) ?_
      rw [HHH.out]
      intro v w4 hb4 ho4
      have HB4 : Hid (Below w.heap.size w w4) := HB3.out.trans (hb4.mono HB3.out.size)
      have X4 : Hid (w4.heap[w.heap.size + 1]? = some (.cells #[.int .i64 0, .slice none 0 0] 28 (0, 0))) := heap_below X3.out hb4 (by omega)
      have X04 : Hid (w4.heap[w.heap.size]? = some (.cells #[.int .i64 most, .slice ao bs.length c] 28 (0, 0))) := heap_below X0.out hb4 (by omega)
      have s4 := hb4.size
      obtain ⟨a4, c4, rfl, _, _⟩ := ho4.read
      clear hb4 ho4 e0 e1
      have f0 := frozen_at X4.out 0
      have f1 := frozen_at X4.out 1
      have y0 : w4.cell? ⟨w.heap.size + 1, 0, none⟩ = some (.int .i64 0) := cell_at X4.out rfl
      have y1 : w4.cell? ⟨w.heap.size + 1, 1, none⟩ = some (.slice none 0 0) := cell_at X4.out rfl
      go_wp2_with fail
      refine bodyPost_ret (v := .tuple #[.agg #[.int .i64 0, .slice none 0 0], .slice none 0 0, .int .i64 7]) (by simp [results, Tryd.results26, go_sem, y0, y1]) rfl ?_
      exact HZ.out _ HB4.out 7 HD.out (by omega)
  · have HD : Hid (tkE most bs who l = nmS most bs who) := by unfold Hid tkE; rw [if_neg hE]
    have HE := Lib.hid hE
    have hE' : (nmS most bs who == 0) = false := by simpa using hE
    have hE'' : (nmS most bs who != 0) = true := by simpa using hE
    clear hE
    go_enter Tryd.func26, Tryd.ntmps26
    go_wp2_with fail
    rw [E1.out, E2.out]
    refine rnamed_any most ao bs c who _ _ hl (HC.out.below HV2.out) hs hw ?_
    intro w3 hb3
    have HB3 : Hid (Below w.heap.size w w3) := HV2.out.trans (hb3.mono HV2.out.size)
    have X0 : Hid (w3.heap[w.heap.size]? = some (.cells #[.int .i64 most, .slice ao bs.length c] 28 (0, 0))) := heap_below X1'.out hb3 (by omega)
    have X3 : Hid (w3.heap[w.heap.size + 1]? = some (.cells #[.int .i64 0, .slice none 0 0] 28 (0, 0))) := heap_below X2'.out hb3 hs2
    have e0 : w3.cell? ⟨w.heap.size, 0, none⟩ = some (.int .i64 most) := cell_at X0.out rfl
    have e1 : w3.cell? ⟨w.heap.size, 1, none⟩ = some (.slice ao bs.length c) := cell_at X0.out rfl
    have s3 := hb3.size
    clear hb3 k0 k1
    have f0 := frozen_at X3.out 0
    have f1 := frozen_at X3.out 1
    have y0 : w3.cell? ⟨w.heap.size + 1, 0, none⟩ = some (.int .i64 0) := cell_at X3.out rfl
    have y1 : w3.cell? ⟨w.heap.size + 1, 1, none⟩ = some (.slice none 0 0) := cell_at X3.out rfl
    go_wp2_with fail
    refine bodyPost_ret (v := .tuple #[.agg #[.int .i64 0, .slice none 0 0], .slice none 0 0, .int .i64 (nmS most bs who)]) (by simp [results, Tryd.results26, go_sem, y0, y1]) rfl ?_
    exact HZ.out _ HB3.out _ HD.out HE.out
end Go.Proofs.YteoniejpfmeibaaDoor
