/- The walk of the law BlocksReach: it returns true, and memory that was there is as it was. -/
import Derived.Test.YtdmolmdenfepkaaGh
import Derived.Test.YtdmolmdenfepkaaGi
import Derived.Test.YtdmolmdenfepkaaLibB
import Derived.Test.YtdmolmdenfepkaaW
namespace Go.Proofs.Ytdmolmdenfepkaa
open Go.RowKit Go.Shelf Go.Sort

/-- slices.Compact of a slice of the call's own. -/
theorem compact_any (g cap n : Nat) (zs : List Int) (hn : zs.length = n) (w : World) (base : Nat) (R : Ending → World → Prop) (hl : zs.length ≤ 1000000) (h0 : 0 < zs.length) (hbase : base ≤ w.heap.size)
   (hown : w.ownsRow base 3 1 (.slice (some ⟨g, 0, none⟩) n cap) n (I64s zs))
   (hR : ∀ w', Below base w w' → CellsAt w' (some ⟨g, 0, none⟩) (I64s (Lib.compact zs)) → R (.returned (.slice (some ⟨g, 0, none⟩) (Lib.compact zs).length cap)) w') :
    Calls Try.prog 35 #[.slice (some ⟨g, 0, none⟩) n cap] w R := by
  subst hn
  rcases hown.2 with ⟨h, _⟩ | ⟨g', cap', cur, hv, hb, hg, hn, hm, hs, ht⟩
  · cases h
  · cases hv
    refine (Try.slices_Compact_int g 0 cap zs w (holds_of_blockI hg (by rw [Nat.mul_one] at ht; exact ht)) (by omega) hn).mono ?_
    rintro e w' ⟨rfl, q, rfl⟩
    have hcl := Lib.compact_length_le zs
    obtain ⟨ts, hts⟩ : ∃ ts, Lib.compact zs ++ List.replicate (zs.length - (Lib.compact zs).length) 0 = ts := ⟨_, rfl⟩
    have e3 : ts.length = zs.length := by rw [← hts, List.length_append, List.length_replicate]; omega
    rw [hts]
    have e4 : putRow (Value.int .i64) (Sort.ahead w q) g 0 ts.toArray = grow (putRow (Value.int .i64) (Sort.ahead w q) g 0 ts.toArray) #[] := (grow_empty _).symm
    rw [e4]
    refine hR _ ((Below.refl _ _).grown (grownBy_sortedI _) hbase fun k hk => by cases hk; exact hb) ?_
    have h5 := ownsRow_sortedI (n := q) (os := #[]) (ss := zs) (ts := ts) e3 hb hg hn hm hs
    obtain ⟨ao, c, hv, hcs, _, _⟩ := OwnL.read (⟨h5, by constructor <;> intro h <;> first | (cases h) | omega⟩ : OwnL _ base 3 1 (.slice (some ⟨g, 0, none⟩) zs.length cap) zs.length _)
    cases hv
    have e5 : ts.map (Value.int .i64) = I64s (Lib.compact zs) ++ (List.replicate (zs.length - (Lib.compact zs).length) 0).map (Value.int .i64) := by rw [← hts, List.map_append]; rfl
    rw [e5] at hcs
    exact hcs.front

/-- slices.Values. -/
theorem values_any (a : Option Addr) (len cap : Nat) (w : World) (R : Ending → World → Prop)
    (hR : R (.returned (.func (.func 57) #[] #[.pointer (some ⟨w.heap.size, 0, none⟩)])) (w.alloc (.cells #[.slice a len cap] 22))) :
    Calls Try.prog 37 #[.slice a len cap] w R := by
  refine ((callsIn_wide (n := 5)).1 (values_in Fence.wide 5 trivial rfl a len cap w)).mono ?_
  rintro e w' ⟨rfl, rfl⟩
  exact hR

theorem reach_decide {zs L S : List Int} {l most : Int} (hr : rgtB zs l = true) (h1 : 1 ≤ most) (h8 : most ≤ 8) (hL : reaL zs most = L) (hS : fewL zs l = S) (hE : fewE zs l = 0) : decide (l ∈ L) = decide ((S.length : Int) ≤ most) := by
  subst hL hS
  rw [decide_eq_decide, reach_mem hr h1 h8]
  exact ⟨fun h => h.2, fun h => ⟨hE, h⟩⟩
theorem reach_not {zs L : List Int} {l most : Int} (hr : rgtB zs l = true) (h1 : 1 ≤ most) (h8 : most ≤ 8) (hL : reaL zs most = L) (hE : fewE zs l = 6) : decide (l ∈ L) = false := by
  subst hL
  rw [decide_eq_false_iff_not, reach_mem hr h1 h8, hE]
  rintro ⟨h, _⟩; cases h
theorem owned_pos {w : World} {base : Nat} {e : TypeId} {v : Value} {n : Nat} {xs : List Value} (h : w.ownsRow base e 1 v n xs) (hn : 0 < n) :
    ∃ g cap, v = .slice (some ⟨g, 0, none⟩) n cap ∧ base ≤ g ∧ g < w.heap.size ∧ CellsAt w (some ⟨g, 0, none⟩) xs := by
  obtain ⟨ao, c, hv, hc, hb, hz⟩ := OwnL.read (⟨h, by
    constructor
    · rintro rfl
      rcases h.2 with ⟨_, h2⟩ | ⟨g, cap, cur, h1, _⟩
      · exact h2
      · cases h1
    · intro h2; omega⟩ : OwnL w base e 1 v n xs)
  have hl : xs.length = n := by have := h.1; omega
  rcases h.2 with ⟨h1, h2⟩ | ⟨g, cap, cur, h1, h2, h3, _⟩
  · omega
  · subst h1; cases hv
    exact ⟨g, c, rfl, h2, lt_of_block h3, hc⟩
theorem lit2 (w : World) (x y : Int) : (w.alloc (.cells #[.int .i64 x, .int .i64 y] 3)).ownsRow w.heap.size 3 1 (.slice (some ⟨w.heap.size, 0, none⟩) 2 2) 2 [.int .i64 x, .int .i64 y] :=
  World.ownsRow_lit w #[.int .i64 x, .int .i64 y] 2 (Nat.le_refl _) (by decide) rfl
theorem other_ne (i k : Int) (s : List Int) : 0 < (otherL i k s).length := compact_ne (by rw [sortL_length]; simp)
theorem pair_I64 (x y : Int) (S : List Int) : [.int .i64 x, .int .i64 y] ++ I64s S = I64s ([x, y] ++ S) := rfl

set_option maxRecDepth 100000 in
set_option maxHeartbeats 2000000 in
theorem lawReach (ao : Option Addr) (zs : List Int) (c : Nat) (l m : Int) (w : World) (R : Ending → World → Prop)
   (hl : zs.length ≤ 9223372036854775807) (hc : CellsAt w ao (I64s zs)) (hR : ∀ w', Below w.heap.size w w' → R (.returned (.bool true)) w') :
    Calls Try.prog 10 #[.slice ao zs.length c, .int .i64 l, .int .i64 m] w R := by
  have HR := Lib.hid hR
  clear hR
  have HC := Lib.hid hc
  by_cases hr : rgtB zs l = true
  · by_cases hm1 : 1 ≤ m
    · by_cases hm8 : m ≤ 8
      · obtain ⟨g1, g2, g3, g4⟩ := rgtB_iff.1 hr
        obtain ⟨L, hL⟩ : ∃ L, reaL zs m = L := ⟨_, rfl⟩
        obtain ⟨S, hS⟩ : ∃ S, fewL zs l = S := ⟨_, rfl⟩
        obtain ⟨rE, _, rlen⟩ := reach_E hr hm1 hm8
        have asc := reach_asc hr hm1 hm8
        have slen := fewL_length zs l
        have HRR := Lib.hid hr
        have HRE := Lib.hid rE
        rw [hL] at rlen asc
        rw [hS] at slen
        have HL := Lib.hid hL
        have HS := Lib.hid hS
        have HAS := Lib.hid asc
        rcases reach_few hr with hE | hE
        · obtain ⟨D, hD⟩ : ∃ D, decide ((S.length : Int) ≤ m) = D := ⟨_, rfl⟩
          have HD : Hid (decide (l ∈ L) = D) := by unfold Hid; rw [← hD]; exact reach_decide hr hm1 hm8 hL hS hE
          have HE := Lib.hid hE
          have HSt : Hid (St zs.length 0 S) := by unfold Hid; rw [← hS]; exact reach_St hr hE
          have hSne : 0 < S.length := by
            have hz := (chk_zero zs).1 g2
            obtain ⟨e1, hr1, e2⟩ := fewL_len hz hE
            have := best_ne hz hr1 (by omega)
            rw [← hS, e2]; omega
          clear rE asc hL hS hE g2
          go_enter Try.func10, Try.ntmps10
          go_wp2_with fail
          refine right_any ao zs c l _ _ hl hc ?_
          intro w1 hd1
          have HB1 := Lib.hid (hd1.below w.heap.size)
          have s1 : w.heap.size ≤ w1.heap.size := HB1.out.size
          clear hd1
          go_wp2_with fail
          refine reach_any ao zs c m _ _ hl (HC.out.below HB1.out) ?_
          rw [HL.out, HRE.out]
          intro a2 c2 w2 hb2 hc2
          have HB2 := Lib.hid (HB1.out.trans (hb2.mono s1))
          have s2 : w.heap.size ≤ w2.heap.size := HB2.out.size
          have HC2 := Lib.hid hc2
          clear hb2 hc2
          go_wp2_with fail
          refine fewestX_any ao zs c l _ _ hl (HC.out.below HB2.out) ?_
          rw [HS.out, HE.out]
          intro a3 c3 w3 hb3 hc3
          have HB3 := Lib.hid (HB2.out.trans (hb3.mono s2))
          have s3 : w.heap.size ≤ w3.heap.size := HB3.out.size
          have HC3 := Lib.hid hc3
          have HC2' := Lib.hid (HC2.out.below hb3)
          obtain ⟨b3, o3, rfl, hb3lt, _⟩ := hc3.ints hSne
          clear hb3 hc3
          go_wp2_with fail
          refine contains_any a2 L c2 l _ _ (by omega) HC2'.out ?_
          rw [HD.out]
          intro w4 hd4
          have HB4 := Lib.hid (hd4.below w3.heap.size)
          have s4 : w3.heap.size ≤ w4.heap.size := HB4.out.size
          have HC4 := Lib.hid (HC2'.out.below HB4.out)
          clear hd4
          go_wp2_with fail
          refine isSorted_any a2 L c2 _ _ (by omega) HC4.out HAS.out ?_
          intro w5 hd5
          have HB5 := Lib.hid (HB4.out.trans (hd5.below w3.heap.size))
          have s5 : w3.heap.size ≤ w5.heap.size := HB5.out.size
          clear hd5
          go_wp2_with fail
          go_loopw [69] (fun i wr => ∃ k : Nat, k ≤ zs.length ∧ i = .int .i64 k ∧ Hid (Below w3.heap.size w3 wr)) (fun i _ => zs.length - (intOf i).toNat)
          case atStart => exact ⟨0, Nat.zero_le _, rfl, HB5.out⟩
          case round =>
            obtain ⟨i, hi, rfl, HBo⟩ := hrel
            obtain ⟨wo, rfl⟩ : ∃ wo : World, wo = wr := ⟨_, rfl⟩
            by_cases hlt : i < zs.length
            · go_wp2_with fail
              go_loopw [73] (fun k wr => ∃ j : Nat, j ≤ i ∧ k = .int .i64 j ∧ Hid (Below w3.heap.size w3 wr)) (fun k _ => i - (intOf k).toNat)
              case atStart => exact ⟨0, Nat.zero_le _, rfl, HBo⟩
              case round =>
                obtain ⟨k, hk, rfl, HBi⟩ := hrel
                have si : w3.heap.size ≤ wr.heap.size := HBi.out.size
                by_cases hlk : k < i
                · have HC6 := Lib.hid (HC3.out.below HBi.out)
                  obtain ⟨T, hT⟩ : ∃ T, Hid ([(i : Int), (k : Int)] ++ S = T) := ⟨_, rfl⟩
                  have hTl : Hid (T.length = 2 + S.length) := by unfold Hid; rw [← hT.out]; simp; omega
                  have hTp : 0 < T.length := by have := hTl.out; omega
                  have hTb : T.length ≤ 11 := by have := hTl.out; omega
                  obtain ⟨O, hO⟩ : ∃ O, Hid (Lib.compact (sortL T) = O) := ⟨_, rfl⟩
                  have hOe : Hid (otherL i k S = O) := by unfold Hid otherL; rw [hT.out]; exact hO.out
                  have hOl : O.length ≤ 11 := by have := other_length i k S; rw [hOe.out] at this; omega
                  have hOn : ((O.length : Int) == 0) = false := by have := other_ne i k S; rw [hOe.out] at this; rw [beq_eq_false_iff_ne]; omega
                  have hOSt : Hid (St zs.length 0 O) := by have := other_St (i := i) (k := k) HSt.out hlt (by omega); rw [hOe.out] at this; exact this
                  go_wp2_with (at_builtin; refine wp_appendG rfl (.tmp 78) (.tmp 79) 22 rfl wr.heap.size 3 Try.underlying22 Try.infoInt rfl (by decide) (.slice (some ⟨wr.heap.size, 0, none⟩) 2 2) 2 [.int .i64 i, .int .i64 k] rfl (lit2 wr i k) _ S.length c3 (I64s S) (I64s_length _) rfl (by simp) (HC6.out.below ((Below.refl _ _).alloc (Nat.le_refl _) _)) (ints_oneCell _ _) (by omega) (by simp) ?_; intro v6 w6 hown6 hgrow6 hn6; have Hb6 := Lib.hid (Below.grown ((Below.refl wr.heap.size wr).alloc (Nat.le_refl _) _) hgrow6 (by simp) (fun k e => by cases e; exact Nat.le_refl _)); have H6 : Hid (w6.ownsRow wr.heap.size 3 1 v6 T.length (I64s T)) := (by rw [hTl.out, ← hT.out]; exact hown6); clear hown6 hgrow6 hn6; obtain ⟨g6, cap6, rfl, hg6, hg6lt, hc6⟩ := owned_pos H6.out hTp; have HC6 := Lib.hid hc6; clear hc6)
                  have s6 : wr.heap.size ≤ w6.heap.size := Hb6.out.size
                  refine values_any _ _ _ _ _ ?_
                  have HB7 : Hid (Below w6.heap.size w6 (w6.alloc (.cells #[.slice (some ⟨g6, 0, none⟩) T.length cap6] 22))) := (Below.refl _ _).alloc (Nat.le_refl _) _
                  have HX7 : Hid ((w6.alloc (.cells #[.slice (some ⟨g6, 0, none⟩) T.length cap6] 22)).cell? ⟨w6.heap.size, 0, none⟩ = some (.slice (some ⟨g6, 0, none⟩) T.length cap6)) := Go.Proofs.Ytdmolmdenfepkaa.new1 _ _ _ 0 _ rfl
                  have s7 : w6.heap.size < (w6.alloc (.cells #[.slice (some ⟨g6, 0, none⟩) T.length cap6] 22)).heap.size := by simp
                  obtain ⟨w7, hw7⟩ : ∃ w7, w6.alloc (.cells #[.slice (some ⟨g6, 0, none⟩) T.length cap6] 22) = w7 := ⟨_, rfl⟩
                  rw [hw7] at HB7 HX7 s7 ⊢
                  clear hw7
                  go_wp2_with fail
                  refine sorted_v w6.heap.size g6 0 cap6 T (by omega) hTp w7 s7 (by omega) HX7.out (fun j hj => ?_) _ ?_
                  · obtain ⟨b, o, e, _, hcl⟩ := (HC6.out.below HB7.out).ints hTp
                    cases e
                    exact hcl j hj
                  intro g8 cap8 w8 hb8 hg8 hown8
                  have HB8 : Hid (Below wr.heap.size wr w8) := (Hb6.out.trans (HB7.out.mono s6)).trans (hb8.mono (by omega))
                  have HO8 := Lib.hid hown8
                  have s8 : w7.heap.size ≤ w8.heap.size := hb8.size
                  clear hb8 hown8
                  go_wp2_with fail
                  refine compact_any g8 cap8 T.length (sortL T) (sortL_length T) w8 w7.heap.size _ (by rw [sortL_length]; omega) (by rw [sortL_length]; exact hTp) s8 HO8.out ?_
                  rw [hO.out]
                  intro w9 hb9 hc9
                  have HB9 : Hid (Below wr.heap.size wr w9) := HB8.out.trans (hb9.mono (by omega))
                  have HC9 := Lib.hid hc9
                  have HB9' : Hid (Below w3.heap.size w3 w9) := HBi.out.trans (HB9.out.mono si)
                  have s9 : w3.heap.size ≤ w9.heap.size := HB9'.out.size
                  clear hb9 hc9
                  go_wp2_with fail
                  refine equal_any _ _ O S cap8 c3 _ _ (by omega) (by omega) HC9.out (HC3.out.below HB9'.out) ?_
                  intro w10 hd10
                  have HB10 : Hid (Below w3.heap.size w3 w10) := HB9'.out.trans (hd10.below _)
                  have s10 : w3.heap.size ≤ w10.heap.size := HB10.out.size
                  have HC10 := Lib.hid (HC9.out.below (hd10.below _))
                  clear hd10
                  by_cases hOS : O = S
                  · have hq : eqL O S = true := (eqL_iff _ _).2 hOS
                    clear hOS
                    go_wp2_with fail
                    exact ⟨⟨k + 1, by omega, by go_num, HB10⟩, by simp [intOf]; omega⟩
                  · have hq : eqL O S = false := by
                      cases h : eqL O S with
                      | false => rfl
                      | true => exact absurd ((eqL_iff _ _).1 h) hOS
                    have HV : Hid (verE zs l O = 15) := by
                      unfold Hid
                      rw [reach_ver HRR.out HE.out hOSt.out, if_neg (by rw [HS.out]; exact hOS)]
                    clear hOS
                    go_wp2_with fail
                    refine verify_any ao _ zs O c cap8 l _ _ hl (by omega) (HC.out.below (HB3.out.trans (HB10.out.mono s3))) HC10.out ?_
                    rw [HV.out]
                    intro w11 hb11
                    have HB11 : Hid (Below w3.heap.size w3 w11) := HB10.out.trans (hb11.mono s10)
                    clear hb11
                    go_wp2_with fail
                    exact ⟨⟨k + 1, by omega, by go_num, HB11⟩, by simp [intOf]; omega⟩
                · obtain rfl : k = i := by omega
                  go_wp2_with fail
                  exact ⟨⟨k + 1, by omega, by go_num, HBi⟩, by simp [intOf]; omega⟩
            · obtain rfl : i = zs.length := by omega
              have so : w3.heap.size ≤ wo.heap.size := HBo.out.size
              go_wp2_with fail
              refine verify_any ao _ zs S c c3 l _ _ hl (by omega) (HC.out.below (HB3.out.trans (HBo.out.mono s3))) (HC3.out.below HBo.out) ?_
              have HV : Hid (verE zs l S = 0) := by
                unfold Hid
                rw [reach_ver HRR.out HE.out HSt.out, if_pos (by rw [HS.out])]
              rw [HV.out]
              intro w11 hb11
              have HB11 : Hid (Below w.heap.size w w11) := (HB3.out.trans (HBo.out.mono s3)).trans (hb11.mono (by omega))
              have s11 : w.heap.size ≤ w11.heap.size := HB11.out.size
              clear hb11
              go_wp2_with fail
              refine awake_any _ _ ?_
              intro w12 hb12
              have HB12 : Hid (Below w.heap.size w w12) := HB11.out.trans (hb12.mono s11)
              clear hb12
              go_wp2_with fail
              exact HR.out _ HB12.out
        · have HD : Hid (decide (l ∈ L) = false) := by unfold Hid; exact reach_not hr hm1 hm8 hL hE
          have HE := Lib.hid hE
          have HSe : Hid (S = []) := by unfold Hid; rw [← hS, fewL, if_neg]; rintro ⟨hg, h⟩; rw [fewE, if_pos hg, if_pos h] at hE; cases hE
          clear rE asc hL hS hE g2
          go_enter Try.func10, Try.ntmps10
          go_wp2_with fail
          refine right_any ao zs c l _ _ hl hc ?_
          intro w1 hd1
          have HB1 := Lib.hid (hd1.below w.heap.size)
          have s1 : w.heap.size ≤ w1.heap.size := HB1.out.size
          clear hd1
          go_wp2_with fail
          refine reach_any ao zs c m _ _ hl (HC.out.below HB1.out) ?_
          rw [HL.out, HRE.out]
          intro a2 c2 w2 hb2 hc2
          have HB2 := Lib.hid (HB1.out.trans (hb2.mono s1))
          have s2 : w.heap.size ≤ w2.heap.size := HB2.out.size
          have HC2 := Lib.hid hc2
          clear hb2 hc2
          go_wp2_with fail
          refine fewestX_any ao zs c l _ _ hl (HC.out.below HB2.out) ?_
          rw [HS.out, HE.out]
          intro a3 c3 w3 hb3 hc3
          have HB3 := Lib.hid (HB2.out.trans (hb3.mono s2))
          have s3 : w.heap.size ≤ w3.heap.size := HB3.out.size
          have HC2' := Lib.hid (HC2.out.below hb3)
          clear hb3 hc3
          go_wp2_with fail
          refine contains_any a2 L c2 l _ _ (by omega) HC2'.out ?_
          rw [HD.out]
          intro w4 hd4
          have HB4 := Lib.hid (hd4.below w3.heap.size)
          have s4 : w3.heap.size ≤ w4.heap.size := HB4.out.size
          have HC4 := Lib.hid (HC2'.out.below HB4.out)
          clear hd4
          go_wp2_with fail
          refine isSorted_any a2 L c2 _ _ (by omega) HC4.out HAS.out ?_
          intro w5 hd5
          have HB5 : Hid (Below w.heap.size w w5) := (HB3.out.trans (HB4.out.mono s3)).trans (hd5.below _)
          have s5 : w.heap.size ≤ w5.heap.size := HB5.out.size
          clear hd5
          go_wp2_with fail
          refine awake_any _ _ ?_
          intro w12 hb12
          have HB12 : Hid (Below w.heap.size w w12) := HB5.out.trans (hb12.mono s5)
          clear hb12
          go_wp2_with fail
          exact HR.out _ HB12.out
      · have hm : decide (8 < m) = true := by rw [decide_eq_true_eq]; omega
        go_enter Try.func10, Try.ntmps10
        go_wp2_with fail
        refine right_any ao zs c l _ _ hl hc ?_
        intro w1 hd1
        have HB1 := Lib.hid (hd1.below w.heap.size)
        have s1 : w.heap.size ≤ w1.heap.size := HB1.out.size
        clear hd1
        go_wp2_with fail
        refine awake_any _ _ ?_
        intro w12 hb12
        have HB12 : Hid (Below w.heap.size w w12) := HB1.out.trans (hb12.mono s1)
        clear hb12
        go_wp2_with fail
        exact HR.out _ HB12.out
    · have hm : decide (m < 1) = true := by rw [decide_eq_true_eq]; omega
      go_enter Try.func10, Try.ntmps10
      go_wp2_with fail
      refine right_any ao zs c l _ _ hl hc ?_
      intro w1 hd1
      have HB1 := Lib.hid (hd1.below w.heap.size)
      have s1 : w.heap.size ≤ w1.heap.size := HB1.out.size
      clear hd1
      go_wp2_with fail
      refine awake_any _ _ ?_
      intro w12 hb12
      have HB12 : Hid (Below w.heap.size w w12) := HB1.out.trans (hb12.mono s1)
      clear hb12
      go_wp2_with fail
      exact HR.out _ HB12.out
  · have hr' : rgtB zs l = false := by simpa using hr
    go_enter Try.func10, Try.ntmps10
    go_wp2_with fail
    refine right_any ao zs c l _ _ hl hc ?_
    intro w1 hd1
    have HB1 := Lib.hid (hd1.below w.heap.size)
    have s1 : w.heap.size ≤ w1.heap.size := HB1.out.size
    clear hd1
    go_wp2_with fail
    refine awake_any _ _ ?_
    intro w12 hb12
    have HB12 : Hid (Below w.heap.size w w12) := HB1.out.trans (hb12.mono s1)
    clear hb12
    go_wp2_with fail
    exact HR.out _ HB12.out
end Go.Proofs.Ytdmolmdenfepkaa
