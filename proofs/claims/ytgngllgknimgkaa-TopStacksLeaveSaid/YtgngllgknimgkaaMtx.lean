/- The links of a task, as an iterator; plain facts for sums. The walk of bounds of package stack. (Printed by gen_bounds.py.) Limits of package stack where the chain is right. The walk of caseStacks. What the law compares: the distance, the chains, what their stacks leave. No program in sight. -/
import Derived.Test.YtgngllgknimgkaaMtq
import Derived.Test.YtgngllgknimgkaaMdk
import Derived.Test.YtgngllgknimgkaaMcx
import Derived.Test.YtgngllgknimgkaaMda
namespace Go.Proofs.Ytgngllgknimgkaa
open Go.RowKit Go.Maps
attribute [local go_sem] Oper.semAt_some

theorem goE_vaE {vs : List Dm} (hl : vs.length ≤ 256) (h : goE vs = 0) : ∀ j, j < vs.length → vaE (dAt vs j) = 0 := by
  intro j hj
  rw [goE_le (by omega)] at h
  have h1 : loopE (giF vs) vs.length 0 () = .inl () := by
    cases hh : loopE (giF vs) vs.length 0 () with
    | inl u => rfl
    | inr r =>
      obtain ⟨i, _, _, h3⟩ := loopE_unit_inr _ _ hh
      rw [hh] at h
      unfold giF at h3
      split at h3
      · cases h3
      · rename_i hn
        have h4 : r = vaE (dAt vs i) := by simpa using h3.symm
        exact absurd (h4 ▸ h) hn
  have h2 := (loopE_unit _ _).1 h1 j (Nat.zero_le _) (by omega)
  unfold giF at h2
  split at h2
  · assumption
  · cases h2
/-- The sign of a link. -/
def sgn (y : Sp) : Int := if y.b = true then -1 else 1
def lkEnc (cs : List Sp) (i : Nat) : Array Value := #[.int .i64 (pAt cs i).i, .int .i64 (sgn (pAt cs i))]
theorem links_in (F : Fence) (n : Nat) (h5 : F.fn 37) (hro : F.round = none) (ao : Option Addr) (m c : Nat) (ca : Option Addr) (k cc : Nat) (w : World) :
    CallsIn F n Try.prog 37 #[.agg (wsV ao m c ca k cc)] w fun e w' => e = .returned (.func (.func 53) #[] #[.pointer (some ⟨w.heap.size, 0, none⟩)]) ∧
      w' = w.alloc (.cells (wsV ao m c ca k cc) 73) := by
  unfold wsV
  refine callsIn_of_wp Try.func37 rfl h5 ?_ hro
  simp only [Try.ntmps37, List.size_toArray, List.length_cons, List.length_nil, Nat.reduceAdd, Nat.reduceSub, Array.replicate_succ, Array.replicate_zero, List.push_toArray, List.append_toArray, List.nil_append, List.cons_append]
  gi_wp2
  go_ret
  exact ⟨rfl, rfl⟩
set_option maxRecDepth 100000 in
set_option maxHeartbeats 4000000 in
theorem links1_gives (F : Fence) (n : Nat) (h84 : F.fn 53) (hro : F.round = none) (hn : 1 ≤ n) (Bn : Nat) (bs : List Nat) (ao : Option Addr) (m c : Nat) (ca : Option Addr) (cs : List Sp) (cc : Nat) (w0 : World)
    (hl : cs.length ≤ 1000000) (hB : w0.heap[Bn]? = some (.cells (wsV ao m c ca cs.length cc) 73 (0, 0))) (hBm : Bn ∈ bs) (hc : CellsAt w0 ca (pC cs)) (hbm : 0 < cs.length → ∀ b o, ca = some ⟨b, o, none⟩ → b ∈ bs) (hbl : ∀ x ∈ bs, x < w0.heap.size) :
    Gives F n Try.prog 53 #[.pointer (some ⟨Bn, 0, none⟩)] (lkEnc cs) bs (List.range cs.length) w0 := by
  intro l J W hW hJ hY hJ0
  have HY := Lib.hid hY
  have HC := Lib.hid hc
  have HW := Lib.hid hW
  have HJ := Lib.hid hJ
  have HBL := Lib.hid fun x hx => Nat.lt_of_lt_of_le (hbl x hx) hW.size
  clear hbl
  have Hbm := Lib.hid hbm
  have hBl := lt_of_block hB
  have b1 := (World.cell?_of_block (a := ⟨Bn, 1, none⟩) (hW.block Bn hBl)).trans (cell_of hB (j := 1) (v := .slice ca cs.length cc) rfl)
  clear hY hc hW hJ hB hbm
  refine callsIn_of_wp Try.func53 rfl h84 ?_ hro
  simp only [Try.ntmps53, List.size_toArray, List.length_cons, List.length_nil, Nat.reduceAdd, Nat.reduceSub, Array.replicate_succ, Array.replicate_zero, List.push_toArray, List.append_toArray, List.nil_append, List.cons_append]
  gi_wp2
  gi_loopw [10] (fun p wr => ∃ k : Nat, k ≤ cs.length ∧ p = .int .i64 k ∧ J (List.range k) wr ∧ KeepsBs bs W wr ∧ Hid (W.heap.size ≤ wr.heap.size)) (fun p _ => cs.length - (intOf p).toNat)
  case atStart => exact ⟨0, Nat.zero_le _, by go_num, hJ0, fun _ _ => rfl, Nat.le_refl _⟩
  case round =>
    obtain ⟨k, hk, rfl, hJ, hK, hsW⟩ := hrel
    by_cases hlt : k < cs.length
    · obtain ⟨b, o, rfl, hbb, hcell⟩ := HC.out.sps (by omega)
      obtain ⟨a0, a1⟩ := hcell k hlt
      have hbk : wr.heap[b]? = w0.heap[b]? := (hK b (Hbm.out (by omega) b o rfl)).trans (HW.out.block b hbb)
      have d0 := (World.cell?_of_block (a := ⟨b, o + k * 2, none⟩) hbk).trans a0
      have d1 := (World.cell?_of_block (a := ⟨b, o + k * 2 + 1, none⟩) hbk).trans a1
      have hpre : (List.range k ++ [k]) <+: List.range cs.length := by rw [← List.range_succ]; exact range_prefix hlt
      obtain ⟨y, hy⟩ : ∃ y, pAt cs k = y := ⟨_, rfl⟩
      rw [hy] at d0 d1
      obtain ⟨w4, E4, U4, s4, X4⟩ := box_ex wr #[.int .i64 y.i, .bool y.b] 46
      have e0 := cell_of X4.out (j := 0) (v := .int .i64 y.i) rfl
      have e1 := cell_of X4.out (j := 1) (v := .bool y.b) rfl
      have hJ4 := HJ.out _ _ _ hJ (U4.out.mono hsW.out)
      obtain ⟨fn, tmps, assign, body, hyy, hR⟩ := HY.out (List.range k) k w4 hJ4 hpre
      unfold lkEnc at hyy
      rw [hy] at hyy
      have HRn := Lib.hid hR
      have HK := Lib.hid hK
      clear hcell hK hJ hbk a0 a1 hpre hJ4 hR hy
      cases hb : y.b with
      | true =>
        have hs : sgn y = -1 := by unfold sgn; rw [if_pos hb]
        rw [hs] at hyy
        rw [hb] at d1 e1 E4
        have E4' := Lib.hid E4
        clear E4
        rw [← E4'.out] at hyy e0 e1
        gi_wp2
        rw [E4'.out]
        refine HRn.out.mono ?_
        rintro e W3 ⟨rfl, hJ3, hk3, hb3⟩
        have HB3 := Lib.hid hb3
        have HK3 := Lib.hid hk3
        have HI3 : Hid (J (List.range (k + 1)) W3) := by unfold Hid; rw [List.range_succ]; exact hJ3
        clear hk3 hJ3 hb3 d0 d1 e0 e1 hyy
        gi_wp2
        go_roundw
        case rel => exact ⟨k + 1, by omega, by go_num, HI3.out, fun x hx => (HB3.out x hx).trans ((U4.out.block x (Nat.lt_of_lt_of_le (HBL.out x hx) hsW.out)).trans (HK.out x hx)), by have := HK3.out.size; have := hsW.out; unfold Hid; omega⟩
        case measure => simp [intOf] <;> omega
      | false =>
        have hs : sgn y = 1 := by unfold sgn; rw [if_neg (by simp [hb])]
        rw [hs] at hyy
        rw [hb] at d1 e1 E4
        have E4' := Lib.hid E4
        clear E4
        rw [← E4'.out] at hyy e0 e1
        gi_wp2
        rw [E4'.out]
        refine HRn.out.mono ?_
        rintro e W3 ⟨rfl, hJ3, hk3, hb3⟩
        have HB3 := Lib.hid hb3
        have HK3 := Lib.hid hk3
        have HI3 : Hid (J (List.range (k + 1)) W3) := by unfold Hid; rw [List.range_succ]; exact hJ3
        clear hk3 hJ3 hb3 d0 d1 e0 e1 hyy
        gi_wp2
        go_roundw
        case rel => exact ⟨k + 1, by omega, by go_num, HI3.out, fun x hx => (HB3.out x hx).trans ((U4.out.block x (Nat.lt_of_lt_of_le (HBL.out x hx) hsW.out)).trans (HK.out x hx)), by have := HK3.out.size; have := hsW.out; unfold Hid; omega⟩
        case measure => simp [intOf] <;> omega
    · obtain rfl : k = cs.length := by omega
      gi_wp2
      go_end0
      exact ⟨⟨_, rfl⟩, hJ⟩
end Go.Proofs.Ytgngllgknimgkaa
namespace Go.Proofs.Ytgngllgknimgkaa
open Go.RowKit Go.Maps
attribute [local go_sem] Oper.semAt_some

/-- A region that draws, inside a round, operation by operation. -/
theorem regionQr {n : Nat} {P : Program} {ops : Array Oper} {Q : Exit → Act → World → Prop} {l id : Nat} {a : Act} {w : World} (S : World → Prop) (hm : P.follows .mixedOrders = true) (hd : noDefer ops = true) (hq : ¬ LetsOut Q) (hC : Calm Q) (hS : S w.drew)
    (h : ∀ Q' : Exit → Act → World → Prop, Calm Q' → Shut (∀ a w, Q .normal a w → Q' .normal a w) → S w.drew → wpAnyH P .any ops Q' S ops.size (Array.replicate ops.size false) a w.drew) : (Code.region id ops true).wpIn (Fence.wide.inRound l) n P Q a w :=
  region_round_held S hm hd hq hS (h Q hC (fun _ _ h => h))
theorem take_sp {cs : List Sp} {k : Nat} (h : k < cs.length) : cs.take (k + 1) = cs.take k ++ [pAt cs k] := by
  rw [List.take_succ_eq_append_getElem h, pAt_lt h]
theorem loS_snoc (vs : List Dm) (cs : List Sp) (y : Sp) : loS vs (cs ++ [y]) = loS vs cs + loA vs y := by simp [loS, List.sum_append]
theorem hiS_snoc (vs : List Dm) (cs : List Sp) (y : Sp) : hiS vs (cs ++ [y]) = hiS vs cs + enA vs y := by simp [hiS, List.sum_append]
theorem loA_bounds {vs : List Dm} (h : ∀ j, j < vs.length → vaE (dAt vs j) = 0) {s : Sp} (hk : knS vs.length s = true) : -100000 ≤ loA vs s ∧ loA vs s ≤ 100000 := by
  obtain ⟨h0, h1⟩ := knS_iff.1 hk
  have hb := vaE_bounds (h s.i.toNat (by omega))
  unfold loA; split <;> omega
theorem sums_bounds {vs : List Dm} (h : ∀ j, j < vs.length → vaE (dAt vs j) = 0) {cs : List Sp} (hk : ∀ i, i < cs.length → knS vs.length (pAt cs i) = true) : ∀ k, k ≤ cs.length →
    (-(100000 * (k : Int)) ≤ loS vs (cs.take k) ∧ loS vs (cs.take k) ≤ 100000 * (k : Int)) ∧ (-(100000 * (k : Int)) ≤ hiS vs (cs.take k) ∧ hiS vs (cs.take k) ≤ 100000 * (k : Int))
  | 0, _ => by simp [loS, hiS]
  | k + 1, hl => by
    obtain ⟨h1, h2⟩ := sums_bounds h hk k (by omega)
    have h3 := loA_bounds h (hk k (by omega))
    have h4 := enA_bounds h (hk k (by omega))
    rw [take_sp (by omega), loS_snoc, hiS_snoc]
    omega
/-- The blocks that the iterator reads. -/
def lkBs (Bn : Nat) (ca : Option Addr) (cs : List Sp) : List Nat := Bn :: (if cs.length = 0 then [] else match ca with | some a => [a.block] | none => [])
set_option maxRecDepth 100000 in
set_option maxHeartbeats 8000000 in
theorem bounds_any (ao : Option Addr) (vs : List Dm) (c : Nat) (ca : Option Addr) (cs : List Sp) (cc : Nat) (w : World) (R : Ending → World → Prop) (hl : vs.length ≤ 256) (hcl : cs.length ≤ 256)
   (hc : CellsAt w ao (dC vs)) (hva : ∀ j, j < vs.length → vaE (dAt vs j) = 0) (hcs : CellsAt w ca (pC cs)) (hk : ∀ i, i < cs.length → knS vs.length (pAt cs i) = true) (hR : ∀ w', Below w.heap.size w w' → R (.returned (.agg #[.int .i64 (loS vs cs), .int .i64 (hiS vs cs)])) w') :
    Calls Try.prog 24 #[.agg (wsV ao vs.length c ca cs.length cc)] w R := by
  have HR := Lib.hid hR
  have HC := Lib.hid hc
  have HVA := Lib.hid hva
  have HCS := Lib.hid hcs
  have HK := Lib.hid hk
  have h1 : 1 ≤ 6 := by omega
  obtain ⟨w1, E1, HB1, s1, X1⟩ := box_ex w (wsV ao vs.length c ca cs.length cc) 73
  obtain ⟨w2, E2, HB2, s2, X2⟩ := box_ex w1 #[.int .i64 0, .int .i64 0] 32
  obtain ⟨w3, E3, HB3, s3, X3⟩ := box_ex w2 #[.int .i64 0, .int .i64 0] 32
  have B3 : Hid (Below w.heap.size w w3) := HB1.out.trans ((HB2.out.trans (HB3.out.mono (Nat.le_of_lt s2))).mono (Nat.le_of_lt s1))
  have Y1 := Lib.hid ((HB3.out.block _ (Nat.lt_trans s1 s2)).trans ((HB2.out.block _ s1).trans X1.out))
  have Y2 := Lib.hid ((HB3.out.block _ s2).trans X2.out)
  have E1' := Lib.hid E1
  unfold wsV at E1
  have x0 := cell_of Y1.out (j := 0) (v := .slice ao vs.length c) rfl
  have x1 := cell_of Y1.out (j := 1) (v := .slice ca cs.length cc) rfl
  have x2 := cell_of Y1.out (j := 2) (v := .int .i64 0) rfl
  have x3 := cell_of Y1.out (j := 3) (v := .int .i64 0) rfl
  have x4 := cell_of Y1.out (j := 4) (v := .func (.func 35) #[] #[]) rfl
  have x5 := cell_of Y1.out (j := 5) (v := .func (.func 36) #[] #[]) rfl
  clear hR hc hva hcs hk
  refine (callsIn_wide (n := 6)).1 ?_
  unfold wsV
  refine callsIn_of_wp_marks Try.func24 rfl trivial ?_ rfl
  simp only [Try.ntmps24, List.size_toArray, List.length_cons, List.length_nil, Nat.reduceAdd, Nat.reduceSub, Array.replicate_succ, Array.replicate_zero, List.push_toArray, List.append_toArray, List.nil_append, List.cons_append]
  gi_wp2_with (first | (rw [E1]) | (rw [E2]) | (rw [E3]) | (refine ⟨trivial, ?_⟩; gi_at_call 37; refine (links_in Fence.wide 5 trivial rfl _ _ _ _ _ _ _).mono ?_; rintro e w' ⟨rfl, rfl⟩))
  have B4 : Below w3.heap.size w3 (w3.alloc (.cells (wsV ao vs.length c ca cs.length cc) 73)) := (Below.refl _ _).alloc (Nat.le_refl _) _
  have X4 := World.alloc_heap_new w3 (.cells (wsV ao vs.length c ca cs.length cc) 73)
  have z4 : (w3.alloc (.cells (wsV ao vs.length c ca cs.length cc) 73)).heap.size = w3.heap.size + 1 := by simp
  obtain ⟨w4, E4⟩ : ∃ w4, w3.alloc (.cells (wsV ao vs.length c ca cs.length cc) 73) = w4 := ⟨_, rfl⟩
  rw [E4] at B4 X4 z4 ⊢
  have Y1' := Lib.hid ((B4.block _ (Nat.lt_trans (Nat.lt_trans s1 s2) s3)).trans Y1.out)
  have Y2' := Lib.hid ((B4.block _ (Nat.lt_trans s2 s3)).trans Y2.out)
  have Y3' := Lib.hid ((B4.block _ s3).trans X3.out)
  have B4' : Hid (Below w.heap.size w w4) := B3.out.trans (B4.mono B3.out.size)
  have X4' := Lib.hid X4
  clear E1 E1' E2 E3 E4 X4 B4 x0 x1 x2 x3 x4 x5 HB1 HB2 HB3 X1 X2 X3 Y1 Y2
  have hbsl : ∀ x ∈ lkBs w3.heap.size ca cs, x < w4.heap.size := fun x hx => by
    unfold lkBs at hx
    rcases List.mem_cons.1 hx with rfl | hx
    · omega
    · split at hx
      · cases hx
      · obtain ⟨b, o, e, hb, _⟩ := HCS.out (by rw [pC_length]; omega)
        rw [e] at hx
        have := B4'.out.size
        rw [List.mem_singleton.1 hx]
        show b < w4.heap.size
        omega
  have HBS := Lib.hid hbsl
  have s4w := B4'.out.size
  refine wpIn_rangeFunc_all (xs := List.range cs.length) (bs := lkBs w3.heap.size ca cs) rfl h1 (gf := 53) (lb := #[.pointer (some ⟨w3.heap.size, 0, none⟩)]) rfl trivial (enters_of Try.func53 (by kernel_rfl) rfl)
    (links1_gives Fence.wide 5 trivial rfl (by omega) w3.heap.size _ ao vs.length c ca cs cc w4 (by omega) X4'.out (by unfold lkBs; simp) (HCS.out.below B4'.out) (fun h0 b o e => by unfold lkBs; rw [if_neg (by omega), e]; simp) hbsl) (Below.refl _ _) (fun _ => rfl) hbsl
    (fun pre V => V.heap[w2.heap.size]? = some (.cells #[.int .i64 (loS vs (cs.take pre.length)), .int .i64 (hiS vs (cs.take pre.length))] 32 (0, 0)) ∧ V.heap[w.heap.size]? = some (.cells (wsV ao vs.length c ca cs.length cc) 73 (0, 0)) ∧ V.heap[w1.heap.size]? = some (.cells #[.int .i64 0, .int .i64 0] 32 (0, 0)) ∧ Below w.heap.size w V)
    (fun s A B hs hAB => ⟨(hAB.block _ (by omega)).trans hs.1, (hAB.block _ (by omega)).trans hs.2.1, (hAB.block _ (by omega)).trans hs.2.2.1, hs.2.2.2.trans (hAB.mono (by omega))⟩)
    ⟨Y3'.out, Y1'.out, Y2'.out, B4'.out⟩
    (fun x a' V => a' = { tmps := #[.agg #[.slice ao vs.length c, .slice ca cs.length cc, .int .i64 0, .int .i64 0, .func (.func 35) #[] #[], .func (.func 36) #[] #[]], .pointer (some ⟨w.heap.size, 0, none⟩), .pointer (some ⟨w1.heap.size, 0, none⟩), .pointer (some ⟨w2.heap.size, 0, none⟩), .int .i64 (pAt cs x).i, .int .i64 (sgn (pAt cs x)), undef,
      .agg #[.slice ao vs.length c, .slice ca cs.length cc, .int .i64 0, .int .i64 0, .func (.func 35) #[] #[], .func (.func 36) #[] #[]], .func (.func 53) #[] #[.pointer (some ⟨w3.heap.size, 0, none⟩)], .int .i64 (pAt cs x).i, .int .i64 (sgn (pAt cs x)), undef, undef, undef, undef, undef, undef, undef, undef, undef, undef, undef, undef, undef, undef, undef, undef, undef, undef, undef, undef, undef, undef, undef, undef, undef, undef, undef, undef, undef, undef, undef, undef], defers := [] })
    (by rintro x a' V l' r o hl' h3; exact h3) ?assign ?body ?done
  case assign =>
    rintro l' pre x V K hi hsz hpre hK
    unfold lkEnc
    gi_wp2
    exact hK _ _ (Below.refl _ V) rfl
  case done =>
    rintro D V hD ⟨hr, ho, hres, hb⟩ hK
    rw [List.length_range, List.take_length] at hr
    have r0 := cell_of hr (j := 0) rfl
    have r1 := cell_of hr (j := 1) rfl
    have q0 := cell_of hres (j := 0) rfl
    have q1 := cell_of hres (j := 1) rfl
    have g0 := frozen_of hres 0
    have g1 := frozen_of hres 1
    have HB := Lib.hid hb
    have HRes := Lib.hid hres
    have HKK := Lib.hid hK
    clear hr ho hres hb hK
    gi_wp2
    have W6 := heap_setCell_same _ w1.heap.size 1 _ _ (.int .i64 (hiS vs cs)) (heap_setCell_same V w1.heap.size 0 _ _ (.int .i64 (loS vs cs)) HRes.out)
    have hD1 : D ≠ w1.heap.size := by omega
    have k9 := (Below.heap_setCell (V.setCell ⟨w1.heap.size, 0, none⟩ (.int .i64 (loS vs cs))) ⟨w1.heap.size, 1, none⟩ (.int .i64 (hiS vs cs)) D hD1).trans ((Below.heap_setCell V ⟨w1.heap.size, 0, none⟩ (.int .i64 (loS vs cs)) D hD1).trans HKK.out)
    have B9 : Below w.heap.size w ((V.setCell ⟨w1.heap.size, 0, none⟩ (.int .i64 (loS vs cs))).setCell ⟨w1.heap.size, 1, none⟩ (.int .i64 (hiS vs cs))) := (HB.out.setCell (p := ⟨w1.heap.size, 0, none⟩) (Nat.le_of_lt s1) _).setCell (p := ⟨w1.heap.size, 1, none⟩) (Nat.le_of_lt s1) _
    revert W6 k9 B9
    generalize ((V.setCell ⟨w1.heap.size, 0, none⟩ (.int .i64 (loS vs cs))).setCell ⟨w1.heap.size, 1, none⟩ (.int .i64 (hiS vs cs))) = V9
    intro W6 k9 B9
    refine leaves_marks (v := .agg #[.int .i64 (loS vs cs), .int .i64 (hiS vs cs)]) (B := w1.heap.size + 1) [D] V9 ⟨by simp, fun x hx => by obtain rfl : x = D := by simpa using hx
                                                                                                                                            omega, fun x hx => by obtain rfl : x = D := by simpa using hx
                                                                                                                                                                  exact k9⟩ (fun w' hw => ?_) (fun w' hw => HR.out _ (B9.trans (hw.mono (by omega))))
    have W7 := (hw.block w1.heap.size (Nat.lt_succ_self _)).trans W6
    have y0 := cell_of W7 (j := 0) (v := .int .i64 (loS vs cs)) rfl
    have y1 := cell_of W7 (j := 1) (v := .int .i64 (hiS vs cs)) rfl
    simp [results, Try.results24, go_sem, y0, y1]
  case body =>
    rintro l' pre x a' Vr ⟨ho, hw, hres, hb⟩ rfl hsz hpre
    obtain ⟨hlt, _, rfl⟩ := range_at hpre
    obtain ⟨k, hk⟩ : ∃ k, pre.length = k := ⟨_, rfl⟩
    have hkn := HK.out pre.length hlt
    obtain ⟨bp, op, rfl, hbp, _⟩ := HCS.out.sps (by omega)
    have hsum := sums_bounds HVA.out HK.out pre.length (Nat.le_of_lt hlt)
    have hlA := loA_bounds HVA.out hkn
    have hlB := enA_bounds HVA.out hkn
    have hsucc := take_sp hlt
    have hl1 := loS_snoc vs (cs.take pre.length) (pAt cs pre.length)
    have hl2 := hiS_snoc vs (cs.take pre.length) (pAt cs pre.length)
    rw [← hsucc] at hl1 hl2
    have hlen : (pre ++ [pre.length]).length = pre.length + 1 := by simp
    have HLEN := Lib.hid hlen
    obtain ⟨hn0, hn1⟩ := knS_iff.1 hkn
    obtain ⟨n, hn⟩ : ∃ n : Nat, (pAt cs pre.length).i = n := ⟨_, (Int.toNat_of_nonneg hn0).symm⟩
    have hnv : n < vs.length := by omega
    obtain ⟨bl, ol, rfl, hbl, hdc⟩ := HC.out.dms (by omega)
    obtain ⟨_, _, _, c3, c4⟩ := hdc n hnv
    have d3 := cellB hb c3 hbl
    have d4 := cellB hb c4 hbl
    have hloA : loA vs (pAt cs pre.length) = if (pAt cs pre.length).b = true then -(dAt vs n).h else (dAt vs n).l := by unfold loA; rw [hn, Int.toNat_natCast]
    have henA : enA vs (pAt cs pre.length) = if (pAt cs pre.length).b = true then -(dAt vs n).l else (dAt vs n).h := by unfold enA; rw [hn, Int.toNat_natCast]
    have hvb := vaE_bounds (HVA.out n hnv)
    obtain ⟨L, hL⟩ : ∃ L, (dAt vs n).l = L := ⟨_, rfl⟩
    obtain ⟨H, hH⟩ : ∃ H, (dAt vs n).h = H := ⟨_, rfl⟩
    rw [hL] at d3 hloA henA hvb
    rw [hH] at d4 hloA henA hvb
    obtain ⟨sg, hsg⟩ : ∃ sg, sgn (pAt cs pre.length) = sg := ⟨_, rfl⟩
    obtain ⟨v1, hv1⟩ : ∃ v1, (if sg < 0 then H else L) = v1 := ⟨_, rfl⟩
    obtain ⟨v2, hv2⟩ : ∃ v2, (if -sg < 0 then H else L) = v2 := ⟨_, rfl⟩
    obtain ⟨V1, hV1'⟩ : ∃ V1, loA vs (pAt cs pre.length) = V1 := ⟨_, rfl⟩
    obtain ⟨V2, hV2'⟩ : ∃ V2, enA vs (pAt cs pre.length) = V2 := ⟨_, rfl⟩
    obtain ⟨A, hA⟩ : ∃ A, loS vs (cs.take pre.length) = A := ⟨_, rfl⟩
    obtain ⟨B, hB⟩ : ∃ B, hiS vs (cs.take pre.length) = B := ⟨_, rfl⟩
    have hsgc : (sg = 1 ∧ V1 = v1 ∧ V2 = v2) ∨ (sg = -1 ∧ V1 = -v1 ∧ V2 = -v2) := by
      unfold sgn at hsg
      rw [hV1'] at hloA
      rw [hV2'] at henA
      cases hbk : (pAt cs pre.length).b with
      | true =>
        rw [hbk, if_pos rfl] at hsg hloA henA
        subst hsg
        rw [if_pos (by omega)] at hv1
        rw [if_neg (by omega)] at hv2
        exact .inr ⟨rfl, by omega, by omega⟩
      | false =>
        rw [hbk, if_neg (by simp)] at hsg hloA henA
        subst hsg
        rw [if_neg (by omega)] at hv1
        rw [if_pos (by omega)] at hv2
        exact .inl ⟨rfl, by omega, by omega⟩
    rw [hV1'] at hl1 hlA
    rw [hV2'] at hl2 hlB
    rw [hA] at ho hl1 hsum
    rw [hB] at ho hl2 hsum
    have hws : IntKind.i64.wrap (-sg) = -sg := by rw [IntKind.wrap_i64]; omega
    have hm1 : sg * v1 = V1 := by rcases hsgc with ⟨e1, e2, _⟩ | ⟨e1, e2, _⟩ <;> subst e1 <;> omega
    have hm2 : sg * v2 = V2 := by rcases hsgc with ⟨e1, _, e2⟩ | ⟨e1, _, e2⟩ <;> subst e1 <;> omega
    have hq1 : IntKind.i64.wrap (sg * v1) = V1 := by rw [hm1, IntKind.wrap_i64]; omega
    have hq2 : IntKind.i64.wrap (sg * v2) = V2 := by rw [hm2, IntKind.wrap_i64]; omega
    have hq3 : IntKind.i64.wrap (A + V1) = A + V1 := by rw [IntKind.wrap_i64]; omega
    have hq4 : IntKind.i64.wrap (B + V2) = B + V2 := by rw [IntKind.wrap_i64]; omega
    have hV1 := Lib.hid hv1
    have hV2 := Lib.hid hv2
    have HL1 := Lib.hid hl1
    have HL2 := Lib.hid hl2
    rw [hn, hsg]
    have HO := Lib.hid ho
    have HW := Lib.hid hw
    have HRES := Lib.hid hres
    have HB := Lib.hid hb
    obtain ⟨V, E5, U5, s5, X5⟩ := box_ex Vr #[.int .i64 L, .int .i64 H] 32
    have x0 := cell_of hw (j := 0) (v := .slice (some ⟨bl, ol, none⟩) vs.length c) rfl
    have sb := hb.size
    clear hdc c3 c4 hloA henA hL hH hsg hv1 hv2 hV1' hV2' hA hB hsgc hlA hlB hl1 hl2 hsucc hlen hn hn0 hn1 hkn ho hw hres hb hm1 hm2 hvb hsum hpre hk
    gi_wp2_with (rw [E5])
    have XO := Lib.hid ((U5.out.block _ (by omega)).trans HO.out)
    have XW := (U5.out.block w.heap.size (by omega)).trans HW.out
    obtain ⟨Bl, hBlq⟩ : ∃ Bl, Vr.heap.size = Bl := ⟨_, rfl⟩
    rw [hBlq] at X5 s5 ⊢
    have d0 : V.drew.cell? ⟨w2.heap.size, 0, none⟩ = some (.int .i64 A) := cell_of XO.out (j := 0) rfl
    have d1 : V.drew.cell? ⟨w.heap.size, 4, none⟩ = some (.func (.func 35) #[] #[]) := cell_of XW (j := 4) rfl
    have d2 : V.drew.cell? ⟨Bl, 0, none⟩ = some (.int .i64 L) := cell_of X5.out (j := 0) rfl
    have d3 : V.drew.cell? ⟨Bl, 1, none⟩ = some (.int .i64 H) := cell_of X5.out (j := 1) rfl
    have g0 : V.drew.frozen? ⟨w2.heap.size, 0, none⟩ = false := frozen_of XO.out 0
    have h2V : w2.heap.size < V.drew.heap.size := by show w2.heap.size < V.heap.size; omega
    have hwV : w.heap.size < V.drew.heap.size := by show w.heap.size < V.heap.size; omega
    have hBl : Bl < V.drew.heap.size := s5
    have XW' := Lib.hid XW
    clear XW
    have BD : Hid (Below V.heap.size V V.drew) := (Below.refl _ _).drew
    refine regionQr (fun w' => w'.cell? ⟨w.heap.size, 4, none⟩ = some (.func (.func 35) #[] #[]) ∧ w'.cell? ⟨Bl, 0, none⟩ = some (.int .i64 L) ∧ w'.cell? ⟨Bl, 1, none⟩ = some (.int .i64 H)) (by kernel_rfl) (by kernel_rfl) (fun ⟨_, _, h⟩ => h) (fun _ _ _ _ h => h) (⟨d1, d2, d3⟩) (fun Qn hPQ hQn hS0 => ?_)
    refine takeQ (i := 0) (d := some 18) (v := ?_) rfl rfl (by kernel_rfl) (by kernel_rfl) (by kernel_rfl) hPQ hS0 (by kernel_rfl) ?_ ?_
    rotate_left
    · (intro w hSw; (try dsimp only at hSw); obtain ⟨k0, k1, k2⟩ := hSw; go_simp; (try with_reducible rfl))
    (try simp only [Act.put, List.setIfInBounds_toArray, List.set_cons_zero, List.set_cons_succ])
    refine takeQ (i := 2) (d := some 20) (v := ?_) rfl rfl (by kernel_rfl) (by kernel_rfl) (by kernel_rfl) hPQ hS0 (by kernel_rfl) ?_ ?_
    rotate_left
    · (intro w hSw; (try dsimp only at hSw); obtain ⟨k0, k1, k2⟩ := hSw; go_simp; (try with_reducible rfl))
    (try simp only [Act.put, List.setIfInBounds_toArray, List.set_cons_zero, List.set_cons_succ])
    refine takeQ (i := 3) (d := some 21) (v := ?_) rfl rfl (by kernel_rfl) (by kernel_rfl) (by kernel_rfl) hPQ hS0 (by kernel_rfl) ?_ ?_
    rotate_left
    · (intro w hSw; (try dsimp only at hSw); obtain ⟨k0, k1, k2⟩ := hSw; go_simp; (try with_reducible rfl))
    (try simp only [Act.put, List.setIfInBounds_toArray, List.set_cons_zero, List.set_cons_succ])
    refine takeQ (i := 4) (d := some 22) (v := ?_) rfl rfl (by kernel_rfl) (by kernel_rfl) (by kernel_rfl) hPQ hS0 (by kernel_rfl) ?_ ?_
    rotate_left
    · (intro w hSw; (try dsimp only at hSw); obtain ⟨k0, k1, k2⟩ := hSw; go_simp; (try with_reducible rfl))
    (try simp only [Act.put, List.setIfInBounds_toArray, List.set_cons_zero, List.set_cons_succ])
    refine takeQ (i := 5) (d := some 23) (v := ?_) rfl rfl (by kernel_rfl) (by kernel_rfl) (by kernel_rfl) hPQ hS0 (by kernel_rfl) ?_ ?_
    rotate_left
    · (intro w hSw; (try dsimp only at hSw); obtain ⟨k0, k1, k2⟩ := hSw; go_simp; (try with_reducible rfl))
    (try simp only [Act.put, List.setIfInBounds_toArray, List.set_cons_zero, List.set_cons_succ])
    refine takeQ (i := 6) (d := some 24) (v := ?_) rfl rfl (by kernel_rfl) (by kernel_rfl) (by kernel_rfl) hPQ hS0 (by kernel_rfl) ?_ ?_
    rotate_left
    · (intro w hSw; (try dsimp only at hSw); obtain ⟨k0, k1, k2⟩ := hSw; go_simp; (try with_reducible rfl))
    (try simp only [Act.put, List.setIfInBounds_toArray, List.set_cons_zero, List.set_cons_succ])
    refine takeQ (i := 7) (d := some 25) (v := ?_) rfl rfl (by kernel_rfl) (by kernel_rfl) (by kernel_rfl) hPQ hS0 (by kernel_rfl) ?_ ?_
    rotate_left
    · (intro w hSw; (try dsimp only at hSw); obtain ⟨k0, k1, k2⟩ := hSw; go_simp; (try with_reducible rfl))
    (try simp only [Act.put, List.setIfInBounds_toArray, List.set_cons_zero, List.set_cons_succ])
    refine wpAnyH_ready (rs := [1, 8]) (by kernel_rfl) (by simp) ?_
    refine AllReadyH.cons (o := _) rfl (fun K hK => ?_) (AllReadyH.cons (o := _) rfl (fun K hK => ?_) AllReadyH.nil)
    go_simp
    refine hK.out _ _ (⟨d1, d2, d3⟩) (fun hS1 => ?_)
    clear hK K hS0
    (try simp only [Act.put, List.setIfInBounds_toArray, List.set_cons_zero, List.set_cons_succ])
    refine wpAnyH_ready (rs := [8]) (by kernel_rfl) (by simp) ?_
    refine AllReadyH.cons (o := _) rfl (fun K hK => ?_) AllReadyH.nil
    go_simp
    refine low_any _ _ _ _ _ fun w8 hb => ?_
    have B8 : Hid (Below V.heap.size V w8) := BD.out.trans hb
    have e1 := cellB B8.out d1 hwV
    have e2 := cellB B8.out d2 hBl
    have e3 := cellB B8.out d3 hBl
    have X8 := (B8.out.block _ h2V).trans XO.out
    have r8 := cell_of X8 (j := 0) (v := .int .i64 A) rfl
    have f8 := frozen_of X8 0
    have XX8 := Lib.hid X8
    clear hb X8
    rw [hV1.out]
    refine hK.out _ _ (⟨e1, e2, e3⟩) (fun hS2 => ?_)
    clear hK K hS1
    (try simp only [Act.put, List.setIfInBounds_toArray, List.set_cons_zero, List.set_cons_succ])
    refine takeQ (i := 9) (d := some 27) (v := ?_) rfl rfl (by kernel_rfl) (by kernel_rfl) (by kernel_rfl) hPQ hS2 (by kernel_rfl) ?_ ?_
    rotate_left
    · (intro w hSw; (try dsimp only at hSw); obtain ⟨k0, k1, k2⟩ := hSw; go_simp; (try with_reducible rfl))
    (try simp only [Act.put, List.setIfInBounds_toArray, List.set_cons_zero, List.set_cons_succ])
    refine takeQ (i := 10) (d := some 28) (v := ?_) rfl rfl (by kernel_rfl) (by kernel_rfl) (by kernel_rfl) hPQ hS2 (by kernel_rfl) ?_ ?_
    rotate_left
    · (intro w hSw; (try dsimp only at hSw); obtain ⟨k0, k1, k2⟩ := hSw; go_simp; (try with_reducible rfl))
    (try simp only [Act.put, List.setIfInBounds_toArray, List.set_cons_zero, List.set_cons_succ])
    refine takeQ (i := 11) (d := some 29) (v := ?_) rfl rfl (by kernel_rfl) (by kernel_rfl) (by kernel_rfl) hPQ hS2 (by kernel_rfl) ?_ ?_
    rotate_left
    · (intro w hSw; (try dsimp only at hSw); obtain ⟨k0, k1, k2⟩ := hSw; go_simp; (try with_reducible rfl))
    (try simp only [Act.put, List.setIfInBounds_toArray, List.set_cons_zero, List.set_cons_succ])
    refine wpAnyH_ready (rs := [12]) (by kernel_rfl) (by simp) ?_
    refine AllReadyH.cons (o := _) rfl (fun K hK => ?_) AllReadyH.nil
    go_simp
    have n1 := (World.cell?_of_block (a := ⟨w.heap.size, 4, none⟩) (Below.heap_setCell w8 ⟨w2.heap.size, 0, none⟩ (.int .i64 (A + V1)) w.heap.size (by show w.heap.size ≠ w2.heap.size; omega))).trans e1
    have n2 := (World.cell?_of_block (a := ⟨Bl, 0, none⟩) (Below.heap_setCell w8 ⟨w2.heap.size, 0, none⟩ (.int .i64 (A + V1)) Bl (by show Bl ≠ w2.heap.size; omega))).trans e2
    have n3 := (World.cell?_of_block (a := ⟨Bl, 1, none⟩) (Below.heap_setCell w8 ⟨w2.heap.size, 0, none⟩ (.int .i64 (A + V1)) Bl (by show Bl ≠ w2.heap.size; omega))).trans e3
    refine hK.out _ _ (⟨n1, n2, n3⟩) (fun hS3 => ?_)
    clear hK K hS2
    (try simp only [Act.put, List.setIfInBounds_toArray, List.set_cons_zero, List.set_cons_succ])
    refine wpAnyH_done (by kernel_rfl) (hQn.out _ _ ?_) _
    clear hS3 hPQ hQn Qn
    rotate_left
    go_simp
    refine low_any _ _ _ _ _ fun w8 hb => ?_
    have B8 : Hid (Below V.heap.size V w8) := BD.out.trans hb
    have e1 := cellB B8.out d1 hwV
    have e2 := cellB B8.out d2 hBl
    have e3 := cellB B8.out d3 hBl
    have X8 := (B8.out.block _ h2V).trans XO.out
    have r8 := cell_of X8 (j := 0) (v := .int .i64 A) rfl
    have f8 := frozen_of X8 0
    have XX8 := Lib.hid X8
    clear hb X8
    rw [hV1.out]
    refine hK.out _ _ (⟨e1, e2, e3⟩) (fun hS1 => ?_)
    clear hK K hS0
    (try simp only [Act.put, List.setIfInBounds_toArray, List.set_cons_zero, List.set_cons_succ])
    refine takeQ (i := 9) (d := some 27) (v := ?_) rfl rfl (by kernel_rfl) (by kernel_rfl) (by kernel_rfl) hPQ hS1 (by kernel_rfl) ?_ ?_
    rotate_left
    · (intro w hSw; (try dsimp only at hSw); obtain ⟨k0, k1, k2⟩ := hSw; go_simp; (try with_reducible rfl))
    (try simp only [Act.put, List.setIfInBounds_toArray, List.set_cons_zero, List.set_cons_succ])
    refine wpAnyH_ready (rs := [1]) (by kernel_rfl) (by simp) ?_
    refine AllReadyH.cons (o := _) rfl (fun K hK => ?_) AllReadyH.nil
    go_simp
    refine hK.out _ _ (⟨e1, e2, e3⟩) (fun hS2 => ?_)
    clear hK K hS1
    (try simp only [Act.put, List.setIfInBounds_toArray, List.set_cons_zero, List.set_cons_succ])
    refine takeQ (i := 10) (d := some 28) (v := ?_) rfl rfl (by kernel_rfl) (by kernel_rfl) (by kernel_rfl) hPQ hS2 (by kernel_rfl) ?_ ?_
    rotate_left
    · (intro w hSw; (try dsimp only at hSw); obtain ⟨k0, k1, k2⟩ := hSw; go_simp; (try with_reducible rfl))
    (try simp only [Act.put, List.setIfInBounds_toArray, List.set_cons_zero, List.set_cons_succ])
    refine takeQ (i := 11) (d := some 29) (v := ?_) rfl rfl (by kernel_rfl) (by kernel_rfl) (by kernel_rfl) hPQ hS2 (by kernel_rfl) ?_ ?_
    rotate_left
    · (intro w hSw; (try dsimp only at hSw); obtain ⟨k0, k1, k2⟩ := hSw; go_simp; (try with_reducible rfl))
    (try simp only [Act.put, List.setIfInBounds_toArray, List.set_cons_zero, List.set_cons_succ])
    refine wpAnyH_ready (rs := [12]) (by kernel_rfl) (by simp) ?_
    refine AllReadyH.cons (o := _) rfl (fun K hK => ?_) AllReadyH.nil
    go_simp
    have n1 := (World.cell?_of_block (a := ⟨w.heap.size, 4, none⟩) (Below.heap_setCell w8 ⟨w2.heap.size, 0, none⟩ (.int .i64 (A + V1)) w.heap.size (by show w.heap.size ≠ w2.heap.size; omega))).trans e1
    have n2 := (World.cell?_of_block (a := ⟨Bl, 0, none⟩) (Below.heap_setCell w8 ⟨w2.heap.size, 0, none⟩ (.int .i64 (A + V1)) Bl (by show Bl ≠ w2.heap.size; omega))).trans e2
    have n3 := (World.cell?_of_block (a := ⟨Bl, 1, none⟩) (Below.heap_setCell w8 ⟨w2.heap.size, 0, none⟩ (.int .i64 (A + V1)) Bl (by show Bl ≠ w2.heap.size; omega))).trans e3
    refine hK.out _ _ (⟨n1, n2, n3⟩) (fun hS3 => ?_)
    clear hK K hS2
    (try simp only [Act.put, List.setIfInBounds_toArray, List.set_cons_zero, List.set_cons_succ])
    refine wpAnyH_done (by kernel_rfl) (hQn.out _ _ ?_) _
    clear hS3 hPQ hQn Qn
    rotate_left
    all_goals
      have hs8 := B8.out.size
      have B9 : Hid (∀ j, j < Vr.heap.size → j ≠ w2.heap.size → (w8.setCell ⟨w2.heap.size, 0, none⟩ (.int .i64 (A + V1))).heap[j]? = Vr.heap[j]?) := fun j hj hne => (Below.heap_setCell _ _ _ _ hne).trans ((B8.out.block j (by omega)).trans (U5.out.block j hj))
      have XO9 := Lib.hid (heap_setCell_same w8 w2.heap.size 0 _ _ (.int .i64 (A + V1)) XX8.out)
      have KU9 : Hid (KeepsUp w4.heap.size Vr (w8.setCell ⟨w2.heap.size, 0, none⟩ (.int .i64 (A + V1)))) := ((KeepsUp.below U5.out (Nat.le_refl _)).trans (KeepsUp.below B8.out (Nat.le_refl _))).setCell (.inl (by show w2.heap.size < w4.heap.size; omega)) _
      have BB9 : Hid (Below w.heap.size w (w8.setCell ⟨w2.heap.size, 0, none⟩ (.int .i64 (A + V1)))) := ((HB.out.trans (U5.out.mono sb)).trans (B8.out.mono (by omega))).setCell (p := ⟨w2.heap.size, 0, none⟩) (by show w.heap.size ≤ w2.heap.size; omega) _
      have XL9 := Lib.hid ((Below.heap_setCell w8 ⟨w2.heap.size, 0, none⟩ (.int .i64 (A + V1)) Bl (by show Bl ≠ w2.heap.size; omega)).trans ((B8.out.block Bl s5).trans X5.out))
      have XW9 := Lib.hid ((B9.out w.heap.size (by omega) (by omega)).trans HW.out)
      have sz9 : (w8.setCell ⟨w2.heap.size, 0, none⟩ (.int .i64 (A + V1))).heap.size = w8.heap.size := by simp [World.setCell]
      obtain ⟨V9, hV9⟩ : ∃ V9, w8.setCell ⟨w2.heap.size, 0, none⟩ (.int .i64 (A + V1)) = V9 := ⟨_, rfl⟩
      rw [hV9] at B9 XO9 KU9 BB9 XL9 XW9 sz9 ⊢
      clear d0 d1 d2 d3 g0 e1 e2 e3 r8 f8 n1 n2 n3 h2V hwV hBl XX8 XO hV9 BD
      gi_wp2
      have d0 : V9.drew.cell? ⟨w2.heap.size, 1, none⟩ = some (.int .i64 B) := cell_of XO9.out (j := 1) rfl
      have d1 : V9.drew.cell? ⟨w.heap.size, 5, none⟩ = some (.func (.func 36) #[] #[]) := cell_of XW9.out (j := 5) rfl
      have d2 : V9.drew.cell? ⟨Bl, 0, none⟩ = some (.int .i64 L) := cell_of XL9.out (j := 0) rfl
      have d3 : V9.drew.cell? ⟨Bl, 1, none⟩ = some (.int .i64 H) := cell_of XL9.out (j := 1) rfl
      have g0 : V9.drew.frozen? ⟨w2.heap.size, 1, none⟩ = false := frozen_of XO9.out 1
      have h2V : w2.heap.size < V9.drew.heap.size := by show w2.heap.size < V9.heap.size; omega
      have hwV : w.heap.size < V9.drew.heap.size := by show w.heap.size < V9.heap.size; omega
      have hBl : Bl < V9.drew.heap.size := by show Bl < V9.heap.size; omega
      have sz9' : Bl < V9.heap.size := by omega
      clear sz9 B8 hs8 w8
      have BD : Hid (Below V9.heap.size V9 V9.drew) := (Below.refl _ _).drew
      refine regionQr (fun w' => w'.cell? ⟨w.heap.size, 5, none⟩ = some (.func (.func 36) #[] #[]) ∧ w'.cell? ⟨Bl, 0, none⟩ = some (.int .i64 L) ∧ w'.cell? ⟨Bl, 1, none⟩ = some (.int .i64 H)) (by kernel_rfl) (by kernel_rfl) (fun ⟨_, _, h⟩ => h) (fun _ _ _ _ h => h) (⟨d1, d2, d3⟩) (fun Qn hPQ hQn hS0 => ?_)
      refine takeQ (i := 0) (d := some 30) (v := ?_) rfl rfl (by kernel_rfl) (by kernel_rfl) (by kernel_rfl) hPQ hS0 (by kernel_rfl) ?_ ?_
      rotate_left
      · (intro w hSw; (try dsimp only at hSw); obtain ⟨k0, k1, k2⟩ := hSw; go_simp; (try with_reducible rfl))
      (try simp only [Act.put, List.setIfInBounds_toArray, List.set_cons_zero, List.set_cons_succ])
      refine takeQ (i := 2) (d := some 32) (v := ?_) rfl rfl (by kernel_rfl) (by kernel_rfl) (by kernel_rfl) hPQ hS0 (by kernel_rfl) ?_ ?_
      rotate_left
      · (intro w hSw; (try dsimp only at hSw); obtain ⟨k0, k1, k2⟩ := hSw; go_simp; (try with_reducible rfl))
      (try simp only [Act.put, List.setIfInBounds_toArray, List.set_cons_zero, List.set_cons_succ])
      refine takeQ (i := 3) (d := some 33) (v := ?_) rfl rfl (by kernel_rfl) (by kernel_rfl) (by kernel_rfl) hPQ hS0 (by kernel_rfl) ?_ ?_
      rotate_left
      · (intro w hSw; (try dsimp only at hSw); obtain ⟨k0, k1, k2⟩ := hSw; go_simp; (try with_reducible rfl))
      (try simp only [Act.put, List.setIfInBounds_toArray, List.set_cons_zero, List.set_cons_succ])
      refine takeQ (i := 4) (d := some 34) (v := ?_) rfl rfl (by kernel_rfl) (by kernel_rfl) (by kernel_rfl) hPQ hS0 (by kernel_rfl) ?_ ?_
      rotate_left
      · (intro w hSw; (try dsimp only at hSw); obtain ⟨k0, k1, k2⟩ := hSw; go_simp; (try with_reducible rfl))
      (try simp only [Act.put, List.setIfInBounds_toArray, List.set_cons_zero, List.set_cons_succ])
      refine takeQ (i := 5) (d := some 35) (v := ?_) rfl rfl (by kernel_rfl) (by kernel_rfl) (by kernel_rfl) hPQ hS0 (by kernel_rfl) ?_ ?_
      rotate_left
      · (intro w hSw; (try dsimp only at hSw); obtain ⟨k0, k1, k2⟩ := hSw; go_simp; (try with_reducible rfl))
      (try simp only [Act.put, List.setIfInBounds_toArray, List.set_cons_zero, List.set_cons_succ])
      refine takeQ (i := 6) (d := some 36) (v := ?_) rfl rfl (by kernel_rfl) (by kernel_rfl) (by kernel_rfl) hPQ hS0 (by kernel_rfl) ?_ ?_
      rotate_left
      · (intro w hSw; (try dsimp only at hSw); obtain ⟨k0, k1, k2⟩ := hSw; go_simp; (try with_reducible rfl))
      (try simp only [Act.put, List.setIfInBounds_toArray, List.set_cons_zero, List.set_cons_succ])
      refine takeQ (i := 7) (d := some 37) (v := ?_) rfl rfl (by kernel_rfl) (by kernel_rfl) (by kernel_rfl) hPQ hS0 (by kernel_rfl) ?_ ?_
      rotate_left
      · (intro w hSw; (try dsimp only at hSw); obtain ⟨k0, k1, k2⟩ := hSw; go_simp; (try with_reducible rfl))
      (try simp only [Act.put, List.setIfInBounds_toArray, List.set_cons_zero, List.set_cons_succ])
      refine wpAnyH_ready (rs := [1, 8]) (by kernel_rfl) (by simp) ?_
      refine AllReadyH.cons (o := _) rfl (fun K hK => ?_) (AllReadyH.cons (o := _) rfl (fun K hK => ?_) AllReadyH.nil)
      go_simp
      refine hK.out _ _ (⟨d1, d2, d3⟩) (fun hS1 => ?_)
      clear hK K hS0
      (try simp only [Act.put, List.setIfInBounds_toArray, List.set_cons_zero, List.set_cons_succ])
      refine wpAnyH_ready (rs := [8]) (by kernel_rfl) (by simp) ?_
      refine AllReadyH.cons (o := _) rfl (fun K hK => ?_) AllReadyH.nil
      go_simp
      refine high_any _ _ _ _ _ hws fun w8 hb => ?_
      have B8 : Hid (Below V9.heap.size V9 w8) := BD.out.trans hb
      have e1 := cellB B8.out d1 hwV
      have e2 := cellB B8.out d2 hBl
      have e3 := cellB B8.out d3 hBl
      have X8 := (B8.out.block _ h2V).trans XO9.out
      have r8 := cell_of X8 (j := 1) (v := .int .i64 B) rfl
      have f8 := frozen_of X8 1
      have XX8 := Lib.hid X8
      clear hb X8
      rw [hV2.out]
      refine hK.out _ _ (⟨e1, e2, e3⟩) (fun hS2 => ?_)
      clear hK K hS1
      (try simp only [Act.put, List.setIfInBounds_toArray, List.set_cons_zero, List.set_cons_succ])
      refine takeQ (i := 9) (d := some 39) (v := ?_) rfl rfl (by kernel_rfl) (by kernel_rfl) (by kernel_rfl) hPQ hS2 (by kernel_rfl) ?_ ?_
      rotate_left
      · (intro w hSw; (try dsimp only at hSw); obtain ⟨k0, k1, k2⟩ := hSw; go_simp; (try with_reducible rfl))
      (try simp only [Act.put, List.setIfInBounds_toArray, List.set_cons_zero, List.set_cons_succ])
      refine takeQ (i := 10) (d := some 40) (v := ?_) rfl rfl (by kernel_rfl) (by kernel_rfl) (by kernel_rfl) hPQ hS2 (by kernel_rfl) ?_ ?_
      rotate_left
      · (intro w hSw; (try dsimp only at hSw); obtain ⟨k0, k1, k2⟩ := hSw; go_simp; (try with_reducible rfl))
      (try simp only [Act.put, List.setIfInBounds_toArray, List.set_cons_zero, List.set_cons_succ])
      refine takeQ (i := 11) (d := some 41) (v := ?_) rfl rfl (by kernel_rfl) (by kernel_rfl) (by kernel_rfl) hPQ hS2 (by kernel_rfl) ?_ ?_
      rotate_left
      · (intro w hSw; (try dsimp only at hSw); obtain ⟨k0, k1, k2⟩ := hSw; go_simp; (try with_reducible rfl))
      (try simp only [Act.put, List.setIfInBounds_toArray, List.set_cons_zero, List.set_cons_succ])
      refine wpAnyH_ready (rs := [12]) (by kernel_rfl) (by simp) ?_
      refine AllReadyH.cons (o := _) rfl (fun K hK => ?_) AllReadyH.nil
      go_simp
      have n1 := (World.cell?_of_block (a := ⟨w.heap.size, 5, none⟩) (Below.heap_setCell w8 ⟨w2.heap.size, 1, none⟩ (.int .i64 (B + V2)) w.heap.size (by show w.heap.size ≠ w2.heap.size; omega))).trans e1
      have n2 := (World.cell?_of_block (a := ⟨Bl, 0, none⟩) (Below.heap_setCell w8 ⟨w2.heap.size, 1, none⟩ (.int .i64 (B + V2)) Bl (by show Bl ≠ w2.heap.size; omega))).trans e2
      have n3 := (World.cell?_of_block (a := ⟨Bl, 1, none⟩) (Below.heap_setCell w8 ⟨w2.heap.size, 1, none⟩ (.int .i64 (B + V2)) Bl (by show Bl ≠ w2.heap.size; omega))).trans e3
      refine hK.out _ _ (⟨n1, n2, n3⟩) (fun hS3 => ?_)
      clear hK K hS2
      (try simp only [Act.put, List.setIfInBounds_toArray, List.set_cons_zero, List.set_cons_succ])
      refine wpAnyH_done (by kernel_rfl) (hQn.out _ _ ?_) _
      clear hS3 hPQ hQn Qn
      rotate_left
      go_simp
      refine high_any _ _ _ _ _ hws fun w8 hb => ?_
      have B8 : Hid (Below V9.heap.size V9 w8) := BD.out.trans hb
      have e1 := cellB B8.out d1 hwV
      have e2 := cellB B8.out d2 hBl
      have e3 := cellB B8.out d3 hBl
      have X8 := (B8.out.block _ h2V).trans XO9.out
      have r8 := cell_of X8 (j := 1) (v := .int .i64 B) rfl
      have f8 := frozen_of X8 1
      have XX8 := Lib.hid X8
      clear hb X8
      rw [hV2.out]
      refine hK.out _ _ (⟨e1, e2, e3⟩) (fun hS1 => ?_)
      clear hK K hS0
      (try simp only [Act.put, List.setIfInBounds_toArray, List.set_cons_zero, List.set_cons_succ])
      refine takeQ (i := 9) (d := some 39) (v := ?_) rfl rfl (by kernel_rfl) (by kernel_rfl) (by kernel_rfl) hPQ hS1 (by kernel_rfl) ?_ ?_
      rotate_left
      · (intro w hSw; (try dsimp only at hSw); obtain ⟨k0, k1, k2⟩ := hSw; go_simp; (try with_reducible rfl))
      (try simp only [Act.put, List.setIfInBounds_toArray, List.set_cons_zero, List.set_cons_succ])
      refine wpAnyH_ready (rs := [1]) (by kernel_rfl) (by simp) ?_
      refine AllReadyH.cons (o := _) rfl (fun K hK => ?_) AllReadyH.nil
      go_simp
      refine hK.out _ _ (⟨e1, e2, e3⟩) (fun hS2 => ?_)
      clear hK K hS1
      (try simp only [Act.put, List.setIfInBounds_toArray, List.set_cons_zero, List.set_cons_succ])
      refine takeQ (i := 10) (d := some 40) (v := ?_) rfl rfl (by kernel_rfl) (by kernel_rfl) (by kernel_rfl) hPQ hS2 (by kernel_rfl) ?_ ?_
      rotate_left
      · (intro w hSw; (try dsimp only at hSw); obtain ⟨k0, k1, k2⟩ := hSw; go_simp; (try with_reducible rfl))
      (try simp only [Act.put, List.setIfInBounds_toArray, List.set_cons_zero, List.set_cons_succ])
      refine takeQ (i := 11) (d := some 41) (v := ?_) rfl rfl (by kernel_rfl) (by kernel_rfl) (by kernel_rfl) hPQ hS2 (by kernel_rfl) ?_ ?_
      rotate_left
      · (intro w hSw; (try dsimp only at hSw); obtain ⟨k0, k1, k2⟩ := hSw; go_simp; (try with_reducible rfl))
      (try simp only [Act.put, List.setIfInBounds_toArray, List.set_cons_zero, List.set_cons_succ])
      refine wpAnyH_ready (rs := [12]) (by kernel_rfl) (by simp) ?_
      refine AllReadyH.cons (o := _) rfl (fun K hK => ?_) AllReadyH.nil
      go_simp
      have n1 := (World.cell?_of_block (a := ⟨w.heap.size, 5, none⟩) (Below.heap_setCell w8 ⟨w2.heap.size, 1, none⟩ (.int .i64 (B + V2)) w.heap.size (by show w.heap.size ≠ w2.heap.size; omega))).trans e1
      have n2 := (World.cell?_of_block (a := ⟨Bl, 0, none⟩) (Below.heap_setCell w8 ⟨w2.heap.size, 1, none⟩ (.int .i64 (B + V2)) Bl (by show Bl ≠ w2.heap.size; omega))).trans e2
      have n3 := (World.cell?_of_block (a := ⟨Bl, 1, none⟩) (Below.heap_setCell w8 ⟨w2.heap.size, 1, none⟩ (.int .i64 (B + V2)) Bl (by show Bl ≠ w2.heap.size; omega))).trans e3
      refine hK.out _ _ (⟨n1, n2, n3⟩) (fun hS3 => ?_)
      clear hK K hS2
      (try simp only [Act.put, List.setIfInBounds_toArray, List.set_cons_zero, List.set_cons_succ])
      refine wpAnyH_done (by kernel_rfl) (hQn.out _ _ ?_) _
      clear hS3 hPQ hQn Qn
      rotate_left
      all_goals
        gi_wp2
        have hs8 := B8.out.size
        have XO10 := heap_setCell_same w8 w2.heap.size 1 _ _ (.int .i64 (B + V2)) XX8.out
        have B10 : ∀ j, j < Vr.heap.size → j ≠ w2.heap.size → (w8.setCell ⟨w2.heap.size, 1, none⟩ (.int .i64 (B + V2))).heap[j]? = Vr.heap[j]? := fun j hj hne => (Below.heap_setCell _ _ _ _ hne).trans ((B8.out.block j (by omega)).trans (B9.out j hj hne))
        refine ⟨(KU9.out.trans (KeepsUp.below B8.out (Nat.le_refl _))).setCell (.inl (by show w2.heap.size < w4.heap.size; omega)) _, fun j hj => ?_, ?_, (B10 _ (by omega) (by omega)).trans HW.out, (B10 _ (by omega) (by omega)).trans HRES.out, (BB9.out.trans (B8.out.mono (by omega))).setCell (p := ⟨w2.heap.size, 1, none⟩) (by show w.heap.size ≤ w2.heap.size; omega) _⟩
        · have h3 := HBS.out j hj
          refine B10 j (by omega) (fun e => ?_)
          unfold lkBs at hj
          rcases List.mem_cons.1 hj with h | h
          · omega
          · rw [if_neg (by omega)] at h
            have h4 : j = bp := List.mem_singleton.1 h
            omega
        · rw [HLEN.out, HL1.out, HL2.out]
          exact XO10
end Go.Proofs.Ytgngllgknimgkaa
namespace Go.Proofs.Ytgngllgknimgkaa
open Go.RowKit Go.Maps

set_option maxRecDepth 100000 in
set_option maxHeartbeats 4000000 in
theorem limits_good (ao : Option Addr) (vs : List Dm) (c : Nat) (ax : Int) (s : ByteArray) (ca : Option Addr) (cs : List Sp) (cc : Nat) (w : World) (R : Ending → World → Prop) (hl : vs.length ≤ 256) (hcl : cs.length ≤ 256)
   (hc : CellsAt w ao (dC vs)) (hv : DmsOk vs) (h0 : goE vs = 0) (hcs : CellsAt w ca (pC cs)) (hg : Good vs ax s cs) (hR : ∀ w', Below w.heap.size w w' → R (.returned (.tuple #[.agg #[.int .i64 (loS vs cs), .int .i64 (hiS vs cs)], .int .i64 0])) w') :
    Calls Try.prog 8 #[.agg #[.slice ao vs.length c, .slice ca cs.length cc, .int .i64 0, .int .i64 0]] w R := by
  have HR := Lib.hid hR
  have HC := Lib.hid hc
  have HV := Lib.hid hv
  have H0 := Lib.hid h0
  have HCS := Lib.hid hcs
  have HG := Lib.hid hg
  obtain ⟨w1, E1, HB1, s1, X1⟩ := box_ex w #[.slice ao vs.length c, .slice ca cs.length cc, .int .i64 0, .int .i64 0] 38
  obtain ⟨w2, E2, HB2, s2, X2⟩ := box_ex w1 #[.int .i64 0, .int .i64 0] 32
  have B2 : Hid (Below w.heap.size w w2) := HB1.out.trans (HB2.out.mono (Nat.le_of_lt s1))
  have x0 := cellB HB2.out (cell_of X1.out (j := 0) rfl) s1
  have x1 := cellB HB2.out (cell_of X1.out (j := 1) rfl) s1
  have x2 := cellB HB2.out (cell_of X1.out (j := 2) rfl) s1
  have x3 := cellB HB2.out (cell_of X1.out (j := 3) rfl) s1
  clear hR hc hv hcs hg h0
  go_enter Try.func8, Try.ntmps8
  go_wp2_with (first | rw [E1] | rw [E2])
  refine of_good ao vs c ax s ca cs cc _ _ hl hcl (HC.out.below B2.out) HV.out H0.out (HCS.out.below B2.out) HG.out fun w3 hb => ?_
  have B3 : Hid (Below w.heap.size w w3) := B2.out.trans (hb.mono B2.out.size)
  have X3 := Lib.hid ((hb.block w1.heap.size s2).trans X2.out)
  have s3 := hb.size
  clear hb x0 x1 x2 x3
  obtain ⟨w4, E4, HB4, s4, X4⟩ := box_ex w3 (wsV ao vs.length c ca cs.length cc) 73
  have B4 : Hid (Below w.heap.size w w4) := B3.out.trans (HB4.out.mono B3.out.size)
  have q0 := cell_of X4.out (j := 0) (v := .slice ao vs.length c) rfl
  have q1 := cell_of X4.out (j := 1) (v := .slice ca cs.length cc) rfl
  have q2 := cell_of X4.out (j := 2) (v := .int .i64 0) rfl
  have q3 := cell_of X4.out (j := 3) (v := .int .i64 0) rfl
  have q4 := cell_of X4.out (j := 4) (v := .func (.func 35) #[] #[]) rfl
  have q5 := cell_of X4.out (j := 5) (v := .func (.func 36) #[] #[]) rfl
  unfold wsV at E4 ⊢
  go_wp2_with (rw [E4])
  refine bounds_any ao vs c ca cs cc _ _ hl hcl (HC.out.below B4.out) (goE_vaE hl H0.out) (HCS.out.below B4.out) HG.out.kn fun w5 hb => ?_
  have B5 : Hid (Below w.heap.size w w5) := B4.out.trans (hb.mono B4.out.size)
  have X5 := (hb.block w1.heap.size (by omega)).trans ((HB4.out.block w1.heap.size (by omega)).trans X3.out)
  have r0 := cell_of X5 (j := 0) rfl
  have r1 := cell_of X5 (j := 1) rfl
  have f0 := frozen_of X5 0
  have f1 := frozen_of X5 1
  have XX5 := Lib.hid X5
  clear hb X5 q0 q1 q2 q3 q4 q5
  obtain ⟨A, hA⟩ : ∃ A, loS vs cs = A := ⟨_, rfl⟩
  obtain ⟨B, hB⟩ : ∃ B, hiS vs cs = B := ⟨_, rfl⟩
  rw [hA, hB] at HR ⊢
  go_wp2_with fail
  have W6 := heap_setCell_same _ w1.heap.size 1 _ _ (.int .i64 B) (heap_setCell_same w5 w1.heap.size 0 _ _ (.int .i64 A) XX5.out)
  have B9 : Below w.heap.size w ((w5.setCell ⟨w1.heap.size, 0, none⟩ (.int .i64 A)).setCell ⟨w1.heap.size, 1, none⟩ (.int .i64 B)) := (B5.out.setCell (p := ⟨w1.heap.size, 0, none⟩) (Nat.le_of_lt s1) _).setCell (p := ⟨w1.heap.size, 1, none⟩) (Nat.le_of_lt s1) _
  revert W6 B9
  generalize ((w5.setCell ⟨w1.heap.size, 0, none⟩ (.int .i64 A)).setCell ⟨w1.heap.size, 1, none⟩ (.int .i64 B)) = w9
  intro W6 B9
  have y0 := cell_of W6 (j := 0) (v := .int .i64 A) rfl
  have y1 := cell_of W6 (j := 1) (v := .int .i64 B) rfl
  refine bodyPost_ret (v := .tuple #[.agg #[.int .i64 A, .int .i64 B], .int .i64 0]) (by simp [results, Try.results8, go_sem, y0, y1]) rfl ?_
  exact HR.out _ B9
end Go.Proofs.Ytgngllgknimgkaa
namespace Go.Proofs.Ytgngllgknimgkaa
open Go.RowKit Go.Maps

/-! ### the chapter's example -/
def thr (l h : Int) : List Dm := [⟨⟨#[65]⟩, ⟨#[66]⟩, 0, 10, 12⟩, ⟨⟨#[66]⟩, ⟨#[67]⟩, 0, 5, 6⟩, ⟨⟨#[65]⟩, ⟨#[67]⟩, 0, l, h⟩]
theorem thr_ok (l h : Int) : DmsOk (thr l h) := by
  intro i hi
  match i, hi with
  | 0, _ => exact ⟨by show (⟨#[65]⟩ : ByteArray).size ≤ _; decide, by show (⟨#[66]⟩ : ByteArray).size ≤ _; decide⟩
  | 1, _ => exact ⟨by show (⟨#[66]⟩ : ByteArray).size ≤ _; decide, by show (⟨#[67]⟩ : ByteArray).size ≤ _; decide⟩
  | 2, _ => exact ⟨by show (⟨#[65]⟩ : ByteArray).size ≤ _; decide, by show (⟨#[67]⟩ : ByteArray).size ≤ _; decide⟩
theorem nmG_fun : nmG = fun vs ax => alN vs ax vs.length := by funext vs ax; exact (alN_eq vs ax).symm
theorem th_ac : dsX (thr 16 20) 0 ⟨#[65]⟩ ⟨#[67]⟩ = (16, 18, 0) := by
  delta dsX spL spH cfE cfR frR jnX grG arX arcV arcI pF pT nmN
  rw [nmG_fun]
  decide +kernel
theorem th_go : goE (thr 16 20) = 0 := by decide +kernel
def thc : List Sp := [⟨0, false⟩, ⟨1, false⟩]
theorem th_lo : loS (thr 16 20) thc = 15 := by decide
theorem th_hi : hiS (thr 16 20) thc = 18 := by decide
theorem th_good : Good (thr 16 20) 0 ⟨#[65]⟩ thc := by
  refine ⟨by decide, fun i hi => ?_, fun i hi => ?_, rfl, fun i hi => ?_, fun i hi => ?_, fun i j hij hj => ?_⟩
  · match i, hi with
    | 0, _ => decide
    | 1, _ => decide
  · match i, hi with
    | 0, _ => rfl
    | 1, _ => rfl
  · match i, hi with
    | 0, _ => rfl
  · match i, hi with
    | 0, _ => intro h; exact absurd (sameD_iff.2 h) (by decide +kernel)
    | 1, _ => intro h; exact absurd (sameD_iff.2 h) (by decide +kernel)
  · obtain ⟨rfl, rfl⟩ : i = 0 ∧ j = 1 := by
      have : j < 2 := hj
      omega
    intro h; exact absurd (sameD_iff.2 h) (by decide +kernel)
/-- The example while its limits are set. -/
def sqA (i : Nat) : Array Value := #[.string ⟨#[65]⟩, .string ⟨#[66]⟩, .int .i64 0, .int .i64 (if 0 < i then 10 else 0), .int .i64 (if 0 < i then 12 else 0), .string ⟨#[66]⟩, .string ⟨#[67]⟩, .int .i64 0, .int .i64 (if 1 < i then 5 else 0), .int .i64 (if 1 < i then 6 else 0),
  .string ⟨#[65]⟩, .string ⟨#[67]⟩, .int .i64 0, .int .i64 (if 2 < i then 16 else 0), .int .i64 (if 2 < i then 20 else 0), .string ⟨#[65]⟩, .string ⟨#[67]⟩, .int .i64 1, .int .i64 0, .int .i64 0]
theorem square_any (w : World) (R : Ending → World → Prop) (hR : ∀ w', Below w.heap.size w w' → w.heap.size < w'.heap.size → w'.heap[w.heap.size]? = some (.cells (sqA 0) 44 (0, 0)) → R (.returned (.slice (some ⟨w.heap.size, 0, none⟩) 4 4)) w') :
    Calls Try.prog 11 #[] w R := by
  have HR := Lib.hid hR
  clear hR
  go_enter Try.func11, Try.ntmps11
  go_wp2_with fail
  exact HR.out _ ((Below.refl _ _).alloc (Nat.le_refl _) _) (by simp) (World.alloc_heap_new w _)
set_option maxRecDepth 100000 in
set_option maxHeartbeats 4000000 in
theorem caseStacks_any (w : World) (R : Ending → World → Prop) (hR : ∀ w', Below w.heap.size w w' → R (.returned (.bool true)) w') :
    Calls Try.prog 5 #[] w R := by
  have HR := Lib.hid hR
  clear hR
  go_enter Try.func5, Try.ntmps5
  go_wp2_with fail
  refine square_any _ _ fun w1 hb h1 hx => ?_
  have B1 := Lib.hid hb
  have X1 := Lib.hid hx
  obtain ⟨w2, E2, U2, s2, X2⟩ := box_ex w1 #[.int .i64 10, .int .i64 12, .int .i64 5, .int .i64 6, .int .i64 16, .int .i64 20] 32
  have E2' := Lib.hid E2
  clear hb hx E2
  go_wp2_with (rw [E2'.out])
  go_loopw [15] (fun j wr => ∃ k : Nat, k ≤ 3 ∧ j = .int .i64 k ∧ Hid (Below w.heap.size w wr) ∧ Hid (wr.heap[w.heap.size]? = some (.cells (sqA k) 44 (0, 0))) ∧ Hid (wr.heap[w1.heap.size]? = some (.cells #[.int .i64 10, .int .i64 12, .int .i64 5, .int .i64 6, .int .i64 16, .int .i64 20] 32 (0, 0)))) (fun j _ => 3 - (intOf j).toNat)
  case atStart => exact ⟨0, by omega, rfl, B1.out.trans (U2.out.mono (Nat.le_of_lt h1)), (U2.out.block _ h1).trans X1.out, X2.out⟩
  case round =>
    obtain ⟨k, hk, rfl, HB, XB, XL⟩ := hrel
    have hbl := lt_of_block XB.out
    by_cases hlt : k < 3
    · have hk3 : k = 0 ∨ k = 1 ∨ k = 2 := by omega
      rcases hk3 with rfl | rfl | rfl
      · have i0 := cell_of XL.out (j := 0) (v := .int .i64 10) rfl
        have i1 := cell_of XL.out (j := 1) (v := .int .i64 12) rfl
        obtain ⟨w4, E4, U4, s4, X4⟩ := box_ex wr #[.int .i64 10, .int .i64 12] 32
        have E4' := Lib.hid E4
        have XB4 := (U4.out.block w.heap.size hbl).trans XB.out
        have f0 := frozen_of XB4 3
        have f1 := frozen_of XB4 4
        have e0 := cell_of X4.out (j := 0) (v := .int .i64 10) rfl
        have e1 := cell_of X4.out (j := 1) (v := .int .i64 12) rfl
        have c0 := cell_of XB4 (j := 3) (v := .int .i64 0) rfl
        have c1 := cell_of XB4 (j := 4) (v := .int .i64 0) rfl
        have HXB4 := Lib.hid XB4
        clear E4 XB4
        go_wp2_with (rw [E4'.out])
        refine ⟨⟨1, by omega, rfl, ((HB.out.trans (U4.out.mono HB.out.size)).setCell (p := ⟨w.heap.size, 3, none⟩) (Nat.le_refl _) _).setCell (p := ⟨w.heap.size, 4, none⟩) (Nat.le_refl _) _, ?_, ?_⟩, by simp [intOf]⟩
        · exact heap_setCell_same _ w.heap.size 4 _ _ (.int .i64 12) (heap_setCell_same _ w.heap.size 3 _ _ (.int .i64 10) HXB4.out)
        · exact (Below.heap_setCell _ ⟨w.heap.size, 4, none⟩ _ w1.heap.size (by show w1.heap.size ≠ w.heap.size; omega)).trans ((Below.heap_setCell _ ⟨w.heap.size, 3, none⟩ _ w1.heap.size (by show w1.heap.size ≠ w.heap.size; omega)).trans ((U4.out.block _ (lt_of_block XL.out)).trans XL.out))
      · have i0 := cell_of XL.out (j := 2) (v := .int .i64 5) rfl
        have i1 := cell_of XL.out (j := 3) (v := .int .i64 6) rfl
        obtain ⟨w4, E4, U4, s4, X4⟩ := box_ex wr #[.int .i64 5, .int .i64 6] 32
        have E4' := Lib.hid E4
        have XB4 := (U4.out.block w.heap.size hbl).trans XB.out
        have f0 := frozen_of XB4 8
        have f1 := frozen_of XB4 9
        have e0 := cell_of X4.out (j := 0) (v := .int .i64 5) rfl
        have e1 := cell_of X4.out (j := 1) (v := .int .i64 6) rfl
        have c0 := cell_of XB4 (j := 8) (v := .int .i64 0) rfl
        have c1 := cell_of XB4 (j := 9) (v := .int .i64 0) rfl
        have HXB4 := Lib.hid XB4
        clear E4 XB4
        go_wp2_with (rw [E4'.out])
        refine ⟨⟨2, by omega, rfl, ((HB.out.trans (U4.out.mono HB.out.size)).setCell (p := ⟨w.heap.size, 8, none⟩) (Nat.le_refl _) _).setCell (p := ⟨w.heap.size, 9, none⟩) (Nat.le_refl _) _, ?_, ?_⟩, by simp [intOf]⟩
        · exact heap_setCell_same _ w.heap.size 9 _ _ (.int .i64 6) (heap_setCell_same _ w.heap.size 8 _ _ (.int .i64 5) HXB4.out)
        · exact (Below.heap_setCell _ ⟨w.heap.size, 9, none⟩ _ w1.heap.size (by show w1.heap.size ≠ w.heap.size; omega)).trans ((Below.heap_setCell _ ⟨w.heap.size, 8, none⟩ _ w1.heap.size (by show w1.heap.size ≠ w.heap.size; omega)).trans ((U4.out.block _ (lt_of_block XL.out)).trans XL.out))
      · have i0 := cell_of XL.out (j := 4) (v := .int .i64 16) rfl
        have i1 := cell_of XL.out (j := 5) (v := .int .i64 20) rfl
        obtain ⟨w4, E4, U4, s4, X4⟩ := box_ex wr #[.int .i64 16, .int .i64 20] 32
        have E4' := Lib.hid E4
        have XB4 := (U4.out.block w.heap.size hbl).trans XB.out
        have f0 := frozen_of XB4 13
        have f1 := frozen_of XB4 14
        have e0 := cell_of X4.out (j := 0) (v := .int .i64 16) rfl
        have e1 := cell_of X4.out (j := 1) (v := .int .i64 20) rfl
        have c0 := cell_of XB4 (j := 13) (v := .int .i64 0) rfl
        have c1 := cell_of XB4 (j := 14) (v := .int .i64 0) rfl
        have HXB4 := Lib.hid XB4
        clear E4 XB4
        go_wp2_with (rw [E4'.out])
        refine ⟨⟨3, by omega, rfl, ((HB.out.trans (U4.out.mono HB.out.size)).setCell (p := ⟨w.heap.size, 13, none⟩) (Nat.le_refl _) _).setCell (p := ⟨w.heap.size, 14, none⟩) (Nat.le_refl _) _, ?_, ?_⟩, by simp [intOf]⟩
        · exact heap_setCell_same _ w.heap.size 14 _ _ (.int .i64 20) (heap_setCell_same _ w.heap.size 13 _ _ (.int .i64 16) HXB4.out)
        · exact (Below.heap_setCell _ ⟨w.heap.size, 14, none⟩ _ w1.heap.size (by show w1.heap.size ≠ w.heap.size; omega)).trans ((Below.heap_setCell _ ⟨w.heap.size, 13, none⟩ _ w1.heap.size (by show w1.heap.size ≠ w.heap.size; omega)).trans ((U4.out.block _ (lt_of_block XL.out)).trans XL.out))
    · obtain rfl : k = 3 := by omega
      have hcs : CellsAt wr (some ⟨w.heap.size, 0, none⟩) (dC (thr 16 20)) := by
        intro _
        refine ⟨w.heap.size, 0, rfl, hbl, fun j hj => ?_⟩
        have hj' : j < 15 := hj
        rw [cell_of XB.out (j := 0 + j) (v := (dC (thr 16 20)).getD j undef) ?_]
        rcases (by omega : j = 0 ∨ j = 1 ∨ j = 2 ∨ j = 3 ∨ j = 4 ∨ j = 5 ∨ j = 6 ∨ j = 7 ∨ j = 8 ∨ j = 9 ∨ j = 10 ∨ j = 11 ∨ j = 12 ∨ j = 13 ∨ j = 14) with rfl | rfl | rfl | rfl | rfl | rfl | rfl | rfl | rfl | rfl | rfl | rfl | rfl | rfl | rfl <;> rfl
      have HCS := Lib.hid hcs
      clear hcs
      go_wp2_with fail
      refine distance_any (some ⟨w.heap.size, 0, none⟩) (thr 16 20) 4 0 ⟨#[65]⟩ ⟨#[67]⟩ _ _ (by decide) HCS.out (thr_ok _ _) (by decide) (by decide) fun w5 hb => ?_
      rw [th_ac]
      have B5 : Hid (Below w.heap.size w w5) := HB.out.trans (hb.mono HB.out.size)
      have HC5 := Lib.hid (HCS.out.below hb)
      obtain ⟨w6, E6, U6, s6, X6⟩ := box_ex w5 #[.int .i64 16, .int .i64 18] 32
      obtain ⟨w7, E7, U7, s7, X7⟩ := box_ex w6 #[.int .i64 0, .bool false, .int .i64 1, .bool false] 46
      have E6' := Lib.hid E6
      have E7' := Lib.hid E7
      have B7 : Hid (Below w.heap.size w w7) := B5.out.trans ((U6.out.trans (U7.out.mono (Nat.le_of_lt s6))).mono B5.out.size)
      have HC7 := Lib.hid ((HC5.out.below U6.out).below U7.out)
      have HK7 : Hid (CellsAt w7 (some ⟨w6.heap.size, 0, none⟩) (pC thc)) := by
        intro _
        refine ⟨w6.heap.size, 0, rfl, s7, fun j hj => ?_⟩
        have hj' : j < 4 := hj
        rw [cell_of X7.out (j := 0 + j) (v := (pC thc).getD j undef) ?_]
        rcases (by omega : j = 0 ∨ j = 1 ∨ j = 2 ∨ j = 3) with rfl | rfl | rfl | rfl <;> rfl
      have d0 := cellB U7.out (cell_of X6.out (j := 0) (v := .int .i64 16) rfl) s6
      have d1 := cellB U7.out (cell_of X6.out (j := 1) (v := .int .i64 18) rfl) s6
      have s57 : w5.heap.size < w7.heap.size := Nat.lt_trans s6 s7
      clear E6 E7 hb
      go_wp2_with (first | rw [E6'.out] | rw [E7'.out])
      refine limits_good (some ⟨w.heap.size, 0, none⟩) (thr 16 20) 4 0 ⟨#[65]⟩ (some ⟨w6.heap.size, 0, none⟩) thc 2 _ _ (by decide) (by decide) HC7.out (thr_ok _ _) th_go HK7.out th_good fun w8 hb => ?_
      rw [th_lo, th_hi]
      have B8 : Hid (Below w.heap.size w w8) := B7.out.trans (hb.mono B7.out.size)
      have e0 := cellB hb d0 s57
      have e1 := cellB hb d1 s57
      obtain ⟨w9, E9, U9, s9, X9⟩ := box_ex w8 #[.int .i64 15, .int .i64 18] 32
      have E9' := Lib.hid E9
      have s58 : w5.heap.size < w8.heap.size := Nat.lt_of_lt_of_le s57 hb.size
      have h0 := cellB U9.out e0 s58
      have h1 := cellB U9.out e1 s58
      have h2 := cell_of X9.out (j := 0) (v := .int .i64 15) rfl
      have h3 := cell_of X9.out (j := 1) (v := .int .i64 18) rfl
      have B9 : Hid (Below w.heap.size w w9) := B8.out.trans (U9.out.mono B8.out.size)
      clear E9 hb d0 d1 e0 e1
      go_wp2_with (rw [E9'.out])
      exact HR.out _ B9.out
end Go.Proofs.Ytgngllgknimgkaa
namespace Go.Proofs.Ytgngllgknimgkaa
open Go.RowKit Go.Maps

section
variable {vs : List Dm} {ax : Int} {f t : ByteArray}
theorem giE_go (hl : vs.length ≤ 256) (h : goE vs = 0) : giE vs ax = axE ax := by
  rw [goE_le (by omega)] at h
  unfold giE
  rw [if_neg (by omega)]
  cases hh : loopE (giF vs) vs.length 0 () with
  | inl u => rfl
  | inr r =>
    exfalso
    have hz := (loopE_unit (f := giF vs) vs.length 0).2 (fun j _ hj => by
      have := goE_vaE hl (by rw [goE_le (by omega)]; exact h) j (by omega)
      unfold giF; rw [if_pos this])
    rw [hz] at hh; cases hh
theorem asE_zero (h : asE vs ax f t = 0) (h0 : goE vs = 0) : ¬ (ax < 0 ∨ 3 ≤ ax) ∧ nmE f = 0 ∧ nmE t = 0 ∧ f ≠ t := by
  unfold asE at h
  rw [if_pos h0] at h
  split at h
  · omega
  · rename_i h1
    split at h
    · rename_i h2
      split at h
      · rename_i h3
        split at h
        · omega
        · rename_i h4
          exact ⟨h1, h2, h3, fun e => h4 (sameD_iff.2 e)⟩
      · rename_i h3; exact absurd h h3
    · rename_i h2; exact absurd h h2
theorem asE_of (h0 : goE vs = 0) (h1 : ¬ (ax < 0 ∨ 3 ≤ ax)) (h2 : nmE f = 0) (h3 : nmE t = 0) (h4 : f ≠ t) : asE vs ax f t = 0 := by
  unfold asE
  rw [if_pos h0, if_neg h1, if_pos h2, if_pos h3, if_neg (fun e => h4 (sameD_iff.1 e))]
theorem vaE_names {v : Dm} (h : vaE v = 0) : nmE v.f = 0 ∧ nmE v.t = 0 := by
  unfold vaE at h
  split at h
  · rename_i h1
    split at h
    · rename_i h2; exact ⟨h1, h2⟩
    · rename_i h2; exact absurd h h2
  · rename_i h1; exact absurd h h1
/-- The chains found are right. -/
theorem chains_good (h6 : vs.length ≤ 6) (hne : f ≠ t) {i : Nat} (hi : i < (chN vs ax f t).length) : Good vs ax f (cAt (chN vs ax f t) i) ∧ (cAt (chN vs ax f t) i).length ≤ 256 := by
  have hm : cAt (chN vs ax f t) i ∈ chN vs ax f t := by
    unfold cAt
    rw [List.getD_eq_getElem?_getD, List.getElem?_eq_getElem hi]; exact List.getElem_mem hi
  obtain ⟨h1, h2, _, h4, h5⟩ := grN_ok (nmG vs ax).length f [f] _ (by simp) hm
  have := nmG_len6 (ax := ax) h6
  exact ⟨good_of h1 h2 (h5 hne), by omega⟩
/-- No distance, but a right question: contradicting dimensions, or no chain. -/
theorem apart_law (h6 : vs.length ≤ 6) (h0 : goE vs = 0) (he : (dsX vs ax f t).2.2 ≠ 0) (ha : asE vs ax f t = 0) : (dsX vs ax f t).2.2 = 16 ∨ (chN vs ax f t).length = 0 := by
  obtain ⟨h1, h2, h3, h4⟩ := asE_zero ha h0
  have hg : giE vs ax = 0 := by rw [giE_go (by omega) h0]; unfold axE; rw [if_neg h1]
  cases hj : jnX vs ax f t with
  | true =>
    obtain ⟨hs, ht, hc⟩ := jnX_iff.1 hj
    cases hcf : cfE vs ax with
    | true => exact absurd (by rw [dsX_ok hg hcf h4 hj]) he
    | false =>
      left
      unfold dsX
      rw [if_pos hg, if_pos (by rw [inK_iff.2 hs, inK_iff.2 ht]; rfl), if_neg (fun h => h4 (sameD_iff.1 h)), if_pos hj, if_neg (by rw [hcf]; simp)]
  | false =>
    right
    have : chN vs ax f t = [] := chN_none h4 (fun ⟨a, b, c⟩ => by rw [jnX_iff.2 ⟨a, b, c⟩] at hj; cases hj) _
    rw [this]; rfl
/-- A distance: the question is right, chains are there, and their stacks leave it. -/
theorem leave_law (h6 : vs.length ≤ 6) (h0 : goE vs = 0) (he : (dsX vs ax f t).2.2 = 0) : asE vs ax f t = 0 ∧ f ≠ t ∧ 0 < (chN vs ax f t).length ∧ lgF vs (chN vs ax f t) (chN vs ax f t).length = ((dsX vs ax f t).1, (dsX vs ax f t).2.1) := by
  have hg : giE vs ax = 0 := by
    refine Classical.byContradiction fun hn => ?_
    unfold dsX at he; rw [if_neg hn] at he; exact hn he
  have hne : f ≠ t := fun e => by
    have e1 := he
    unfold dsX at e1
    rw [if_pos hg] at e1
    split at e1
    · rw [if_pos (sameD_iff.2 e)] at e1; dsimp only at e1; omega
    · dsimp only at e1; omega
  have hj : jnX vs ax f t = true := by
    cases hj : jnX vs ax f t with
    | true => rfl
    | false =>
      have e1 := he
      rw [dsX_apart hg hne hj] at e1
      dsimp only at e1
      split at e1 <;> omega
  obtain ⟨hs, ht, hc⟩ := jnX_iff.1 hj
  have hcf : cfE vs ax = true := by
    cases hcf : cfE vs ax with
    | true => rfl
    | false =>
      have e1 := he
      unfold dsX at e1
      rw [if_pos hg, if_pos (by rw [inK_iff.2 hs, inK_iff.2 ht]; rfl), if_neg (fun h => hne (sameD_iff.1 h)), if_pos hj, if_neg (by rw [hcf]; simp)] at e1
      dsimp only at e1; omega
  obtain ⟨k1, k2⟩ := leave_is hcf hs ht hc
  have hax : ¬ (ax < 0 ∨ 3 ≤ ax) := fun h => by
    rw [giE_go (by omega) h0] at hg
    unfold axE at hg; rw [if_pos h] at hg; omega
  have hnm : ∀ s, s ∈ nmG vs ax → nmE s = 0 := fun s hs => by
    obtain ⟨i, hi, e⟩ := nmG_mem.1 hs
    have := vaE_names (goE_vaE (by omega) h0 i hi.1)
    rcases e with rfl | rfl
    · exact this.1
    · exact this.2
  exact ⟨asE_of h0 hax (hnm f hs) (hnm t ht) hne, hne, k1, by rw [k2, dsX_ok hg hcf hne hj]⟩
end
end Go.Proofs.Ytgngllgknimgkaa
