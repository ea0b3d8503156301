/- slices.SortFunc at elements of a distribution, by their values. Collect of dist at elements of weight 1; playCollected. (Printed by gen_collect2.py.) The law TopSeriesMoments. (Printed by gen_moments.py.) The law TopSeriesCounts. (Printed by gen_counts.py.) -/
import Derived.Shelf.SlSortCmp.WholeK
import Derived.Test.YtcmhompbdanpdaaGreatDoorMvu
import Derived.Test.YtcmhompbdanpdaaGreatDoorShelf2
import Derived.Test.YtcmhompbdanpdaaGreatDoorMzb
import Derived.Test.YtcmhompbdanpdaaGreatDoorMvk
namespace Go.Proofs.YtcmhompbdanpdaaGreatDoor
open Go.RowKit

abbrev Rv := { n : Int // -1048576 ≤ n ∧ n ≤ 1048576 }
abbrev Wv := Rv × ByteArray
instance instWv : Inhabited Wv := ⟨(⟨0, by decide⟩, ⟨#[]⟩)⟩
def encW (x : Wv) : List Value := [.int .i64 x.1.1, .string x.2]
def cmpW (x y : Wv) : Int := x.1.1 - y.1.1
theorem cmpW_lt (x y : Wv) : Go.Proofs.ltOf cmpW x y = decide (x.1.1 < y.1.1) := by
  unfold Go.Proofs.ltOf cmpW
  by_cases h : x.1.1 < y.1.1
  · rw [decide_eq_true h, decide_eq_true (by omega)]
  · rw [decide_eq_false h, decide_eq_false (by omega)]
theorem swoW : Go.Sort.SWO (Go.Proofs.ltOf cmpW) where
  irrefl x := by rw [cmpW_lt]; simp
  trans x y z h1 h2 := by rw [cmpW_lt] at *; simp at *; omega
  ntrans x y z h1 h2 := by rw [cmpW_lt] at *; simp at *; omega
set_option maxHeartbeats 1000000 in
theorem clos198 (a b : Int) (t u : ByteArray) (ha : -1048576 ≤ a ∧ a ≤ 1048576) (hb : -1048576 ≤ b ∧ b ≤ 1048576) (W : World) :
    Calls Tryz.prog 198 #[.agg #[.int .i64 a, .string t], .agg #[.int .i64 b, .string u]] W fun e w' => e = .returned (.int .i64 (a - b)) ∧ ∃ q os', w' = Go.Sort.grow (W.drewN q) os' := by
  have K : IntKind.i64.wrap (a - b) = a - b := by rw [IntKind.wrap_i64] <;> omega
  go_enter Tryz.func198, Tryz.ntmps198
  go_wp2_with fail
  go_ret
  exact ⟨rfl, 0, _, by rw [Go.Sort.alloc_eq_grow, Go.Sort.alloc_eq_grow, Go.Sort.grow_grow]; rfl⟩
theorem cmpLaysW (blk off size : Nat) (w : World) : Go.Proofs.CmpLays Tryz.prog 198 #[] encW 2 cmpW blk off size w :=
  fun _ _ _ _ x y => clos198 x.1.1 y.1.1 x.2 y.2 x.1.2 y.1.2 _
def toWv (x : Wt) : Wv := if h : -1048576 ≤ x.1 ∧ x.1 ≤ 1048576 then (⟨x.1, h⟩, tB (Lib.itoa x.2)) else default
def ofWv (x : Wv) : Wt := (x.1.1, tV x.2)
theorem toWv_enc {x : Wt} (h : -1048576 ≤ x.1 ∧ x.1 ≤ 1048576) : encW (toWv x) = (wdOf x).cells := by
  unfold toWv encW
  rw [dif_pos h]; rfl
theorem ofWv_to {x : Wt} (h : -1048576 ≤ x.1 ∧ x.1 ≤ 1048576) : ofWv (toWv x) = x := by
  unfold toWv ofWv
  rw [dif_pos h]
  exact Prod.ext rfl (Txt.val (Txt.of x.2))
theorem isAggW (w : World) : (isAgg 67).run Tryz.prog w = .ok true w := by kernel_rfl
theorem sizeOfW (w : World) : (Go.sizeOf 67).run Tryz.prog w = .ok 2 w := by kernel_rfl
theorem grownBy_sortK {α : Type} [Inhabited α] (enc : α → List Value) (k : Nat) {w : World} {g n : Nat} {os : Array Obj} (d : Array α) : w.grownBy (Go.Proofs.sortWorldK enc k w g 0 n d os) (some g) := by
  unfold Go.Proofs.sortWorldK Go.Sort.putRowK
  refine ⟨rfl, rfl, rfl, by simp, fun k hk hne => ?_⟩
  rw [Go.Sort.heap_grow_old _ _ (by simpa using hk)]
  have : g ≠ k := fun e => hne (by rw [e])
  simp [Go.Sort.putRow, Go.Sort.mapBlock, Go.Sort.ahead, Array.getElem?_modify, this]
theorem cells2 (b : Wd) : b.cells = [.int .i64 b.n, .string b.t] := rfl
theorem wdsC_at (vs : List Wd) {t : Nat} (h : t / 2 < vs.length) : (wdsC vs)[t]? = some ((wdAt vs (t / 2)).cells[t % 2]!) := by
  obtain ⟨h1, h2⟩ := wdsC_get vs (t / 2) h
  rcases (show t % 2 = 0 ∨ t % 2 = 1 by omega) with e | e
  · rw [e, show t = t / 2 * 2 from by omega]
    rw [show t / 2 * 2 / 2 = t / 2 from by omega]
    exact h1
  · rw [e]
    have e2 : t = t / 2 * 2 + 1 := by omega
    rw [e2, show (t / 2 * 2 + 1) / 2 = t / 2 from by omega]
    exact h2
theorem perm_of {O : List Wt} {d : List Wv} (hr : ∀ x ∈ O, -1048576 ≤ x.1 ∧ x.1 ≤ 1048576) (hp : d.Perm (O.map toWv)) : O.Perm (d.map ofWv) ∧ ∀ x ∈ d, encW x = (wdOf (ofWv x)).cells := by
  have h1 : (O.map toWv).map ofWv = O := by
    rw [List.map_map]
    conv => rhs; rw [← List.map_id O]
    exact List.map_congr_left fun x hx => ofWv_to (hr x hx)
  refine ⟨?_, fun x hx => ?_⟩
  · have h2 := (hp.map ofWv).symm
    rwa [h1] at h2
  · obtain ⟨y, hy, rfl⟩ := List.mem_map.1 (hp.mem_iff.1 hx)
    rw [toWv_enc (hr y hy), ofWv_to (hr y hy)]
set_option maxHeartbeats 2000000 in
theorem sortW_any (base : Nat) (O : List Wt) (v : Value) (w : World) (R : Ending → World → Prop) (hbase : base ≤ w.heap.size) (hO : O.length ≤ 4096) (h0 : 0 < O.length) (hr : ∀ x ∈ O, -1048576 ≤ x.1 ∧ x.1 ≤ 1048576)
   (ho : w.ownsRow base 67 2 v O.length (wdsC (wts O)))
   (hR : ∀ a c d w', v = .slice a O.length c → Below base w w' → O.Perm d → d.Pairwise (fun x y => x.1 ≤ y.1) → CellsAt w' a (wdsC (wts d)) → R (.returned (.tuple #[])) w') :
    Calls Tryz.prog 197 #[v, .func (.func 198) #[] #[]] w R := by
  have HR := Lib.hid hR
  clear hR
  rcases ho.2 with ⟨_, h1⟩ | ⟨g, cap, cur, rfl, hb, hgg, h1, h2, h3, h4⟩
  · exact absurd h1 (by omega)
  obtain ⟨d0, hd0⟩ : ∃ d0 : Array Wv, d0 = (O.map toWv).toArray := ⟨_, rfl⟩
  have hsz : d0.size = O.length := by rw [hd0]; simp
  have hat : ∀ i, (hi : i < O.length) → d0[i]! = toWv O[i] := fun i hi => by
    rw [getElem!_pos d0 i (by omega)]
    simp [hd0]
  have hlt := lt_of_block hgg
  have hH : Go.Sort.HoldsK encW 2 w g 0 d0 := by
    intro t ht
    rw [Go.Sort.size_flatK, hsz] at ht
    refine ⟨?_, by simp [World.frozen?, hgg]⟩
    rw [Go.Sort.get_flatK _ _ _ _ (by rw [hsz]; exact ht)]
    have hi : t / 2 < O.length := by omega
    rw [hat _ hi, toWv_enc (hr _ (List.getElem_mem hi))]
    have h5 : (cur.toList.take (O.length * 2))[t]? = some ((wdOf O[t / 2]).cells[t % 2]!) := by
      rw [h4, wdsC_at _ (by rw [wts_length]; exact hi), wts_at hi]
    rw [List.getElem?_take_of_lt ht] at h5
    simp only [World.cell?, hgg, Nat.zero_add]
    simp only [Option.isSome_none, Bool.false_eq_true, if_false]
    rw [← Array.getElem?_toList, h5]
    rfl
  have eg : ∀ args w, (callFunc 198 args).run Tryz.prog w = .ok (.enter 198 args) w := enters_of Tryz.func198 (by kernel_rfl) rfl
  have hc := Tryz.slices_SortFunc 2 isAggW sizeOfW encW (fun _ => rfl) (fun x u hu => by simp [encW] at hu; rcases hu with rfl | rfl <;> rfl) cmpW swoW 198 #[] g 0 cap d0 w eg (cmpLaysW g 0 d0.size w) hH hlt (by omega)
  rw [hsz] at hc
  refine hc.mono ?_
  rintro e w' ⟨rfl, d', n, os, hp, hs, rfl⟩
  obtain ⟨hp1, _, hp3⟩ := hp
  have hl : d'.toList.length = O.length := by rw [Array.length_toList]; omega
  have hp4 : d'.toList.Perm (O.map toWv) := by
    have e1 : (d'.extract 0 O.length).toList = d'.toList := by rw [show O.length = d'.size from by omega]; simp
    have e2 : (d0.extract 0 O.length).toList = O.map toWv := by rw [hd0]; simp [List.take_of_length_le]
    rw [e1, e2] at hp3; exact hp3
  obtain ⟨q1, q2⟩ := perm_of hr hp4
  have hW : Go.Sort.HoldsK encW 2 (Go.Proofs.sortWorldK encW 2 w g 0 n d' os) g 0 d' := Go.Proofs.holdsK_sortWorldK_c encW 2 w g 0 d0 d' n os hH hlt (by omega)
  refine HR.out _ cap (d'.toList.map ofWv) _ rfl ((Below.refl _ _).grown (grownBy_sortK encW 2 d') hbase (fun k e => by cases e; exact hb)) q1 ?_ ?_
  · refine List.pairwise_map.2 (List.pairwise_iff_getElem.2 fun i j hi hj hij => ?_)
    rw [Array.length_toList] at hi hj
    have h5 := hs i j (Nat.zero_le _) hij (by omega)
    rw [cmpW_lt, getElem!_pos d' i hi, getElem!_pos d' j hj] at h5
    have h6 := of_decide_eq_false h5
    show (d'.toList[i]).1.1 ≤ (d'.toList[j]).1.1
    simp only [Array.getElem_toList]
    omega
  · intro hpos
    refine ⟨g, 0, rfl, Nat.lt_of_lt_of_le hlt (Go.Proofs.size_sortWorldK_c encW 2 w g 0 n d' os), fun j hj => ?_⟩
    rw [wdsC_length, wts_length, List.length_map] at hj
    have hi : j / 2 < d'.size := by rw [Array.length_toList] at hj; omega
    obtain ⟨h5, _⟩ := hW.cell (i := j / 2) (c := j % 2) hi (by omega)
    rw [show 0 + j / 2 * 2 + j % 2 = 0 + j from by omega] at h5
    rw [h5, List.getD_eq_getElem?_getD, wdsC_at _ (by rw [wts_length, List.length_map, Array.length_toList]; exact hi), wts_at (by rw [List.length_map, Array.length_toList]; exact hi)]
    rw [getElem!_pos d' (j / 2) hi]
    rw [q2 _ (Array.getElem_mem_toList hi)]
    simp
end Go.Proofs.YtcmhompbdanpdaaGreatDoor
namespace Go.Proofs.YtcmhompbdanpdaaGreatDoor
open Go.RowKit Go.Maps

theorem cell_keep {w w' : World} {b o : Nat} {v : Value} (hb : w'.heap[b]? = w.heap[b]?) (h : w.cell? ⟨b, o, none⟩ = some v) : w'.cell? ⟨b, o, none⟩ = some v := by
  rw [← h]; unfold World.cell?; dsimp only; rw [hb]
theorem CellsAt.new2 {w : World} {b : Nat} {u v : Value} {e : TypeId} (h : w.heap[b]? = some (.cells #[u, v] e (0, 0))) : CellsAt w (some ⟨b, 0, none⟩) [u, v] := fun _ => ⟨b, 0, rfl, lt_of_block h, fun j hj => by
  match j, hj with
  | 0, _ => simp [World.cell?, h]
  | 1, _ => simp [World.cell?, h]⟩
theorem wd_one (x : Int) (t : ByteArray) : ∀ u ∈ ([.int .i64 x, .string t] : List Value), u.oneCell' = true := by
  intro u hu
  simp only [List.mem_cons, List.not_mem_nil, or_false] at hu
  rcases hu with rfl | rfl <;> rfl
theorem wts_snoc (O : List Wt) (x : Wt) : wdsC (wts (O ++ [x])) = wdsC (wts O) ++ [.int .i64 x.1, .string (tB (Lib.itoa x.2))] := by
  rw [wts_append, wdsC_append]; rfl
set_option maxRecDepth 100000 in
set_option maxHeartbeats 8000000 in
theorem collect_any (ao : Option Addr) (l : List Int) (c : Nat) (h0 : 0 < l.length) (hl : l.length ≤ 16) (hr : ∀ n ∈ l, -1048576 ≤ n ∧ n ≤ 1048576) (w : World) (R : Ending → World → Prop) (hE : Env w) (hc : CellsAt w ao (wdsC (wts (oneW l))))
   (hR : ∀ a c' w', Below w.heap.size w w' → CellsAt w' a (wdsC (wts (serW l))) → R (.returned (.tuple #[.slice a (serW l).length c', .int .i64 0])) w') :
    Calls Tryz.prog 138 #[.slice ao l.length c] w R := by
  have HR := Lib.hid hR
  have HE := Lib.hid hE
  have ho : (oneW l).length = l.length := by unfold oneW; rw [List.length_map]
  obtain ⟨b, o, rfl, hbw, hcell⟩ := CellsAt.wds hc (by rw [wts_length, ho]; exact h0)
  have HCE : Hid (∀ i, i < l.length → w.cell? ⟨b, o + i * 2, none⟩ = some (.int .i64 (at0 l i)) ∧ w.cell? ⟨b, o + i * 2 + 1, none⟩ = some (.string one)) := fun i hi => by
    have h1 := hcell i (by rw [wts_length, ho]; exact hi)
    rw [wts_one hi] at h1; exact h1
  have HBW := Lib.hid hbw
  have HV : Hid (∀ i, i < l.length → -1048576 ≤ at0 l i ∧ at0 l i ≤ 1048576) := fun i hi => by rw [at0_get hi]; exact hr _ (List.getElem_mem hi)
  have HRV := Lib.hid hr
  have HL := Lib.hid hl
  have H0 := Lib.hid h0
  have K0 : ((4096 : Int) < (l.length : Int)) = False := eq_false (by omega)
  have hmm := @run_makeMap Tryz.prog
  obtain ⟨i0, hi0, hi1, hi2, hi3⟩ := info_parts Tryz.infoIntW
  clear hR hE hc hcell hbw ho hr
  go_enter Tryz.func138, Tryz.ntmps138
  go_wp2_with fail
  go_loopw [20] (fun i wr => ∃ j : Nat, i = .int .i64 j ∧ j ≤ l.length ∧ Hid (Below w.heap.size w wr)) (fun i _ => l.length - (intOf i).toNat)
  case atStart => exact ⟨0, rfl, Nat.zero_le _, Below.refl _ _⟩
  case round =>
    obtain ⟨j, rfl, hj, HBr⟩ := hrel
    by_cases hlt : j < l.length
    · have K1 : ((j : Int) < (l.length : Int)) = True := eq_true (by omega)
      obtain ⟨h1, h2⟩ := HCE.out j hlt
      have g0 := cellB HBr.out h1 HBW.out
      have g1 := cellB HBr.out h2 HBW.out
      have KI : Hid (inT (at0 l j) = true) := inT_iff.2 (HV.out j hlt)
      obtain ⟨x, hx⟩ : ∃ x, at0 l j = x := ⟨_, rfl⟩
      rw [hx] at g0 KI
      obtain ⟨w2, E2, HB2, s2, b0, b1⟩ := box2 wr (.int .i64 x) (.string one) 67
      have B2 := Lib.hid (HBr.out.trans (HB2.out.mono HBr.out.size))
      clear h1 h2 hx
      go_wp2_with (rw [E2.out])
      clear E2
      clear g0 g1
      refine wcheckI_any one 1 tx_one (by have := len_one; omega) _ _ fun w3 hb => ?_
      have B3 := Lib.hid (B2.out.trans (hb.mono B2.out.size))
      have c0 := cellB hb b0 (lt_of_cell' b0)
      have c1 := cellB hb b1 (lt_of_cell' b1)
      clear hb b0 b1
      go_wp2_with fail
      refine dsign_any one 1 tx_one (by have := len_one; omega) _ _ fun w4 hb => ?_
      rw [show (1 : Int).sign = 1 from rfl]
      have B4 := Lib.hid (B3.out.trans (hb.mono B3.out.size))
      have d0 := cellB hb c0 (lt_of_cell' c0)
      clear hb c0 c1
      go_wp2_with fail
      refine dwithin_any x _ _ ?_
      rw [KI.out]
      go_wp2_with fail
      exact ⟨⟨j + 1, by go_num, by omega, B4⟩, by simp [intOf]; omega⟩
    · have K1 : ((j : Int) < (l.length : Int)) = False := eq_false (by omega)
      go_wp2_with fail
      have CN0 := Cn.made wr
      have hB1 : Below wr.heap.size wr (wr.alloc (.map #[] 0)) := (Below.refl _ wr).alloc (Nat.le_refl _) _
      obtain ⟨B, hB⟩ : ∃ z, wr.heap.size = z := ⟨_, rfl⟩
      obtain ⟨w1, hw1⟩ : ∃ w1, wr.alloc (.map #[] 0) = w1 := ⟨_, rfl⟩
      rw [hw1] at CN0 hB1 ⊢
      have BM := Lib.hid (HBr.out.trans (hB1.mono HBr.out.size))
      have HBs : Hid (w.heap.size ≤ B) := by have := HBr.out.size; unfold Hid; omega
      rw [hB] at CN0 ⊢
      have CM := Lib.hid CN0
      clear hmm hw1 hB1 CN0 hB HBr
      go_loopw [44] (fun i wr => ∃ (j nK : Nat) (f : IMap), i = .int .i64 j ∧ j ≤ l.length ∧ nK ≤ j ∧ Hid (Below w.heap.size w wr) ∧ Hid (Cn wr B nK f (l.take j))) (fun i _ => l.length - (intOf i).toNat)
      case atStart => exact ⟨0, 0, _, rfl, Nat.zero_le _, Nat.le_refl _, BM, CM⟩
      case round =>
        clear BM CM
        obtain ⟨j, nK, f, rfl, hj, hK, HBr, HC2⟩ := hrel
        by_cases hlt : j < l.length
        · have K1 : ((j : Int) < (l.length : Int)) = True := eq_true (by omega)
          obtain ⟨h1, h2⟩ := HCE.out j hlt
          have g0 := cellB HBr.out h1 HBW.out
          have g1 := cellB HBr.out h2 HBW.out
          have wfx : Hid ((Lit.int .i64 (at0 l j)).wf = true) := wf_small (HV.out j hlt)
          have htk : Hid (l.take (j + 1) = l.take j ++ [at0 l j]) := by unfold Hid; rw [List.take_succ_eq_append_getElem hlt, at0_get hlt]
          obtain ⟨x, hx⟩ : ∃ x, at0 l j = x := ⟨_, rfl⟩
          rw [hx] at g0 wfx htk
          obtain ⟨w2, E2, HB2, s2, b0, b1⟩ := box2 wr (.int .i64 x) (.string one) 67
          have k0 : w2.drew.cell? ⟨wr.heap.size, 0, none⟩ = some (.int .i64 x) := b0
          have k1 : w2.drew.cell? ⟨wr.heap.size, 1, none⟩ = some (.string one) := b1
          have MD : Hid (IMapIs Tryz.prog 3 w2.drew B nK f) := (HC2.out.below HB2.out).m.keep rfl
          obtain ⟨ro, hro⟩ : ∃ ro, (f x).getD nilV = ro := ⟨_, rfl⟩
          obtain ⟨n, hn⟩ : ∃ n, (l.take j).count x = n := ⟨_, rfl⟩
          have hn16 : n ≤ 16 := by have h3 := List.count_le_length (a := x) (l := l.take j); rw [List.length_take] at h3; omega
          obtain ⟨W6, E6⟩ : ∃ W, (w2.alloc (.cells #[.string one] 61)).drew = W := ⟨_, rfl⟩
          have hab : Below w2.heap.size w2 W6 := by rw [← E6]; exact ((Below.refl _ _).alloc (Nat.le_refl _) _).drew
          have C2 := Lib.hid (HC2.out.below HB2.out)
          have C6 := Lib.hid (C2.out.below hab)
          have N6 : Hid (W6.cell? ⟨w2.heap.size, 0, none⟩ = some (.string one)) := by
            rw [← E6]
            show (w2.alloc (.cells #[.string one] 61)).cell? _ = _
            simp
          have S6 : Hid (W6.heap.size = w2.heap.size + 1) := by rw [← E6]; show (w2.alloc (.cells #[.string one] 61)).heap.size = _; simp
          have k06 := cellB hab b0 s2
          have k16 := cellB hab b1 s2
          have B2 := Lib.hid (HBr.out.trans (HB2.out.mono HBr.out.size))
          have B6 := Lib.hid (B2.out.trans (hab.mono B2.out.size))
          have O6 : Hid (W6.ownsRow (B + 1) 61 1 ro n (onesC n)) := by have h3 := C6.out.row x; rw [hro, hn] at h3; exact h3
          have hlow : Hid (∀ g, ro.ownBlock = some g → B < g ∧ g < wr.heap.size) := fun g e => HC2.out.low (n := x) (by rw [hro]; exact e)
          have HE6 := Lib.hid E6
          have hBlt := Lib.hid HC2.out.m.lt
          have hsB2 := B2.out.size
          clear h1 h2 hx E6 hab b0 b1
          go_wp2_with (rw [E2.out])
          clear E2
          refine regionL [0, 1, 2, 3, 4, 5, 7, 8] (fun w' => w'.cell? ⟨wr.heap.size, 0, none⟩ = some (.int .i64 x) ∧ w'.cell? ⟨wr.heap.size, 1, none⟩ = some (.string one) ∧ True) (by kernel_rfl) (⟨k0, k1, trivial⟩) (fun Qn hPQ hQn hS0 => ?_)
          iterate 8 (refine takeL (v := ?_) rfl rfl (by kernel_rfl) (by kernel_rfl) (by kernel_rfl) hPQ hS0 (by kernel_rfl) ?_ ?_; rotate_left; (focus (intro w hSw; (try dsimp only at hSw); obtain ⟨q0, q1, _⟩ := hSw; go_simp; (try with_reducible rfl))); (try simp only [Act.put, List.setIfInBounds_toArray, List.set_cons_zero, List.set_cons_succ]))
          refine ofL (wpAnyH_ready (rs := [6, 9]) (by kernel_rfl) (by simp) ?_)
          refine AllReadyH.cons (o := _) rfl (fun K hK => ?_) (AllReadyH.cons (o := _) rfl (fun K hK => ?_) AllReadyH.nil)
          · refine step_ilook _ rfl (.tmp 51) (.tmp 53) 207 (by rfl) 3 155 Tryz.underlying3 Tryz.underlying207 B nK f (by rfl) MD.out (zeroInts _) x (by rfl) wfx.out ro hro ?_
            refine hK.out _ _ (⟨k0, k1, trivial⟩) (fun hS1 => toL [] ?_)
            clear hK K hS0
            (try simp only [Act.put, List.setIfInBounds_toArray])
            refine ofL (wpAnyH_ready (rs := [9]) (by kernel_rfl) (by simp) ?_)
            refine AllReadyH.cons (o := _) rfl (fun K hK => ?_) AllReadyH.nil
            go_simp
            (try rw [HE6.out])
            refine hK.out _ _ (⟨k06, k16, trivial⟩) (fun hS2 => toL [] ?_)
            clear hK K hS1
            (try simp only [Act.put, List.setIfInBounds_toArray, List.set_cons_zero, List.set_cons_succ])
            refine ofL (wpAnyH_ready (rs := [10]) (by kernel_rfl) (by simp) ?_)
            refine AllReadyH.cons (o := _) rfl (fun K hK => ?_) AllReadyH.nil
            refine step_append_lies _ rfl (.tmp 54) (.tmp 57) 155 (by rfl) (B + 1) 61 i0 _ 1 16 Tryz.underlying155 hi0 hi1 hi2 hi3 rfl (by decide) ro n (onesC n) (by rfl) O6.out ⟨w2.heap.size, 0, none⟩ 1 1 [.string one] (by rfl) rfl (fun q u hq => by
              cases q with
              | zero => cases hq; exact N6.out
              | succ q => cases hq) (fun u hu => by rw [List.mem_singleton] at hu; subst hu; rfl) (by decide) (by unfold maxLen; omega) (by omega) (by have := hBlt.out; have := S6.out; omega) (w2.heap.size + 1) S6.out ?_
            intro g7 cap7 w7 hown hgrow hlie hglt
            have O7 := Lib.hid hown
            have G7 := Lib.hid hgrow
            have L7 := Lib.hid hlie
            have k07 := cell_keep (hgrow.block wr.heap.size (by have := S6.out; omega) (fun e => by have := (hlow.out _ e.symm).2; omega)) k06
            have k17 := cell_keep (hgrow.block wr.heap.size (by have := S6.out; omega) (fun e => by have := (hlow.out _ e.symm).2; omega)) k16
            have M7 := Lib.hid (C6.out.m.keep (hgrow.block B (by have := S6.out; have := hBlt.out; omega) (fun e => by have := (hlow.out _ e.symm).1; omega)))
            have B7 := Lib.hid (B6.out.grown hgrow B6.out.size (fun q e => by have := (hlow.out q e).1; have := HBs.out; omega))
            have Z7 := hgrow.size
            clear hown hgrow hlie
            refine hK.out _ _ (⟨k07, k17, trivial⟩) (fun hS3 => toL [] ?_)
            clear hK K hS2
            (try simp only [Act.put, List.setIfInBounds_toArray])
            refine ofL (wpAnyH_ready (rs := [11]) (by kernel_rfl) (by simp) ?_)
            refine AllReadyH.cons (o := _) rfl (fun K hK => ?_) AllReadyH.nil
            refine step_istore _ rfl (.tmp 48) (.tmp 50) (.tmp 58) 207 (by rfl) 3 155 Tryz.underlying3 Tryz.underlying207 B nK f (by rfl) M7.out (by unfold maxLen; omega) x (.slice (some ⟨g7, 0, none⟩) (n + 1) cap7) (by rfl) (by rfl) wfx.out ?_
            intro w9 h9 g9
            have k09 := cell_keep (g9.block wr.heap.size (by have := S6.out; omega) (fun e => by have e2 := Option.some.inj e; have := hBlt.out; omega)) k07
            have k19 := cell_keep (g9.block wr.heap.size (by have := S6.out; omega) (fun e => by have e2 := Option.some.inj e; have := hBlt.out; omega)) k17
            have B9 := Lib.hid (B7.out.grown g9 B7.out.size (fun q e => by cases e; exact HBs.out))
            have C9 : Hid (Cn w9 B (nK + 1) (f.put x (.slice (some ⟨g7, 0, none⟩) (n + 1) cap7)) (l.take (j + 1))) := by
              unfold Hid
              rw [htk.out]
              exact C6.out.put x (g := g7) (by rw [hro]; exact G7.out) (by rw [hn]; exact O7.out) rfl (by rw [hro]; rcases L7.out with h | h; exact .inl h; exact .inr (by rw [S6.out]; exact h)) h9 g9
            clear h9 g9
            refine hK.out _ _ (⟨k09, k19, trivial⟩) (fun hS4 => toL [] ?_)
            clear hK K hS3
            (try simp only [Act.put])
            refine ofL (wpAnyH_done (by kernel_rfl) (hQn.out _ _ ?_) _)
            clear hS4 hPQ hQn Qn
            go_wp2_with fail
            exact ⟨⟨j + 1, nK + 1, _, by go_num, by omega, by omega, B9, C9⟩, by simp [intOf]; omega⟩
          · go_simp
            (try rw [HE6.out])
            refine hK.out _ _ (⟨k06, k16, trivial⟩) (fun hS1 => toL [] ?_)
            clear hK K hS0
            (try simp only [Act.put, List.setIfInBounds_toArray, List.set_cons_zero, List.set_cons_succ])
            refine ofL (wpAnyH_ready (rs := [6]) (by kernel_rfl) (by simp) ?_)
            refine AllReadyH.cons (o := _) rfl (fun K hK => ?_) AllReadyH.nil
            refine step_ilook _ rfl (.tmp 51) (.tmp 53) 207 (by rfl) 3 155 Tryz.underlying3 Tryz.underlying207 B nK f (by rfl) C6.out.m (zeroInts _) x (by rfl) wfx.out ro hro ?_
            refine hK.out _ _ (⟨k06, k16, trivial⟩) (fun hS2 => toL [] ?_)
            clear hK K hS1
            (try simp only [Act.put, List.setIfInBounds_toArray])
            refine ofL (wpAnyH_ready (rs := [10]) (by kernel_rfl) (by simp) ?_)
            refine AllReadyH.cons (o := _) rfl (fun K hK => ?_) AllReadyH.nil
            refine step_append_lies _ rfl (.tmp 54) (.tmp 57) 155 (by rfl) (B + 1) 61 i0 _ 1 16 Tryz.underlying155 hi0 hi1 hi2 hi3 rfl (by decide) ro n (onesC n) (by rfl) O6.out ⟨w2.heap.size, 0, none⟩ 1 1 [.string one] (by rfl) rfl (fun q u hq => by
              cases q with
              | zero => cases hq; exact N6.out
              | succ q => cases hq) (fun u hu => by rw [List.mem_singleton] at hu; subst hu; rfl) (by decide) (by unfold maxLen; omega) (by omega) (by have := hBlt.out; have := S6.out; omega) (w2.heap.size + 1) S6.out ?_
            intro g7 cap7 w7 hown hgrow hlie hglt
            have O7 := Lib.hid hown
            have G7 := Lib.hid hgrow
            have L7 := Lib.hid hlie
            have k07 := cell_keep (hgrow.block wr.heap.size (by have := S6.out; omega) (fun e => by have := (hlow.out _ e.symm).2; omega)) k06
            have k17 := cell_keep (hgrow.block wr.heap.size (by have := S6.out; omega) (fun e => by have := (hlow.out _ e.symm).2; omega)) k16
            have M7 := Lib.hid (C6.out.m.keep (hgrow.block B (by have := S6.out; have := hBlt.out; omega) (fun e => by have := (hlow.out _ e.symm).1; omega)))
            have B7 := Lib.hid (B6.out.grown hgrow B6.out.size (fun q e => by have := (hlow.out q e).1; have := HBs.out; omega))
            have Z7 := hgrow.size
            clear hown hgrow hlie
            refine hK.out _ _ (⟨k07, k17, trivial⟩) (fun hS3 => toL [] ?_)
            clear hK K hS2
            (try simp only [Act.put])
            refine ofL (wpAnyH_ready (rs := [11]) (by kernel_rfl) (by simp) ?_)
            refine AllReadyH.cons (o := _) rfl (fun K hK => ?_) AllReadyH.nil
            refine step_istore _ rfl (.tmp 48) (.tmp 50) (.tmp 58) 207 (by rfl) 3 155 Tryz.underlying3 Tryz.underlying207 B nK f (by rfl) M7.out (by unfold maxLen; omega) x (.slice (some ⟨g7, 0, none⟩) (n + 1) cap7) (by rfl) (by rfl) wfx.out ?_
            intro w9 h9 g9
            have k09 := cell_keep (g9.block wr.heap.size (by have := S6.out; omega) (fun e => by have e2 := Option.some.inj e; have := hBlt.out; omega)) k07
            have k19 := cell_keep (g9.block wr.heap.size (by have := S6.out; omega) (fun e => by have e2 := Option.some.inj e; have := hBlt.out; omega)) k17
            have B9 := Lib.hid (B7.out.grown g9 B7.out.size (fun q e => by cases e; exact HBs.out))
            have C9 : Hid (Cn w9 B (nK + 1) (f.put x (.slice (some ⟨g7, 0, none⟩) (n + 1) cap7)) (l.take (j + 1))) := by
              unfold Hid
              rw [htk.out]
              exact C6.out.put x (g := g7) (by rw [hro]; exact G7.out) (by rw [hn]; exact O7.out) rfl (by rw [hro]; rcases L7.out with h | h; exact .inl h; exact .inr (by rw [S6.out]; exact h)) h9 g9
            clear h9 g9
            refine hK.out _ _ (⟨k09, k19, trivial⟩) (fun hS4 => toL [] ?_)
            clear hK K hS3
            (try simp only [Act.put])
            refine ofL (wpAnyH_done (by kernel_rfl) (hQn.out _ _ ?_) _)
            clear hS4 hPQ hQn Qn
            go_wp2_with fail
            exact ⟨⟨j + 1, nK + 1, _, by go_num, by omega, by omega, B9, C9⟩, by simp [intOf]; omega⟩
        · have K1 : ((j : Int) < (l.length : Int)) = False := eq_false (by omega)
          obtain rfl : j = l.length := by omega
          obtain ⟨Wp, hWp⟩ : ∃ Wp, Wp = wr := ⟨_, rfl⟩
          subst hWp
          have HC3 : Hid (Cn Wp B nK f l) := by have h3 := HC2.out; rw [List.take_length] at h3; exact h3
          have HG := Lib.hid HC3.out.got
          have HKY : Hid (∀ n, (f n).isSome = decide (n ∈ l)) := HC3.out.key
          obtain ⟨rr, hrr⟩ : ∃ z, Wp.heap.size = z := ⟨_, rfl⟩
          have hK16 : nK ≤ 16 := by have := HL.out; omega
          clear HC2
          go_wp2_with (at_range; refine wp_irange _ rfl _ 207 rfl Tryz.underlying3 Tryz.underlying207 B nK f rfl HC3.out.m ?_; intro w3 cnt0 hrg0 hcn hg0 hs0)
          go_frame
          rw [hrr] at hrg0 hs0 ⊢
          have HRG := Lib.hid hrg0
          have B3 : Hid (Below rr Wp w3) := (Below.refl rr Wp).grown hg0 (by omega) (fun q e => by cases e)
          clear hrg0 hg0
          go_loopw [10] (fun ov wq => ∃ (O : List Wt) (lf : Int → Bool) (cnt : Nat), Hid (IRan Tryz.prog 3 wq B rr nK f lf cnt) ∧ O.length + cnt ≤ 16 ∧ Hid (wq.ownsRow (rr + 1) 67 2 ov O.length (wdsC (wts O))) ∧ Hid (Gat l lf O) ∧ Hid (Below rr Wp wq) ∧ Hid (rr < wq.heap.size)) (fun _ wq => wq.rangeLeft B rr)
          case atStart =>
            exact ⟨[], _, cnt0, HRG, by simp only [List.length_nil]; omega, ⟨rfl, .inl ⟨rfl, rfl⟩⟩, Gat.start l _ (fun n hn => by rw [HKY.out]; exact decide_eq_true hn), B3, by unfold Hid; omega⟩
          case round =>
            obtain ⟨O, lf, cnt, HI, hOc, HO, HGt, HBq, HSq⟩ := hrel
            clear HRG B3
            have BW : Hid (Below w.heap.size w wr) := HBr.out.trans (HBq.out.mono (by have := HBr.out.size; omega))
            obtain ⟨oa, oc, hov, hcc, _⟩ := ownsRow_read HO.out
            have HCC := Lib.hid hcc
            subst hov
            clear hcc
            go_wp2_with (at_next; refine wp_inext _ rfl _ rfl Tryz.underlying3 B rr nK f lf cnt rfl HI.out ?_ ?_)
            · intro hl0
              have hpos : Hid (0 < O.length) := by
                have hm : at0 l 0 ∈ l := by rw [at0_get H0.out]; exact List.getElem_mem _
                obtain ⟨y, hy, _⟩ := (HGt.out.key (at0 l 0)).2 ⟨hm, hl0 _⟩
                exact List.length_pos_of_mem hy
              have K2 : ((O.length : Int) == 0) = false := by have h7 : O.length ≠ 0 := Nat.ne_of_gt hpos.out; simpa using h7
              have HL0 := Lib.hid hl0
              have HRO : Hid (∀ y ∈ O, -1048576 ≤ y.1 ∧ y.1 ≤ 1048576) := fun y hy => HRV.out _ (((HGt.out.key y.1).1 ⟨y, hy, rfl⟩).1)
              clear hl0
              go_wp2_with fail
              refine sortW_any (rr + 1) O _ _ _ (by have := HSq.out; omega) (by omega) hpos.out HRO.out HO.out fun a c3 d w4 hv hb hp hs hcells => ?_
              cases hv
              have hd := HGt.out.sorted HL0.out hp hs
              subst hd
              have B4 := Lib.hid (BW.out.trans (hb.mono (by have := HBr.out.size; omega)))
              have C4 := Lib.hid hcells
              have EL : Hid (O.length = (serW l).length) := hp.length_eq
              clear hb hp hs hcells
              go_wp2_with fail
              refine ret_eq (HR.out oa oc _ B4.out C4.out) ?_
              rw [EL.out]
              rfl
            · intro x cv w4 cnt1 hwx hlx hfx hrg1 hlt1 hg1 hs1 hen
              obtain ⟨hxl, ao2, c2, rfl, hcr⟩ := HG.out x cv hfx
              have hkp : 0 < l.count x := List.count_pos_iff.2 hxl
              have hkl : l.count x ≤ 4096 := by have := List.count_le_length (a := x) (l := l); have := HL.out; omega
              have B4 : Hid (Below rr Wp w4) := HBq.out.grown hg1 (Nat.le_of_lt HSq.out) (fun q e => by cases e; exact Nat.le_refl _)
              have HCR := Lib.hid (hcr.below (hrr ▸ B4.out))
              have HI4 := Lib.hid hrg1
              have HO4 : Hid (w4.ownsRow (rr + 1) 67 2 (.slice oa O.length oc) O.length (wdsC (wts O))) := ownsRow_at HO.out fun g e => hg1.block g (HO.out.lt g e).2 (fun e2 => by have e3 := Option.some.inj e2; have := (HO.out.lt g e).1; omega)
              have HG5 := Lib.hid (HGt.out.step hxl hlx)
              have BW4 : Hid (Below w.heap.size w w4) := HBr.out.trans (B4.out.mono (by have := HBr.out.size; omega))
              have HE4 := Lib.hid (HE.out.below BW4.out)
              have HS4 : Hid (rr < w4.heap.size) := by have := HSq.out; unfold Hid; omega
              obtain ⟨kx, hkx⟩ : ∃ kx, l.count x = kx := ⟨_, rfl⟩
              rw [hkx] at hkp hkl HCR HG5
              clear hfx hrg1 hg1 hcr hlx
              go_wp2_with fail
              rw [hkx]
              refine wtotal_ones ao2 kx c2 hkl hkp _ _ HE4.out HCR.out fun r w5 hb hr => ?_
              have T5 := Lib.hid hr
              have B5 := Lib.hid (B4.out.trans (hb.mono (by have := HS4.out; omega)))
              have HI5 := Lib.hid (HI4.out.below hb)
              have HO5 := Lib.hid (ownsRow_below HO4.out hb)
              have HS5 : Hid (rr < w5.heap.size) := by have := HS4.out; have := hb.size; unfold Hid; omega
              have q1 := hr.beqL 0 itoa_0
              rw [decide_eq_false (by omega)] at q1
              have q2 : (r.toList != [48]) = true := by simp [bne, q1]
              obtain ⟨w6, E6, HB6, s6, X6⟩ := box_ex w5 #[.int .i64 x, .string r] 67
              have HI6 := Lib.hid (HI5.out.below HB6.out)
              have HO6 := Lib.hid (ownsRow_below HO5.out HB6.out)
              have C6 := Lib.hid (CellsAt.new2 X6.out)
              have B6 := Lib.hid (B5.out.trans (HB6.out.mono (by have := HS5.out; omega)))
              have hO16 : O.length ≤ 16 := by omega
              have HL5 := Lib.hid hlt1
              clear hb hr hen hkx
              go_wp2_with (first | (rw [E6]) | (at_builtin; refine wp_appendT rfl (.tmp 77) (.tmp 81) 28 rfl (rr + 1) 67 Tryz.underlying28 Tryz.infoWtd rfl (by decide) (.slice oa O.length oc) O.length (wdsC (wts O)) rfl HO6.out ⟨w5.heap.size, 0, none⟩ 1 1 [.int .i64 x, .string r] rfl rfl C6.out (wd_one x r) (by omega) (by omega) (by have := HS5.out; omega) ?_; intro v7 w7 hown7 hg7 _; have O7 := Lib.hid hown7; have G7 := Lib.hid hg7; clear hown7 hg7))
              have I7 : Hid (IRan Tryz.prog 3 w7 B rr nK f (fun y => lf y && !decide (y = x)) cnt1) := HI6.out.keep (G7.out.block B HI6.out.lt.2 (fun e => by have := (HO6.out.lt B e.symm).1; have h8 := HC3.out.m.lt; omega)) (G7.out.block rr HI6.out.lt.1 (fun e => by have := (HO6.out.lt rr e.symm).1; omega))
              have B7 := Lib.hid (B6.out.grown G7.out (by have := HS5.out; omega) (fun q e => by have := (HO6.out.lt q e).1; omega))
              have hrt : r = tB (Lib.itoa (kx : Int)) := Tx.eq T5.out
              have O8 : Hid (w7.ownsRow (rr + 1) 67 2 v7 (O ++ [(x, (kx : Int))]).length (wdsC (wts (O ++ [(x, (kx : Int))])))) := by
                unfold Hid
                rw [wts_snoc, List.length_append]
                have h8 := O7.out
                rw [hrt] at h8
                exact h8
              exact ⟨⟨O ++ [(x, (kx : Int))], _, cnt1, I7, by rw [List.length_append, List.length_singleton]; have := HL5.out; omega, O8, HG5, B7, by have := G7.out.size; have := HS5.out; unfold Hid; omega⟩, by rw [I7.out.left_eq, HI.out.left_eq]; exact HL5.out⟩
theorem wts_oneW_snoc (L : List Int) (x : Int) : wdsC (wts (oneW (L ++ [x]))) = wdsC (wts (oneW L)) ++ [.int .i64 x, .string one] := by
  unfold oneW
  rw [List.map_append]
  show wdsC (wts (oneW L ++ [(x, 1)])) = _
  rw [wts_snoc, tB_one]; rfl
set_option maxHeartbeats 2000000 in
theorem playCollected_any (ao : Option Addr) (l : List Int) (c : Nat) (h0 : 0 < l.length) (hl : l.length ≤ 16) (hr : ∀ n ∈ l, -1048576 ≤ n ∧ n ≤ 1048576) (w : World) (R : Ending → World → Prop) (hE : Env w) (hc : CellsAt w ao (I64s l))
   (hR : ∀ a c' w', Below w.heap.size w w' → CellsAt w' a (wdsC (wts (serW l))) → R (.returned (.tuple #[.slice a (serW l).length c', .int .i64 0])) w') :
    Calls Tryz.prog 66 #[.slice ao l.length c] w R := by
  have HR := Lib.hid hR
  have HE := Lib.hid hE
  obtain ⟨b, o, rfl, hbw, hcell⟩ := hc.ints h0
  have HCE := Lib.hid hcell
  have HBW := Lib.hid hbw
  clear hR hE hc hcell hbw
  go_enter Tryz.func66, Tryz.ntmps66
  go_wp2_with fail
  go_loopw [9, 4] (fun i ov wr => ∃ j : Nat, i = .int .i64 j ∧ j ≤ l.length ∧ Hid (Below w.heap.size w wr) ∧ Hid (wr.ownsRow w.heap.size 67 2 ov j (wdsC (wts (oneW (l.take j)))))) (fun i _ _ => l.length - (intOf i).toNat)
  case atStart => exact ⟨0, rfl, Nat.zero_le _, Below.refl _ _, ⟨rfl, .inl ⟨rfl, rfl⟩⟩⟩
  case round =>
    obtain ⟨j, rfl, hj, HBr, HO⟩ := hrel
    by_cases hlt : j < l.length
    · have K1 : ((j : Int) < (l.length : Int)) = True := eq_true (by omega)
      have g0 := cellB HBr.out (HCE.out j hlt) HBW.out
      have htk : Hid (l.take (j + 1) = l.take j ++ [at0 l j]) := by unfold Hid; rw [List.take_succ_eq_append_getElem hlt, at0_get hlt]
      obtain ⟨x, hx⟩ : ∃ x, at0 l j = x := ⟨_, rfl⟩
      rw [hx] at g0 htk
      obtain ⟨w6, E6, HB6, s6, X6⟩ := box_ex wr #[.int .i64 x, .string one] 67
      have E7 : wr.alloc (.cells #[.int .i64 x, .string ⟨#[49]⟩] 67) = w6 := E6
      have HO6 := Lib.hid (ownsRow_below HO.out HB6.out)
      have C6 := Lib.hid (CellsAt.new2 X6.out)
      have B6 := Lib.hid (HBr.out.trans (HB6.out.mono HBr.out.size))
      have hs := HBr.out.size
      clear hx E6
      go_wp2_with (first | (rw [E7]) | (at_builtin; refine wp_appendT rfl (.tmp 13) (.tmp 16) 28 rfl w.heap.size 67 Tryz.underlying28 Tryz.infoWtd rfl (by decide) u4 j (wdsC (wts (oneW (l.take j)))) rfl HO6.out ⟨wr.heap.size, 0, none⟩ 1 1 [.int .i64 x, .string one] rfl rfl C6.out (wd_one x one) (by omega) (by omega) (by omega) ?_; intro v7 w7 hown7 hg7 _; have O7 := Lib.hid hown7; have G7 := Lib.hid hg7; clear hown7 hg7))
      have B7 := Lib.hid (B6.out.grown G7.out B6.out.size (fun q e => (HO6.out.lt q e).1))
      have O8 : Hid (w7.ownsRow w.heap.size 67 2 v7 (j + 1) (wdsC (wts (oneW (l.take (j + 1)))))) := by unfold Hid; rw [htk.out, wts_oneW_snoc]; exact O7.out
      exact ⟨⟨j + 1, by go_num, by omega, B7, O8⟩, by simp [intOf]; omega⟩
    · have K1 : ((j : Int) < (l.length : Int)) = False := eq_false (by omega)
      obtain rfl : j = l.length := by omega
      rw [List.take_length] at HO
      obtain ⟨oa, oc, hov, hcc, _⟩ := ownsRow_read HO.out
      have HCC := Lib.hid hcc
      have HEr := Lib.hid (HE.out.below HBr.out)
      subst hov
      clear hcc
      go_wp2_with fail
      refine collect_any oa l oc h0 hl hr _ _ HEr.out HCC.out fun a c' w8 hb hcl => ?_
      have B8 := Lib.hid (HBr.out.trans (hb.mono HBr.out.size))
      have C8 := Lib.hid hcl
      clear hb hcl
      go_wp2_with fail
      exact HR.out _ _ _ B8.out C8.out
end Go.Proofs.YtcmhompbdanpdaaGreatDoor
namespace Go.Proofs.YtcmhompbdanpdaaGreatDoor
open Go.RowKit

set_option exponentiation.threshold 4000 in
theorem SmR.okB {q : Rat} (h : SmR 900 q) : OkR q := ⟨(lenI_le (by omega)).2 (Nat.lt_of_lt_of_le h.1 (Nat.pow_le_pow_right (by decide) (by decide))), dec_len_lt (Nat.lt_of_lt_of_le h.2 (Nat.pow_le_pow_right (by decide) (by decide))) (by decide)⟩
theorem insW_len (x : Wt) (l : List Wt) : (insW x l).length ≤ l.length + 1 := by
  induction l with
  | nil => exact Nat.le_refl _
  | cons y l ih =>
    rw [insW]
    split
    · simp only [List.length_cons]; omega
    · split
      · simp only [List.length_cons]; omega
      · simp only [List.length_cons]; omega
theorem fold_len (l : List Wt) : ∀ a : List Wt, (l.foldl (fun o x => insW x o) a).length ≤ a.length + l.length := by
  induction l with
  | nil => exact fun a => Nat.le_refl _
  | cons x l ih =>
    intro a
    have h1 := ih (insW x a)
    have h2 := insW_len x a
    show (l.foldl _ (insW x a)).length ≤ _
    rw [List.length_cons]
    omega
theorem gatW_len (l : List Wt) : (gatW l).length ≤ l.length := by
  have := fold_len l []
  rw [List.length_nil, Nat.zero_add] at this
  exact this
theorem ser_dk {l : List Int} (h : pvS l = true) : Dk (serW l) := by
  obtain ⟨hr, hx⟩ := pvS_rg h
  have h16 : l.length ≤ 16 := by unfold pvS at h; simp only [Bool.and_eq_true, decide_eq_true_eq] at h; exact h.1.2
  have hp : 0 < l.length := by unfold pvS at h; simp only [Bool.and_eq_true, decide_eq_true_eq] at h; omega
  have hlen : (serW l).length ≤ 16 := by
    have := gatW_len (oneW l)
    have h2 : (oneW l).length = l.length := by unfold oneW; rw [List.length_map]
    unfold serW; omega
  have hw : ∀ x ∈ serW l, x.2.natAbs ≤ 16 := fun x hxm => by
    have h3 := (ser_up l).at hxm
    unfold serW at h3
    rw [(gatW_spec _).2.1, one_at] at h3
    have h4 := List.count_le_length (a := x.1) (l := l)
    omega
  have hk : ∀ x ∈ serW l, x.1 ∈ l := fun x hxm => ser_key.1 ⟨x, hxm, rfl⟩
  refine ⟨⟨?_, by omega, ser_up l, ser_pos l, fun x hxm => inT_iff.2 ?_, fun x hxm => ?_⟩, fun x hxm => ?_⟩
  · have hm : at0 l 0 ∈ l := by rw [at0_get hp]; exact List.getElem_mem _
    obtain ⟨y, hy, _⟩ := ser_key.2 hm
    exact List.length_pos_of_mem hy
  · have := hx _ (hk x hxm); omega
  · exact abs_len (k := 2) (Nat.lt_of_le_of_lt (hw x hxm) (by decide))
  · exact Nat.lt_of_le_of_lt (hw x hxm) (Nat.lt_of_lt_of_le (by decide : 16 < 10 ^ 2) (Nat.pow_le_pow_right (by decide) (by decide)))
theorem Dk.varS {l : List Wt} (h : Dk l) : SmR 655 (varW l) := (h.var.sub (h.mean.mul h.mean)).mono (by decide)
set_option maxRecDepth 100000 in
set_option maxHeartbeats 4000000 in
theorem topMoments_any (ao : Option Addr) (l : List Int) (c : Nat) (w : World) (R : Ending → World → Prop) (hc : CellsAt w ao (I64s l)) (hE : Env w) (hR : ∀ w', Below w.heap.size w w' → R (.returned (.bool true)) w') :
    Calls Tryz.prog 12 #[.slice ao l.length c] w R := by
  have HR := Lib.hid hR
  have HC := Lib.hid hc
  have HE := Lib.hid hE
  clear hR hc hE
  go_enter Tryz.func12, Tryz.ntmps12
  go_wp2_with fail
  refine playValues_any ao l c _ _ HC.out ?_
  cases hr : pvS l with
  | false =>
    clear hr
    go_wp2_with fail
    refine playSeries_any _ _ HE.out fun w9 hb => ?_
    have B9 := Lib.hid hb
    clear hb
    go_wp2_with fail
    exact HR.out _ B9.out
  | true =>
    have Hpv := Lib.hid hr
    have Hrg := Lib.hid (pvS_rg hr).1
    have HL : Hid (l.length ≤ 1000000000) := by have := (rgS_ok Hrg.out).2.1; unfold Hid; omega
    have hp : Hid (0 < l.length) := by have := (rgS_ok Hrg.out).1; unfold Hid; omega
    have h2 : Hid (2 ≤ l.length) := (rgS_ok Hrg.out).1
    have h16 : l.length ≤ 16 := by unfold pvS at hr; simp only [Bool.and_eq_true, decide_eq_true_eq] at hr; exact hr.1.2
    have HRG : Hid (∀ n ∈ l, -1048576 ≤ n ∧ n ≤ 1048576) := fun n hn => by have := (pvS_rg Hpv.out).2 n hn; omega
    have DK := Lib.hid (ser_dk hr)
    have SV := Lib.hid DK.out.varS
    have SR : Hid (SmR 2 (Rat.divInt (l.length : Int) ((l.length : Int) - 1))) := SmR.ofDiv (by have := h2.out; omega) (by omega) (by omega)
    have KL : IntKind.i64.wrap ((l.length : Int) - 1) = (l.length : Int) - 1 := by have := h2.out; rw [IntKind.wrap_i64] <;> omega
    have EM := Lib.hid (ser_mean l)
    have EV := Lib.hid (ser_var h2.out)
    clear hr
    go_wp2_with fail
    refine playCollected_any ao l c hp.out h16 HRG.out _ _ HE.out HC.out fun a c' w1 hb hcl => ?_
    have B1 := Lib.hid hb
    have D1 := Lib.hid hcl
    have C1 := Lib.hid (HC.out.below hb)
    have HE1 := Lib.hid (HE.out.below hb)
    clear hb hcl
    go_wp2_with fail
    refine dmean_any a (serW l) c' DK.out _ _ HE1.out D1.out fun r2 w2 hb hr => ?_
    have B2 := Lib.hid (bstep B1.out hb)
    have T2 := Lib.hid hr
    have D2 := Lib.hid (D1.out.below hb)
    have C2 := Lib.hid (C1.out.below hb)
    have HE2 := Lib.hid (HE1.out.below hb)
    clear hb hr
    go_wp2_with fail
    refine zmean_any _ l c _ _ HL.out C2.out HE2.out fun r3 w3 hb h1 h3 => ?_
    have T3 := Lib.hid (h1 (rgS_ck Hrg.out).1)
    rw [(rgS_ck Hrg.out).1]
    have B3 := Lib.hid (bstep B2.out hb)
    have D3 := Lib.hid (D2.out.below hb)
    have C3 := Lib.hid (C2.out.below hb)
    have HE3 := Lib.hid (HE2.out.below hb)
    clear hb h1 h3
    go_wp2_with fail
    refine dvar_any a (serW l) c' DK.out _ _ HE3.out D3.out fun r4 w4 hb hr => ?_
    have T4 := Lib.hid hr
    have B4 := Lib.hid (bstep B3.out hb)
    have C4 := Lib.hid (C3.out.below hb)
    have HE4 := Lib.hid (HE3.out.below hb)
    clear hb hr
    go_wp2_with fail
    refine zvariance_any _ l c _ _ HL.out C4.out HE4.out fun r5 w5 hb h1 h3 => ?_
    have T5 := Lib.hid (h1 (rgS_ck Hrg.out).2)
    rw [(rgS_ck Hrg.out).2]
    have B5 := Lib.hid (bstep B4.out hb)
    have HE5 := Lib.hid (HE4.out.below hb)
    clear hb h1 h3
    go_wp2_with fail
    refine yover_any (l.length : Int) ((l.length : Int) - 1) (by omega) (by omega) (by omega) (by omega) (by have := h2.out; omega) _ _ fun r6 w6 hb hr => ?_
    have T6 := Lib.hid hr
    have B6 := Lib.hid (bstep B5.out hb)
    have HE6 := Lib.hid (HE5.out.below hb)
    clear hb hr
    go_wp2_with fail
    refine rmul_any r4 r6 _ _ T4.out T6.out (SV.out.mono (by decide)).okB (SR.out.mono (by decide)).okB (fit_nn SV.out SR.out) (fit_dd SV.out SR.out) _ _ HE6.out fun r7 w7 hb hr => ?_
    have T7 := Lib.hid hr
    have B7 := Lib.hid (bstep B6.out hb)
    have HE7 := Lib.hid (HE6.out.below hb)
    have e1 : r2 = r3 := (TxR.inj T2.out T3.out).2 EM.out
    have e2 : r7 = r5 := (TxR.inj T7.out T5.out).2 EV.out
    subst e1 e2
    clear hb hr
    go_wp2_with fail
    refine playSeries_any _ _ HE7.out fun w9 hb => ?_
    have B9 := Lib.hid (bstep B7.out hb)
    clear hb
    go_wp2_with fail
    exact HR.out _ B9.out
end Go.Proofs.YtcmhompbdanpdaaGreatDoor
namespace Go.Proofs.YtcmhompbdanpdaaGreatDoor
open Go.RowKit

def halfR : Rat := Rat.divInt 1 2
theorem halfR_eq : halfR = (1 : Rat) / 2 := Rat.divInt_eq_div 1 2
theorem txR_half : TxR ⟨#[49, 47, 50]⟩ halfR := by
  have h1 : halfR.num = 1 := by decide
  have h2 : halfR.den = 2 := by decide
  unfold TxR rtL
  rw [h1, h2, if_neg (by decide), itoa_1, dec_small (by decide)]
  rfl
theorem sm_half : SmR 1 halfR := by
  have h1 : halfR.num = 1 := by decide
  have h2 : halfR.den = 2 := by decide
  exact ⟨by rw [h1]; decide, by rw [h2]; decide⟩
theorem half_rng : 0 ≤ halfR ∧ halfR ≤ 1 := by
  constructor <;> decide
theorem med_small {l : List Int} (h : pvS l = true) : SmR 30 (medS l) := by
  have hrg := (pvS_rg h).1
  have hs := rgS_srs hrg
  have hp : 0 < l.length := by have := (rgS_ok hrg).1; omega
  have h1 := hs.med (k := (l.length - 1) / 2) (by omega)
  have h2 := hs.med (k := l.length / 2) (by omega)
  exact SmR.ofDiv (by decide) (by omega) (by omega)
theorem cmpR_le {p q : Rat} (h : p ≤ q) : cmpR p q ≤ 0 := by
  have : ¬ 0 < cmpR p q := fun e => absurd h (Rat.not_le.2 (cmpR_gt.1 e))
  omega
theorem hc_sum {low w : Int} (hw : 1 ≤ w) (l : List Int) : Rat.divInt (((hcN low w 3 l 1 + hcN low w 3 l 2 + hcN low w 3 l 3 : Nat)) : Int) l.length = probW (serW l) low (low + 3 * w - 1) := by
  unfold probW
  rw [(ser_mom l).1, ind_count (fun x => low ≤ x ∧ x ≤ low + 3 * w - 1), bins_count low w hw]
theorem pv_low {l : List Int} (h : pvS l = true) : ∀ x ∈ l, -1048576 ≤ x := fun x hx => by have := (pvS_rg h).2 x hx; omega
theorem quant1 {l : List Int} (h : pvS l = true) (hp : 0 < l.length) : ∃ y, (serW l).find? (fun x => decide (halfR ≤ probW (serW l) (-1048576) x.1)) = some y ∧ y.1 = at0 (sortL l) ((l.length - 1) / 2) :=
  quant (c := fun v => decide (halfR ≤ probW (serW l) (-1048576) v)) (by omega) fun v => by rw [decide_eq_true_eq, halfR_eq]; exact half_share (pv_low h) hp
theorem quant2 {l : List Int} (h : pvS l = true) (hp : 0 < l.length) : ∃ y, (serW l).find? (fun x => decide (Rat.divInt ((l.length / 2 + 1 : Nat) : Int) l.length ≤ probW (serW l) (-1048576) x.1)) = some y ∧ y.1 = at0 (sortL l) (l.length / 2) :=
  quant (c := fun v => decide (Rat.divInt ((l.length / 2 + 1 : Nat) : Int) l.length ≤ probW (serW l) (-1048576) v)) (by omega) fun v => by rw [decide_eq_true_eq]; exact ser_share (pv_low h) (by omega)
theorem frac_rng {a n : Nat} (hn : 0 < n) (ha : a ≤ n) : 0 ≤ Rat.divInt (a : Int) n ∧ Rat.divInt (a : Int) n ≤ 1 := by
  have h0 : (0 : Rat) < ((n : Int) : Rat) := Rat.intCast_pos.2 (by omega)
  rw [Rat.divInt_eq_div, Rat.div_def]
  have hi : 0 < ((n : Int) : Rat)⁻¹ := Rat.inv_pos.2 h0
  constructor
  · exact Rat.mul_nonneg (Rat.intCast_nonneg.2 (by omega)) (Rat.le_of_lt hi)
  · have h1 : ((a : Int) : Rat) ≤ ((n : Int) : Rat) := Rat.intCast_le_intCast.2 (by omega)
    have h2 := Rat.mul_le_mul_of_nonneg_right h1 (Rat.le_of_lt hi)
    rwa [Rat.mul_inv_cancel _ (Rat.ne_of_gt h0)] at h2
set_option maxRecDepth 100000 in
set_option maxHeartbeats 8000000 in
theorem topCounts_any (ao : Option Addr) (l : List Int) (c : Nat) (lw g : Int) (w : World) (R : Ending → World → Prop) (hc : CellsAt w ao (I64s l)) (hlw : -128 ≤ lw ∧ lw ≤ 127) (hg : 0 ≤ g ∧ g ≤ 255) (hE : Env w) (hR : ∀ w', Below w.heap.size w w' → R (.returned (.bool true)) w') :
    Calls Tryz.prog 13 #[.slice ao l.length c, .int .i8 lw, .int .u8 g] w R := by
  have HR := Lib.hid hR
  have HC := Lib.hid hc
  have HE := Lib.hid hE
  have HLW := Lib.hid hlw
  obtain ⟨hg1, hg2⟩ := hg
  clear hR hc hE hlw
  go_enter Tryz.func13, Tryz.ntmps13
  go_wp2_with fail
  refine playValues_any ao l c _ _ HC.out ?_
  cases hr : pvS l with
  | false =>
    clear hr
    go_wp2_with fail
    refine playSeries_any _ _ HE.out fun w9 hb => ?_
    have B9 := Lib.hid hb
    clear hb
    go_wp2_with fail
    exact HR.out _ B9.out
  | true =>
    have Hpv := Lib.hid hr
    have Hrg := Lib.hid (pvS_rg hr).1
    have HL : Hid (l.length ≤ 1000000000) := by have := (rgS_ok Hrg.out).2.1; unfold Hid; omega
    have hp : Hid (0 < l.length) := by have := (rgS_ok Hrg.out).1; unfold Hid; omega
    have h2 : Hid (2 ≤ l.length) := (rgS_ok Hrg.out).1
    have h16 : l.length ≤ 16 := by unfold pvS at hr; simp only [Bool.and_eq_true, decide_eq_true_eq] at hr; exact hr.1.2
    have HRG : Hid (∀ n ∈ l, -1048576 ≤ n ∧ n ≤ 1048576) := fun n hn => by have := (pvS_rg Hpv.out).2 n hn; omega
    have DK := Lib.hid (ser_dk hr)
    obtain ⟨r, hrm, hrb⟩ : ∃ r : Nat, g.tmod 20 = (r : Int) ∧ r < 20 := by
      rw [Int.tmod_eq_emod_of_nonneg hg1]
      exact ⟨(g % 20).toNat, by omega, by omega⟩
    obtain ⟨n, hn⟩ : ∃ n : Int, 1 + (r : Int) = n := ⟨_, rfl⟩
    obtain ⟨hi, hhi⟩ : ∃ z : Int, lw + 3 * n - 1 = z := ⟨_, rfl⟩
    obtain ⟨m, hm⟩ : ∃ m : Nat, l.length / 2 = m := ⟨_, rfl⟩
    have hm16 : m ≤ 8 := by omega
    have hlw2 := HLW.out
    have KC : IntKind.i64.wrap lw = lw := by rw [IntKind.wrap_i64] <;> omega
    have K4 : IntKind.u8.wrap (r : Int) = (r : Int) := by rw [IntKind.wrap_u8] <;> omega
    have K5 : IntKind.i64.wrap (r : Int) = (r : Int) := by rw [IntKind.wrap_i64] <;> omega
    have K6 : IntKind.i64.wrap (1 + (r : Int)) = n := by rw [hn, IntKind.wrap_i64] <;> omega
    have K7 : IntKind.i64.wrap (3 * n) = 3 * n := by rw [IntKind.wrap_i64] <;> omega
    have K8 : IntKind.i64.wrap (lw + 3 * n) = lw + 3 * n := by rw [IntKind.wrap_i64] <;> omega
    have K9 : IntKind.i64.wrap (lw + 3 * n - 1) = hi := by rw [hhi, IntKind.wrap_i64] <;> omega
    have K10 : (l.length : Int).tdiv 2 = (m : Int) := by rw [Int.tdiv_eq_ediv_of_nonneg (by omega)]; omega
    have K11 : IntKind.i64.wrap (m : Int) = (m : Int) := by rw [IntKind.wrap_i64] <;> omega
    have K12 : IntKind.i64.wrap ((m : Int) + 1) = ((m + 1 : Nat) : Int) := by rw [IntKind.wrap_i64] <;> omega
    have HN : Hid (1 ≤ n ∧ n ≤ 20) := by unfold Hid; omega
    have hin : inT lw = true := inT_iff.2 (by omega)
    have hEh : hsE l lw n 3 = 0 := by unfold hsE; rw [if_pos (rgS_ck Hrg.out).1, if_pos ⟨hin, by omega, by omega, by omega, by omega⟩]
    have HEH := Lib.hid hEh
    have HSUM : Hid (Rat.divInt (((hcN lw n 3 l 1 + hcN lw n 3 l 2 + hcN lw n 3 l 3 : Nat)) : Int) l.length = probW (serW l) lw hi) := by unfold Hid; rw [← hhi]; exact hc_sum HN.out.1 l
    obtain ⟨y1, hq1, hy1⟩ := quant1 hr hp.out
    obtain ⟨y2, hq2, hy2⟩ := quant2 hr hp.out
    obtain ⟨_, hmd1, hmd2⟩ := med_between hp.out
    rw [← hy1] at hmd1
    rw [← hy2] at hmd2
    rw [hm] at hq2
    have HQ1 := Lib.hid hq1
    have HQ2 := Lib.hid hq2
    have hyr : Hid ((-1048576 ≤ y1.1 ∧ y1.1 ≤ 1048576) ∧ (-1048576 ≤ y2.1 ∧ y2.1 ≤ 1048576)) := by
      refine ⟨?_, ?_⟩
      · exact HRG.out _ (ser_key.1 ⟨y1, List.mem_of_find?_eq_some HQ1.out, rfl⟩)
      · exact HRG.out _ (ser_key.1 ⟨y2, List.mem_of_find?_eq_some HQ2.out, rfl⟩)
    have HM1 := Lib.hid hmd1
    have HM2 := Lib.hid hmd2
    have SM := Lib.hid (med_small hr)
    have SF : Hid (SmR 2 (Rat.divInt ((m + 1 : Nat) : Int) (l.length : Int))) := SmR.ofDiv (by have := hp.out; omega) (by have := h2.out; omega) (by omega)
    have RF := Lib.hid (frac_rng (a := m + 1) (n := l.length) hp.out (by have := h2.out; omega))
    have HLE : Hid (lw ≤ hi) := by have := HN.out; unfold Hid; omega
    clear hr hn hhi hin hEh hq1 hq2 hy1 hy2 hmd1 hmd2 hlw2 hm hg1 hg2
    go_wp2_with fail
    refine zhist_any _ l c lw n 3 _ _ HL.out HC.out fun ha hn hc' s m3 w1 hb h1 h3 => ?_
    obtain ⟨rfl, hcl, hs, hmm⟩ := h1 HEH.out
    rw [HEH.out]
    have hHl : (hsL lw n 3 l).length = 3 := hsL_length _ _ _ _
    obtain ⟨hbk, hof, rfl, hbl, hcell⟩ := hcl (by rw [List.length_map]; show 0 < (hsL lw n 3 l).length; rw [hHl]; decide)
    obtain ⟨x0, hx0⟩ : ∃ z, hcN lw n 3 l 1 = z := ⟨_, rfl⟩
    obtain ⟨x1, hx1⟩ : ∃ z, hcN lw n 3 l 2 = z := ⟨_, rfl⟩
    obtain ⟨x2, hx2⟩ : ∃ z, hcN lw n 3 l 3 = z := ⟨_, rfl⟩
    have v0 := hcell 0 (by rw [List.length_map]; show 0 < (hsL lw n 3 l).length; rw [hHl]; decide)
    have v1 := hcell 1 (by rw [List.length_map]; show 1 < (hsL lw n 3 l).length; rw [hHl]; decide)
    have v2 := hcell 2 (by rw [List.length_map]; show 2 < (hsL lw n 3 l).length; rw [hHl]; decide)
    rw [show (3 : Int).toNat = 3 from rfl, wV_get (by rw [hHl]; decide), hsL_get (by decide), hx0] at v0
    rw [show (3 : Int).toNat = 3 from rfl, wV_get (by rw [hHl]; decide), hsL_get (by decide), hx1] at v1
    rw [show (3 : Int).toNat = 3 from rfl, wV_get (by rw [hHl]; decide), hsL_get (by decide), hx2] at v2
    have b0 : x0 ≤ 16 := by have := hcN_le lw n 3 l 1; omega
    have b1 : x1 ≤ 16 := by have := hcN_le lw n 3 l 2; omega
    have b2 : x2 ≤ 16 := by have := hcN_le lw n 3 l 3; omega
    rw [hx0, hx1, hx2] at HSUM
    have K13 : IntKind.i64.wrap ((x0 : Int) + (x1 : Int)) = (x0 : Int) + (x1 : Int) := by rw [IntKind.wrap_i64] <;> omega
    have K14 : IntKind.i64.wrap ((x0 : Int) + (x1 : Int) + (x2 : Int)) = ((x0 + x1 + x2 : Nat) : Int) := by rw [IntKind.wrap_i64] <;> omega
    have HX : Hid (x0 + x1 + x2 ≤ 48) := by unfold Hid; omega
    have V0 := Lib.hid v0
    have V1 := Lib.hid v1
    have V2 := Lib.hid v2
    have HBL := Lib.hid hbl
    have B1 := Lib.hid hb
    have C1 := Lib.hid (HC.out.below hb)
    have HE1 := Lib.hid (HE.out.below hb)
    clear hb h1 h3 hcl hs hmm hcell hHl hx0 hx1 hx2 v0 v1 v2 hbl
    go_wp2_with fail
    refine playCollected_any ao l c hp.out h16 HRG.out _ _ HE1.out C1.out fun a c' w2 hb hcl => ?_
    have B2 := Lib.hid (bstep B1.out hb)
    have BB2 := Lib.hid hb
    have D2 := Lib.hid hcl
    have C2 := Lib.hid (C1.out.below hb)
    have HE2 := Lib.hid (HE1.out.below hb)
    clear hb hcl
    go_wp2_with fail
    refine dprob_any a (serW l) c' lw hi DK.out HLE.out _ _ HE2.out D2.out fun r3 w3 hb hr => ?_
    have T3 := Lib.hid hr
    have B3 := Lib.hid (bstep B2.out hb)
    have BB3 := Lib.hid (bstep BB2.out hb)
    have D3 := Lib.hid (D2.out.below hb)
    have C3 := Lib.hid (C2.out.below hb)
    have HE3 := Lib.hid (HE2.out.below hb)
    clear hb hr
    go_wp2_with fail
    refine zmedian_any _ l c _ _ HL.out C3.out HE3.out fun r4 w4 hb h1 h3 => ?_
    have T4 := Lib.hid (h1 (rgS_ck Hrg.out).1)
    rw [(rgS_ck Hrg.out).1]
    have B4 := Lib.hid (bstep B3.out hb)
    have BB4 := Lib.hid (bstep BB3.out hb)
    have D4 := Lib.hid (D3.out.below hb)
    have HE4 := Lib.hid (HE3.out.below hb)
    clear hb h1 h3
    go_wp2_with fail
    refine dquant_any a (serW l) c' _ halfR y1 DK.out txR_half (sm_half.mono (by decide)) half_rng.1 half_rng.2 HQ1.out _ _ HE4.out D4.out fun w5 hb => ?_
    have B5 := Lib.hid (bstep B4.out hb)
    have BB5 := Lib.hid (bstep BB4.out hb)
    have D5 := Lib.hid (D4.out.below hb)
    have HE5 := Lib.hid (HE4.out.below hb)
    clear hb
    obtain ⟨q1, hq1⟩ : ∃ z, y1.1 = z := ⟨_, rfl⟩
    rw [hq1] at HM1 hyr ⊢
    clear hq1
    go_wp2_with fail
    refine yover_any ((m + 1 : Nat) : Int) (l.length : Int) (by omega) (by omega) (by omega) (by omega) (by have := hp.out; omega) _ _ fun r6 w6 hb hr => ?_
    have T6 := Lib.hid hr
    have B6 := Lib.hid (bstep B5.out hb)
    have BB6 := Lib.hid (bstep BB5.out hb)
    have D6 := Lib.hid (D5.out.below hb)
    have HE6 := Lib.hid (HE5.out.below hb)
    clear hb hr
    go_wp2_with fail
    refine dquant_any a (serW l) c' r6 _ y2 DK.out T6.out (SF.out.mono (by decide)) RF.out.1 RF.out.2 HQ2.out _ _ HE6.out D6.out fun w7 hb => ?_
    have B7 := Lib.hid (bstep B6.out hb)
    have BB7 := Lib.hid (bstep BB6.out hb)
    have HE7 := Lib.hid (HE6.out.below hb)
    clear hb
    obtain ⟨q2, hq2⟩ : ∃ z, y2.1 = z := ⟨_, rfl⟩
    rw [hq2] at HM2 hyr ⊢
    clear hq2
    have k0 := cellB BB7.out V0.out HBL.out
    have k1 := cellB BB7.out V1.out HBL.out
    have k2 := cellB BB7.out V2.out HBL.out
    have k0d : w7.drew.cell? ⟨hbk, hof + 0, none⟩ = some (.int .i64 (x0 : Int)) := k0
    have k1d : w7.drew.cell? ⟨hbk, hof + 1, none⟩ = some (.int .i64 (x1 : Int)) := k1
    have k2d : w7.drew.cell? ⟨hbk, hof + 2, none⟩ = some (.int .i64 (x2 : Int)) := k2
    have L7 : Hid (hbk < w7.heap.size) := by have := BB7.out.size; have := HBL.out; unfold Hid; omega
    clear k0 k1 k2
    go_wp2_with fail
    refine regionL [0, 1, 2, 3, 4, 5, 6, 7, 8, 9, 10, 11, 12, 13, 14, 15, 16, 17, 18, 19, 20, 21, 22, 23, 24, 25, 26, 27, 28, 29, 30, 31] (fun w' => w'.cell? ⟨hbk, hof, none⟩ = some (.int .i64 (x0 : Int)) ∧ w'.cell? ⟨hbk, hof + 1, none⟩ = some (.int .i64 (x1 : Int)) ∧ w'.cell? ⟨hbk, hof + 2, none⟩ = some (.int .i64 (x2 : Int)) ∧ True) (by kernel_rfl) (⟨k0d, k1d, k2d, trivial⟩) (fun Qn hPQ hQn hS0 => ?_)
    iterate 32 (refine takeL (v := ?_) rfl rfl (by kernel_rfl) (by kernel_rfl) (by kernel_rfl) hPQ hS0 (by kernel_rfl) ?_ ?_; rotate_left; (focus (intro w hSw; (try dsimp only at hSw); obtain ⟨e0, e1, e2, _⟩ := hSw; go_simp; (try with_reducible rfl))); (try simp only [Act.put, List.setIfInBounds_toArray, List.set_cons_zero, List.set_cons_succ]))
    refine ofL (wpAnyH_ready (rs := [32]) (by kernel_rfl) (by simp) ?_)
    refine AllReadyH.cons (o := _) rfl (fun K hK => ?_) AllReadyH.nil
    go_simp
    refine yover_any ((x0 + x1 + x2 : Nat) : Int) (l.length : Int) (by omega) (by have := HX.out; omega) (by omega) (by omega) (by have := hp.out; omega) _ _ fun r8 w8 hb hr => ?_
    have B8 : Hid (Below w.heap.size w w8) := B7.out.drew.trans (hb.mono B7.out.size)
    have T8 := Lib.hid hr
    have HE8 : Hid (Env w8) := HE7.out.drew.below hb
    have m0 := cellB hb k0d L7.out
    have m1 := cellB hb k1d L7.out
    have m2 := cellB hb k2d L7.out
    have e8 : r8 = r3 := (TxR.inj T8.out T3.out).2 HSUM.out
    subst e8
    clear hb hr
    refine hK.out _ _ (⟨m0, m1, m2, trivial⟩) (fun hS1 => toL [33, 34] ?_)
    clear hK K hS0
    (try simp only [Act.put, List.setIfInBounds_toArray, List.set_cons_zero, List.set_cons_succ])
    iterate 2 (refine takeL (v := ?_) rfl rfl (by kernel_rfl) (by kernel_rfl) (by kernel_rfl) hPQ hS1 (by kernel_rfl) ?_ ?_; rotate_left; (focus (intro w hSw; (try dsimp only at hSw); obtain ⟨e0, e1, e2, _⟩ := hSw; go_simp; (try with_reducible rfl))); (try simp only [Act.put, List.setIfInBounds_toArray, List.set_cons_zero, List.set_cons_succ]))
    refine ofL (wpAnyH_done (by kernel_rfl) (hQn.out _ _ ?_) _)
    clear hS1 hPQ hQn Qn
    go_wp2_with fail
    refine ywhole_any q1 (by have := hyr.out; omega) (by have := hyr.out; omega) _ _ fun r9 w9 hb hr => ?_
    have B9 := Lib.hid (bstep B8.out hb)
    have HE9 := Lib.hid (HE8.out.below hb)
    have T9 := Lib.hid hr
    have S9 : Hid (SmR 7 (q1 : Rat)) := SmR.int (v_abs hyr.out.1) (by decide)
    clear hb hr m0 m1 m2
    go_wp2_with fail
    refine rcompare_any r9 r4 _ _ T9.out T4.out (S9.out.mono (by decide)).okB (SM.out.mono (by decide)).okB (fit_nd S9.out SM.out) (fit_nd SM.out S9.out) _ _ HE9.out fun w10 hb => ?_
    have B10 := Lib.hid (bstep B9.out hb)
    have HE10 := Lib.hid (HE9.out.below hb)
    have z1' := cmpR_le HM1.out
    obtain ⟨z1, hz1⟩ : ∃ z, cmpR (q1 : Rat) (medS l) = z := ⟨_, rfl⟩
    rw [hz1] at z1' ⊢
    have K20 : (z1 ≤ 0) = True := eq_true z1'
    clear hb hz1 z1'
    go_wp2_with fail
    refine ywhole_any q2 (by have := hyr.out; omega) (by have := hyr.out; omega) _ _ fun r11 w11 hb hr => ?_
    have B11 := Lib.hid (bstep B10.out hb)
    have HE11 := Lib.hid (HE10.out.below hb)
    have T11 := Lib.hid hr
    have S11 : Hid (SmR 7 (q2 : Rat)) := SmR.int (v_abs hyr.out.2) (by decide)
    clear hb hr
    go_wp2_with fail
    refine rcompare_any r4 r11 _ _ T4.out T11.out (SM.out.mono (by decide)).okB (S11.out.mono (by decide)).okB (fit_nd SM.out S11.out) (fit_nd S11.out SM.out) _ _ HE11.out fun w12 hb => ?_
    have B12 := Lib.hid (bstep B11.out hb)
    have HE12 := Lib.hid (HE11.out.below hb)
    have z2' := cmpR_le HM2.out
    obtain ⟨z2, hz2⟩ : ∃ z, cmpR (medS l) (q2 : Rat) = z := ⟨_, rfl⟩
    rw [hz2] at z2' ⊢
    have K21 : (z2 ≤ 0) = True := eq_true z2'
    clear hb hz2 z2'
    go_wp2_with fail
    refine playSeries_any _ _ HE12.out fun w13 hb => ?_
    have B13 := Lib.hid (bstep B12.out hb)
    clear hb
    go_wp2_with fail
    exact HR.out _ B13.out
end Go.Proofs.YtcmhompbdanpdaaGreatDoor
