/- The walk of Verify of package complete. The walk of Verify of package complete. The walks of Ends and Verify of reference 22. Rows of structs; the walk of own (layer 53). Maps keyed by strings: entries struck; their keys, sorted. slices.Sort and slices.Compact of an own list of names. The walk of Check of the reference. (Printed by gen_rcheck.py.) The walks of Few, Next, State of the reference. The walks of State, First, Recalled, Few of the reference. -/
import Derived.Test.YtlgjhjgdmomfoaaMcb
import Derived.Laws.Rows
import Derived.Deep.QuietTactic
import Derived.Test.YtlgjhjgdmomfoaaMlib
import Derived.Test.YtlgjhjgdmomfoaaChecked
import Derived.OwnWalk
import Derived.RangeFuncRecord
import Derived.Lib.SlMapFilter
import Derived.Sort.KeysCollected
import Derived.Sort.OwnSorted
import Derived.Test.YtlgjhjgdmomfoaaShelf
namespace Go.Proofs.Ytlgjhjgdmomfoaa
open Go.RowKit Go.Maps

/-- The names at which the first steps begin. -/
def snF (vs : List Dm) (ls : List Sp) : Nat → ByteArray → Bool
  | 0, _ => false
  | k + 1, p => snF vs ls k p || sameD (enF vs (pAt ls k)) p
def bfr (ls : List Sp) (k : Nat) : Sp := pAt ls (if k = 0 then ls.length - 1 else k - 1)
def vfF (vs : List Dm) (ax : Int) (ls : List Sp) (k : Nat) (sum : Int) : Int ⊕ Int :=
  if knS vs.length (pAt ls k) = true then
    if ((dAt vs (pAt ls k).i.toNat).x != ax) = true then .inr 1
    else if knS vs.length (bfr ls k) = true then
      if sameD (enT vs (bfr ls k)) (enF vs (pAt ls k)) = true then
        if snF vs ls k (enF vs (pAt ls k)) = true then .inr 7 else .inl (sum + enA vs (pAt ls k))
      else .inr 8
    else .inr 8
  else .inr 2
def vfR : Int ⊕ Int → Int
  | .inl s => if 0 ≤ s then 15 else 0
  | .inr r => r
def vfE (vs : List Dm) (ax : Int) (ls : List Sp) : Int :=
  if giE vs ax = 0 then
    if ls.length = 0 then 13 else if 256 < ls.length then 5 else vfR (loopE (vfF vs ax ls) ls.length 0 0)
  else giE vs ax
structure StV (W : World) (Bl b : Nat) (lv : Value) (s : Sp) (k : Nat) (f : SMap) : Prop where
  l : W.cell? ⟨Bl, 0, none⟩ = some lv
  bb : W.heap[b]? = some (.cells #[.int .i64 s.i, .bool s.b] 28 (0, 0))
  m : MapIs Try.prog 9 W (b + 1) k f
  lo : Bl < b
theorem StV.size {W : World} {Bl b : Nat} {lv : Value} {s : Sp} {k : Nat} {f : SMap} (h : StV W Bl b lv s k f) : b + 1 < W.heap.size := h.m.lt
theorem StV.below {W W' : World} {Bl b : Nat} {lv : Value} {s : Sp} {k : Nat} {f : SMap} (h : StV W Bl b lv s k f) (hb : Below W.heap.size W W') : StV W' Bl b lv s k f :=
  have hs := h.size
  have hlo := h.lo
  ⟨(hb.cell (p := ⟨Bl, 0, none⟩) (by show Bl < _; omega)).trans h.l, (hb.block b (by omega)).trans h.bb, h.m.keep (hb.block (b + 1) hs), hlo⟩
theorem giF_all (vs : List Dm) : ∀ m i, loopE (giF vs) m i () = .inl () → ∀ j, i ≤ j → j < i + m → vaE (dAt vs j) = 0
  | 0, i, _, j, h1, h2 => by omega
  | m + 1, i, h, j, h1, h2 => by
    rw [loopE] at h
    by_cases e : vaE (dAt vs i) = 0
    · have e2 : giF vs i () = .inl () := by unfold giF; rw [if_pos e]
      rw [e2] at h
      by_cases e3 : j = i
      · rw [e3]; exact e
      · exact giF_all vs m (i + 1) h j (by omega) (by omega)
    · have e2 : giF vs i () = .inr (vaE (dAt vs i)) := by unfold giF; rw [if_neg e]
      rw [e2] at h; cases h
theorem giE_all {vs : List Dm} {ax : Int} (h : giE vs ax = 0) : vs.length ≤ 256 ∧ ∀ j, j < vs.length → vaE (dAt vs j) = 0 := by
  unfold giE at h
  by_cases e : 256 < vs.length
  · rw [if_pos e] at h; omega
  · rw [if_neg e] at h
    cases hq : loopE (giF vs) vs.length 0 () with
    | inl u => exact ⟨by omega, fun j hj => giF_all vs _ 0 hq j (by omega) (by omega)⟩
    | inr r =>
      rw [hq] at h
      have hr : r = 0 := h
      have : ∀ m i, loopE (giF vs) m i () = .inr r → r ≠ 0 := by
        intro m
        induction m with
        | zero => intro i h; rw [loopE] at h; cases h
        | succ m ih =>
          intro i h
          rw [loopE] at h
          by_cases e : vaE (dAt vs i) = 0
          · have e2 : giF vs i () = .inl () := by unfold giF; rw [if_pos e]
            rw [e2] at h; exact ih (i + 1) h
          · have e2 : giF vs i () = .inr (vaE (dAt vs i)) := by unfold giF; rw [if_neg e]
            rw [e2] at h; cases h; exact e
      exact absurd hr (this _ _ hq)
theorem vaE_bounds {v : Dm} (h : vaE v = 0) : -100000 ≤ v.l ∧ v.l ≤ 100000 ∧ -100000 ≤ v.h ∧ v.h ≤ 100000 := by
  unfold vaE at h
  by_cases a : nmE v.f = 0
  · rw [if_pos a] at h
    by_cases b : nmE v.t = 0
    · rw [if_pos b] at h
      split at h
      · omega
      · split at h
        · omega
        · unfold lmE inR at h
          split at h
          · rename_i hh
            simp at hh
            omega
          · omega
    · rw [if_neg b] at h; exact absurd h b
  · rw [if_neg a] at h; exact absurd h a
theorem enA_bounds {vs : List Dm} (h : ∀ j, j < vs.length → vaE (dAt vs j) = 0) {s : Sp} (hk : knS vs.length s = true) : -100000 ≤ enA vs s ∧ enA vs s ≤ 100000 ∧ IntKind.i64.wrap (-(dAt vs s.i.toNat).l) = -(dAt vs s.i.toNat).l := by
  obtain ⟨h0, h1⟩ := knS_iff.1 hk
  have hb := vaE_bounds (h s.i.toNat (by omega))
  refine ⟨?_, ?_, ?_⟩
  · unfold enA; split <;> omega
  · unfold enA; split <;> omega
  · rw [IntKind.wrap_i64]; omega
end Go.Proofs.Ytlgjhjgdmomfoaa
namespace Go.Proofs.Ytlgjhjgdmomfoaa
open Go.RowKit Go.Maps

theorem cell22 {w : World} {b : Nat} {cs : Array Value} {e : TypeId} (h : w.heap[b]? = some (.cells cs e (0, 0))) {j : Nat} {v : Value} (hj : cs[j]? = some v) : w.cell? ⟨b, j, none⟩ = some v := by
  simp [World.cell?, h, hj]
theorem frozen22 {w : World} {b : Nat} {cs : Array Value} {e : TypeId} (h : w.heap[b]? = some (.cells cs e (0, 0))) (j : Nat) : w.frozen? ⟨b, j, none⟩ = false := by
  simp [World.frozen?, h]
theorem zeroB22 (w : World) : (zeroValue 4).run Try.prog w = .ok (.bool false) w := by kernel_rfl
def SeenF (vs : List Dm) (ls : List Sp) (k : Nat) (f : SMap) : Prop := ∀ p, f p = if snF vs ls k p = true then some (.bool true) else none
theorem SeenF.put {vs : List Dm} {ls : List Sp} {k : Nat} {f : SMap} (h : SeenF vs ls k f) : SeenF vs ls (k + 1) (f.put (enF vs (pAt ls k)) (.bool true)) := fun p => by
  unfold SMap.put
  rw [snF]
  by_cases e : p = enF vs (pAt ls k)
  · rw [if_pos e, e, if_pos (by simp [sameD])]
  · rw [if_neg e, h p]
    have : sameD (enF vs (pAt ls k)) p = false := sameB_no.2 (fun e' => e e'.symm)
    rw [this, Bool.or_false]
theorem enF_size {vs : List Dm} (hv : DmsOk vs) {s : Sp} (hk : knS vs.length s = true) : (enF vs s).size ≤ maxLen := by
  obtain ⟨h0, h1⟩ := knS_iff.1 hk
  have h := hv s.i.toNat (by omega)
  unfold enF
  split
  · exact h.2
  · exact h.1
theorem StV.put {W W' : World} {Bl b k : Nat} {lv : Value} {s u : Sp} {f f' : SMap} (h : StV W Bl b lv s k f) (hg : W.grownBy W' (some (b + 1))) (hm : MapIs Try.prog 9 W' (b + 1) (k + 1) f') :
    StV ((W'.setCell ⟨b, 0, none⟩ (.int .i64 u.i)).setCell ⟨b, 1, none⟩ (.bool u.b)) Bl b lv u (k + 1) f' := by
  have hs := h.size
  have hlo := h.lo
  have bb := (hg.block b (by omega) (by intro e; have := Option.some.inj e; omega)).trans h.bb
  have hl : W'.cell? ⟨Bl, 0, none⟩ = some lv := (World.cell?_of_block (hg.block Bl (by omega) (by intro e; have := Option.some.inj e; omega))).trans h.l
  refine ⟨?_, ?_, hm.keep ?_, hlo⟩
  · exact (World.cell?_of_block ((Below.heap_setCell _ _ _ _ (by show Bl ≠ b; omega)).trans (Below.heap_setCell _ _ _ _ (by show Bl ≠ b; omega)))).trans hl
  · exact heap_setCell_same _ b 1 _ _ _ (heap_setCell_same _ b 0 _ _ _ bb)
  · exact (Below.heap_setCell _ _ _ _ (by show b + 1 ≠ b; omega)).trans (Below.heap_setCell _ _ _ _ (by show b + 1 ≠ b; omega))
set_option maxRecDepth 100000 in
set_option maxHeartbeats 8000000 in
theorem verify_any (ao : Option Addr) (vs : List Dm) (c : Nat) (ax : Int) (al : Option Addr) (ls : List Sp) (cs : Nat) (w : World) (R : Ending → World → Prop) (hl : vs.length ≤ 9223372036854775807) (hll : ls.length ≤ 9223372036854775807) (hc : CellsAt w ao (dC vs)) (hv : DmsOk vs) (hs : CellsAt w al (pC ls))
   (hR : ∀ w', Below w.heap.size w w' → R (.returned (.int .i64 (vfE vs ax ls))) w') :
    Calls Try.prog 12 #[.slice ao vs.length c, .int .i64 ax, .slice al ls.length cs] w R := by
  have HR := Lib.hid hR
  have HC := Lib.hid hc
  have HV := Lib.hid hv
  have HS := Lib.hid hs
  clear hR hc hv hs
  obtain ⟨w1, E1, HB1, s1, X1⟩ := box_ex w #[.slice ao vs.length c] 22
  have y0 := cell_at X1.out (j := 0) (v := .slice ao vs.length c) rfl
  obtain ⟨E, hE⟩ : ∃ E, giE vs ax = E := ⟨_, rfl⟩
  have HE := Lib.hid hE
  clear hE
  go_enter Try.func12, Try.ntmps12
  go_wp2_with fail
  refine given_any ao vs c ax _ _ hl (HC.out.below HB1.out) HV.out ?_
  rw [HE.out]
  intro w2 hb
  have HB2 : Hid (Below w.heap.size w w2) := HB1.out.trans (hb.mono (by omega))
  have y2 := cellB hb y0 s1
  have s2 : w.heap.size < w2.heap.size := by have := hb.size; omega
  clear hb
  by_cases h0 : E = 0
  · subst h0
    have hV : Hid (vfE vs ax ls = if ls.length = 0 then 13 else if 256 < ls.length then 5 else vfR (loopE (vfF vs ax ls) ls.length 0 0)) := by unfold Hid vfE; rw [if_pos HE.out]
    by_cases hz : ls.length = 0
    · have hV2 : Hid (vfE vs ax ls = 13) := by have h := hV.out; rw [if_pos hz] at h; exact h
      have K : ((ls.length : Int) == 0) = true := by rw [hz]; rfl
      go_wp2_with fail
      exact ret_i (HR.out _ HB2.out) rfl hV2.out
    · have K : ((ls.length : Int) == 0) = false := by rw [beq_eq_false_iff_ne]; omega
      by_cases hm : 256 < ls.length
      · have hV2 : Hid (vfE vs ax ls = 5) := by have h := hV.out; rw [if_neg hz, if_pos hm] at h; exact h
        go_wp2_with fail
        exact ret_i (HR.out _ HB2.out) rfl hV2.out
      · have hV2 : Hid (vfE vs ax ls = vfR (loopE (vfF vs ax ls) ls.length 0 0)) := by have h := hV.out; rw [if_neg hz, if_neg hm] at h; exact h
        obtain ⟨hn256, hva'⟩ := giE_all HE.out
        have hva := Lib.hid hva'
        have hmm := @run_makeMap Try.prog
        obtain ⟨bs, os, rfl, hbs, hsp⟩ := HS.out.sps (by omega)
        have HSp := Lib.hid hsp
        obtain ⟨c0, c1⟩ := hsp (ls.length - 1) (by omega)
        have b0 := cellB HB2.out c0 hbs
        have b1 := cellB HB2.out c1 hbs
        have hsub : IntKind.i64.wrap ((ls.length : Int) - 1) = ((ls.length - 1 : Nat) : Int) := by rw [IntKind.wrap_i64]; omega
        have hi1 : (0 : Int) ≤ ((ls.length - 1 : Nat) : Int) := by omega
        have hi2 : ((ls.length - 1 : Nat) : Int) < ls.length := by omega
        have hbf : Hid (bfr ls 0 = pAt ls (ls.length - 1)) := rfl
        obtain ⟨q, hq⟩ : ∃ q, pAt ls (ls.length - 1) = q := ⟨_, rfl⟩
        rw [hq] at b0 b1 hbf
        obtain ⟨N, hN⟩ : ∃ N, ls.length - 1 = N := ⟨_, rfl⟩
        rw [hN] at b0 b1 hsub hi1 hi2
        clear c0 c1 hsp hq hva'
        go_wp2_with fail
        have hS4 : StV ((w2.alloc (.cells #[.int .i64 q.i, .bool q.b] 28)).alloc (.map #[] 0)) w.heap.size w2.heap.size (.slice ao vs.length c) q 0 (fun _ => none) := by
          have hm := mapIs_made (P := Try.prog) (k := 9) (w2.alloc (.cells #[.int .i64 q.i, .bool q.b] 28))
          rw [World.size_alloc] at hm
          refine ⟨?_, ?_, hm, s2⟩
          · exact cellB (((Below.refl w2.heap.size w2).alloc (Nat.le_refl _) _).alloc (by simp) _) y2 s2
          · exact (Below.heap_alloc _ _ _ (by simp)).trans (World.alloc_heap_new w2 _)
        have hB4 : Below w.heap.size w ((w2.alloc (.cells #[.int .i64 q.i, .bool q.b] 28)).alloc (.map #[] 0)) := (HB2.out.alloc (by omega) _).alloc (by simp; omega) _
        obtain ⟨w4, hw4⟩ : ∃ w4, (w2.alloc (.cells #[.int .i64 q.i, .bool q.b] 28)).alloc (.map #[] 0) = w4 := ⟨_, rfl⟩
        rw [hw4] at hS4 hB4 ⊢
        have HS4 := Lib.hid hS4
        have HB4 := Lib.hid hB4
        clear hw4 hmm hS4 hB4 b0 b1 hsub hi1 hi2 hN y2 E1 y0 X1 HB1
        go_loopw [44, 11] (fun j v wr => ∃ (k : Nat) (f : SMap) (sum : Int), k ≤ ls.length ∧ j = .int .i64 k ∧ v = .int .i64 sum ∧ Hid (Below w.heap.size w wr) ∧ Hid (StV wr w.heap.size w2.heap.size (.slice ao vs.length c) (bfr ls k) k f) ∧ Hid (SeenF vs ls k f) ∧ Hid (-(100000 * (k : Int)) ≤ sum ∧ sum ≤ 100000 * (k : Int)) ∧ Hid (loopE (vfF vs ax ls) (ls.length - k) k sum = loopE (vfF vs ax ls) ls.length 0 0)) (fun j _ _ => ls.length - (intOf j).toNat)
        case atStart => exact ⟨0, _, 0, Nat.zero_le _, rfl, rfl, HB4, by rw [hbf.out]; exact HS4, fun _ => rfl, ⟨by simp, by simp⟩, rfl⟩
        case round =>
          clear HS4 HB4 HB2
          obtain ⟨k, f, sum, hk, rfl, rfl, HB, HT, HF, hsm, hL⟩ := hrel
          have sB := HB.out.size
          have sT := HT.out.size
          by_cases hlt : k < ls.length
          · obtain ⟨c0, c1⟩ := HSp.out k hlt
            have d0 := cellB HB.out c0 hbs
            have d1 := cellB HB.out c1 hbs
            have hst : Hid (vfF vs ax ls k sum = if knS vs.length (pAt ls k) = true then if ((dAt vs (pAt ls k).i.toNat).x != ax) = true then .inr 1 else if knS vs.length (bfr ls k) = true then if sameD (enT vs (bfr ls k)) (enF vs (pAt ls k)) = true then if snF vs ls k (enF vs (pAt ls k)) = true then .inr 7 else .inl (sum + enA vs (pAt ls k)) else .inr 8 else .inr 8 else .inr 2) := rfl
            have hput := Lib.hid HF.out.put
            have hnx : Hid (bfr ls (k + 1) = pAt ls k) := by unfold Hid bfr; rw [if_neg (by omega), Nat.add_sub_cancel]
            obtain ⟨u, hu⟩ : ∃ u, pAt ls k = u := ⟨_, rfl⟩
            obtain ⟨q', hq'⟩ : ∃ q', bfr ls k = q' := ⟨_, rfl⟩
            rw [hu] at d0 d1 hst hput hnx
            rw [hq'] at hst HT
            have HA : Hid (Below w.heap.size w (wr.alloc (.cells #[.int .i64 u.i, .bool u.b] 28))) := HB.out.alloc sB _
            have TA : Hid (StV (wr.alloc (.cells #[.int .i64 u.i, .bool u.b] 28)) w.heap.size w2.heap.size (.slice ao vs.length c) q' k f) := HT.out.below ((Below.refl _ _).alloc (Nat.le_refl _) _)
            have X0 := World.alloc_heap_new wr (.cells #[.int .i64 u.i, .bool u.b] 28)
            clear hu hq' c0 c1
            go_wp2_with fail
            obtain ⟨wA, hwA⟩ : ∃ wA, wr.alloc (.cells #[.int .i64 u.i, .bool u.b] 28) = wA := ⟨_, rfl⟩
            have hzA : wr.heap.size < wA.heap.size := by rw [← hwA]; simp
            rw [hwA] at HA TA X0 ⊢
            clear hwA d0 d1 HT
            have sA := HA.out.size
            refine known_any w.heap.size ao vs.length c u _ _ (by omega) TA.out.l ?_
            intro w5 hb
            have B5 := Lib.hid (HA.out.trans (hb.mono sA))
            have T5 := Lib.hid (TA.out.below hb)
            have X5 := (hb.block wr.heap.size hzA).trans X0
            have z5 : wr.heap.size < w5.heap.size := lt_of_block X5
            clear hb TA HA X0 HB
            have sz5 := B5.out.size
            cases hk1 : knS vs.length u with
            | false =>
              rw [hk1, if_neg (by simp)] at hst
              have e := loopE_hit hL hlt hst.out
              rw [e, vfR] at hV2
              clear hk1
              go_wp2_with fail
              exact ret_i (HR.out _ B5.out) rfl hV2.out
            | true =>
              rw [hk1, if_pos rfl] at hst
              obtain ⟨hi1, hi2⟩ := knS_iff.1 hk1
              have hk1' := Lib.hid hk1
              clear hk1
              obtain ⟨bd, od, rfl, hbd, hcell⟩ := HC.out.dms (by omega)
              obtain ⟨_, _, e2, _, _⟩ := hcell u.i.toNat (by omega)
              have a2 := cellB B5.out e2 hbd
              have l5 := T5.out.l
              have x0 := cell22 X5 (j := 0) (v := .int .i64 u.i) rfl
              have x1 := cell22 X5 (j := 1) (v := .bool u.b) rfl
              have hwl : w.heap.size < w5.heap.size := by omega
              have q0 := cell22 T5.out.bb (j := 0) (v := .int .i64 q'.i) rfl
              have q1 := cell22 T5.out.bb (j := 1) (v := .bool q'.b) rfl
              obtain ⟨G, hG⟩ : ∃ G, (dAt vs u.i.toNat).x = G := ⟨_, rfl⟩
              rw [hG] at hst a2
              clear hcell e2 hG
              cases hx : (G != ax) with
              | true =>
                rw [hx, if_pos rfl] at hst
                have e := loopE_hit hL hlt hst.out
                rw [e, vfR] at hV2
                go_wp2_with fail
                exact ret_i (HR.out _ B5.out) rfl hV2.out
              | false =>
                rw [hx, if_neg (by simp)] at hst
                go_wp2_with fail
                refine known_any w.heap.size (some ⟨bd, od, none⟩) vs.length c q' _ _ hwl l5 ?_
                intro w6 hb
                have B6 := Lib.hid (B5.out.trans (hb.mono sz5))
                have T6 := Lib.hid (T5.out.below hb)
                have X6 := (hb.block wr.heap.size z5).trans X5
                have z6 : wr.heap.size < w6.heap.size := lt_of_block X6
                clear hb T5 X5 B5 l5 x0 x1 q0 q1 a2
                have sz6 := B6.out.size
                cases hk2 : knS vs.length q' with
                | false =>
                  rw [hk2, if_neg (by simp)] at hst
                  have e := loopE_hit hL hlt hst.out
                  rw [e, vfR] at hV2
                  clear hk2
                  go_wp2_with fail
                  exact ret_i (HR.out _ B6.out) rfl hV2.out
                | true =>
                  rw [hk2, if_pos rfl] at hst
                  have hk2' := Lib.hid hk2
                  clear hk2
                  have hb1 := enA_bounds hva.out hk1'.out
                  have hFs := enF_size HV.out hk1'.out
                  have hseen := HF.out (enF vs u)
                  have hput' : Hid (SeenF vs ls (k + 1) (f.put (enF vs u) (.bool true))) := hput.out
                  obtain ⟨F, hF⟩ : ∃ F, enF vs u = F := ⟨_, rfl⟩
                  obtain ⟨A, hA⟩ : ∃ A, enA vs u = A := ⟨_, rfl⟩
                  obtain ⟨T, hT⟩ : ∃ T, enT vs q' = T := ⟨_, rfl⟩
                  obtain ⟨S, hS⟩ : ∃ S, snF vs ls k F = S := ⟨_, rfl⟩
                  rw [hF] at hst hFs hseen hput'
                  rw [hA] at hst hb1
                  rw [hT] at hst
                  rw [hS] at hst hseen
                  have hF' := Lib.hid hF
                  have hA' := Lib.hid hA
                  have hT' := Lib.hid hT
                  have l6 := T6.out.l
                  have hwl6 : w.heap.size < w6.heap.size := by omega
                  have x0 := cell22 X6 (j := 0) (v := .int .i64 u.i) rfl
                  have x1 := cell22 X6 (j := 1) (v := .bool u.b) rfl
                  clear hF hA hT hS hput
                  go_wp2_with fail
                  refine ends_any (some ⟨bd, od, none⟩) vs c u _ _ (HC.out.below B6.out) hk1'.out hb1.2.2 ?_
                  rw [hF'.out, hA'.out]
                  obtain ⟨U, hU⟩ : ∃ U, enT vs u = U := ⟨_, rfl⟩
                  rw [hU]
                  intro w7 hb
                  have B7 := Lib.hid (B6.out.trans (hb.mono sz6))
                  have T7 := Lib.hid (T6.out.below hb)
                  have X7 := (hb.block wr.heap.size z6).trans X6
                  have z7 : wr.heap.size < w7.heap.size := lt_of_block X7
                  clear hb T6 X6 B6 l6 x0 x1 hU
                  have sz7 := B7.out.size
                  have l7 := T7.out.l
                  have hwl7 : w.heap.size < w7.heap.size := by omega
                  have q0 := cell22 T7.out.bb (j := 0) (v := .int .i64 q'.i) rfl
                  have q1 := cell22 T7.out.bb (j := 1) (v := .bool q'.b) rfl
                  go_wp2_with fail
                  refine ends_any (some ⟨bd, od, none⟩) vs c q' _ _ (HC.out.below B7.out) hk2'.out (enA_bounds hva.out hk2'.out).2.2 ?_
                  rw [hT'.out]
                  obtain ⟨F2, hF2⟩ : ∃ F2, enF vs q' = F2 := ⟨_, rfl⟩
                  obtain ⟨A2, hA2⟩ : ∃ A2, enA vs q' = A2 := ⟨_, rfl⟩
                  rw [hF2, hA2]
                  intro w8 hb
                  have B8 := Lib.hid (B7.out.trans (hb.mono sz7))
                  have T8 := Lib.hid (T7.out.below hb)
                  have X8 := (hb.block wr.heap.size z7).trans X7
                  have z8 : wr.heap.size < w8.heap.size := lt_of_block X8
                  clear hb T7 X7 B7 l7 q0 q1 hF2 hA2
                  have sz8 := B8.out.size
                  have hsd : Hid (sameD T F = (T.toList == F.toList)) := rfl
                  cases hs : (T.toList == F.toList) with
                  | false =>
                    rw [hsd.out, hs, if_neg (by simp)] at hst
                    have e := loopE_hit hL hlt hst.out
                    rw [e, vfR] at hV2
                    go_wp2_with fail
                    exact ret_i (HR.out _ B8.out) rfl hV2.out
                  | true =>
                    rw [hsd.out, hs, if_pos rfl] at hst
                    have hlk := T8.out.m.look (t := 90) Try.underlying9 Try.underlying90 (zeroB22 _) hFs
                    rw [hseen] at hlk
                    clear hseen
                    cases S with
                    | true =>
                      rw [if_pos rfl] at hst hlk
                      have e := loopE_hit hL hlt hst.out
                      rw [e, vfR] at hV2
                      go_wp2_with fail
                      exact ret_i (HR.out _ B8.out) rfl hV2.out
                    | false =>
                      rw [if_neg (by simp)] at hst hlk
                      have e := loopE_step hL hlt hst.out
                      have hwr : IntKind.i64.wrap (sum + A) = sum + A := by have := hsm.out; rw [IntKind.wrap_i64]; omega
                      have hsm2 : Hid (-(100000 * ((k + 1 : Nat) : Int)) ≤ sum + A ∧ sum + A ≤ 100000 * ((k + 1 : Nat) : Int)) := by have := hsm.out; unfold Hid; omega
                      go_wp2_with (at_mapUpdate; refine wp_mapStore _ rfl _ _ _ 90 rfl 9 4 Try.underlying9 Try.underlying90 (w2.heap.size + 1) k f rfl T8.out.m (by unfold maxLen; omega) F (.bool true) rfl rfl hFs ?_; intro w9 h9 g9; have T9 := Lib.hid (T8.out.put (u := u) g9 h9); have B9 := Lib.hid (((B8.out.grown g9 sz8 (fun j e => by cases e; omega)).setCell (p := ⟨w2.heap.size, 0, none⟩) (by show w.heap.size ≤ w2.heap.size; omega) (.int .i64 u.i)).setCell (p := ⟨w2.heap.size, 1, none⟩) (by show w.heap.size ≤ w2.heap.size; omega) (.bool u.b)); have X9 := (g9.block wr.heap.size z8 (by intro e; have := Option.some.inj e; omega)).trans X8; have x0 := cell22 X9 (j := 0) (v := .int .i64 u.i) rfl; have x1 := cell22 X9 (j := 1) (v := .bool u.b) rfl; have bb9 := (g9.block w2.heap.size (by omega) (by intro e; have := Option.some.inj e; omega)).trans T8.out.bb; have q0 := cell22 bb9 (j := 0) (v := .int .i64 q'.i) rfl; have q1 := cell22 bb9 (j := 1) (v := .bool q'.b) rfl; have f0 : w9.frozen? ⟨w2.heap.size, 0, none⟩ = false := frozen22 bb9 0; have f1 : w9.frozen? ⟨w2.heap.size, 1, none⟩ = false := frozen22 bb9 1; clear h9 g9 bb9)
                      exact ⟨⟨k + 1, _, sum + A, by omega, by go_num, rfl, B9, by rw [hnx.out]; exact T9, hput', hsm2, e⟩, by simp [intOf]; omega⟩
          · obtain rfl : k = ls.length := by omega
            have e := loopE_done hL hlt
            rw [e, vfR] at hV2
            by_cases hp : 0 ≤ sum
            · rw [if_pos hp] at hV2
              go_wp2_with fail
              exact ret_i (HR.out _ HB.out) rfl hV2.out
            · rw [if_neg hp] at hV2
              go_wp2_with fail
              exact ret_i (HR.out _ HB.out) rfl hV2.out
  · have K : (E != 0) = true := by simpa using h0
    have hV : Hid (vfE vs ax ls = E) := by unfold Hid vfE; rw [if_neg (by rw [HE.out]; exact h0)]; exact HE.out
    clear h0
    go_wp2_with fail
    exact ret_i (HR.out _ HB2.out) rfl hV.out
end Go.Proofs.Ytlgjhjgdmomfoaa
namespace Go.Proofs.Ytlgjhjgdmomfoaa
open Go.RowKit Go.Maps

set_option maxRecDepth 100000 in
set_option maxHeartbeats 4000000 in
theorem rends_any (ao : Option Addr) (vs : List Dm) (c : Nat) (s : Sp) (w : World) (R : Ending → World → Prop) (hc : CellsAt w ao (dC vs)) (hk : knS vs.length s = true) (hw : IntKind.i64.wrap (-(dAt vs s.i.toNat).l) = -(dAt vs s.i.toNat).l)
   (hR : ∀ w', Below w.heap.size w w' → R (.returned (.tuple #[.string (enF vs s), .string (enT vs s), .int .i64 (enA vs s)])) w') :
    Calls Try.prog 48 #[.slice ao vs.length c, .agg #[.int .i64 s.i, .bool s.b]] w R := by
  have HR := Lib.hid hR
  obtain ⟨h0, h1⟩ := knS_iff.1 hk
  obtain ⟨i, b⟩ := s
  obtain ⟨n, rfl⟩ : ∃ n : Nat, i = n := ⟨i.toNat, (Int.toNat_of_nonneg h0).symm⟩
  have hn : n < vs.length := by
    have h1' : (n : Int) < vs.length := h1
    omega
  obtain ⟨bd, o, rfl, hbb, hcell⟩ := hc.dms (by omega)
  obtain ⟨d0, d1, d2, d3, d4⟩ := hcell n hn
  have hF : Hid (enF vs ⟨n, b⟩ = if b = true then (dAt vs n).t else (dAt vs n).f) := rfl
  have hT : Hid (enT vs ⟨n, b⟩ = if b = true then (dAt vs n).f else (dAt vs n).t) := rfl
  have hA : Hid (enA vs ⟨n, b⟩ = if b = true then -(dAt vs n).l else (dAt vs n).h) := rfl
  have hw' : IntKind.i64.wrap (-(dAt vs n).l) = -(dAt vs n).l := hw
  obtain ⟨u, hu⟩ : ∃ u, dAt vs n = u := ⟨_, rfl⟩
  rw [hu] at d0 d1 d2 d3 d4 hF hT hA hw'
  clear hcell hu hR hc hk hw h0 h1
  cases b with
  | true =>
    go_enter Try.func48, Try.ntmps48
    go_wp2_with fail
    go_quiet (fail)
    go_wp2_with fail
    go_ret3
    have h := HR.out
    rw [hF.out, hT.out, hA.out] at h
    exact h _ ((((Below.refl w.heap.size w).alloc (Nat.le_refl _) _).alloc (by simp) _).trans ⟨rfl, rfl, rfl, Nat.le_refl _, fun _ _ => rfl⟩)
  | false =>
    go_enter Try.func48, Try.ntmps48
    go_wp2_with fail
    go_quiet (fail)
    go_wp2_with fail
    go_ret3
    have h := HR.out
    rw [hF.out, hT.out, hA.out] at h
    exact h _ ((((Below.refl w.heap.size w).alloc (Nat.le_refl _) _).alloc (by simp) _).trans ⟨rfl, rfl, rfl, Nat.le_refl _, fun _ _ => rfl⟩)
theorem snF_iff (vs : List Dm) (ls : List Sp) (p : ByteArray) : ∀ k, snF vs ls k p = true ↔ ∃ j, j < k ∧ sameD (enF vs (pAt ls j)) p = true
  | 0 => by simp [snF]
  | k + 1 => by
    rw [snF, Bool.or_eq_true, snF_iff vs ls p k]
    constructor
    · rintro (⟨j, h1, h2⟩ | h)
      · exact ⟨j, by omega, h2⟩
      · exact ⟨k, by omega, h⟩
    · rintro ⟨j, h1, h2⟩
      by_cases e : j = k
      · subst e; exact .inr h2
      · exact .inl ⟨j, by omega, h2⟩
set_option maxRecDepth 100000 in
set_option maxHeartbeats 8000000 in
theorem rverify_any (ao : Option Addr) (vs : List Dm) (c : Nat) (ax : Int) (al : Option Addr) (ls : List Sp) (cs : Nat) (w : World) (R : Ending → World → Prop) (hl : vs.length ≤ 9223372036854775807) (hll : ls.length ≤ 9223372036854775807) (hc : CellsAt w ao (dC vs)) (hv : DmsOk vs) (hs : CellsAt w al (pC ls))
   (hR : ∀ w', Below w.heap.size w w' → R (.returned (.int .i64 (vfE vs ax ls))) w') :
    Calls Try.prog 13 #[.slice ao vs.length c, .int .i64 ax, .slice al ls.length cs] w R := by
  have HR := Lib.hid hR
  have HC := Lib.hid hc
  have HV := Lib.hid hv
  have HS := Lib.hid hs
  clear hR hc hv hs
  obtain ⟨E, hE⟩ : ∃ E, giE vs ax = E := ⟨_, rfl⟩
  have HE := Lib.hid hE
  clear hE
  go_enter Try.func13, Try.ntmps13
  go_wp2_with fail
  refine rgiven_any ao vs c ax _ _ hl HC.out HV.out ?_
  rw [HE.out]
  intro w2 hb
  have HB2 := Lib.hid hb
  clear hb
  by_cases h0 : E = 0
  · subst h0
    have hV : Hid (vfE vs ax ls = if ls.length = 0 then 13 else if 256 < ls.length then 5 else vfR (loopE (vfF vs ax ls) ls.length 0 0)) := by unfold Hid vfE; rw [if_pos HE.out]
    by_cases hz : ls.length = 0
    · have hV2 : Hid (vfE vs ax ls = 13) := by have h := hV.out; rw [if_pos hz] at h; exact h
      have K : ((ls.length : Int) == 0) = true := by rw [hz]; rfl
      go_wp2_with fail
      exact ret_i (HR.out _ HB2.out) rfl hV2.out
    · have K : ((ls.length : Int) == 0) = false := by rw [beq_eq_false_iff_ne]; omega
      by_cases hm : 256 < ls.length
      · have hV2 : Hid (vfE vs ax ls = 5) := by have h := hV.out; rw [if_neg hz, if_pos hm] at h; exact h
        go_wp2_with fail
        exact ret_i (HR.out _ HB2.out) rfl hV2.out
      · have hV2 : Hid (vfE vs ax ls = vfR (loopE (vfF vs ax ls) ls.length 0 0)) := by have h := hV.out; rw [if_neg hz, if_neg hm] at h; exact h
        obtain ⟨hn256, hva'⟩ := giE_all HE.out
        have hva := Lib.hid hva'
        obtain ⟨bs, os, rfl, hbs, hsp⟩ := HS.out.sps (by omega)
        have HSp := Lib.hid hsp
        clear hsp hva'
        go_wp2_with fail
        go_loopw [9, 8] (fun j v wr => ∃ (k : Nat) (sum : Int), k ≤ ls.length ∧ j = .int .i64 k ∧ v = .int .i64 sum ∧ Hid (Below w.heap.size w wr) ∧ Hid (∀ j, j < k → knS vs.length (pAt ls j) = true) ∧ Hid (-(100000 * (k : Int)) ≤ sum ∧ sum ≤ 100000 * (k : Int)) ∧ Hid (loopE (vfF vs ax ls) (ls.length - k) k sum = loopE (vfF vs ax ls) ls.length 0 0)) (fun j _ _ => ls.length - (intOf j).toNat)
        case atStart => exact ⟨0, 0, Nat.zero_le _, rfl, rfl, HB2, fun j h => by omega, ⟨by simp, by simp⟩, rfl⟩
        case round =>
          clear HB2
          obtain ⟨k, sum, hk, rfl, rfl, HB, hkn, hsm, hL⟩ := hrel
          have sB := HB.out.size
          by_cases hlt : k < ls.length
          · obtain ⟨c0, c1⟩ := HSp.out k hlt
            have d0 := cellB HB.out c0 hbs
            have d1 := cellB HB.out c1 hbs
            obtain ⟨I, hI⟩ : ∃ I, (if k = 0 then ls.length - 1 else k - 1) = I := ⟨_, rfl⟩
            have hIl : I < ls.length := by rw [← hI]; split <;> omega
            obtain ⟨c2, c3⟩ := HSp.out I hIl
            have p0 := cellB HB.out c2 hbs
            have p1 := cellB HB.out c3 hbs
            have hw1 : IntKind.i64.wrap ((k : Int) + ls.length) = (k : Int) + ls.length := by rw [IntKind.wrap_i64]; omega
            have hw2 : IntKind.i64.wrap ((k : Int) + ls.length - 1) = (k : Int) + ls.length - 1 := by rw [IntKind.wrap_i64]; omega
            have hmod : Int.tmod ((k : Int) + ls.length - 1) ls.length = (I : Int) := by
              rw [Int.tmod_eq_emod_of_nonneg (by omega)]
              by_cases e : k = 0
              · rw [if_pos e] at hI
                rw [Int.emod_eq_of_lt (by omega) (by omega)]; omega
              · rw [if_neg e] at hI
                rw [show (k : Int) + ls.length - 1 = ((k : Int) - 1) + ls.length from by omega, Int.add_emod_right, Int.emod_eq_of_lt (by omega) (by omega)]; omega
            have hI1 : (0 : Int) ≤ I := by omega
            have hI2 : (I : Int) < ls.length := by omega
            have hst : Hid (vfF vs ax ls k sum = if knS vs.length (pAt ls k) = true then if ((dAt vs (pAt ls k).i.toNat).x != ax) = true then .inr 1 else if knS vs.length (bfr ls k) = true then if sameD (enT vs (bfr ls k)) (enF vs (pAt ls k)) = true then if snF vs ls k (enF vs (pAt ls k)) = true then .inr 7 else .inl (sum + enA vs (pAt ls k)) else .inr 8 else .inr 8 else .inr 2) := rfl
            have hbf : Hid (bfr ls k = pAt ls I) := by unfold Hid bfr; rw [hI]
            have hkn2 : Hid (knS vs.length (pAt ls k) = true → ∀ j, j < k + 1 → knS vs.length (pAt ls j) = true) := fun h j hj => by
              by_cases e : j = k
              · rw [e]; exact h
              · exact hkn.out j (by omega)
            rw [hbf.out] at hst
            obtain ⟨u, hu⟩ : ∃ u, pAt ls k = u := ⟨_, rfl⟩
            obtain ⟨q', hq'⟩ : ∃ q', pAt ls I = q' := ⟨_, rfl⟩
            rw [hu] at d0 d1 hst hkn2
            rw [hq'] at hst p0 p1
            have hku : Hid (knS vs.length u = (decide (0 ≤ u.i) && decide (u.i < vs.length))) := rfl
            have hkq : Hid (knS vs.length q' = (decide (0 ≤ q'.i) && decide (q'.i < vs.length))) := rfl
            clear hu hq' c0 c1 c2 c3 hI hbf
            cases hk1 : knS vs.length u with
            | false =>
              rw [hk1, if_neg (by simp)] at hst
              have e := loopE_hit hL hlt hst.out
              rw [e, vfR] at hV2
              rw [hk1] at hku
              clear hk1
              by_cases hneg : u.i < 0
              · go_wp2_with fail
                exact ret_i (HR.out _ HB.out) rfl hV2.out
              · have hge : (vs.length : Int) ≤ u.i := by
                  have h := hku.out
                  simp at h
                  omega
                go_wp2_with fail
                exact ret_i (HR.out _ HB.out) rfl hV2.out
            | true =>
              rw [hk1, if_pos rfl] at hst
              obtain ⟨hi1, hi2⟩ := knS_iff.1 hk1
              have hk1' := Lib.hid hk1
              clear hk1
              obtain ⟨bd, od, rfl, hbd, hcell⟩ := HC.out.dms (by omega)
              obtain ⟨_, _, e2, _, _⟩ := hcell u.i.toNat (by omega)
              have a2 := cellB HB.out e2 hbd
              obtain ⟨G, hG⟩ : ∃ G, (dAt vs u.i.toNat).x = G := ⟨_, rfl⟩
              rw [hG] at hst a2
              clear hcell e2 hG
              cases hx : (G != ax) with
              | true =>
                rw [hx, if_pos rfl] at hst
                have e := loopE_hit hL hlt hst.out
                rw [e, vfR] at hV2
                go_wp2_with fail
                exact ret_i (HR.out _ HB.out) rfl hV2.out
              | false =>
                rw [hx, if_neg (by simp)] at hst
                cases hk2 : knS vs.length q' with
                | false =>
                  rw [hk2, if_neg (by simp)] at hst
                  have e := loopE_hit hL hlt hst.out
                  rw [e, vfR] at hV2
                  rw [hk2] at hkq
                  clear hk2
                  by_cases hneg : q'.i < 0
                  · go_wp2_with fail
                    exact ret_i (HR.out _ (HB.out.alloc sB _)) rfl hV2.out
                  · have hge : (vs.length : Int) ≤ q'.i := by
                      have h := hkq.out
                      simp at h
                      omega
                    go_wp2_with fail
                    exact ret_i (HR.out _ (HB.out.alloc sB _)) rfl hV2.out
                | true =>
                  rw [hk2, if_pos rfl] at hst
                  have hk2' := Lib.hid hk2
                  obtain ⟨hj1, hj2⟩ := knS_iff.1 hk2
                  clear hk2
                  have hb1 := enA_bounds hva.out hk1'.out
                  have hsnf := Lib.hid (snF_iff vs ls (enF vs u) k)
                  obtain ⟨F, hF⟩ : ∃ F, enF vs u = F := ⟨_, rfl⟩
                  obtain ⟨A, hA⟩ : ∃ A, enA vs u = A := ⟨_, rfl⟩
                  obtain ⟨T, hT⟩ : ∃ T, enT vs q' = T := ⟨_, rfl⟩
                  rw [hF] at hst hsnf
                  rw [hA] at hst hb1
                  rw [hT] at hst
                  have hF' := Lib.hid hF
                  have hA' := Lib.hid hA
                  have hT' := Lib.hid hT
                  have hbsr : bs < wr.heap.size := by omega
                  have hA0 : Hid (Below w.heap.size w (wr.alloc (.cells #[.int .i64 q'.i, .bool q'.b] 29))) := HB.out.alloc sB _
                  have X0 := World.alloc_heap_new wr (.cells #[.int .i64 q'.i, .bool q'.b] 29)
                  clear hF hA hT
                  go_wp2_with fail
                  obtain ⟨wA, hwA⟩ : ∃ wA, wr.alloc (.cells #[.int .i64 q'.i, .bool q'.b] 29) = wA := ⟨_, rfl⟩
                  have hzA : wr.heap.size < wA.heap.size := by rw [← hwA]; simp
                  rw [hwA] at hA0 X0 ⊢
                  have sA := hA0.out.size
                  clear hwA
                  refine rends_any (some ⟨bd, od, none⟩) vs c u _ _ (HC.out.below hA0.out) hk1'.out hb1.2.2 ?_
                  rw [hF'.out, hA'.out]
                  obtain ⟨U, hU⟩ : ∃ U, enT vs u = U := ⟨_, rfl⟩
                  rw [hU]
                  intro w7 hb
                  have B7 := Lib.hid (hA0.out.trans (hb.mono sA))
                  have X7 := (hb.block wr.heap.size hzA).trans X0
                  clear hb hA0 X0 hU
                  have sz7 := B7.out.size
                  have q0 := cell22 X7 (j := 0) (v := .int .i64 q'.i) rfl
                  have q1 := cell22 X7 (j := 1) (v := .bool q'.b) rfl
                  have z7 : wr.heap.size < w7.heap.size := lt_of_block X7
                  go_wp2_with fail
                  refine rends_any (some ⟨bd, od, none⟩) vs c q' _ _ (HC.out.below B7.out) hk2'.out (enA_bounds hva.out hk2'.out).2.2 ?_
                  rw [hT'.out]
                  obtain ⟨F2, hF2⟩ : ∃ F2, enF vs q' = F2 := ⟨_, rfl⟩
                  obtain ⟨A2, hA2⟩ : ∃ A2, enA vs q' = A2 := ⟨_, rfl⟩
                  rw [hF2, hA2]
                  intro w8 hb
                  have B8 := Lib.hid (B7.out.trans (hb.mono sz7))
                  clear hb B7 X7 q0 q1 hF2 hA2 d0 d1 p0 p1 a2
                  have sz8 := B8.out.size
                  have hsd : Hid (sameD T F = (T.toList == F.toList)) := rfl
                  cases hs : (T.toList == F.toList) with
                  | false =>
                    rw [hsd.out, hs, if_neg (by simp)] at hst
                    have e := loopE_hit hL hlt hst.out
                    rw [e, vfR] at hV2
                    go_wp2_with fail
                    exact ret_i (HR.out _ B8.out) rfl hV2.out
                  | true =>
                    rw [hsd.out, hs, if_pos rfl] at hst
                    go_wp2_with fail
                    go_loopw [17] (fun j wr => ∃ (m : Nat), m ≤ k ∧ j = .int .i64 m ∧ Hid (Below w.heap.size w wr) ∧ Hid (∀ i, i < m → sameD (enF vs (pAt ls i)) F = false)) (fun j _ => k - (intOf j).toNat)
                    case atStart => exact ⟨0, Nat.zero_le _, rfl, B8, fun i h => by omega⟩
                    case round =>
                      clear B8 HB
                      obtain ⟨m, hmk, rfl, HB, hno⟩ := hrel
                      have sB := HB.out.size
                      by_cases hlm : m < k
                      · obtain ⟨c0, c1⟩ := HSp.out m (by omega)
                        have d0 := cellB HB.out c0 hbs
                        have d1 := cellB HB.out c1 hbs
                        have hkm := Lib.hid (hkn.out m hlm)
                        have hstep : Hid (sameD (enF vs (pAt ls m)) F = false → ∀ i, i < m + 1 → sameD (enF vs (pAt ls i)) F = false) := fun h i hi => by
                          by_cases e : i = m
                          · rw [e]; exact h
                          · exact hno.out i (by omega)
                        have hhit : Hid (sameD (enF vs (pAt ls m)) F = true → snF vs ls k F = true) := fun h => hsnf.out.2 ⟨m, hlm, h⟩
                        have hlm2 : m < ls.length := by omega
                        obtain ⟨v, hv'⟩ : ∃ v, pAt ls m = v := ⟨_, rfl⟩
                        rw [hv'] at d0 d1 hkm hstep hhit
                        clear c0 c1 hv'
                        go_wp2_with fail
                        refine rends_any (some ⟨bd, od, none⟩) vs c v _ _ (HC.out.below HB.out) hkm.out (enA_bounds hva.out hkm.out).2.2 ?_
                        obtain ⟨F3, hF3⟩ : ∃ F3, enF vs v = F3 := ⟨_, rfl⟩
                        obtain ⟨A3, hA3⟩ : ∃ A3, enA vs v = A3 := ⟨_, rfl⟩
                        obtain ⟨T3, hT3⟩ : ∃ T3, enT vs v = T3 := ⟨_, rfl⟩
                        rw [hF3, hA3, hT3]
                        rw [hF3] at hstep hhit
                        intro w9 hb
                        have B9 := Lib.hid (HB.out.trans (hb.mono sB))
                        clear hb hF3 hA3 hT3
                        have hsd3 : Hid (sameD F3 F = (F3.toList == F.toList)) := rfl
                        cases hs3 : (F3.toList == F.toList) with
                        | true =>
                          rw [hhit.out (by rw [hsd3.out, hs3]), if_pos rfl] at hst
                          have e := loopE_hit hL hlt hst.out
                          rw [e, vfR] at hV2
                          go_wp2_with fail
                          exact ret_i (HR.out _ B9.out) rfl hV2.out
                        | false =>
                          have hn2 := Lib.hid (hstep.out (by rw [hsd3.out, hs3]))
                          go_wp2_with fail
                          exact ⟨⟨m + 1, by omega, by go_num, B9, hn2⟩, by simp [intOf]; omega⟩
                      · obtain rfl : m = k := by omega
                        have hS : snF vs ls m F = false := by
                          cases h : snF vs ls m F with
                          | false => rfl
                          | true =>
                            obtain ⟨j, h1, h2⟩ := hsnf.out.1 h
                            rw [hno.out j h1] at h2; cases h2
                        rw [hS, if_neg (by simp)] at hst
                        have e := loopE_step hL hlt hst.out
                        have hwr : IntKind.i64.wrap (sum + A) = sum + A := by have := hsm.out; rw [IntKind.wrap_i64]; omega
                        have hsm2 : Hid (-(100000 * ((m + 1 : Nat) : Int)) ≤ sum + A ∧ sum + A ≤ 100000 * ((m + 1 : Nat) : Int)) := by have := hsm.out; unfold Hid; omega
                        have hkn3 := Lib.hid (hkn2.out hk1'.out)
                        clear hS
                        go_wp2_with fail
                        exact ⟨⟨m + 1, sum + A, by omega, by go_num, rfl, HB, hkn3, hsm2, e⟩, by simp [intOf]; omega⟩
          · obtain rfl : k = ls.length := by omega
            have e := loopE_done hL hlt
            rw [e, vfR] at hV2
            by_cases hp : 0 ≤ sum
            · rw [if_pos hp] at hV2
              go_wp2_with fail
              exact ret_i (HR.out _ HB.out) rfl hV2.out
            · rw [if_neg hp] at hV2
              go_wp2_with fail
              exact ret_i (HR.out _ HB.out) rfl hV2.out
  · have K : (E != 0) = true := by simpa using h0
    have hV : Hid (vfE vs ax ls = E) := by unfold Hid vfE; rw [if_neg (by rw [HE.out]; exact h0)]; exact HE.out
    clear h0
    go_wp2_with fail
    exact ret_i (HR.out _ HB2.out) rfl hV.out
end Go.Proofs.Ytlgjhjgdmomfoaa
namespace Go.Proofs.Ytlgjhjgdmomfoaa
open Go.RowKit

theorem wp_appendT {P : Program} {w : World} {ops : Array Oper} {rest : List Oper} {o : Oper} {a : Act} {Q : Exit → Act → World → Prop} (hgd : o.guard = none) (s x : Operand) (t : TypeId)
    (ho : o.op = .call { callee := .builtin .append, args := #[s, x], argTypes := #[t, t] })
    (base : Nat) (e : TypeId) {z : Value} {size bytes : Nat} (ht : P.underlying t = some (.slice e)) (hi : (P.info? e).map (fun i => (i.zero, i.size, i.bytes)) = some (some z, size, bytes))
    (hzs : z.cells.size = size) (hsz : 0 < size) 
    (v : Value) (n : Nat) (xs : List Value) (hs : a.eval s = v) (hown : w.ownsRow base e size v n xs)
    (ad : Addr) (m c : Nat) (news : List Value) (hm : news.length = m * size) (hx : a.eval x = .slice (some ad) m c) (hc : CellsAt w (some ad) news) (h1 : ∀ u ∈ news, u.oneCell' = true)
    (hn : n + m ≤ 9223372036854775807) (hbytes : (n + m) * bytes ≤ 140737488355328) (hbase : base ≤ w.heap.size)
    (h : ∀ v' w', w'.ownsRow base e size v' (n + m) (xs ++ news) → w.grownBy w' v.ownBlock → (v' = .slice none 0 0 ↔ v = .slice none 0 0 ∧ m = 0) → wpList P ops Q rest (a.put o.dst v') w') : wpList P ops Q (o :: rest) a w := by
  obtain ⟨i0, q1, q2, q3, q4⟩ := info_parts hi
  refine wpList_append_own w hgd s x t ho base e i0 z size bytes ht q1 q2 q3 q4 hzs hsz v n xs hs hown ad m c news hx hm ?_ h1 (by unfold maxLen; omega) hbytes hbase h
  intro j u hj
  obtain ⟨hlt, _⟩ := List.getElem?_eq_some_iff.1 hj
  obtain ⟨b, o, e, _, _⟩ := hc (by omega)
  cases e
  have : (⟨b, o, none⟩ : Addr).add j = ⟨b, o + j, none⟩ := by unfold Addr.add; split <;> simp_all
  rw [this]; exact hc.get rfl hj
theorem bC_one (bs : List B5) : ∀ u ∈ bC bs, u.oneCell' = true := by
  intro u hu
  unfold bC at hu
  rw [List.mem_flatMap] at hu
  obtain ⟨b, _, hb⟩ := hu
  simp only [B5.cells, List.mem_cons, List.not_mem_nil, or_false] at hb
  rcases hb with rfl | rfl | rfl | rfl <;> rfl

theorem ownsRow_below {w w' : World} {base : Nat} {e : TypeId} {size : Nat} {v : Value} {n : Nat} {xs : List Value} (h : w.ownsRow base e size v n xs) (hb : Below w.heap.size w w') : w'.ownsRow base e size v n xs := by
  refine ⟨h.1, ?_⟩
  rcases h.2 with h1 | ⟨g, cap, cur, h1, h2, h3, h4⟩
  · exact .inl h1
  · exact .inr ⟨g, cap, cur, h1, h2, (hb.block g (lt_of_block h3)).trans h3, h4⟩
theorem ownsRow_mono {w : World} {base base' : Nat} {e : TypeId} {size : Nat} {v : Value} {n : Nat} {xs : List Value} (h : w.ownsRow base e size v n xs) (hb : base' ≤ base) : w.ownsRow base' e size v n xs := by
  refine ⟨h.1, ?_⟩
  rcases h.2 with h1 | ⟨g, cap, cur, h1, h2, h3⟩
  · exact .inl h1
  · exact .inr ⟨g, cap, cur, h1, by omega, h3⟩
theorem ownsRow_read {w : World} {base : Nat} {e : TypeId} {size : Nat} {v : Value} {n : Nat} {xs : List Value} (h : w.ownsRow base e size v n xs) :
    ∃ ao c, v = .slice ao n c ∧ CellsAt w ao xs ∧ (ao = none → n = 0 ∧ c = 0) := by
  rcases h.2 with ⟨h1, h2⟩ | ⟨g, cap, cur, h1, h2, h3, h4, h5, h6, h7⟩
  · subst h2
    have : xs = [] := List.length_eq_zero_iff.1 (by simpa using h.1)
    subst this
    exact ⟨none, 0, h1, CellsAt.nil _ _, fun _ => ⟨rfl, rfl⟩⟩
  · refine ⟨_, cap, h1, fun _ => ⟨g, 0, rfl, lt_of_block h3, fun j hj => ?_⟩, fun e => by cases e⟩
    have hj' : j < n * size := by rw [← h.1]; exact hj
    have hsz : n * size ≤ cur.size := by rw [h6]; exact Nat.mul_le_mul_right _ h4
    have e2 : xs[j]? = cur[j]? := by rw [← h7, List.getElem?_take, if_pos hj']; simp
    have h8 : j < cur.size := by omega
    rw [List.getD_eq_getElem?_getD, e2]
    simp [World.cell?, h3, h8]

theorem cells4 (w : World) (x y z u : Value) (e : TypeId) : CellsAt (w.alloc (.cells #[x, y, z, u] e)) (some ⟨w.heap.size, 0, none⟩) [x, y, z, u] := by
  intro _
  refine ⟨_, 0, rfl, by simp, fun j hj => ?_⟩
  rw [Nat.zero_add, World.cell?_alloc_new]
  match j, hj with
  | 0, _ => rfl
  | 1, _ => rfl
  | 2, _ => rfl
  | 3, _ => rfl

end Go.Proofs.Ytlgjhjgdmomfoaa
namespace Go.Proofs.Ytlgjhjgdmomfoaa
open Go.RowKit Go.Maps

def pdOf {H : Type} (q : ByteArray → Bool) : Lit → DataW H → Bool
  | .string l, _ => q ⟨l.toArray⟩
  | _, _ => false
theorem pdOf_keyL {H : Type} (q : ByteArray → Bool) (s : ByteArray) (d : DataW H) : pdOf q (keyL s) d = q s := by
  unfold keyL pdOf; simp
/-- The view behind maps.DeleteFunc. -/
theorem del_view {D : DataW Value} {f : SMap} {q : ByteArray → Bool} {es : List (Lit × DataW Value)} (hD : D = .map es) (hap : es.Pairwise (fun p q => p.1 ≠ q.1))
    (h2 : ∀ s z, D.atKey (keyL s) z = match f s with | some v => .held v | none => z) : ∀ s z, (Lib.deleteFuncD (pdOf q) D).atKey (keyL s) z = match (if q s = true then none else f s) with | some v => .held v | none => z := by
  subst hD
  intro s z
  by_cases he : ∃ d, (keyL s, d) ∈ es
  · obtain ⟨d, hd⟩ := he
    have e1 := WideAt.atKey_mem z (k := keyL s) trivial hap hd
    by_cases hq : q s = true
    · rw [if_pos hq]
      refine WideAt.atKey_none z (fun p hp e => ?_)
      obtain ⟨h3, h4⟩ := List.mem_filter.1 hp
      rw [show pdOf q p.1 p.2 = true from by rw [e, pdOf_keyL]; exact hq] at h4
      simp at h4
    · rw [if_neg hq, ← h2 s z, e1]
      refine WideAt.atKey_mem z trivial (hap.filter _) (List.mem_filter.2 ⟨hd, ?_⟩)
      rw [pdOf_keyL]; simpa using hq
  · have hno : ∀ p ∈ es, p.1 ≠ keyL s := fun p hp e => he ⟨p.2, by rw [← e]; exact hp⟩
    have e1 := WideAt.atKey_none z hno
    have e2 : (Lib.deleteFuncD (pdOf q) (.map es)).atKey (keyL s) z = z := WideAt.atKey_none z (fun p hp => hno p (List.mem_filter.1 hp).1)
    rw [e2]
    by_cases hq : q s = true
    · rw [if_pos hq]
    · rw [if_neg hq, ← h2 s z, e1]
/-! ### sorted lists of names -/
abbrev bL (s : ByteArray) : List UInt8 := s.data.toList
theorem bL_inj {s t : ByteArray} (h : bL s = bL t) : s = t := ByteArray.ext (Array.toList_inj.1 h)
/-- These names, ascending, each once. -/
structure SrtIs (ks : List ByteArray) (Q : ByteArray → Bool) : Prop where
  up : ks.Pairwise (fun a b => bL a < bL b)
  mem : ∀ s, s ∈ ks ↔ Q s = true
theorem SrtIs.nodup {ks : List ByteArray} {Q : ByteArray → Bool} (h : SrtIs ks Q) : ks.Nodup := h.up.imp (fun {a b} hl e => by subst e; exact List.lt_irrefl _ hl)
theorem SrtIs.unique {ks js : List ByteArray} {Q : ByteArray → Bool} (h : SrtIs ks Q) (h' : SrtIs js Q) : ks = js := by
  refine List.Perm.eq_of_pairwise (le := fun a b => bL a < bL b) (fun a b _ _ h1 h2 => (List.lt_irrefl _ (List.lt_trans h1 h2)).elim) h.up h'.up ((List.perm_ext_iff_of_nodup h.nodup h'.nodup).2 fun s => ?_)
  rw [h.mem, h'.mem]
def sC (ks : List ByteArray) : List Value := ks.map Value.string
theorem sC_length (ks : List ByteArray) : (sC ks).length = ks.length := by simp [sC]
def ofL (l : List UInt8) : ByteArray := ⟨l.toArray⟩
theorem bL_ofL (l : List UInt8) : bL (ofL l) = l := by simp [ofL]
theorem ofL_bL (s : ByteArray) : ofL (bL s) = s := by simp [ofL]

theorem strKeys_mem {P : Program} {k : TypeId} {w : World} {b n : Nat} {D : DataW Value} {f : SMap} (hk : P.underlying k = some .string) (h1 : w.ownsMap P k heldR b n D)
    (h2 : ∀ s z, D.atKey (keyL s) z = match f s with | some v => .held v | none => z) : (strKeys D).Nodup ∧ ∀ l, l ∈ strKeys D ↔ (f (ofL l)).isSome = true := by
  obtain ⟨es, hD, hap, _⟩ := h1.entries (string_keyed hk)
  obtain ⟨es', hD', hks⟩ := h1.keysOf
  subst hD
  cases hD'
  have hstr : ∀ p ∈ es, ∃ x, p.1 = .string x := fun p hp => by
    obtain ⟨key, hkey⟩ := hks p hp
    obtain ⟨x, _, e, _⟩ := Maps.keyOf_str hk hkey
    exact ⟨x, e⟩
  constructor
  · show (es.map fun p => strOf p.1).Nodup
    refine List.pairwise_map.2 (hap.imp_of_mem fun {p q} hp' hq' hne e => hne ?_)
    obtain ⟨a, ha⟩ := hstr p hp'
    obtain ⟨b, hb⟩ := hstr q hq'
    rw [ha, hb] at e ⊢
    exact congrArg _ e
  · intro l
    show l ∈ (es.map fun p => strOf p.1) ↔ _
    rw [List.mem_map]
    have hkl : keyL (ofL l) = .string l := by unfold keyL; rw [show (ofL l).data.toList = l from bL_ofL l]
    constructor
    · rintro ⟨p, hp, e⟩
      obtain ⟨a, ha⟩ := hstr p hp
      rw [ha] at e
      obtain rfl : a = l := e
      have hm : (keyL (ofL a), p.2) ∈ es := by rw [hkl, ← ha]; exact hp
      cases hf : f (ofL a) with
      | some v => rfl
      | none =>
        have e1 := h2 (ofL a) .nil
        have e2 := h2 (ofL a) (.held undef)
        rw [WideAt.atKey_mem _ (by rw [hkl]; trivial) hap hm, hf] at e1 e2
        rw [e1] at e2; cases e2
    · intro hs
      apply Classical.byContradiction
      intro hno
      have hn : ∀ p ∈ es, p.1 ≠ keyL (ofL l) := fun p hp e => hno ⟨p, hp, by rw [e, hkl]; rfl⟩
      obtain ⟨v, hv⟩ := Option.isSome_iff_exists.1 hs
      have e1 := h2 (ofL l) .nil
      rw [WideAt.atKey_none _ hn, hv] at e1
      cases e1
theorem srt_of {ss : List (List UInt8)} {f : SMap} (hnd : ss.Nodup) (hm : ∀ l, l ∈ ss ↔ (f (ofL l)).isSome = true) : SrtIs ((ss.mergeSort fun x y => decide (x ≤ y)).map ofL) (fun s => (f s).isSome) := by
  have tr : ∀ a b c : List UInt8, decide (a ≤ b) = true → decide (b ≤ c) = true → decide (a ≤ c) = true := fun a b c h1 h2 => by simp only [decide_eq_true_eq] at *; exact List.le_trans h1 h2
  have to : ∀ a b : List UInt8, (decide (a ≤ b) || decide (b ≤ a)) = true := fun a b => by simp only [Bool.or_eq_true, decide_eq_true_eq]; exact List.le_total a b
  have hp := List.mergeSort_perm ss fun x y => decide (x ≤ y)
  have hnd' : (ss.mergeSort fun x y => decide (x ≤ y)).Nodup := hp.nodup_iff.2 hnd
  constructor
  · rw [List.pairwise_map]
    refine ((List.pairwise_mergeSort tr to ss).and hnd').imp (fun {a b} h => ?_)
    rw [bL_ofL, bL_ofL]
    obtain ⟨h1, h2⟩ := h
    rw [decide_eq_true_eq] at h1
    exact Classical.byContradiction fun h3 => h2 (List.le_antisymm h1 (List.not_lt.1 h3))
  · intro s
    rw [List.mem_map]
    constructor
    · rintro ⟨l, hl, rfl⟩
      exact (hm l).1 (hp.mem_iff.1 hl)
    · intro h
      exact ⟨bL s, hp.mem_iff.2 ((hm _).2 (by rw [ofL_bL]; exact h)), ofL_bL s⟩
end Go.Proofs.Ytlgjhjgdmomfoaa
namespace Go.Proofs.Ytlgjhjgdmomfoaa
open Go.RowKit Go.Sort

theorem enc_bL (ks : List ByteArray) : (ks.map bL).map encStr = sC ks := by
  unfold sC
  rw [List.map_map]
  refine List.map_congr_left fun s _ => ?_
  show Value.string ⟨s.data.toList.toArray⟩ = .string s
  simp
theorem enc_ofL (l : List (List UInt8)) : sC (l.map ofL) = l.map encStr := by unfold sC; rw [List.map_map]; rfl
/-! ### compact of an ascending list -/
theorem cmp_inv {d : Array (List UInt8)} (hs : ∀ j, 0 < j → j < d.size → d[j - 1]! ≤ d[j]!) : ∀ m, 0 < m → m ≤ d.size →
    (Lib.compactUpTo d m).Pairwise (· < ·) ∧ (∀ x ∈ Lib.compactUpTo d m, x ≤ d[m - 1]!) ∧ (∀ j, j < m → d[j]! ∈ Lib.compactUpTo d m) ∧ ∀ x ∈ Lib.compactUpTo d m, ∃ j, j < m ∧ x = d[j]! := by
  intro m
  induction m with
  | zero => intro h; omega
  | succ m ih =>
    intro _ hm
    rw [Lib.compactUpTo_succ]
    by_cases h0 : m = 0
    · subst h0
      have hk : Lib.keeps d 0 = true := Lib.keeps_lt_one d 0 (by omega)
      rw [hk, if_pos rfl]
      have : Lib.compactUpTo d 0 = [] := rfl
      rw [this, List.nil_append]
      refine ⟨by simp, fun x hx => ?_, fun j hj => ?_, fun x hx => ?_⟩
      · obtain rfl : x = d[0]! := by simpa using hx
        exact List.le_refl _
      · obtain rfl : j = 0 := by omega
        simp
      · obtain rfl : x = d[0]! := by simpa using hx
        exact ⟨0, by omega, rfl⟩
    · obtain ⟨h1, h2, h3, h4⟩ := ih (by omega) (by omega)
      have hle := hs m (by omega) (by omega)
      by_cases he : d[m]! = d[m - 1]!
      · rw [Lib.keeps_neg (by omega) he, if_neg (by simp), List.append_nil]
        refine ⟨h1, fun x hx => ?_, fun j hj => ?_, fun x hx => ?_⟩
        · have := h2 x hx
          rw [Nat.add_sub_cancel, he]; exact this
        · by_cases e : j < m
          · exact h3 j e
          · obtain rfl : j = m := by omega
            rw [he]; exact h3 (j - 1) (by omega)
        · obtain ⟨j, hj, e⟩ := h4 x hx
          exact ⟨j, by omega, e⟩
      · rw [Lib.keeps_pos he, if_pos rfl]
        have hlt : d[m - 1]! < d[m]! := by
          rcases Std.le_iff_lt_or_eq.1 hle with h | h
          · exact h
          · exact absurd h.symm he
        refine ⟨?_, fun x hx => ?_, fun j hj => ?_, fun x hx => ?_⟩
        · rw [List.pairwise_append]
          refine ⟨h1, by simp, fun a ha b hb => ?_⟩
          obtain rfl : b = d[m]! := by simpa using hb
          exact Std.lt_of_le_of_lt (h2 a ha) hlt
        · rw [Nat.add_sub_cancel]
          rcases List.mem_append.1 hx with hx | hx
          · exact Std.le_of_lt (Std.lt_of_le_of_lt (h2 x hx) hlt)
          · obtain rfl : x = d[m]! := by simpa using hx
            exact List.le_refl _
        · by_cases e : j < m
          · exact List.mem_append_left _ (h3 j e)
          · obtain rfl : j = m := by omega
            exact List.mem_append_right _ (by simp)
        · rcases List.mem_append.1 hx with hx | hx
          · obtain ⟨j, hj, e⟩ := h4 x hx
            exact ⟨j, by omega, e⟩
          · obtain rfl : x = d[m]! := by simpa using hx
            exact ⟨m, by omega, rfl⟩
/-- Sorted and without repeats. -/
def sortU (ks : List ByteArray) : List ByteArray := (Lib.compact ((ks.map bL).mergeSort fun x y => decide (x ≤ y))).map ofL
theorem sortU_srt (ks : List ByteArray) (Q : ByteArray → Bool) (hQ : ∀ s, s ∈ ks ↔ Q s = true) : SrtIs (sortU ks) Q := by
  have tr : ∀ a b c : List UInt8, decide (a ≤ b) = true → decide (b ≤ c) = true → decide (a ≤ c) = true := fun a b c h1 h2 => by simp only [decide_eq_true_eq] at *; exact List.le_trans h1 h2
  have to : ∀ a b : List UInt8, (decide (a ≤ b) || decide (b ≤ a)) = true := fun a b => by simp only [Bool.or_eq_true, decide_eq_true_eq]; exact List.le_total a b
  obtain ⟨ts, hts⟩ : ∃ ts, (ks.map bL).mergeSort (fun x y => decide (x ≤ y)) = ts := ⟨_, rfl⟩
  have hp : ts.Perm (ks.map bL) := by rw [← hts]; exact List.mergeSort_perm _ _
  have hs : ts.Pairwise (fun x y => decide (x ≤ y) = true) := by rw [← hts]; exact List.pairwise_mergeSort tr to _
  have hm : ∀ l, l ∈ ts ↔ Q (ofL l) = true := fun l => by
    rw [hp.mem_iff, List.mem_map, ← hQ]
    exact ⟨fun ⟨s, h1, h2⟩ => by rw [← h2, ofL_bL]; exact h1, fun h => ⟨ofL l, h, bL_ofL l⟩⟩
  unfold sortU
  rw [hts]
  have hget : ∀ j, j < ts.length → ts.toArray[j]! = ts.getD j [] := fun j hj => by
    rw [List.getD_eq_getElem?_getD, List.getElem?_eq_getElem hj]
    simp [hj]
  have hget2 : ∀ j (hj : j < ts.length), ts.toArray[j]! = ts[j] := fun j hj => by rw [hget j hj, List.getD_eq_getElem?_getD, List.getElem?_eq_getElem hj]; rfl
  by_cases h0 : ts = []
  · subst h0
    refine ⟨by simp [Lib.compact, Lib.compactUpTo], fun s => ?_⟩
    have h1 := hm (bL s)
    rw [ofL_bL] at h1
    rw [← h1]
    simp [Lib.compact, Lib.compactUpTo]
  · have hpos : 0 < ts.length := List.length_pos_iff.2 h0
    obtain ⟨i1, i2, i3, i4⟩ := cmp_inv (d := ts.toArray) (fun j hj hjs => by
      have hjs' : j < ts.length := by simpa using hjs
      rw [hget2 j hjs', hget2 (j - 1) (by omega)]
      have := List.pairwise_iff_getElem.1 hs (j - 1) j (by omega) hjs' (by omega)
      simpa using this) ts.length hpos (by simp)
    constructor
    · rw [List.pairwise_map]
      exact i1.imp fun {a b} h => by rw [bL_ofL, bL_ofL]; exact h
    · intro s
      rw [List.mem_map]
      constructor
      · rintro ⟨l, hl, rfl⟩
        obtain ⟨j, hj, e⟩ := i4 l hl
        rw [hget2 j hj] at e
        rw [e]
        exact (hm _).1 (List.getElem_mem hj)
      · intro h
        have h1 : bL s ∈ ts := (hm _).2 (by rw [ofL_bL]; exact h)
        obtain ⟨j, hj, e⟩ := List.mem_iff_getElem.1 h1
        exact ⟨bL s, by rw [← e, ← hget2 j hj]; exact i3 j hj, ofL_bL s⟩

/-! ### the walks -/
def srtK (ks : List ByteArray) : List ByteArray := ((ks.map bL).mergeSort fun x y => decide (x ≤ y)).map ofL
theorem srtK_len (ks : List ByteArray) : (srtK ks).length = ks.length := by simp [srtK, List.length_mergeSort]
theorem sortM_any (base : Nat) (ks : List ByteArray) (v : Value) (w : World) (R : Ending → World → Prop) (hk : ks.length ≤ 1000000) (ho : w.ownsRow base 9 1 v ks.length (sC ks))
   (hR : ∀ w', w.grownBy w' v.ownBlock → w'.ownsRow base 9 1 v ks.length (sC (srtK ks)) → R (.returned (.tuple #[])) w') :
    Calls Try.prog 68 #[v] w R := by
  have HR := Lib.hid hR
  clear hR
  rcases ho.2 with ⟨rfl, h0⟩ | ⟨g, cap, cur, rfl, hb, hgg, h1, h2, h3, h4⟩
  · have hk0 : ks.length = 0 := h0
    obtain rfl := List.length_eq_zero_iff.1 hk0
    refine (Try.slices_Sort_string_none none 0 w).mono ?_
    rintro e w' ⟨rfl, rfl⟩
    exact HR.out _ (World.grownBy.refl _ _) (by rw [show srtK [] = [] from by simp [srtK]]; exact ho)
  · have ht : cur.toList.take (ks.map bL).length = (ks.map bL).map encStr := by rw [enc_bL, List.length_map, ← h4, Nat.mul_one]
    have hc := Try.slices_Sort_string g 0 cap (ks.map bL) w (holds_of_block hgg ht) (lt_of_block hgg) (by rw [List.length_map]; omega)
    rw [List.length_map] at hc
    refine hc.mono ?_
    rintro e w' ⟨rfl, n, os, rfl⟩
    have hO := ownsRow_sorted (n := n) (os := os) (ss := ks.map bL) (ts := (ks.map bL).mergeSort fun x y => decide (x ≤ y)) (by rw [List.length_mergeSort]) hb hgg (by rw [List.length_map]; exact h1) h2 h3
    rw [List.length_map, ← enc_ofL] at hO
    exact HR.out _ (grownBy_sorted _) hO
theorem compactM_any (base : Nat) (ks : List ByteArray) (v : Value) (w : World) (R : Ending → World → Prop) (hk : ks.length ≤ 1000000) (ho : w.ownsRow base 9 1 v ks.length (sC ks))
   (hR : ∀ v' w', w.grownBy w' v.ownBlock → (v'.ownBlock = none ∨ v'.ownBlock = v.ownBlock) → w'.ownsRow base 9 1 v' ((Lib.compact (ks.map bL)).map ofL).length (sC ((Lib.compact (ks.map bL)).map ofL)) → R (.returned v') w') :
    Calls Try.prog 72 #[v] w R := by
  have HR := Lib.hid hR
  clear hR
  rcases ho.2 with ⟨rfl, h0⟩ | ⟨g, cap, cur, rfl, hb, hgg, h1, h2, h3, h4⟩
  · have hk0 : ks.length = 0 := h0
    obtain rfl := List.length_eq_zero_iff.1 hk0
    refine (Try.slices_Compact_string_empty none 0 w).mono ?_
    rintro e w' ⟨rfl, rfl⟩
    exact HR.out _ _ (World.grownBy.refl _ _) (.inl rfl) ho
  · have ht : cur.toList.take (ks.map bL).length = (ks.map bL).map encStr := by rw [enc_bL, List.length_map, ← h4, Nat.mul_one]
    have hc := Try.slices_Compact_string g 0 cap (ks.map bL) w (holds_of_block hgg ht) (by rw [List.length_map]; omega) (by rw [List.length_map]; exact h1)
    rw [List.length_map] at hc
    refine hc.mono ?_
    rintro e w' ⟨rfl, q, rfl⟩
    obtain ⟨cs, hcs⟩ : ∃ cs, Lib.compact (ks.map bL) = cs := ⟨_, rfl⟩
    have hcl : cs.length ≤ ks.length := by
      rw [← hcs]; unfold Lib.compact Lib.compactUpTo
      rw [List.length_map]
      refine Nat.le_trans (List.length_filter_le _ _) ?_
      rw [List.length_range, List.length_map]; exact Nat.le_refl _
    rw [hcs]
    rw [hcs] at HR
    obtain ⟨ts, hts⟩ : ∃ ts, cs ++ List.replicate (ks.length - cs.length) ([] : List UInt8) = ts := ⟨_, rfl⟩
    have htl : ts.length = ks.length := by rw [← hts]; simp; omega
    rw [hts]
    have hgr := grownBy_sorted (w := w) (g := g) (n := q) (os := #[]) ts.toArray
    have hhe := heap_sorted (w := w) (g := g) (n := q) (os := #[]) ts.toArray hgg
    rw [grow_empty] at hgr hhe
    refine HR.out _ _ hgr (.inr rfl) ?_
    rw [List.length_map]
    refine ⟨by rw [sC_length, List.length_map, Nat.mul_one], .inr ⟨g, cap, _, rfl, hb, hhe, by omega, h2, by simp [putCells, h3], ?_⟩⟩
    have h5 := take_putCells cur ts (by omega)
    rw [Nat.mul_one, enc_ofL]
    have h6 : (putCells encStr 0 ts.toArray cur).toList.take cs.length = ((putCells encStr 0 ts.toArray cur).toList.take ts.length).take cs.length := by rw [List.take_take, Nat.min_eq_left (by omega)]
    rw [h6, h5, ← hts, List.map_append, List.take_left']
    rw [List.length_map]
end Go.Proofs.Ytlgjhjgdmomfoaa
namespace Go.Proofs.Ytlgjhjgdmomfoaa
open Go.RowKit

theorem quiet_add {P : Program} {f : FuncId} {args : Array Value} {w : World} {a n : Nat} {v : Value}
    (h : Calls P f args (w.drewN (a + n)) fun e w' => e = .returned v ∧ ∃ m, w' = (w.drewN (a + n)).drewN m) :
    Calls P f args (w.drewN (a + n)) fun e w'' => e = .returned v ∧ ∃ m, w'' = w.drewN (a + m) :=
  h.mono fun _ _ ⟨he, m, hm⟩ => ⟨he, n + m, by rw [hm, World.drewN_drewN, Nat.add_assoc]⟩
theorem CellsAt.drewN {w : World} {ao : Option Addr} {cs : List Value} (h : CellsAt w ao cs) (n : Nat) : CellsAt (w.drewN n) ao cs := h.below ((Drew.refl _).drewN.below _)

end Go.Proofs.Ytlgjhjgdmomfoaa
namespace Go.Proofs.Ytlgjhjgdmomfoaa
open Go.RowKit

def loQ (v : Ev) : Bool := decide (60 < v.g.size) || (decide (60 < v.p.size) || decide (60 < v.t.size))
/-- Few. -/
def fwL (vs : List Ev) : Bool := if (16 < vs.length ∧ vs.length ≤ 4096) ∨ 8192 < vs.length then false else !anyTo loQ vs vs.length
/-- A check of a gauge. -/
def ckQ (g : ByteArray) (v : Ev) : Bool := (v.k == 1 || v.k == 2) && sameB v.g g
def nxS (g : ByteArray) (vs : List Ev) : Nat → Nat → Int
  | 0, _ => -1
  | d + 1, k => if ckQ g (eAt vs k) = true then (k : Int) else nxS g vs d (k + 1)
/-- 'Next', 'State'. -/
def nx (vs : List Ev) (i : Nat) : Int := nxS (eAt vs i).g vs (vs.length - (i + 1)) (i + 1)
def stt (vs : List Ev) (i : Nat) : Int := if (eAt vs i).k = 0 then if nx vs i < 0 then 1 else 1 + (eAt vs (nx vs i).toNat).k else 0
theorem nxS_cases (g : ByteArray) (vs : List Ev) : ∀ (d k : Nat), nxS g vs d k = -1 ∨ ∃ j : Nat, nxS g vs d k = j ∧ k ≤ j ∧ j < k + d ∧ ckQ g (eAt vs j) = true
  | 0, _ => .inl rfl
  | d + 1, k => by
    rw [nxS]
    split
    · rename_i h; exact .inr ⟨k, rfl, Nat.le_refl _, by omega, h⟩
    · rcases nxS_cases g vs d (k + 1) with h | ⟨j, h1, h2, h3, h4⟩
      · exact .inl h
      · exact .inr ⟨j, h1, by omega, by omega, h4⟩
theorem nx_cases (vs : List Ev) (i : Nat) : nx vs i = -1 ∨ ∃ j : Nat, nx vs i = j ∧ i < j ∧ j < vs.length ∧ ckQ (eAt vs i).g (eAt vs j) = true := by
  rcases nxS_cases (eAt vs i).g vs (vs.length - (i + 1)) (i + 1) with h | ⟨j, h1, h2, h3, h4⟩
  · exact .inl h
  · exact .inr ⟨j, h1, by omega, by omega, h4⟩
theorem nxS_step {g : ByteArray} {vs : List Ev} {n k : Nat} {X : Int} (h : Hid (nxS g vs (n - k) k = X)) (hk : k < n) (hf : ckQ g (eAt vs k) = false) : Hid (nxS g vs (n - (k + 1)) (k + 1) = X) := by
  have h := h.out
  rw [show n - k = (n - (k + 1)) + 1 from by omega, nxS, if_neg (by rw [hf]; simp)] at h
  exact h
theorem nxS_hit {g : ByteArray} {vs : List Ev} {n k : Nat} {X : Int} (h : Hid (nxS g vs (n - k) k = X)) (hk : k < n) (hf : ckQ g (eAt vs k) = true) : X = k := by
  have h := h.out
  rw [show n - k = (n - (k + 1)) + 1 from by omega, nxS, if_pos hf] at h
  exact h.symm
theorem nxS_end {g : ByteArray} {vs : List Ev} {n k : Nat} {X : Int} (h : Hid (nxS g vs (n - k) k = X)) (hk : ¬ k < n) : X = -1 := by
  have h := h.out
  rw [show n - k = 0 from by omega, nxS] at h
  exact h.symm

end Go.Proofs.Ytlgjhjgdmomfoaa
namespace Go.Proofs.Ytlgjhjgdmomfoaa
open Go.RowKit

def fsQ (p : ByteArray) (st : Int) (vs : List Ev) (k : Nat) : Bool := sameB (eAt vs k).p p && stt vs k == st
def fsS (p : ByteArray) (st : Int) (vs : List Ev) : Nat → Nat → Int
  | 0, _ => -1
  | d + 1, k => if fsQ p st vs k = true then (k : Int) else fsS p st vs d (k + 1)
/-- 'First', 'Recalled'. -/
def frs (vs : List Ev) (p : ByteArray) (st : Int) : Int := fsS p st vs vs.length 0
def rcl (vs : List Ev) (p : ByteArray) : Bool := decide (0 ≤ frs vs p 3) && (decide (frs vs p 2 < 0) && !anyTo (wdQ p) vs vs.length)
theorem fsS_step {p : ByteArray} {st : Int} {vs : List Ev} {n k : Nat} {X : Int} (h : Hid (fsS p st vs (n - k) k = X)) (hk : k < n) (hf : fsQ p st vs k = false) : Hid (fsS p st vs (n - (k + 1)) (k + 1) = X) := by
  have h := h.out
  rw [show n - k = (n - (k + 1)) + 1 from by omega, fsS, if_neg (by rw [hf]; simp)] at h
  exact h
theorem fsS_hit {p : ByteArray} {st : Int} {vs : List Ev} {n k : Nat} {X : Int} (h : Hid (fsS p st vs (n - k) k = X)) (hk : k < n) (hf : fsQ p st vs k = true) : X = k := by
  have h := h.out
  rw [show n - k = (n - (k + 1)) + 1 from by omega, fsS, if_pos hf] at h
  exact h.symm
theorem fsS_end {p : ByteArray} {st : Int} {vs : List Ev} {n k : Nat} {X : Int} (h : Hid (fsS p st vs (n - k) k = X)) (hk : ¬ k < n) : X = -1 := by
  have h := h.out
  rw [show n - k = 0 from by omega, fsS] at h
  exact h.symm
theorem fsS_cases (p : ByteArray) (st : Int) (vs : List Ev) : ∀ (d k : Nat), fsS p st vs d k = -1 ∨ ∃ j : Nat, fsS p st vs d k = j ∧ k ≤ j ∧ j < k + d ∧ fsQ p st vs j = true
  | 0, _ => .inl rfl
  | d + 1, k => by
    rw [fsS]
    split
    · rename_i h; exact .inr ⟨k, rfl, Nat.le_refl _, by omega, h⟩
    · rcases fsS_cases p st vs d (k + 1) with h | ⟨j, h1, h2, h3, h4⟩
      · exact .inl h
      · exact .inr ⟨j, h1, by omega, by omega, h4⟩

end Go.Proofs.Ytlgjhjgdmomfoaa
