/- The walk of Unsure of package recall. (Printed by gen_unsure.py.) -/
import Derived.Test.YtfamennpajjajaaRw
namespace Go.Proofs.Ytfamennpajjajaa
open Go.RowKit Go.Maps
attribute [local go_sem] Oper.semAt_some

def uQ (vs : List Ev) (g : ByteArray) (i : Nat) : Bool := stt vs i == 1 && sameB (eAt vs i).g g

set_option maxRecDepth 100000 in
set_option maxHeartbeats 8000000 in
theorem unsure53_any (ao : Option Addr) (vs : List Ev) (c : Nat) (w : World) (R : Ending → World → Prop) (hl : vs.length ≤ 9223372036854775807) (hc : CellsAt w ao (eC vs)) (hv : LogOk vs)
   (hR1 : chk3 vs ≠ 0 → ∀ w', Below w.heap.size w w' → R (.returned (.tuple #[.slice none 0 0, .int .i64 (chk3 vs)])) w')
   (hR0 : chk3 vs = 0 → ∀ ks ao' c' w', Below w.heap.size w w' → SrtIs ks (fun g => exF (uQ vs g) vs.length 0) → CellsAt w' ao' (sC ks) → R (.returned (.tuple #[.slice ao' ks.length c', .int .i64 0])) w') :
    Calls Try.prog 22 #[.slice ao vs.length c] w R := by
  have HR1 := Lib.hid hR1
  have HR0 := Lib.hid hR0
  have HC := Lib.hid hc
  have HV := Lib.hid hv
  have HA : Hid (Below w.heap.size w (w.alloc (.cells #[.slice ao vs.length c] 22))) := (Below.refl _ _).alloc (Nat.le_refl _) _
  have HCA := Lib.hid (HC.out.below HA.out)
  have h1 : 1 ≤ 6 := by omega
  have hmm := @run_makeMap Try.prog
  clear hR1 hR0 hc hv
  obtain ⟨E, hE⟩ : ∃ E, Hid (chk3 vs = E) := ⟨_, rfl⟩
  refine (callsIn_wide (n := 6)).1 ?_
  refine callsIn_of_wp_marks Try.func22 rfl trivial ?_ rfl
  simp only [Try.ntmps22, List.size_toArray, List.length_cons, List.length_nil, Nat.reduceAdd, Nat.reduceSub, Array.replicate_succ, Array.replicate_zero, List.push_toArray, List.append_toArray, List.nil_append, List.cons_append]
  by_cases h0 : E = 0
  · subst h0
    have hln : vs.length ≤ 4096 := chk3_le hE.out
    gi_wp2_with (first | (refine ⟨trivial, ?_⟩; gi_at_call 16; refine callsIn_wide.2 (check53_any _ vs c _ _ hl HCA.out HV.out ?_); intro w1 hb1; rw [hE.out]; have HB1 := Lib.hid hb1; have hlb := ((Boxed.new w 22 (.slice ao vs.length c)).lt); have hbl := (hb1.block _ hlb).trans (Boxed.new w 22 (.slice ao vs.length c)); have HBL := Lib.hid hbl; have hblc := Boxed.cell hbl; have hbll := Boxed.lt hbl; clear hb1 hbl) | (refine ⟨trivial, ?_⟩; gi_at_call 38; refine (states_in Fence.wide 5 trivial rfl _ _ _ _).mono ?_; rintro e w' ⟨rfl, rfl⟩))
    have hB4 : Below w1.heap.size w1 (((w1.alloc (.map #[] 0)).alloc (.cells #[.map (some w1.heap.size)] 49)).alloc (.cells #[.slice ao vs.length c] 22)) := (((Below.refl _ w1).alloc (Nat.le_refl _) _).alloc (by simp) _).alloc (by simp only [World.size_alloc]; omega) _
    have q0 : MapIs Try.prog 9 (((w1.alloc (.map #[] 0)).alloc (.cells #[.map (some w1.heap.size)] 49)).alloc (.cells #[.slice ao vs.length c] 22)) w1.heap.size 0 (fun _ => none) := (mapIs_made w1).below (((Below.refl (w1.heap.size + 1) _).alloc (by simp) _).alloc (by simp only [World.size_alloc]; omega) _) (by omega)
    have q1 : Boxed (((w1.alloc (.map #[] 0)).alloc (.cells #[.map (some w1.heap.size)] 49)).alloc (.cells #[.slice ao vs.length c] 22)) (w1.heap.size + 1) 49 (.map (some w1.heap.size)) := by
      have h := Boxed.new (w1.alloc (.map #[] 0)) 49 (.map (some w1.heap.size))
      rw [World.size_alloc] at h
      exact h.alloc _
    have q2 : Boxed (((w1.alloc (.map #[] 0)).alloc (.cells #[.map (some w1.heap.size)] 49)).alloc (.cells #[.slice ao vs.length c] 22)) (w1.heap.size + 1 + 1) 22 (.slice ao vs.length c) := by
      have h := Boxed.new ((w1.alloc (.map #[] 0)).alloc (.cells #[.map (some w1.heap.size)] 49)) 22 (.slice ao vs.length c)
      rw [World.size_alloc, World.size_alloc] at h
      exact h
    obtain ⟨W4, hW4⟩ : ∃ W4, (((w1.alloc (.map #[] 0)).alloc (.cells #[.map (some w1.heap.size)] 49)).alloc (.cells #[.slice ao vs.length c] 22)) = W4 := ⟨_, rfl⟩
    have hs4 : W4.heap.size = w1.heap.size + 3 := by rw [← hW4]; simp
    rw [hW4] at q0 q1 q2 hB4 ⊢
    have HB1' : Hid (Below w.heap.size w w1) := HA.out.trans (HB1.out.mono (by simp))
    have hs1 := HB1'.out.size
    have HB4 : Hid (Below w.heap.size w W4) := HB1'.out.trans (hB4.mono hs1)
    have Q0 := Lib.hid q0
    have Q1 := Lib.hid q1
    have Q2 := Lib.hid q2
    have Q3 : Hid (Boxed W4 w.heap.size 22 (.slice ao vs.length c)) := (hB4.block _ hbll).trans HBL.out
    clear hW4 hmm hB4 q0 q1 q2 hblc hlb
    refine wpIn_rangeFunc_all (xs := dnp vs.length vs.length) (bs := logBs vs ao) rfl h1 (gf := 64) (lb := #[.pointer (some ⟨w1.heap.size + 1 + 1, 0, none⟩)]) rfl trivial (enters_of Try.func64 (by kernel_rfl) rfl)
      (states1_gives Fence.wide 5 trivial trivial trivial rfl rfl (by omega) (w1.heap.size + 1 + 1) _ ao vs c W4 (by omega) HV.out Q2.out.cell (by omega) (HC.out.below HB4.out) logBs_mem (logBs_lt (HC.out.below HB4.out))) (Below.refl _ _) (fun _ => rfl)
      (logBs_lt (HC.out.below HB4.out))
      (fun pre V => Boxed V w.heap.size 22 (.slice ao vs.length c) ∧ Boxed V (w1.heap.size + 1) 49 (.map (some w1.heap.size)) ∧ Below w.heap.size w V ∧ ∃ f, MapIs Try.prog 9 V w1.heap.size pre.length f ∧ SetIs (uQ vs) vs.length (vs.length - pre.length) f)
      (fun s A B hs hAB => by
        obtain ⟨b0, b1, bb, f, mf, sf⟩ := hs
        exact ⟨(hAB.block _ (by omega)).trans b0, (hAB.block _ (by omega)).trans b1, bb.trans (hAB.mono (by omega)), f, mf.keep (hAB.block _ (by omega)), sf⟩)
      ⟨Q3.out, Q1.out, HB4.out, _, Q0.out, set_start _ _⟩
      (fun x a' V => ∃ Bx, W4.heap.size ≤ Bx ∧ V.heap[Bx]? = some (.cells #[.int .i64 (atN vs x), .int .i64 (stt vs x)] 65 (0, 0)) ∧ a' = { tmps := #[.slice ao vs.length c, .pointer (some ⟨w.heap.size, 0, none⟩), .slice none 0 0, .int .i64 0, .int .i64 0, .pointer (some ⟨w1.heap.size + 1, 0, none⟩), .int .i64 x, .pointer (some ⟨Bx, 0, none⟩), .slice ao vs.length c, .int .i64 0, .int .i64 0, .bool false, undef, .map (some w1.heap.size), .slice ao vs.length c, .func (.func 64) #[] #[.pointer (some ⟨w1.heap.size + 1 + 1, 0, none⟩)], .int .i64 x, .agg #[.int .i64 (atN vs x), .int .i64 (stt vs x)], undef, undef, undef, undef, undef, undef, undef, undef, undef, undef, undef], defers := [] })
      (by rintro x a' V l' r o hl' ⟨Bx, h1, h2, h3⟩
          refine ⟨Bx, h1, (World.putObj_heap_other ?_).trans h2, h3⟩
          rintro rfl; rw [hl'] at h2; cases h2) ?assign ?body ?done
    case assign =>
      rintro l' pre x V K hi hsz hpre hK
      unfold stEnc
      gi_wp2
      refine hK _ _ ((Below.refl _ V).alloc (Nat.le_refl _) _) ⟨V.heap.size, hsz, World.alloc_heap_new _ _, rfl⟩
    case done =>
      rintro D V hD ⟨b0, b1, bb, f, mf, sf⟩ hK
      rw [dnp_length, Nat.sub_self] at sf
      rw [dnp_length] at mf
      have hoc := b1.cell
      have HM := Lib.hid mf
      have HF := Lib.hid sf
      have BB := Lib.hid bb
      have HK := Lib.hid hK
      clear b0 b1 bb mf sf hK
      gi_wp2_with (refine ⟨trivial, ?_⟩; gi_at_call 40; refine callsIn_wide.2 (sorted53_any _ vs.length f _ _ (by omega) HM.out ?_); intro ks ao' c' w9 hb9 hs9 hc9; have B9 := Lib.hid hb9; have S9 := Lib.hid hs9; have C9 := Lib.hid hc9; clear hb9 hs9 hc9)
      have hK9 := (B9.out.block D (lt_of_block HK.out)).trans HK.out
      refine endM (v := .tuple #[.slice ao' ks.length c', .int .i64 0]) hK9 (res2 (t := 2) (u := 3) rfl rfl rfl) (fun hp => ?_)
      refine HR0.out hE.out ks ao' c' _ ((BB.out.trans (B9.out.mono BB.out.size)).trans (hp.mono (by omega))) ⟨S9.out.up, fun s => ?_⟩ ?_
      · rw [S9.out.mem, HF.out s, Nat.sub_zero]; cases exF (uQ vs s) vs.length 0 <;> simp
      · intro hn
        obtain ⟨b, o, e, hb, hcell⟩ := C9.out hn
        refine ⟨b, o, e, by simpa using hb, fun j hj => ?_⟩
        rw [← hcell j hj]
        have hd := lt_of_block hK9
        by_cases e2 : b = D
        · exfalso
          have h5 := hcell 0 hn
          subst e2
          have h6 : (w9.cell? ⟨b, o + 0, none⟩) = none := by unfold World.cell?; rw [hK9]
          rw [h5] at h6; cases h6
        · exact World.cell?_of_block (World.putObj_heap_other e2)
    case body =>
      rintro l' pre x a' V ⟨b0, b1, bb, f, mf, sf⟩ ⟨Bx, hBx, hX, rfl⟩ hsz hpre
      obtain ⟨hlt, hpe, hxe⟩ := dnp_at hpre
      obtain ⟨k, hk⟩ : ∃ k, pre.length = k := ⟨_, rfl⟩
      rw [hk] at hlt hpe hxe mf sf
      have hxl : x < vs.length := by omega
      have hm1 : vs.length - k = x + 1 := by omega
      have hm2 : vs.length - (k + 1) = x := by omega
      rw [hm1] at sf
      have hok := HV.out x hxl
      obtain ⟨b, o, rfl, hbb, hcell⟩ := HC.out.evts (by omega)
      obtain ⟨_, a1, _, _⟩ := hcell x hxl
      have d1 := cellB bb a1 hbb
      have hbV : b < V.heap.size := by have := bb.size; omega
      have hput : Hid (stt vs x = 1 → SetIs (uQ vs) vs.length x (f.put (eAt vs x).g (.bool true))) := fun h => sf.put hxl _ (fun g => by unfold uQ; rw [h]; rfl)
      have hskip : Hid ((stt vs x == 1) = false → SetIs (uQ vs) vs.length x f) := fun h => sf.skip hxl (fun g => by unfold uQ; rw [h]; rfl)
      obtain ⟨u, hu⟩ : ∃ u, eAt vs x = u := ⟨_, rfl⟩
      obtain ⟨S, hS⟩ : ∃ S, stt vs x = S := ⟨_, rfl⟩
      rw [hu] at d1 hok hput
      rw [hS] at hX hput hskip
      have hgl : u.g.size ≤ maxLen := hok.1
      have x0 := cell_at hX (j := 1) (v := .int .i64 S) rfl
      have hBxl : Bx < V.heap.size := lt_of_block hX
      have c0 := b0.cell
      have c1 := b1.cell
      have l0 := b0.lt
      have l1 := b1.lt
      have lf := mf.lt
      have MF := Lib.hid mf
      have HF : Hid (∀ V' f', KeepsUp W4.heap.size V V' → Below w.heap.size V V' → Boxed V' w.heap.size 22 (.slice (some ⟨b, o, none⟩) vs.length c) → Boxed V' (w1.heap.size + 1) 49 (.map (some w1.heap.size)) →
          MapIs Try.prog 9 V' w1.heap.size (k + 1) f' → SetIs (uQ vs) vs.length x f' →
          KeepsUp W4.heap.size V V' ∧ KeepsBs (logBs vs (some ⟨b, o, none⟩)) V V' ∧ (Boxed V' w.heap.size 22 (.slice (some ⟨b, o, none⟩) vs.length c) ∧ Boxed V' (w1.heap.size + 1) 49 (.map (some w1.heap.size)) ∧ Below w.heap.size w V' ∧
            ∃ f, MapIs Try.prog 9 V' w1.heap.size (pre ++ [x]).length f ∧ SetIs (uQ vs) vs.length (vs.length - (pre ++ [x]).length) f)) := by
        intro V' f' k1 k2 e0 e1 e6 e8
        refine ⟨k1, logBs_keep HC.out k2, e0, e1, bb.trans k2, f', ?_⟩
        rw [List.length_append, hk, List.length_singleton, hm2]
        exact ⟨e6, e8⟩
      have E0 := Lib.hid b0
      have E1 := Lib.hid b1
      clear hcell a1 b0 b1 mf sf hX hpe hxe hk hm1 hm2 bb hu hS
      by_cases hs1' : S = 1
      · have K1 : (S == 1) = true := by rw [hs1']; rfl
        have HS := Lib.hid (hput.out hs1')
        clear hs1' hput hskip
        have MD : MapIs Try.prog 9 V.drew w1.heap.size k f := MF.out.keep rfl
        obtain ⟨w7, hrun, h7, g7⟩ := MD.store (t := 49) (e := 4) Try.underlying9 Try.underlying49 (by unfold maxLen; omega) hgl (.bool true)
        have M7 := Lib.hid h7
        have G7 := Lib.hid g7
        clear h7 g7 MD
        gi_wp2
        gi_region
        all_goals gi_wp2
        all_goals exact HF.out w7 _ ((KeepsUp.refl _ _).drew.grown G7.out (by intro k e; cases e; exact .inl (by omega))) ((Below.refl w.heap.size V).drew.grown G7.out (by show w.heap.size ≤ V.heap.size; omega) (by intro k e; cases e; omega)) (Boxed.kept (W := V.drew) E0.out G7.out (by intro e; have := Option.some.inj e; omega)) (Boxed.kept (W := V.drew) E1.out G7.out (by intro e; have := Option.some.inj e; omega)) M7.out HS.out
      · have K1 : (S == 1) = false := by simpa using hs1'
        have HS := Lib.hid (hskip.out K1)
        clear hs1' hput hskip
        gi_wp2
        exact HF.out V _ (KeepsUp.refl _ _) (Below.refl _ _) E0.out E1.out (MF.out.mono (by omega)) HS.out
  · have HX := Lib.hid h0
    have K0 : (E != 0) = true := by simpa using h0
    clear h0
    gi_wp2_with (first | (refine ⟨trivial, ?_⟩; gi_at_call 16; refine callsIn_wide.2 (check53_any _ vs c _ _ hl HCA.out HV.out ?_); intro w1 hb1; rw [hE.out]; have HB1 := Lib.hid hb1; have hlb := ((Boxed.new w 22 (.slice ao vs.length c)).lt); have hbl := (hb1.block _ hlb).trans (Boxed.new w 22 (.slice ao vs.length c)); have HBL := Lib.hid hbl; have hblc := Boxed.cell hbl; have hbll := Boxed.lt hbl; clear hb1 hbl))
    exact endM0 (v := .tuple #[.slice none 0 0, .int .i64 E]) (res2 (t := 2) (u := 3) rfl rfl rfl) (by have h := HR1.out (by rw [hE.out]; exact HX.out) w1 (HA.out.trans (HB1.out.mono (by simp))); rw [hE.out] at h; exact h)
end Go.Proofs.Ytfamennpajjajaa
