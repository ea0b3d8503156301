/- The walk of kept at the closure of AtRisk. (Printed by gen_kept.py.) -/
import Derived.Test.YtfamennpajjajaaRt
namespace Go.Proofs.Ytfamennpajjajaa
open Go.RowKit Go.Maps
attribute [local go_sem] Oper.semAt_some

set_option maxRecDepth 100000 in
set_option maxHeartbeats 8000000 in
theorem keptA_any (ao : Option Addr) (vs : List Ev) (c : Nat) (Bg : Nat) (gg : ByteArray) (w : World) (R : Ending → World → Prop) (hln : vs.length ≤ 1000000) (hc : CellsAt w ao (eC vs)) (hv : LogOk vs) (hg : w.cell? ⟨Bg, 0, none⟩ = some (.string gg)) (hgl : Bg < w.heap.size)
   (hR : ∀ b f w', Below w.heap.size w w' → w.heap.size ≤ b → MapIs Try.prog 9 w' b vs.length f → (∀ p, f p = if kpQ (qA gg) vs p = true then some (.bool true) else none) → R (.returned (.map (some b))) w') :
    Calls Try.prog 53 #[.slice ao vs.length c, (.func (.func 54) #[] #[.pointer (some ⟨Bg, 0, none⟩)])] w R := by
  have HR := Lib.hid hR
  have HC := Lib.hid hc
  have HV := Lib.hid hv
  have h1 : 1 ≤ 6 := by omega
  have hmm := @run_makeMap Try.prog
  clear hR hc hv
  refine (callsIn_wide (n := 6)).1 ?_
  refine callsIn_of_wp_marks Try.func53 rfl trivial ?_ rfl
  simp only [Try.ntmps53, List.size_toArray, List.length_cons, List.length_nil, Nat.reduceAdd, Nat.reduceSub, Array.replicate_succ, Array.replicate_zero, List.push_toArray, List.append_toArray, List.nil_append, List.cons_append]
  gi_wp2_with (refine ⟨trivial, ?_⟩; gi_at_call 38; refine (states_in Fence.wide 5 trivial rfl _ _ _ _).mono ?_; rintro e w' ⟨rfl, rfl⟩)
  have hB4 : Below w.heap.size w (((((((w.alloc (.cells #[.slice ao vs.length c] 22)).alloc (.cells #[(.func (.func 54) #[] #[.pointer (some ⟨Bg, 0, none⟩)])] 80)).alloc (.map #[] 0)).alloc (.cells #[.map (some (w.heap.size + 1 + 1))] 49)).alloc (.map #[] 0)).alloc (.cells #[.map (some (w.heap.size + 1 + 1 + 1 + 1))] 49)).alloc (.cells #[.slice ao vs.length c] 22)) := (((((((Below.refl _ w).alloc (Nat.le_refl _) _).alloc (by simp) _).alloc (by simp only [World.size_alloc]; omega) _).alloc (by simp only [World.size_alloc]; omega) _).alloc (by simp only [World.size_alloc]; omega) _).alloc (by simp only [World.size_alloc]; omega) _).alloc (by simp only [World.size_alloc]; omega) _
  have sz : ((((((w.alloc (.cells #[.slice ao vs.length c] 22)).alloc (.cells #[(.func (.func 54) #[] #[.pointer (some ⟨Bg, 0, none⟩)])] 80)).alloc (.map #[] 0)).alloc (.cells #[.map (some (w.heap.size + 1 + 1))] 49)).alloc (.map #[] 0)).alloc (.cells #[.map (some (w.heap.size + 1 + 1 + 1 + 1))] 49)).heap.size = w.heap.size + 1 + 1 + 1 + 1 + 1 + 1 := by simp only [World.size_alloc]
  have q0 : Boxed (((((((w.alloc (.cells #[.slice ao vs.length c] 22)).alloc (.cells #[(.func (.func 54) #[] #[.pointer (some ⟨Bg, 0, none⟩)])] 80)).alloc (.map #[] 0)).alloc (.cells #[.map (some (w.heap.size + 1 + 1))] 49)).alloc (.map #[] 0)).alloc (.cells #[.map (some (w.heap.size + 1 + 1 + 1 + 1))] 49)).alloc (.cells #[.slice ao vs.length c] 22)) w.heap.size 22 (.slice ao vs.length c) := ((((((Boxed.new w _ _).alloc _).alloc _).alloc _).alloc _).alloc _).alloc _
  have q1 : Boxed (((((((w.alloc (.cells #[.slice ao vs.length c] 22)).alloc (.cells #[(.func (.func 54) #[] #[.pointer (some ⟨Bg, 0, none⟩)])] 80)).alloc (.map #[] 0)).alloc (.cells #[.map (some (w.heap.size + 1 + 1))] 49)).alloc (.map #[] 0)).alloc (.cells #[.map (some (w.heap.size + 1 + 1 + 1 + 1))] 49)).alloc (.cells #[.slice ao vs.length c] 22)) (w.heap.size + 1) 80 (.func (.func 54) #[] #[.pointer (some ⟨Bg, 0, none⟩)]) := by
    have h := Boxed.new (w.alloc (.cells #[.slice ao vs.length c] 22)) 80 (.func (.func 54) #[] #[.pointer (some ⟨Bg, 0, none⟩)])
    rw [World.size_alloc] at h
    exact ((((h.alloc _).alloc _).alloc _).alloc _).alloc _
  have q2 : MapIs Try.prog 9 (((((((w.alloc (.cells #[.slice ao vs.length c] 22)).alloc (.cells #[(.func (.func 54) #[] #[.pointer (some ⟨Bg, 0, none⟩)])] 80)).alloc (.map #[] 0)).alloc (.cells #[.map (some (w.heap.size + 1 + 1))] 49)).alloc (.map #[] 0)).alloc (.cells #[.map (some (w.heap.size + 1 + 1 + 1 + 1))] 49)).alloc (.cells #[.slice ao vs.length c] 22)) (w.heap.size + 1 + 1) 0 (fun _ => none) := by
    have h := mapIs_made (P := Try.prog) (k := 9) ((w.alloc (.cells #[.slice ao vs.length c] 22)).alloc (.cells #[(.func (.func 54) #[] #[.pointer (some ⟨Bg, 0, none⟩)])] 80))
    simp only [World.size_alloc] at h
    exact h.below (((((Below.refl (w.heap.size + 3) _).alloc (by simp only [World.size_alloc]; omega) _).alloc (by simp only [World.size_alloc]; omega) _).alloc (by simp only [World.size_alloc]; omega) _).alloc (by simp only [World.size_alloc]; omega) _) (by omega)
  have q3 : Boxed (((((((w.alloc (.cells #[.slice ao vs.length c] 22)).alloc (.cells #[(.func (.func 54) #[] #[.pointer (some ⟨Bg, 0, none⟩)])] 80)).alloc (.map #[] 0)).alloc (.cells #[.map (some (w.heap.size + 1 + 1))] 49)).alloc (.map #[] 0)).alloc (.cells #[.map (some (w.heap.size + 1 + 1 + 1 + 1))] 49)).alloc (.cells #[.slice ao vs.length c] 22)) (w.heap.size + 1 + 1 + 1) 49 (.map (some (w.heap.size + 1 + 1))) := by
    have h := Boxed.new (((w.alloc (.cells #[.slice ao vs.length c] 22)).alloc (.cells #[(.func (.func 54) #[] #[.pointer (some ⟨Bg, 0, none⟩)])] 80)).alloc (.map #[] 0)) 49 (.map (some (w.heap.size + 1 + 1)))
    simp only [World.size_alloc] at h
    exact ((h.alloc _).alloc _).alloc _
  have q4 : MapIs Try.prog 9 (((((((w.alloc (.cells #[.slice ao vs.length c] 22)).alloc (.cells #[(.func (.func 54) #[] #[.pointer (some ⟨Bg, 0, none⟩)])] 80)).alloc (.map #[] 0)).alloc (.cells #[.map (some (w.heap.size + 1 + 1))] 49)).alloc (.map #[] 0)).alloc (.cells #[.map (some (w.heap.size + 1 + 1 + 1 + 1))] 49)).alloc (.cells #[.slice ao vs.length c] 22)) (w.heap.size + 1 + 1 + 1 + 1) 0 (fun _ => none) := by
    have h := mapIs_made (P := Try.prog) (k := 9) ((((w.alloc (.cells #[.slice ao vs.length c] 22)).alloc (.cells #[(.func (.func 54) #[] #[.pointer (some ⟨Bg, 0, none⟩)])] 80)).alloc (.map #[] 0)).alloc (.cells #[.map (some (w.heap.size + 1 + 1))] 49))
    simp only [World.size_alloc] at h
    exact h.below (((Below.refl (w.heap.size + 5) _).alloc (by simp only [World.size_alloc]; omega) _).alloc (by simp only [World.size_alloc]; omega) _) (by omega)
  have q5 : Boxed (((((((w.alloc (.cells #[.slice ao vs.length c] 22)).alloc (.cells #[(.func (.func 54) #[] #[.pointer (some ⟨Bg, 0, none⟩)])] 80)).alloc (.map #[] 0)).alloc (.cells #[.map (some (w.heap.size + 1 + 1))] 49)).alloc (.map #[] 0)).alloc (.cells #[.map (some (w.heap.size + 1 + 1 + 1 + 1))] 49)).alloc (.cells #[.slice ao vs.length c] 22)) (w.heap.size + 1 + 1 + 1 + 1 + 1) 49 (.map (some (w.heap.size + 1 + 1 + 1 + 1))) := by
    have h := Boxed.new (((((w.alloc (.cells #[.slice ao vs.length c] 22)).alloc (.cells #[(.func (.func 54) #[] #[.pointer (some ⟨Bg, 0, none⟩)])] 80)).alloc (.map #[] 0)).alloc (.cells #[.map (some (w.heap.size + 1 + 1))] 49)).alloc (.map #[] 0)) 49 (.map (some (w.heap.size + 1 + 1 + 1 + 1)))
    simp only [World.size_alloc] at h
    exact h.alloc _
  have q6 : Boxed (((((((w.alloc (.cells #[.slice ao vs.length c] 22)).alloc (.cells #[(.func (.func 54) #[] #[.pointer (some ⟨Bg, 0, none⟩)])] 80)).alloc (.map #[] 0)).alloc (.cells #[.map (some (w.heap.size + 1 + 1))] 49)).alloc (.map #[] 0)).alloc (.cells #[.map (some (w.heap.size + 1 + 1 + 1 + 1))] 49)).alloc (.cells #[.slice ao vs.length c] 22)) (w.heap.size + 1 + 1 + 1 + 1 + 1 + 1) 22 (.slice ao vs.length c) := by
    have h := Boxed.new ((((((w.alloc (.cells #[.slice ao vs.length c] 22)).alloc (.cells #[(.func (.func 54) #[] #[.pointer (some ⟨Bg, 0, none⟩)])] 80)).alloc (.map #[] 0)).alloc (.cells #[.map (some (w.heap.size + 1 + 1))] 49)).alloc (.map #[] 0)).alloc (.cells #[.map (some (w.heap.size + 1 + 1 + 1 + 1))] 49)) 22 (.slice ao vs.length c)
    simp only [World.size_alloc] at h
    exact h
  obtain ⟨W4, hW4⟩ : ∃ W4, (((((((w.alloc (.cells #[.slice ao vs.length c] 22)).alloc (.cells #[(.func (.func 54) #[] #[.pointer (some ⟨Bg, 0, none⟩)])] 80)).alloc (.map #[] 0)).alloc (.cells #[.map (some (w.heap.size + 1 + 1))] 49)).alloc (.map #[] 0)).alloc (.cells #[.map (some (w.heap.size + 1 + 1 + 1 + 1))] 49)).alloc (.cells #[.slice ao vs.length c] 22)) = W4 := ⟨_, rfl⟩
  have hs4 : W4.heap.size = w.heap.size + 7 := by rw [← hW4]; simp only [World.size_alloc]
  rw [hW4] at q0 q1 q2 q3 q4 q5 q6 hB4 ⊢
  have HB4 := Lib.hid hB4
  have Q0 := Lib.hid q0
  have Q1 := Lib.hid q1
  have Q2 := Lib.hid q2
  have Q3 := Lib.hid q3
  have Q4 := Lib.hid q4
  have Q5 := Lib.hid q5
  have Q6 := Lib.hid q6
  clear hW4 hmm hB4 q0 q1 q2 q3 q4 q5 q6 sz
  refine wpIn_rangeFunc_all (xs := dnp vs.length vs.length) (bs := logBs vs ao) rfl h1 (gf := 64) (lb := #[.pointer (some ⟨w.heap.size + 1 + 1 + 1 + 1 + 1 + 1, 0, none⟩)]) rfl trivial (enters_of Try.func64 (by kernel_rfl) rfl)
    (states1_gives Fence.wide 5 trivial trivial trivial rfl rfl (by omega) (w.heap.size + 1 + 1 + 1 + 1 + 1 + 1) _ ao vs c W4 hln HV.out Q6.out.cell (by omega) (HC.out.below HB4.out) logBs_mem (logBs_lt (HC.out.below HB4.out))) (Below.refl _ _) (fun _ => rfl)
    (logBs_lt (HC.out.below HB4.out))
    (fun pre V => Boxed V w.heap.size 22 (.slice ao vs.length c) ∧ Boxed V (w.heap.size + 1) 80 (.func (.func 54) #[] #[.pointer (some ⟨Bg, 0, none⟩)]) ∧ Boxed V (w.heap.size + 1 + 1 + 1) 49 (.map (some (w.heap.size + 1 + 1))) ∧ Boxed V (w.heap.size + 1 + 1 + 1 + 1 + 1) 49 (.map (some (w.heap.size + 1 + 1 + 1 + 1))) ∧ Below w.heap.size w V ∧
      ∃ f g, MapIs Try.prog 9 V (w.heap.size + 1 + 1) pre.length f ∧ MapIs Try.prog 9 V (w.heap.size + 1 + 1 + 1 + 1) pre.length g ∧ SetIs (outQ (qA gg) vs) vs.length (vs.length - pre.length) f ∧ SetIs (nevQ vs) vs.length (vs.length - pre.length) g)
    (fun s A B hs hAB => by
      obtain ⟨b0, b1, b3, b5, bb, f, g, mf, mg, sf, sg⟩ := hs
      exact ⟨(hAB.block _ (by omega)).trans b0, (hAB.block _ (by omega)).trans b1, (hAB.block _ (by omega)).trans b3, (hAB.block _ (by omega)).trans b5, bb.trans (hAB.mono (by omega)), f, g, mf.keep (hAB.block _ (by omega)), mg.keep (hAB.block _ (by omega)), sf, sg⟩)
    ⟨Q0.out, Q1.out, Q3.out, Q5.out, HB4.out, _, _, Q2.out, Q4.out, set_start _ _, set_start _ _⟩
    (fun x a' V => ∃ Bx, W4.heap.size ≤ Bx ∧ V.heap[Bx]? = some (.cells #[.int .i64 (atN vs x), .int .i64 (stt vs x)] 65 (0, 0)) ∧ a' = { tmps := #[.slice ao vs.length c, (.func (.func 54) #[] #[.pointer (some ⟨Bg, 0, none⟩)]), .pointer (some ⟨w.heap.size, 0, none⟩), .pointer (some ⟨w.heap.size + 1, 0, none⟩), .map none, .pointer (some ⟨w.heap.size + 1 + 1 + 1, 0, none⟩), .pointer (some ⟨w.heap.size + 1 + 1 + 1 + 1 + 1, 0, none⟩), .int .i64 x, .pointer (some ⟨Bx, 0, none⟩), undef, .map (some (w.heap.size + 1 + 1)), .map (some (w.heap.size + 1 + 1 + 1 + 1)), .slice ao vs.length c, .func (.func 64) #[] #[.pointer (some ⟨w.heap.size + 1 + 1 + 1 + 1 + 1 + 1, 0, none⟩)], .int .i64 x, .agg #[.int .i64 (atN vs x), .int .i64 (stt vs x)], undef, undef, undef, undef, undef, undef, undef, undef, undef, undef, undef, undef, undef, undef, undef, undef, undef, undef, undef, undef, undef, undef, undef, undef, undef, undef, undef, undef, undef, undef, undef, undef, undef, undef], defers := [] })
    (by rintro x a' V l' r o hl' ⟨Bx, h1, h2, h3⟩
        refine ⟨Bx, h1, (World.putObj_heap_other ?_).trans h2, h3⟩
        rintro rfl; rw [hl'] at h2; cases h2) ?assign ?body ?done
  case assign =>
    rintro l' pre x V K hi hsz hpre hK
    unfold stEnc
    gi_wp2
    refine hK _ _ ((Below.refl _ V).alloc (Nat.le_refl _) _) ⟨V.heap.size, hsz, World.alloc_heap_new _ _, rfl⟩
  case done =>
    rintro D V hD ⟨b0, b1, b3, b5, bb, f, g, mf, mg, sf, sg⟩ hK
    rw [dnp_length, Nat.sub_self] at sf sg
    rw [dnp_length] at mf mg
    have hoc := b3.cell
    have hol := b3.lt
    have hnl := b5.lt
    have eg : ∀ args w, (callFunc 72 args).run Try.prog w = .ok (.enter 72 args) w := enters_of Try.func72 (by kernel_rfl) rfl
    have HD := Lib.hid (del53 72 #[.pointer (some ⟨w.heap.size + 1 + 1 + 1 + 1 + 1, 0, none⟩)] (w.heap.size + 1 + 1) vs.length f (fun s => exF (nevQ vs s) vs.length 0) V mf eg (fun W s v hg hs => by
      refine keptClo _ _ _ g s v W hs ((b5.kept hg (by intro e; have := Option.some.inj e; omega))) (mg.keep (hg.block _ mg.lt (by intro e; have := Option.some.inj e; omega))) (exF (nevQ vs s) vs.length 0) ?_
      have h := sg s
      rw [Nat.sub_zero] at h
      exact h))
    have B0 := Lib.hid b3
    have BB := Lib.hid bb
    have SF := Lib.hid sf
    have HK := Lib.hid hK
    clear b0 b1 b3 b5 bb mf mg sf sg eg hK
    gi_wp2_with (refine ⟨trivial, ?_⟩; gi_at_call 55; refine (callsIn_wide.2 HD.out).mono ?_; rintro e w9 ⟨rfl, m9, g9⟩; have M9 := Lib.hid m9; have G9 := Lib.hid g9; have hoc9 := (B0.out.kept g9 (by intro e; have := Option.some.inj e; omega)).cell; clear m9 g9)
    have hK9 := (G9.out.block D (lt_of_block HK.out) (by intro e; have := Option.some.inj e; omega)).trans HK.out
    refine endM (v := .map (some (w.heap.size + 1 + 1))) hK9 (res1 (t := 4) rfl rfl) (fun hp => HR.out (w.heap.size + 1 + 1) _ _ ((BB.out.grown G9.out (by have := BB.out.size; omega) (by intro k e; cases e; omega)).trans (hp.mono (by omega))) (by omega) (M9.out.keep (World.putObj_heap_other (by omega))) ?_)
    intro p
    have h := SF.out p
    rw [Nat.sub_zero] at h
    show (if exF (nevQ vs p) vs.length 0 = true then none else f p) = _
    rw [h]
    unfold kpQ
    cases exF (nevQ vs p) vs.length 0 <;> cases exF (outQ (qA gg) vs p) vs.length 0 <;> simp
  case body =>
    rintro l' pre x a' V ⟨b0, b1, b3, b5, bb, f, g, mf, mg, sf, sg⟩ ⟨Bx, hBx, hX, rfl⟩ hsz hpre
    obtain ⟨hlt, hpe, hxe⟩ := dnp_at hpre
    obtain ⟨k, hk⟩ : ∃ k, pre.length = k := ⟨_, rfl⟩
    rw [hk] at hlt hpe hxe mf mg sf sg
    have hxl : x < vs.length := by omega
    have hm1 : vs.length - k = x + 1 := by omega
    have hm2 : vs.length - (k + 1) = x := by omega
    rw [hm1] at sf sg
    have hok := HV.out x hxl
    obtain ⟨b, o, rfl, hbb, hcell⟩ := HC.out.evts (by omega)
    obtain ⟨a0, a1, a2, a3⟩ := hcell x hxl
    have d0 := cellB bb a0 hbb
    have d1 := cellB bb a1 hbb
    have d2 := cellB bb a2 hbb
    have d3 := cellB bb a3 hbb
    have hbV : b < V.heap.size := by have := bb.size; omega
    have hob := set_bits (qA gg) vs hxl sf sg
    obtain ⟨u, hu⟩ : ∃ u, eAt vs x = u := ⟨_, rfl⟩
    obtain ⟨S, hS⟩ : ∃ S, stt vs x = S := ⟨_, rfl⟩
    rw [hu] at d0 d1 d2 d3 hob hok
    rw [hS] at hX hob
    have hpl : u.p.size ≤ maxLen := hok.2.1
    have x0 := cell_at hX (j := 1) (v := .int .i64 S) rfl
    have hBxl : Bx < V.heap.size := lt_of_block hX
    have c0 := b0.cell
    have c1 := b1.cell
    have c3 := b3.cell
    have c5 := b5.cell
    have l0 := b0.lt
    have l1 := b1.lt
    have l3 := b3.lt
    have l5 := b5.lt
    have lf := mf.lt
    have lg := mg.lt
    have HE : Hid (Below V.heap.size V (V.alloc (.cells #[.int .i64 u.k, .string u.g, .string u.p, .string u.t] 51))) := (Below.refl _ _).alloc (Nat.le_refl _) _
    have MF : Hid (MapIs Try.prog 9 (V.alloc (.cells #[.int .i64 u.k, .string u.g, .string u.p, .string u.t] 51)) (w.heap.size + 1 + 1) k f) := mf.below HE.out lf
    have MG : Hid (MapIs Try.prog 9 (V.alloc (.cells #[.int .i64 u.k, .string u.g, .string u.p, .string u.t] 51)) (w.heap.size + 1 + 1 + 1 + 1) k g) := mg.below HE.out lg
    have HE2 : Hid (Below V.heap.size V ((V.alloc (.cells #[.int .i64 u.k, .string u.g, .string u.p, .string u.t] 51)).alloc (.cells #[.int .i64 u.k, .string u.g, .string u.p, .string u.t] 51))) := HE.out.alloc (by simp) _
    have MF2 : Hid (MapIs Try.prog 9 ((V.alloc (.cells #[.int .i64 u.k, .string u.g, .string u.p, .string u.t] 51)).alloc (.cells #[.int .i64 u.k, .string u.g, .string u.p, .string u.t] 51)) (w.heap.size + 1 + 1) k f) := mf.below HE2.out lf
    have MG2 : Hid (MapIs Try.prog 9 ((V.alloc (.cells #[.int .i64 u.k, .string u.g, .string u.p, .string u.t] 51)).alloc (.cells #[.int .i64 u.k, .string u.g, .string u.p, .string u.t] 51)) (w.heap.size + 1 + 1 + 1 + 1) k g) := mg.below HE2.out lg
    have HGC : Hid ((V.alloc (.cells #[.int .i64 u.k, .string u.g, .string u.p, .string u.t] 51)).cell? ⟨Bg, 0, none⟩ = some (.string gg)) := cellB HE.out (cellB bb hg hgl) (by have := bb.size; omega)
    have HGV : Hid (Bg < (V.alloc (.cells #[.int .i64 u.k, .string u.g, .string u.p, .string u.t] 51)).heap.size) := by unfold Hid; have := bb.size; simp only [World.size_alloc]; omega
    have HBV := Lib.hid bb
    have HF : Hid (∀ V' f' g', KeepsUp W4.heap.size V V' → Below w.heap.size V V' → Boxed V' w.heap.size 22 (.slice (some ⟨b, o, none⟩) vs.length c) → Boxed V' (w.heap.size + 1) 80 (.func (.func 54) #[] #[.pointer (some ⟨Bg, 0, none⟩)]) → Boxed V' (w.heap.size + 1 + 1 + 1) 49 (.map (some (w.heap.size + 1 + 1))) → Boxed V' (w.heap.size + 1 + 1 + 1 + 1 + 1) 49 (.map (some (w.heap.size + 1 + 1 + 1 + 1))) →
        MapIs Try.prog 9 V' (w.heap.size + 1 + 1) (k + 1) f' → MapIs Try.prog 9 V' (w.heap.size + 1 + 1 + 1 + 1) (k + 1) g' → SetIs (outQ (qA gg) vs) vs.length x f' → SetIs (nevQ vs) vs.length x g' →
        KeepsUp W4.heap.size V V' ∧ KeepsBs (logBs vs (some ⟨b, o, none⟩)) V V' ∧ (Boxed V' w.heap.size 22 (.slice (some ⟨b, o, none⟩) vs.length c) ∧ Boxed V' (w.heap.size + 1) 80 (.func (.func 54) #[] #[.pointer (some ⟨Bg, 0, none⟩)]) ∧ Boxed V' (w.heap.size + 1 + 1 + 1) 49 (.map (some (w.heap.size + 1 + 1))) ∧ Boxed V' (w.heap.size + 1 + 1 + 1 + 1 + 1) 49 (.map (some (w.heap.size + 1 + 1 + 1 + 1))) ∧ Below w.heap.size w V' ∧
          ∃ f g, MapIs Try.prog 9 V' (w.heap.size + 1 + 1) (pre ++ [x]).length f ∧ MapIs Try.prog 9 V' (w.heap.size + 1 + 1 + 1 + 1) (pre ++ [x]).length g ∧ SetIs (outQ (qA gg) vs) vs.length (vs.length - (pre ++ [x]).length) f ∧ SetIs (nevQ vs) vs.length (vs.length - (pre ++ [x]).length) g)) := by
      intro V' f' g' k1 k2 e0 e1 e3 e5 e6 e7 e8 e9
      refine ⟨k1, logBs_keep HC.out k2, e0, e1, e3, e5, bb.trans k2, f', g', ?_⟩
      rw [List.length_append, hk, List.length_singleton, hm2]
      exact ⟨e6, e7, e8, e9⟩
    have E0 := Lib.hid b0
    have E1 := Lib.hid b1
    have E3 := Lib.hid b3
    have E5 := Lib.hid b5
    have HO := Lib.hid hob
    have HX := Lib.hid hX
    clear hcell a0 a1 a2 a3 b0 b1 b3 b5 hob mf mg sf sg hX hpe hxe hk hm1 hm2 bb hu hS
    by_cases h3 : u.k = 3
    · have K3 : (u.k == 3) = true := by rw [h3]; rfl
      have HS := Lib.hid (HO.out.never (by rw [K3]; rfl))
      clear h3
      gi_wp2_with (gi_at_mapUpdate; refine wpIn_mapStore _ rfl _ _ _ 49 rfl 9 4 Try.underlying9 Try.underlying49 (w.heap.size + 1 + 1 + 1 + 1) k g rfl MG.out (by unfold maxLen; omega) u.p (.bool true) rfl rfl hpl ?_; intro w7 h7 g7; have M7 := Lib.hid h7; have G7 := Lib.hid g7; clear h7 g7)
      have BK : KeepsUp W4.heap.size V w7 := ((KeepsUp.refl _ _).alloc _).grown G7.out (by intro k e; cases e; exact .inl (by omega))
      have BW : Below w.heap.size V w7 := ((Below.refl w.heap.size V).alloc (by omega) _).grown G7.out (by simp only [World.size_alloc]; omega) (by intro k e; cases e; omega)
      exact HF.out w7 _ _ BK BW ((E0.out.alloc _).kept G7.out (by intro e; have := Option.some.inj e; omega)) ((E1.out.alloc _).kept G7.out (by intro e; have := Option.some.inj e; omega)) ((E3.out.alloc _).kept G7.out (by intro e; have := Option.some.inj e; omega)) ((E5.out.alloc _).kept G7.out (by intro e; have := Option.some.inj e; omega)) ((MF.out.keep (G7.out.block _ (by simp only [World.size_alloc]; omega) (by intro e; have := Option.some.inj e; omega))).mono (by omega)) M7.out HS.out.1 HS.out.2
    · have K3 : (u.k == 3) = false := by simpa using h3
      by_cases h2 : S = 2
      · have K2 : (S == 2) = true := by rw [h2]; rfl
        have HS := Lib.hid (HO.out.never (by rw [K3, K2]; rfl))
        clear h3 h2
        gi_wp2_with (gi_at_mapUpdate; refine wpIn_mapStore _ rfl _ _ _ 49 rfl 9 4 Try.underlying9 Try.underlying49 (w.heap.size + 1 + 1 + 1 + 1) k g rfl MG.out (by unfold maxLen; omega) u.p (.bool true) rfl rfl hpl ?_; intro w7 h7 g7; have M7 := Lib.hid h7; have G7 := Lib.hid g7; clear h7 g7)
        have BK : KeepsUp W4.heap.size V w7 := ((KeepsUp.refl _ _).alloc _).grown G7.out (by intro k e; cases e; exact .inl (by omega))
        have BW : Below w.heap.size V w7 := ((Below.refl w.heap.size V).alloc (by omega) _).grown G7.out (by simp only [World.size_alloc]; omega) (by intro k e; cases e; omega)
        exact HF.out w7 _ _ BK BW ((E0.out.alloc _).kept G7.out (by intro e; have := Option.some.inj e; omega)) ((E1.out.alloc _).kept G7.out (by intro e; have := Option.some.inj e; omega)) ((E3.out.alloc _).kept G7.out (by intro e; have := Option.some.inj e; omega)) ((E5.out.alloc _).kept G7.out (by intro e; have := Option.some.inj e; omega)) ((MF.out.keep (G7.out.block _ (by simp only [World.size_alloc]; omega) (by intro e; have := Option.some.inj e; omega))).mono (by omega)) M7.out HS.out.1 HS.out.2
      · have K2 : (S == 2) = false := by simpa using h2
        clear h3 h2
        by_cases h0 : u.k = 0
        · have K0 : (u.k == 0) = true := by rw [h0]; rfl
          clear h0
          cases hq : (qA gg) u S with
          | true =>
            have HS := Lib.hid (HO.out.hit (by rw [K3, K2]; rfl) (by rw [K0, hq]; rfl))
            gi_wp2_with (first | (refine ⟨trivial, ?_⟩; gi_at_call 54; refine (CallsIn.inRound l' (callsIn_wide.2 (cloA _ _ _ u.g S _ Bg gg HGC.out HGV.out))).mono ?_; rintro e w' ⟨rfl, rfl⟩; rw [show qA gg ⟨0, u.g, u.g, u.g⟩ S = true from hq]) | (gi_at_mapUpdate; refine wpIn_mapStore _ rfl _ _ _ 49 rfl 9 4 Try.underlying9 Try.underlying49 (w.heap.size + 1 + 1) k f rfl MF2.out (by unfold maxLen; omega) u.p (.bool true) rfl rfl hpl ?_; intro w7 h7 g7; have M7 := Lib.hid h7; have G7 := Lib.hid g7; clear h7 g7))
            have BK : KeepsUp W4.heap.size V w7 := (((KeepsUp.refl _ _).alloc _).alloc _).grown G7.out (by intro k e; cases e; exact .inl (by omega))
            have BW : Below w.heap.size V w7 := (((Below.refl w.heap.size V).alloc (by omega) _).alloc (by simp only [World.size_alloc]; omega) _).grown G7.out (by simp only [World.size_alloc]; omega) (by intro k e; cases e; omega)
            exact HF.out w7 _ _ BK BW (((E0.out.alloc _).alloc _).kept G7.out (by intro e; have := Option.some.inj e; omega)) (((E1.out.alloc _).alloc _).kept G7.out (by intro e; have := Option.some.inj e; omega)) (((E3.out.alloc _).alloc _).kept G7.out (by intro e; have := Option.some.inj e; omega)) (((E5.out.alloc _).alloc _).kept G7.out (by intro e; have := Option.some.inj e; omega)) M7.out ((MG2.out.keep (G7.out.block _ (by simp only [World.size_alloc]; omega) (by intro e; have := Option.some.inj e; omega))).mono (by omega)) HS.out.1 HS.out.2
          | false =>
            have HS := Lib.hid (HO.out.skip (by rw [K3, K2]; rfl) (by rw [K0, hq]; rfl))
            gi_wp2_with (refine ⟨trivial, ?_⟩; gi_at_call 54; refine (CallsIn.inRound l' (callsIn_wide.2 (cloA _ _ _ u.g S _ Bg gg HGC.out HGV.out))).mono ?_; rintro e w' ⟨rfl, rfl⟩; rw [show qA gg ⟨0, u.g, u.g, u.g⟩ S = false from hq])
            exact HF.out _ _ _ (((KeepsUp.refl _ _).alloc _).alloc _) (HE2.out.mono (by omega)) ((E0.out.alloc _).alloc _) ((E1.out.alloc _).alloc _) ((E3.out.alloc _).alloc _) ((E5.out.alloc _).alloc _) (MF2.out.mono (by omega)) (MG2.out.mono (by omega)) HS.out.1 HS.out.2
        · have K0 : (u.k == 0) = false := by simpa using h0
          have HS := Lib.hid (HO.out.skip (by rw [K3, K2]; rfl) (by rw [K0]; rfl))
          clear h0
          gi_wp2
          refine ⟨fun _ h => (by cases h), ?_⟩
          gi_wp2
          exact HF.out _ _ _ ((KeepsUp.refl _ _).alloc _) (HE.out.mono (by omega)) (E0.out.alloc _) (E1.out.alloc _) (E3.out.alloc _) (E5.out.alloc _) (MF.out.mono (by omega)) (MG.out.mono (by omega)) HS.out.1 HS.out.2
end Go.Proofs.Ytfamennpajjajaa
