/- The walk of Reason of package recall. (Printed by gen_reason.py.) -/
import Derived.Stop.RegionWithIn
import Derived.Test.YtfamennpajjajaaRaa
namespace Go.Proofs.Ytfamennpajjajaa
open Go.RowKit Go.Maps
attribute [local go_sem] Oper.semAt_some

def reaQ (vs : List Ev) (p : ByteArray) (i : Nat) : Bool := ((eAt vs i).k == 0 && sameB (eAt vs i).p p) && stt vs i == 3
def mOf (r : Int) : Int := if r < 0 then 0 else r
def cOf (vs : List Ev) (r : Int) : Int := if r < 0 then 0 else atN vs r.toNat
theorem idxQ_at (q : Nat → Bool) {n i : Nat} (h : i < n) : idxQ q (n - i) i = if q i = true then (i : Int) else idxQ q (n - (i + 1)) (i + 1) := by
  rw [show n - i = (n - (i + 1)) + 1 from by omega, idxQ]
/-- The four boxes of Reason. -/
structure Bx (B : Nat) (s : Value) (p : ByteArray) (m k : Int) (W : World) : Prop where
  l : Boxed W B 22 s
  p : Boxed W (B + 1) 9 (.string p)
  m : Boxed W (B + 1 + 1) 3 (.int .i64 m)
  k : Boxed W (B + 1 + 1 + 1) 3 (.int .i64 k)
theorem bx_below {B N : Nat} {s : Value} {p : ByteArray} {m k : Int} {W W' : World} (h : Bx B s p m k W) (hb : Below N W W') (hN : B + 1 + 1 + 1 < N) : Bx B s p m k W' :=
  ⟨(hb.block _ (by omega)).trans h.l, (hb.block _ (by omega)).trans h.p, (hb.block _ (by omega)).trans h.m, (hb.block _ (by omega)).trans h.k⟩
theorem bx_cells {B : Nat} {s : Value} {p : ByteArray} {m k : Int} {W : World} (h : Bx B s p m k W) : W.cell? ⟨B, 0, none⟩ = some s ∧ W.cell? ⟨B + 1, 0, none⟩ = some (.string p) ∧ W.cell? ⟨B + 1 + 1, 0, none⟩ = some (.int .i64 m) ∧ W.cell? ⟨B + 1 + 1 + 1, 0, none⟩ = some (.int .i64 k) ∧ B + 1 + 1 + 1 < W.heap.size ∧
    W.frozen? ⟨B + 1 + 1, 0, none⟩ = false ∧ W.frozen? ⟨B + 1 + 1 + 1, 0, none⟩ = false := ⟨h.l.cell, h.p.cell, h.m.cell, h.k.cell, h.k.lt, h.m.frozen, h.k.frozen⟩
theorem bx_set {B : Nat} {s : Value} {p : ByteArray} {m k : Int} {W : World} (h : Bx B s p m k W) (m' k' : Int) : Bx B s p m' k' ((W.setCell ⟨B + 1 + 1, 0, none⟩ (.int .i64 m')).setCell ⟨B + 1 + 1 + 1, 0, none⟩ (.int .i64 k')) :=
  ⟨(h.l.other (by omega) _).other (by omega) _, (h.p.other (by omega) _).other (by omega) _, (h.m.set _).other (by omega) _, (h.k.other (by omega) _).set _⟩
theorem below_set {B : Nat} {W : World} (u v : Value) : Below B W ((W.setCell ⟨B + 1 + 1, 0, none⟩ u).setCell ⟨B + 1 + 1 + 1, 0, none⟩ v) :=
  ((Below.refl B W).setCell (by show B ≤ B + 1 + 1; omega) _).setCell (by show B ≤ B + 1 + 1 + 1; omega) _
theorem reason_res {B : Nat} {s : Value} {p : ByteArray} {m k : Int} {W : World} (h : Bx B s p m k W) {tmps : Array Value} {x : Value} (h4 : tmps.getD 4 undef = .pointer (some ⟨B + 1 + 1, 0, none⟩)) (h5 : tmps.getD 5 undef = .pointer (some ⟨B + 1 + 1 + 1, 0, none⟩)) (h6 : tmps.getD 6 undef = x) :
    (results Try.f24 tmps).run Try.prog W = .ok (.tuple #[.int .i64 m, .int .i64 k, x]) W := by
  have c1 := h.m.cell
  have c2 := h.k.cell
  have h4' : tmps[4]?.getD undef = .pointer (some ⟨B + 1 + 1, 0, none⟩) := by simpa using h4
  have h5' : tmps[5]?.getD undef = .pointer (some ⟨B + 1 + 1 + 1, 0, none⟩) := by simpa using h5
  have h6' : tmps[6]?.getD undef = x := by simpa using h6
  simp [results, h4', h5', h6', go_sem, c1, c2]
theorem endMw {F : Fence} {n : Nat} {P : Program} {fn : Func} {R : Ending → World → Prop} {tmps : Array Value} {V : World} {v : Value} (hr : (results fn tmps).run P V = .ok v V) (hR : R (.returned v) V) : bodyPostM F n P fn R .ret { tmps := tmps, defers := [] } V := ⟨_, hr, hR⟩
theorem endMx {F : Fence} {n : Nat} {P : Program} {fn : Func} {R : Ending → World → Prop} {tmps : Array Value} {V : World} {v : Value} {D : Nat} (hK : V.heap[D]? = some (.deferred (some [])))
    (hr : Below D V (V.putObj D (.deferred none)) → (results fn tmps).run P (V.putObj D (.deferred none)) = .ok v (V.putObj D (.deferred none))) (hR : Below D V (V.putObj D (.deferred none)) → R (.returned v) (V.putObj D (.deferred none))) :
    bodyPostM F n P fn R .ret { tmps := tmps, defers := [{ target := .collected D, args := #[] }] } V :=
  have hb : Below D V (V.putObj D (.deferred none)) := ⟨rfl, rfl, rfl, by simp, fun k hk => World.putObj_heap_other (by omega)⟩
  ⟨by simp, .inl ⟨_, _, rfl, run_takeDeferred hK, ⟨_, hr hb, hR hb⟩⟩⟩
theorem region_mid {F : Fence} {n : Nat} {P : Program} {c : Code} {Q : Exit → Act → World → Prop} {a : Act} {w : World} (K : Act → World → Prop) (h : c.wpIn F n P (Exit.then K (fun _ _ _ => False)) a w) (hK : ∀ a' w', K a' w' → Q .normal a' w') : c.wpIn F n P Q a w :=
  wpIn_mono h (by rintro e a' w' hq; cases e <;> first | exact hK _ _ hq | exact hq.elim)

set_option maxRecDepth 100000 in
set_option maxHeartbeats 16000000 in
theorem reason53_any (ao : Option Addr) (vs : List Ev) (c : Nat) (p : ByteArray) (w : World) (R : Ending → World → Prop) (hl : vs.length ≤ 9223372036854775807) (hpl : p.size ≤ 9223372036854775807) (hc : CellsAt w ao (eC vs)) (hv : LogOk vs)
   (hR1 : chk3 vs ≠ 0 → ∀ w', Below w.heap.size w w' → R (.returned (.tuple #[.int .i64 0, .int .i64 0, .int .i64 (chk3 vs)])) w')
   (hR2 : chk3 vs = 0 → nmE p ≠ 0 → ∀ w', Below w.heap.size w w' → R (.returned (.tuple #[.int .i64 0, .int .i64 0, .int .i64 (nmE p)])) w')
   (hR3 : chk3 vs = 0 → nmE p = 0 → exF (fun i => msQ p (eAt vs i)) vs.length 0 = false → ∀ w', Below w.heap.size w w' → R (.returned (.tuple #[.int .i64 0, .int .i64 0, .int .i64 6])) w')
   (hR4 : chk3 vs = 0 → nmE p = 0 → exF (fun i => msQ p (eAt vs i)) vs.length 0 = true → kpQ qR vs p = false → ∀ w', Below w.heap.size w w' → R (.returned (.tuple #[.int .i64 0, .int .i64 0, .int .i64 14])) w')
   (hR0 : chk3 vs = 0 → nmE p = 0 → exF (fun i => msQ p (eAt vs i)) vs.length 0 = true → kpQ qR vs p = true → ∀ w', Below w.heap.size w w' → R (.returned (.tuple #[.int .i64 (mOf (idxQ (reaQ vs p) vs.length 0)), .int .i64 (cOf vs (idxQ (reaQ vs p) vs.length 0)), .int .i64 0])) w') :
    Calls Try.prog 24 #[.slice ao vs.length c, .string p] w R := by
  have HR0 := Lib.hid hR0
  have HR1 := Lib.hid hR1
  have HR2 := Lib.hid hR2
  have HR3 := Lib.hid hR3
  have HR4 := Lib.hid hR4
  have HC := Lib.hid hc
  have HV := Lib.hid hv
  clear hR0 hR1 hR2 hR3 hR4 hc hv
  have h1 : 1 ≤ 6 := by omega
  obtain ⟨E, hE⟩ : ∃ E, Hid (chk3 vs = E) := ⟨_, rfl⟩
  obtain ⟨E2, hE2⟩ : ∃ E, Hid (nmE p = E) := ⟨_, rfl⟩
  obtain ⟨E3, hE3⟩ : ∃ E, Hid (exF (fun i => msQ p (eAt vs i)) vs.length 0 = E) := ⟨_, rfl⟩
  have hA : Below w.heap.size w ((((w.alloc (.cells #[.slice ao vs.length c] 22)).alloc (.cells #[.string p] 9)).alloc (.cells #[.int .i64 0] 3)).alloc (.cells #[.int .i64 0] 3)) := ((((Below.refl _ w).alloc (Nat.le_refl _) _).alloc (by simp) _).alloc (by simp only [World.size_alloc]; omega) _).alloc (by simp only [World.size_alloc]; omega) _
  have hX : Bx w.heap.size (.slice ao vs.length c) p 0 0 ((((w.alloc (.cells #[.slice ao vs.length c] 22)).alloc (.cells #[.string p] 9)).alloc (.cells #[.int .i64 0] 3)).alloc (.cells #[.int .i64 0] 3)) := by
    refine ⟨(((Boxed.new w _ _).alloc _).alloc _).alloc _, ?_, ?_, ?_⟩
    · have h := Boxed.new (w.alloc (.cells #[.slice ao vs.length c] 22)) 9 (.string p)
      rw [World.size_alloc] at h
      exact (h.alloc _).alloc _
    · have h := Boxed.new ((w.alloc (.cells #[.slice ao vs.length c] 22)).alloc (.cells #[.string p] 9)) 3 (.int .i64 0)
      rw [World.size_alloc, World.size_alloc] at h
      exact h.alloc _
    · have h := Boxed.new (((w.alloc (.cells #[.slice ao vs.length c] 22)).alloc (.cells #[.string p] 9)).alloc (.cells #[.int .i64 0] 3)) 3 (.int .i64 0)
      rw [World.size_alloc, World.size_alloc, World.size_alloc] at h
      exact h
  have hs0' : ((((w.alloc (.cells #[.slice ao vs.length c] 22)).alloc (.cells #[.string p] 9)).alloc (.cells #[.int .i64 0] 3)).alloc (.cells #[.int .i64 0] 3)).heap.size = w.heap.size + 4 := by simp only [World.size_alloc]
  have HA := Lib.hid hA
  have HX0 := Lib.hid hX
  have HCA := Lib.hid (HC.out.below hA)
  clear hA hX
  refine (callsIn_wide (n := 6)).1 ?_
  refine callsIn_of_wp_marks Try.func24 rfl trivial ?_ rfl
  simp only [Try.ntmps24, List.size_toArray, List.length_cons, List.length_nil, Nat.reduceAdd, Nat.reduceSub, Array.replicate_succ, Array.replicate_zero, List.push_toArray, List.append_toArray, List.nil_append, List.cons_append]
  by_cases h0 : E = 0
  · subst h0
    have hln : vs.length ≤ 4096 := chk3_le hE.out
    by_cases h2 : E2 = 0
    · subst h2
      cases hx3 : E3 with
      | true =>
        subst hx3
        gi_wp2_with (first | (refine ⟨trivial, ?_⟩; gi_at_call 16; refine callsIn_wide.2 (check53_any _ vs c _ _ hl HCA.out HV.out ?_); intro w1 hb1; rw [hE.out]; have HB1 := Lib.hid hb1; have X1 := bx_below HX0.out hb1 (by omega); have HX1 := Lib.hid X1; obtain ⟨c10, c11, c12, c13, l10, f12, f13⟩ := bx_cells X1; clear hb1 X1) | (refine ⟨trivial, ?_⟩; gi_at_call 49; refine callsIn_wide.2 (name_any p _ _ hpl ?_); rw [hE2.out]; intro w2 hb2; have HB2 := Lib.hid ((HA.out.trans (HB1.out.mono (by omega))).trans (hb2.mono (by have := HB1.out.size; omega))); have X2 := bx_below HX1.out hb2 l10; have HX2 := Lib.hid X2; clear c10 c11 c12 c13 l10 f12 f13; obtain ⟨c20, c21, c22, c23, l20, f22, f23⟩ := bx_cells X2; clear hb2 X2) | (refine ⟨trivial, ?_⟩; gi_at_call 29; refine callsIn_wide.2 (containsA_any _ vs c (w.heap.size + 1) p _ _ (by omega) (HC.out.below HB2.out) c21 (by omega) ?_); rw [hE3.out]; intro w3 hb3; have HB3 := Lib.hid (HB2.out.trans (hb3.mono HB2.out.size)); have X3 := bx_below HX2.out hb3 l20; have HX3 := Lib.hid X3; clear c20 c21 c22 c23 l20 f22 f23; obtain ⟨c30, c31, c32, c33, l30, f32, f33⟩ := bx_cells X3; clear hb3 X3))
        have HC3 := Lib.hid ((HC.out.below HB3.out).below (Below.drew (Below.refl _ w3)))
        have HB3d : Hid (Below w.heap.size w w3.drew) := HB3.out.drew
        have HX3d : Hid (Bx w.heap.size (.slice ao vs.length c) p 0 0 w3.drew) := ⟨HX3.out.l, HX3.out.p, HX3.out.m, HX3.out.k⟩
        cases hq : kpQ qR vs p with
        | true =>
          have E4 : Hid ((if kpQ qR vs p = true then some (Value.bool true) else none).getD (Value.bool false) = .bool true) := by unfold Hid; rw [hq]; rfl
          have HQ := Lib.hid hq
          clear hq
          refine region_mid (fun a' w' => ∃ b, a' = { tmps := #[.slice ao vs.length c, .string p, .pointer (some ⟨w.heap.size, 0, none⟩), .pointer (some ⟨w.heap.size + 1, 0, none⟩), .pointer (some ⟨w.heap.size + 1 + 1, 0, none⟩), .pointer (some ⟨w.heap.size + 1 + 1 + 1, 0, none⟩), .int .i64 0, .int .i64 0, .int .i64 0, undef, undef, .slice ao vs.length c, .int .i64 0, .int .i64 0, .bool false, undef, .string p, .int .i64 0, .int .i64 0, .bool false, undef, .bool false, .slice ao vs.length c, .func (.func 50) #[] #[.pointer (some ⟨w.heap.size + 1, 0, none⟩)], .bool true, .bool false, .bool false, .slice ao vs.length c, .map (some b), .string p, .bool true, .bool false, undef, undef, undef, undef, undef, undef, undef, undef, undef, undef, undef, undef, undef, undef, undef, undef, undef, undef, undef, undef, undef, undef, undef, undef, undef, undef, undef, undef, undef], defers := [] } ∧ Below w.heap.size w w' ∧ Bx w.heap.size (.slice ao vs.length c) p 0 0 w') ?_ ?_
          · gi_region_with (refine ⟨trivial, ?_⟩; gi_at_call 41; refine callsIn_wide.2 (recalled53_any _ vs c _ _ (by omega) HC3.out HV.out ?_); intro b f w4 hb4 hbs4 hM4 hf4; have hlook := hM4.look (t := 49) Try.underlying9 Try.underlying49 (zeroB _) hpl; rw [hf4 p, E4.out] at hlook; have HB4 := Lib.hid (HB3d.out.trans (Below.mono hb4 HB3d.out.size)); have X4 := bx_below HX3d.out hb4 l30; have HX4 := Lib.hid X4; clear c30 c31 c32 c33 l30 f32 f33; obtain ⟨c40, c41, c42, c43, l40, f42, f43⟩ := bx_cells X4; clear hb4 X4 hM4 hf4 hbs4)
            all_goals exact ⟨b, rfl, HB4.out, HX4.out⟩
          rintro a' w4 ⟨b, rfl, hb4, X4⟩
          have HB4 := Lib.hid hb4
          have HX4 := Lib.hid X4
          clear c30 c31 c32 c33 l30 f32 f33 hb4
          obtain ⟨c40, c41, c42, c43, l40, f42, f43⟩ := bx_cells X4
          clear X4
          gi_wp2_with (refine ⟨trivial, ?_⟩; gi_at_call 38; refine (states_in Fence.wide 5 trivial rfl _ _ _ _).mono ?_; rintro e w' ⟨rfl, rfl⟩)
          have q2 := Boxed.new w4 22 (.slice ao vs.length c)
          have hE5 : Below w4.heap.size w4 (w4.alloc (.cells #[.slice ao vs.length c] 22)) := (Below.refl _ _).alloc (Nat.le_refl _) _
          obtain ⟨w5, hw5⟩ : ∃ w5, w4.alloc (.cells #[.slice ao vs.length c] 22) = w5 := ⟨_, rfl⟩
          have hs5 : w5.heap.size = w4.heap.size + 1 := by rw [← hw5]; simp
          rw [hw5] at q2 hE5 ⊢
          have HB5 : Hid (Below w.heap.size w w5) := HB4.out.trans (hE5.mono HB4.out.size)
          have X5 := bx_below HX4.out hE5 l40
          have HX5 := Lib.hid X5
          have Q2 := Lib.hid q2
          have hs4 := HB4.out.size
          clear hw5 q2 hE5 c40 c41 c42 c43 f42 f43 X5
          refine wpIn_rangeFunc_all (xs := dnp vs.length vs.length) (bs := logBs vs ao) rfl h1 (gf := 64) (lb := #[.pointer (some ⟨w4.heap.size, 0, none⟩)]) rfl trivial (enters_of Try.func64 (by kernel_rfl) rfl)
            (states1_gives Fence.wide 5 trivial trivial trivial rfl rfl (by omega) w4.heap.size _ ao vs c w5 (by omega) HV.out Q2.out.cell (by omega) (HC.out.below HB5.out) logBs_mem (logBs_lt (HC.out.below HB5.out))) (Below.refl _ _) (fun _ => rfl)
            (logBs_lt (HC.out.below HB5.out))
            (fun pre V => Bx w.heap.size (.slice ao vs.length c) p (mOf (idxQ (reaQ vs p) (vs.length - (vs.length - pre.length)) (vs.length - pre.length))) (cOf vs (idxQ (reaQ vs p) (vs.length - (vs.length - pre.length)) (vs.length - pre.length))) V ∧ Below w.heap.size w V)
            (fun s A B hs hAB => ⟨bx_below hs.1 hAB (by omega), hs.2.trans (hAB.mono (by omega))⟩)
            ⟨by rw [List.length_nil, Nat.sub_zero, Nat.sub_self]; exact HX5.out, HB5.out⟩
            (fun x a' V => ∃ Bc, w5.heap.size ≤ Bc ∧ V.heap[Bc]? = some (.cells #[.int .i64 (atN vs x), .int .i64 (stt vs x)] 65 (0, 0)) ∧ a' = { tmps := #[.slice ao vs.length c, .string p, .pointer (some ⟨w.heap.size, 0, none⟩), .pointer (some ⟨w.heap.size + 1, 0, none⟩), .pointer (some ⟨w.heap.size + 1 + 1, 0, none⟩), .pointer (some ⟨w.heap.size + 1 + 1 + 1, 0, none⟩), .int .i64 0, .int .i64 0, .int .i64 0, .int .i64 x, .pointer (some ⟨Bc, 0, none⟩), .slice ao vs.length c, .int .i64 0, .int .i64 0, .bool false, undef, .string p, .int .i64 0, .int .i64 0, .bool false, undef, .bool false, .slice ao vs.length c, .func (.func 50) #[] #[.pointer (some ⟨w.heap.size + 1, 0, none⟩)], .bool true, .bool false, .bool false, .slice ao vs.length c, .map (some b), .string p, .bool true, .bool false, .slice ao vs.length c, .func (.func 64) #[] #[.pointer (some ⟨w4.heap.size, 0, none⟩)], .int .i64 x, .agg #[.int .i64 (atN vs x), .int .i64 (stt vs x)], undef, undef, undef, undef, undef, undef, undef, undef, undef, undef, undef, undef, undef, undef, undef, undef, undef, undef, undef, undef, undef, undef, undef, undef, undef], defers := [] })
            (by rintro x a' V l' r o hl' ⟨Bx, h1, h2, h3⟩
                refine ⟨Bx, h1, (World.putObj_heap_other ?_).trans h2, h3⟩
                rintro rfl; rw [hl'] at h2; cases h2) ?assign ?body ?done
          case assign =>
            rintro l' pre x V K hi hsz hpre hK
            unfold stEnc
            gi_wp2
            refine hK _ _ ((Below.refl _ V).alloc (Nat.le_refl _) _) ⟨V.heap.size, hsz, World.alloc_heap_new _ _, rfl⟩
          case done =>
            rintro D V hD ⟨X, hb⟩ hK
            rw [dnp_length, Nat.sub_self, Nat.sub_zero] at X
            have HX := Lib.hid X
            have HB := Lib.hid hb
            have HK := Lib.hid hK
            obtain ⟨M, hM⟩ : ∃ M, Hid (mOf (idxQ (reaQ vs p) vs.length 0) = M) := ⟨_, rfl⟩
            obtain ⟨C, hC⟩ : ∃ C, Hid (cOf vs (idxQ (reaQ vs p) vs.length 0) = C) := ⟨_, rfl⟩
            rw [hM.out, hC.out] at X HX
            obtain ⟨c40, c41, c42, c43, l40', f42, f43⟩ := bx_cells X
            clear X hb hK
            gi_wp2
            refine region_mid (fun a' w' => a' = { tmps := #[.slice ao vs.length c, .string p, .pointer (some ⟨w.heap.size, 0, none⟩), .pointer (some ⟨w.heap.size + 1, 0, none⟩), .pointer (some ⟨w.heap.size + 1 + 1, 0, none⟩), .pointer (some ⟨w.heap.size + 1 + 1 + 1, 0, none⟩), .int .i64 0, .int .i64 0, .int .i64 0, undef, undef, .slice ao vs.length c, .int .i64 0, .int .i64 0, .bool false, undef, .string p, .int .i64 0, .int .i64 0, .bool false, undef, .bool false, .slice ao vs.length c, .func (.func 50) #[] #[.pointer (some ⟨w.heap.size + 1, 0, none⟩)], .bool true, .bool false, .bool false, .slice ao vs.length c, .map (some b), .string p, .bool true, .bool false, .slice ao vs.length c, .func (.func 64) #[] #[.pointer (some ⟨w4.heap.size, 0, none⟩)], undef, undef, undef, undef, undef, undef, undef, undef, undef, undef, undef, undef, undef, undef, undef, undef, undef, undef, undef, undef, undef, undef, undef, undef, undef, .int .i64 M, .int .i64 C], defers := [{ target := .collected D, args := #[] }] } ∧ w' = (V.drew.setCell ⟨w.heap.size + 1 + 1, 0, none⟩ (.int .i64 M)).setCell ⟨w.heap.size + 1 + 1 + 1, 0, none⟩ (.int .i64 C)) ?_ ?_
            · gi_region
              all_goals exact ⟨rfl, rfl⟩
            rintro a' w' ⟨rfl, rfl⟩
            have hVn := bx_set (W := V.drew) (⟨HX.out.l, HX.out.p, HX.out.m, HX.out.k⟩ : Bx w.heap.size (.slice ao vs.length c) p M C V.drew) M C
            have hKn : ((V.drew.setCell ⟨w.heap.size + 1 + 1, 0, none⟩ (.int .i64 M)).setCell ⟨w.heap.size + 1 + 1 + 1, 0, none⟩ (.int .i64 C)).heap[D]? = some (.deferred (some [])) := (heap_setCell_other _ _ _ _ (by show D ≠ w.heap.size + 1 + 1 + 1; omega)).trans ((heap_setCell_other _ _ _ _ (by show D ≠ w.heap.size + 1 + 1; omega)).trans HK.out)
            have hBn : Below w.heap.size w ((V.drew.setCell ⟨w.heap.size + 1 + 1, 0, none⟩ (.int .i64 M)).setCell ⟨w.heap.size + 1 + 1 + 1, 0, none⟩ (.int .i64 C)) := HB.out.trans ((Below.refl w.heap.size V).drew.trans (below_set _ _))
            gi_wp2
            refine endMx (v := .tuple #[.int .i64 M, .int .i64 C, .int .i64 0]) hKn (fun hp => reason_res (bx_below hVn hp (by omega)) rfl rfl rfl) (fun hp => ?_)
            have h := HR0.out hE.out hE2.out hE3.out HQ.out _ (hBn.trans (hp.mono (by omega)))
            rw [hM.out, hC.out] at h
            exact h
          case body =>
            rintro l' pre x a' V ⟨X, hb⟩ ⟨Bc, hBc, hX, rfl⟩ hsz hpre
            obtain ⟨hlt, hpe, hxe⟩ := dnp_at hpre
            obtain ⟨k, hk⟩ : ∃ k, pre.length = k := ⟨_, rfl⟩
            rw [hk] at hlt hpe hxe X
            have hxl : x < vs.length := by omega
            have hm1 : vs.length - k = x + 1 := by omega
            have hm2 : vs.length - (k + 1) = x := by omega
            rw [hm1] at X
            obtain ⟨b1, o, rfl, hbb, hcell⟩ := HC.out.evts (by omega)
            obtain ⟨a0, _, a2, _⟩ := hcell x hxl
            have d0 := cellB hb a0 hbb
            have d2 := cellB hb a2 hbb
            have hbV : b1 < V.heap.size := by have := hb.size; omega
            have hstep : Hid (mOf (idxQ (reaQ vs p) (vs.length - x) x) = (if reaQ vs p x = true then (x : Int) else mOf (idxQ (reaQ vs p) (vs.length - (x + 1)) (x + 1))) ∧ cOf vs (idxQ (reaQ vs p) (vs.length - x) x) = (if reaQ vs p x = true then atN vs x else cOf vs (idxQ (reaQ vs p) (vs.length - (x + 1)) (x + 1)))) := by
              unfold Hid
              rw [idxQ_at _ hxl]
              cases reaQ vs p x with
              | true => exact ⟨by unfold mOf; rw [if_pos rfl, if_neg (by omega)]; rfl, by unfold cOf; rw [if_pos rfl, if_neg (by omega), Int.toNat_natCast]; rfl⟩
              | false => exact ⟨rfl, rfl⟩
            have hrq : Hid (reaQ vs p x = (((eAt vs x).k == 0 && sameB (eAt vs x).p p) && stt vs x == 3)) := rfl
            have HF : Hid (∀ V', KeepsUp w5.heap.size V V' → Below w.heap.size V V' → Bx w.heap.size (.slice (some ⟨b1, o, none⟩) vs.length c) p (mOf (idxQ (reaQ vs p) (vs.length - x) x)) (cOf vs (idxQ (reaQ vs p) (vs.length - x) x)) V' →
                KeepsUp w5.heap.size V V' ∧ KeepsBs (logBs vs (some ⟨b1, o, none⟩)) V V' ∧ (Bx w.heap.size (.slice (some ⟨b1, o, none⟩) vs.length c) p (mOf (idxQ (reaQ vs p) (vs.length - (vs.length - (pre ++ [x]).length)) (vs.length - (pre ++ [x]).length))) (cOf vs (idxQ (reaQ vs p) (vs.length - (vs.length - (pre ++ [x]).length)) (vs.length - (pre ++ [x]).length))) V' ∧ Below w.heap.size w V')) := by
              intro V' k1 k2 e0
              refine ⟨k1, logBs_keep HC.out k2, ?_, hb.trans k2⟩
              rw [List.length_append, hk, List.length_singleton, hm2]
              exact e0
            obtain ⟨u, hu⟩ : ∃ u, eAt vs x = u := ⟨_, rfl⟩
            obtain ⟨S, hS⟩ : ∃ S, stt vs x = S := ⟨_, rfl⟩
            obtain ⟨A, hA⟩ : ∃ A, atN vs x = A := ⟨_, rfl⟩
            obtain ⟨M0, hM0⟩ : ∃ M0, mOf (idxQ (reaQ vs p) (vs.length - (x + 1)) (x + 1)) = M0 := ⟨_, rfl⟩
            obtain ⟨C0, hC0⟩ : ∃ C0, cOf vs (idxQ (reaQ vs p) (vs.length - (x + 1)) (x + 1)) = C0 := ⟨_, rfl⟩
            rw [hu] at d0 d2 hrq
            rw [hS] at hX hrq
            rw [hA] at hX hstep
            rw [hM0, hC0] at X hstep
            obtain ⟨c40, c41, c42, c43, l40', f42, f43⟩ := bx_cells X
            have x0 := cell_at hX (j := 0) (v := .int .i64 A) rfl
            have x1 := cell_at hX (j := 1) (v := .int .i64 S) rfl
            have hBcl : Bc < V.heap.size := lt_of_block hX
            have BX := Lib.hid X
            clear hcell a0 a2 hX hpe hxe hk hm1 hm2 hb hu hS hA hM0 hC0 X
            by_cases h0 : u.k = 0
            · have K0 : (u.k == 0) = true := by rw [h0]; rfl
              clear h0
              cases hs : sameB u.p p with
              | true =>
                have K1 : (u.p.toList == p.toList) = true := hs
                rw [hs] at hrq
                clear hs
                by_cases h3 : S = 3
                · have K3 : (S == 3) = true := by rw [h3]; rfl
                  clear h3
                  have RQ : reaQ vs p x = true := by rw [hrq.out]; simp [K0, K3]
                  have HS := hstep.out
                  rw [RQ] at HS
                  have HSX := Lib.hid HS
                  clear HS hrq hstep RQ
                  gi_wp2
                  refine region_mid (fun a' w' => a' = { tmps := #[.slice (some ⟨b1, o, none⟩) vs.length c, .string p, .pointer (some ⟨w.heap.size, 0, none⟩), .pointer (some ⟨w.heap.size + 1, 0, none⟩), .pointer (some ⟨w.heap.size + 1 + 1, 0, none⟩), .pointer (some ⟨w.heap.size + 1 + 1 + 1, 0, none⟩), .int .i64 0, .int .i64 0, .int .i64 0, .int .i64 x, .pointer (some ⟨Bc, 0, none⟩), .slice (some ⟨b1, o, none⟩) vs.length c, .int .i64 0, .int .i64 0, .bool false, undef, .string p, .int .i64 0, .int .i64 0, .bool false, undef, .bool false, .slice (some ⟨b1, o, none⟩) vs.length c, .func (.func 50) #[] #[.pointer (some ⟨w.heap.size + 1, 0, none⟩)], .bool true, .bool false, .bool false, .slice (some ⟨b1, o, none⟩) vs.length c, .map (some b), .string p, .bool true, .bool false, .slice (some ⟨b1, o, none⟩) vs.length c, .func (.func 64) #[] #[.pointer (some ⟨w4.heap.size, 0, none⟩)], .int .i64 x, .agg #[.int .i64 (atN vs x), .int .i64 (stt vs x)], .slice (some ⟨b1, o, none⟩) vs.length c, .int .i64 x, .pointer (some ⟨b1, o + x * 4, none⟩), .pointer (some ⟨b1, o + x * 4, none⟩), .int .i64 u.k, .bool true, .bool true, .slice (some ⟨b1, o, none⟩) vs.length c, .int .i64 x, .pointer (some ⟨b1, o + x * 4, none⟩), .pointer (some ⟨b1, o + x * 4 + 2, none⟩), .string u.p, .string p, .bool true, .bool true, .bool true, .pointer (some ⟨Bc, 1, none⟩), .int .i64 S, .bool true, .bool true, undef, undef, undef, undef, undef], defers := [] } ∧ w' = V.drew) ?_ ?_
                  · gi_region
                    all_goals exact ⟨rfl, rfl⟩
                  rintro a' w' ⟨rfl, rfl⟩
                  gi_wp2
                  refine region_mid (fun a' w' => a' = { tmps := #[.slice (some ⟨b1, o, none⟩) vs.length c, .string p, .pointer (some ⟨w.heap.size, 0, none⟩), .pointer (some ⟨w.heap.size + 1, 0, none⟩), .pointer (some ⟨w.heap.size + 1 + 1, 0, none⟩), .pointer (some ⟨w.heap.size + 1 + 1 + 1, 0, none⟩), .int .i64 0, .int .i64 0, .int .i64 0, .int .i64 x, .pointer (some ⟨Bc, 0, none⟩), .slice (some ⟨b1, o, none⟩) vs.length c, .int .i64 0, .int .i64 0, .bool false, undef, .string p, .int .i64 0, .int .i64 0, .bool false, undef, .bool false, .slice (some ⟨b1, o, none⟩) vs.length c, .func (.func 50) #[] #[.pointer (some ⟨w.heap.size + 1, 0, none⟩)], .bool true, .bool false, .bool false, .slice (some ⟨b1, o, none⟩) vs.length c, .map (some b), .string p, .bool true, .bool false, .slice (some ⟨b1, o, none⟩) vs.length c, .func (.func 64) #[] #[.pointer (some ⟨w4.heap.size, 0, none⟩)], .int .i64 x, .agg #[.int .i64 (atN vs x), .int .i64 (stt vs x)], .slice (some ⟨b1, o, none⟩) vs.length c, .int .i64 x, .pointer (some ⟨b1, o + x * 4, none⟩), .pointer (some ⟨b1, o + x * 4, none⟩), .int .i64 u.k, .bool true, .bool true, .slice (some ⟨b1, o, none⟩) vs.length c, .int .i64 x, .pointer (some ⟨b1, o + x * 4, none⟩), .pointer (some ⟨b1, o + x * 4 + 2, none⟩), .string u.p, .string p, .bool true, .bool true, .bool true, .pointer (some ⟨Bc, 1, none⟩), .int .i64 S, .bool true, .bool true, .int .i64 x, .pointer (some ⟨Bc, 0, none⟩), .int .i64 A, undef, undef], defers := [] } ∧ w' = (V.drew.drew.setCell ⟨w.heap.size + 1 + 1, 0, none⟩ (.int .i64 x)).setCell ⟨w.heap.size + 1 + 1 + 1, 0, none⟩ (.int .i64 A)) ?_ ?_
                  · gi_region
                    all_goals exact ⟨rfl, rfl⟩
                  rintro a' w' ⟨rfl, rfl⟩
                  gi_wp2
                  refine HF.out _ ((((KeepsUp.refl _ V).drew.drew).setCell (.inl (by show w.heap.size + 1 + 1 < w5.heap.size; omega)) _).setCell (.inl (by show w.heap.size + 1 + 1 + 1 < w5.heap.size; omega)) _) ((Below.refl w.heap.size V).drew.drew.trans (below_set _ _)) ?_
                  have := bx_set (W := V.drew.drew) (⟨BX.out.l, BX.out.p, BX.out.m, BX.out.k⟩ : Bx w.heap.size (.slice (some ⟨b1, o, none⟩) vs.length c) p _ _ V.drew.drew) x A
                  rw [HSX.out.1, HSX.out.2]
                  exact this
                · have K3 : (S == 3) = false := by simpa using h3
                  clear h3
                  have RQ : reaQ vs p x = false := by rw [hrq.out]; simp [K0, K3]
                  have HS := hstep.out
                  rw [RQ] at HS
                  have HSX := Lib.hid HS
                  clear HS hrq hstep RQ
                  gi_wp2
                  refine region_mid (fun a' w' => a' = { tmps := #[.slice (some ⟨b1, o, none⟩) vs.length c, .string p, .pointer (some ⟨w.heap.size, 0, none⟩), .pointer (some ⟨w.heap.size + 1, 0, none⟩), .pointer (some ⟨w.heap.size + 1 + 1, 0, none⟩), .pointer (some ⟨w.heap.size + 1 + 1 + 1, 0, none⟩), .int .i64 0, .int .i64 0, .int .i64 0, .int .i64 x, .pointer (some ⟨Bc, 0, none⟩), .slice (some ⟨b1, o, none⟩) vs.length c, .int .i64 0, .int .i64 0, .bool false, undef, .string p, .int .i64 0, .int .i64 0, .bool false, undef, .bool false, .slice (some ⟨b1, o, none⟩) vs.length c, .func (.func 50) #[] #[.pointer (some ⟨w.heap.size + 1, 0, none⟩)], .bool true, .bool false, .bool false, .slice (some ⟨b1, o, none⟩) vs.length c, .map (some b), .string p, .bool true, .bool false, .slice (some ⟨b1, o, none⟩) vs.length c, .func (.func 64) #[] #[.pointer (some ⟨w4.heap.size, 0, none⟩)], .int .i64 x, .agg #[.int .i64 (atN vs x), .int .i64 (stt vs x)], .slice (some ⟨b1, o, none⟩) vs.length c, .int .i64 x, .pointer (some ⟨b1, o + x * 4, none⟩), .pointer (some ⟨b1, o + x * 4, none⟩), .int .i64 u.k, .bool true, .bool true, .slice (some ⟨b1, o, none⟩) vs.length c, .int .i64 x, .pointer (some ⟨b1, o + x * 4, none⟩), .pointer (some ⟨b1, o + x * 4 + 2, none⟩), .string u.p, .string p, .bool true, .bool true, .bool true, .pointer (some ⟨Bc, 1, none⟩), .int .i64 S, .bool false, .bool false, undef, undef, undef, undef, undef], defers := [] } ∧ w' = V.drew) ?_ ?_
                  · gi_region
                    all_goals exact ⟨rfl, rfl⟩
                  rintro a' w' ⟨rfl, rfl⟩
                  gi_wp2
                  refine HF.out _ ((KeepsUp.refl _ V).drew) (Below.refl w.heap.size V).drew ?_
                  rw [HSX.out.1, HSX.out.2]
                  exact ⟨BX.out.l, BX.out.p, BX.out.m, BX.out.k⟩
              | false =>
                have K1 : (u.p.toList == p.toList) = false := hs
                rw [hs] at hrq
                clear hs
                have RQ : reaQ vs p x = false := by rw [hrq.out]; simp [K0]
                have HS := hstep.out
                rw [RQ] at HS
                have HSX := Lib.hid HS
                clear HS hrq hstep RQ
                gi_wp2
                refine region_mid (fun a' w' => a' = { tmps := #[.slice (some ⟨b1, o, none⟩) vs.length c, .string p, .pointer (some ⟨w.heap.size, 0, none⟩), .pointer (some ⟨w.heap.size + 1, 0, none⟩), .pointer (some ⟨w.heap.size + 1 + 1, 0, none⟩), .pointer (some ⟨w.heap.size + 1 + 1 + 1, 0, none⟩), .int .i64 0, .int .i64 0, .int .i64 0, .int .i64 x, .pointer (some ⟨Bc, 0, none⟩), .slice (some ⟨b1, o, none⟩) vs.length c, .int .i64 0, .int .i64 0, .bool false, undef, .string p, .int .i64 0, .int .i64 0, .bool false, undef, .bool false, .slice (some ⟨b1, o, none⟩) vs.length c, .func (.func 50) #[] #[.pointer (some ⟨w.heap.size + 1, 0, none⟩)], .bool true, .bool false, .bool false, .slice (some ⟨b1, o, none⟩) vs.length c, .map (some b), .string p, .bool true, .bool false, .slice (some ⟨b1, o, none⟩) vs.length c, .func (.func 64) #[] #[.pointer (some ⟨w4.heap.size, 0, none⟩)], .int .i64 x, .agg #[.int .i64 (atN vs x), .int .i64 (stt vs x)], .slice (some ⟨b1, o, none⟩) vs.length c, .int .i64 x, .pointer (some ⟨b1, o + x * 4, none⟩), .pointer (some ⟨b1, o + x * 4, none⟩), .int .i64 u.k, .bool true, .bool true, .slice (some ⟨b1, o, none⟩) vs.length c, .int .i64 x, .pointer (some ⟨b1, o + x * 4, none⟩), .pointer (some ⟨b1, o + x * 4 + 2, none⟩), .string u.p, .string p, .bool false, .bool false, .bool false, undef, undef, undef, .bool false, undef, undef, undef, undef, undef], defers := [] } ∧ w' = V.drew) ?_ ?_
                · gi_region
                  all_goals exact ⟨rfl, rfl⟩
                rintro a' w' ⟨rfl, rfl⟩
                gi_wp2
                refine HF.out _ ((KeepsUp.refl _ V).drew) (Below.refl w.heap.size V).drew ?_
                rw [HSX.out.1, HSX.out.2]
                exact ⟨BX.out.l, BX.out.p, BX.out.m, BX.out.k⟩
            · have K0 : (u.k == 0) = false := by simpa using h0
              clear h0
              have RQ : reaQ vs p x = false := by rw [hrq.out]; simp [K0]
              have HS := hstep.out
              rw [RQ] at HS
              have HSX := Lib.hid HS
              clear HS hrq hstep RQ
              gi_wp2
              refine region_mid (fun a' w' => a' = { tmps := #[.slice (some ⟨b1, o, none⟩) vs.length c, .string p, .pointer (some ⟨w.heap.size, 0, none⟩), .pointer (some ⟨w.heap.size + 1, 0, none⟩), .pointer (some ⟨w.heap.size + 1 + 1, 0, none⟩), .pointer (some ⟨w.heap.size + 1 + 1 + 1, 0, none⟩), .int .i64 0, .int .i64 0, .int .i64 0, .int .i64 x, .pointer (some ⟨Bc, 0, none⟩), .slice (some ⟨b1, o, none⟩) vs.length c, .int .i64 0, .int .i64 0, .bool false, undef, .string p, .int .i64 0, .int .i64 0, .bool false, undef, .bool false, .slice (some ⟨b1, o, none⟩) vs.length c, .func (.func 50) #[] #[.pointer (some ⟨w.heap.size + 1, 0, none⟩)], .bool true, .bool false, .bool false, .slice (some ⟨b1, o, none⟩) vs.length c, .map (some b), .string p, .bool true, .bool false, .slice (some ⟨b1, o, none⟩) vs.length c, .func (.func 64) #[] #[.pointer (some ⟨w4.heap.size, 0, none⟩)], .int .i64 x, .agg #[.int .i64 (atN vs x), .int .i64 (stt vs x)], .slice (some ⟨b1, o, none⟩) vs.length c, .int .i64 x, .pointer (some ⟨b1, o + x * 4, none⟩), .pointer (some ⟨b1, o + x * 4, none⟩), .int .i64 u.k, .bool false, .bool false, undef, undef, undef, undef, undef, undef, undef, .bool false, .bool false, undef, undef, undef, .bool false, undef, undef, undef, undef, undef], defers := [] } ∧ w' = V.drew) ?_ ?_
              · gi_region
                all_goals exact ⟨rfl, rfl⟩
              rintro a' w' ⟨rfl, rfl⟩
              gi_wp2
              refine HF.out _ ((KeepsUp.refl _ V).drew) (Below.refl w.heap.size V).drew ?_
              rw [HSX.out.1, HSX.out.2]
              exact ⟨BX.out.l, BX.out.p, BX.out.m, BX.out.k⟩
        | false =>
          have E4 : Hid ((if kpQ qR vs p = true then some (Value.bool true) else none).getD (Value.bool false) = .bool false) := by unfold Hid; rw [hq]; rfl
          have HQ := Lib.hid hq
          clear hq
          refine region_mid (fun a' w' => ∃ b, a' = { tmps := #[.slice ao vs.length c, .string p, .pointer (some ⟨w.heap.size, 0, none⟩), .pointer (some ⟨w.heap.size + 1, 0, none⟩), .pointer (some ⟨w.heap.size + 1 + 1, 0, none⟩), .pointer (some ⟨w.heap.size + 1 + 1 + 1, 0, none⟩), .int .i64 0, .int .i64 0, .int .i64 0, undef, undef, .slice ao vs.length c, .int .i64 0, .int .i64 0, .bool false, undef, .string p, .int .i64 0, .int .i64 0, .bool false, undef, .bool false, .slice ao vs.length c, .func (.func 50) #[] #[.pointer (some ⟨w.heap.size + 1, 0, none⟩)], .bool true, .bool false, .bool true, .slice ao vs.length c, .map (some b), .string p, .bool false, .bool true, undef, undef, undef, undef, undef, undef, undef, undef, undef, undef, undef, undef, undef, undef, undef, undef, undef, undef, undef, undef, undef, undef, undef, undef, undef, undef, undef, undef, undef], defers := [] } ∧ Below w.heap.size w w' ∧ Bx w.heap.size (.slice ao vs.length c) p 0 0 w') ?_ ?_
          · gi_region_with (refine ⟨trivial, ?_⟩; gi_at_call 41; refine callsIn_wide.2 (recalled53_any _ vs c _ _ (by omega) HC3.out HV.out ?_); intro b f w4 hb4 hbs4 hM4 hf4; have hlook := hM4.look (t := 49) Try.underlying9 Try.underlying49 (zeroB _) hpl; rw [hf4 p, E4.out] at hlook; have HB4 := Lib.hid (HB3d.out.trans (Below.mono hb4 HB3d.out.size)); have X4 := bx_below HX3d.out hb4 l30; have HX4 := Lib.hid X4; clear c30 c31 c32 c33 l30 f32 f33; obtain ⟨c40, c41, c42, c43, l40, f42, f43⟩ := bx_cells X4; clear hb4 X4 hM4 hf4 hbs4)
            all_goals exact ⟨b, rfl, HB4.out, HX4.out⟩
          rintro a' w4 ⟨b, rfl, hb4, X4⟩
          have HB4 := Lib.hid hb4
          have HX4 := Lib.hid X4
          clear c30 c31 c32 c33 l30 f32 f33 hb4
          obtain ⟨c40, c41, c42, c43, l40, f42, f43⟩ := bx_cells X4
          clear X4
          gi_wp2
          refine endMw (v := .tuple #[.int .i64 0, .int .i64 0, .int .i64 14]) (reason_res (bx_set HX4.out 0 0) rfl rfl rfl) ?_
          exact HR4.out hE.out hE2.out hE3.out HQ.out _ (HB4.out.trans (below_set _ _))
      | false =>
        subst hx3
        gi_wp2_with (first | (refine ⟨trivial, ?_⟩; gi_at_call 16; refine callsIn_wide.2 (check53_any _ vs c _ _ hl HCA.out HV.out ?_); intro w1 hb1; rw [hE.out]; have HB1 := Lib.hid hb1; have X1 := bx_below HX0.out hb1 (by omega); have HX1 := Lib.hid X1; obtain ⟨c10, c11, c12, c13, l10, f12, f13⟩ := bx_cells X1; clear hb1 X1) | (refine ⟨trivial, ?_⟩; gi_at_call 49; refine callsIn_wide.2 (name_any p _ _ hpl ?_); rw [hE2.out]; intro w2 hb2; have HB2 := Lib.hid ((HA.out.trans (HB1.out.mono (by omega))).trans (hb2.mono (by have := HB1.out.size; omega))); have X2 := bx_below HX1.out hb2 l10; have HX2 := Lib.hid X2; clear c10 c11 c12 c13 l10 f12 f13; obtain ⟨c20, c21, c22, c23, l20, f22, f23⟩ := bx_cells X2; clear hb2 X2) | (refine ⟨trivial, ?_⟩; gi_at_call 29; refine callsIn_wide.2 (containsA_any _ vs c (w.heap.size + 1) p _ _ (by omega) (HC.out.below HB2.out) c21 (by omega) ?_); rw [hE3.out]; intro w3 hb3; have HB3 := Lib.hid (HB2.out.trans (hb3.mono HB2.out.size)); have X3 := bx_below HX2.out hb3 l20; have HX3 := Lib.hid X3; clear c20 c21 c22 c23 l20 f22 f23; obtain ⟨c30, c31, c32, c33, l30, f32, f33⟩ := bx_cells X3; clear hb3 X3))
        refine endMw (v := .tuple #[.int .i64 0, .int .i64 0, .int .i64 6]) (reason_res (bx_set HX3.out 0 0) rfl rfl rfl) ?_
        exact HR3.out hE.out hE2.out hE3.out _ (HB3.out.trans (below_set _ _))
    · have HX := Lib.hid h2
      have K0 : (E2 != 0) = true := by simpa using h2
      clear h2
      gi_wp2_with (first | (refine ⟨trivial, ?_⟩; gi_at_call 16; refine callsIn_wide.2 (check53_any _ vs c _ _ hl HCA.out HV.out ?_); intro w1 hb1; rw [hE.out]; have HB1 := Lib.hid hb1; have X1 := bx_below HX0.out hb1 (by omega); have HX1 := Lib.hid X1; obtain ⟨c10, c11, c12, c13, l10, f12, f13⟩ := bx_cells X1; clear hb1 X1) | (refine ⟨trivial, ?_⟩; gi_at_call 49; refine callsIn_wide.2 (name_any p _ _ hpl ?_); rw [hE2.out]; intro w2 hb2; have HB2 := Lib.hid ((HA.out.trans (HB1.out.mono (by omega))).trans (hb2.mono (by have := HB1.out.size; omega))); have X2 := bx_below HX1.out hb2 l10; have HX2 := Lib.hid X2; clear c10 c11 c12 c13 l10 f12 f13; obtain ⟨c20, c21, c22, c23, l20, f22, f23⟩ := bx_cells X2; clear hb2 X2))
      refine endMw (v := .tuple #[.int .i64 0, .int .i64 0, .int .i64 E2]) (reason_res (bx_set HX2.out 0 0) rfl rfl rfl) ?_
      have h := HR2.out hE.out (by rw [hE2.out]; exact HX.out) _ (HB2.out.trans (below_set (.int .i64 0) (.int .i64 0)))
      rw [hE2.out] at h
      exact h
  · have HX := Lib.hid h0
    have K0 : (E != 0) = true := by simpa using h0
    clear h0
    gi_wp2_with (first | (refine ⟨trivial, ?_⟩; gi_at_call 16; refine callsIn_wide.2 (check53_any _ vs c _ _ hl HCA.out HV.out ?_); intro w1 hb1; rw [hE.out]; have HB1 := Lib.hid hb1; have X1 := bx_below HX0.out hb1 (by omega); have HX1 := Lib.hid X1; obtain ⟨c10, c11, c12, c13, l10, f12, f13⟩ := bx_cells X1; clear hb1 X1))
    refine endMw (v := .tuple #[.int .i64 0, .int .i64 0, .int .i64 E]) (reason_res (bx_set HX1.out 0 0) rfl rfl rfl) ?_
    have h := HR1.out (by rw [hE.out]; exact HX.out) _ ((HA.out.trans (HB1.out.mono (by omega))).trans (below_set (.int .i64 0) (.int .i64 0)))
    rw [hE.out] at h
    exact h
end Go.Proofs.Ytfamennpajjajaa
