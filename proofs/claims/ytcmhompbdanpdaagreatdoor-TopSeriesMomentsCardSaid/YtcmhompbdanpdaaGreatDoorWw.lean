/- plus: a wide number is added to another one in place. (Printed by gen_plus.py.) -/
import Derived.Deep.MidRow
import Derived.Deep.WholeRow
import Derived.Laws.CopyOwn
import Derived.Test.YtcmhompbdanpdaaGreatDoorMwu
namespace Go.Proofs.YtcmhompbdanpdaaGreatDoor
open Go.RowKit

/-- What was there is as before, but for block b. -/
def Mut (b : Nat) (w w' : World) : Prop := Below b w w' ∧ ∀ j, j ≠ b → j < w.heap.size → w'.heap[j]? = w.heap[j]?
theorem Chg.mut {b : Nat} {w w' : World} (h : Chg b w w') : Mut b w w' := ⟨h.1, fun j hj _ => h.2.2 j hj⟩
theorem Mut.size {b : Nat} {w w' : World} (h : Mut b w w') : w.heap.size ≤ w'.heap.size := h.1.size
theorem Mut.wide {b c : Nat} {w w' : World} {s : Bool} {v : Nat} (h : Mut b w w') (hx : Wide w c s v) (hc : c ≠ b) : Wide w' c s v := (h.2 c hc (lt_of_block hx)).trans hx
theorem Mut.trans {b : Nat} {w w' w'' : World} (h : Mut b w w') (h' : Mut b w' w'') : Mut b w w'' :=
  ⟨h.1.trans h'.1, fun j hj hl => (h'.2 j hj (Nat.lt_of_lt_of_le hl h.size)).trans (h.2 j hj hl)⟩
theorem Mut.of_below {b : Nat} {w w' : World} (h : Below w.heap.size w w') (hb : b ≤ w.heap.size) : Mut b w w' := ⟨h.mono hb, fun _ _ hl => h.block _ hl⟩
theorem Mut.drew {b : Nat} {w w' : World} (h : Mut b w w') : Mut b w w'.drew := ⟨h.1.drew, h.2⟩
theorem store_row {P : Program} {w : World} {b : Nat} {cur c' : Array Value} {t : TypeId} (hb : w.heap[b]? = some (.cells cur t (0, 0))) (hs : cur.size = c'.size) (hi : (P.info? t).map (·.size) = some c'.size) (h1 : ∀ v ∈ c'.toList, v.oneCell' = true) :
    (Instr.storeAt t (.pointer (some ⟨b, 0, none⟩)) (.agg c')).run P w = .ok () (w.setRow b c') := by
  have h := run_storeCells_at P b 0 t c'.toList 0 cur w hb (by simp; omega) h1
  have e : (cur.toList.take (0 + 0) ++ c'.toList ++ cur.toList.drop (0 + 0 + c'.toList.length)).toArray = c' := by
    have : cur.toList.drop (0 + 0 + c'.toList.length) = [] := List.drop_eq_nil_of_le (by simp; omega)
    rw [this]; simp
  rw [e] at h
  cases hq : P.info? t with
  | none => simp [hq] at hi
  | some i =>
    have hs : c'.size = i.size := by simp [hq] at hi; omega
    simp [Instr.storeAt, Instr.sureAddr, storeVar, sizeOf, typeInfo, hq, Value.cells, hs, h]
theorem setRow_chg {w : World} {b : Nat} {cur : Array Value} {t : TypeId} (hb : w.heap[b]? = some (.cells cur t (0, 0))) (c' : Array Value) : Chg b w (w.setRow b c') ∧ (w.setRow b c').heap[b]? = some (.cells c' t (0, 0)) :=
  ⟨⟨below_setRow (Below.refl b w) (Nat.le_refl b) c', size_setRow w b c', fun j hj => setRow_other w b j c' hj⟩, setRow_heap w b cur c' t (0, 0) hb⟩
theorem info_wide : (Tryz.prog.info? 184).map (·.size) = some 234 := by kernel_rfl
theorem wdC_size (s : Bool) (v : Nat) : (wdC s v).size = 234 := wdM_size _ _ _
theorem wdC_all (s : Bool) (v : Nat) : (wdC s v).all (·.oneCell') = true := Array.all_eq_true_iff_forall_mem.2 (fun x hx => wdM_one s (nw v) (wd v) x (Array.mem_toList_iff.2 hx))
theorem load_wide {w : World} {b : Nat} {s : Bool} {v : Nat} (h : Wide w b s v) : (Instr.loadAt 184 (.pointer (some ⟨b, 0, none⟩))).run Tryz.prog w = .ok (.agg (wdC s v)) w := by
  have hr := World.rangeAt_of_block h 0 (wdC s v).size
  have e : ((wdC s v).extract 0 (0 + (wdC s v).size)).toList = (wdC s v).toList := by simp
  rw [e] at hr
  have := run_loadAt_mid (P := Tryz.prog) w b 0 184 (wdC s v).toList _ hr Tryz.underlying184 rfl (by rw [info_wide]; simp [wdC_size])
  simpa using this
theorem wp_load_wide {op : Oper} {a : Act} {w : World} {K : Act → World → Prop} {Q : Exit → Act → World → Prop} (x : Operand) (ho : op.op = .load 184 x) (b : Nat) (s : Bool) (v : Nat)
    (hx : a.eval x = .pointer (some ⟨b, 0, none⟩)) (hw : Wide w b s v) (h : K (a.put op.dst (.agg (wdC s v))) w) : op.wp Tryz.prog a w K Q := by
  unfold Oper.wp execOp
  simp only [ho, hx, load_wide hw, Sem.run_bind, Sem.run_pure, Result.andThen_ok]
  exact h
theorem wp_store_wide {op : Oper} {a : Act} {w : World} {K : Act → World → Prop} {Q : Exit → Act → World → Prop} (x y : Operand) (ho : op.op = .store 184 x y) (b : Nat) (s s' : Bool) (v v' : Nat)
    (hx : a.eval x = .pointer (some ⟨b, 0, none⟩)) (hy : a.eval y = .agg (wdC s' v')) (hw : Wide w b s v) (h : ∀ w', Chg b w w' → Wide w' b s' v' → K (a.put op.dst undef) w') : op.wp Tryz.prog a w K Q := by
  have hst := store_row (P := Tryz.prog) (c' := wdC s' v') hw (by rw [wdC_size, wdC_size]) (by rw [info_wide, wdC_size]) (wdM_one s' (nw v') (wd v'))
  have hr := setRow_chg (w := w) hw (wdC s' v')
  unfold Oper.wp execOp
  simp only [ho, hx, hy, hst, Sem.run_bind, Sem.run_pure, Result.andThen_ok]
  exact h _ hr.1 hr.2
theorem wpL_load_wide {ops : Array Oper} {rest : List Oper} {op : Oper} {a : Act} {w : World} {Q : Exit → Act → World → Prop} (hgd : op.guard = none) (x : Operand) (ho : op.op = .load 184 x) (b : Nat) (s : Bool) (v : Nat)
    (hx : a.eval x = .pointer (some ⟨b, 0, none⟩)) (hw : Wide w b s v) (h : wpList Tryz.prog ops Q rest (a.put op.dst (.agg (wdC s v))) w) : wpList Tryz.prog ops Q (op :: rest) a w :=
  wpList_plain hgd fun _ hK => wp_load_wide x ho b s v hx hw (hK _ _ h)
theorem wpL_store_wide {ops : Array Oper} {rest : List Oper} {op : Oper} {a : Act} {w : World} {Q : Exit → Act → World → Prop} (hgd : op.guard = none) (x y : Operand) (ho : op.op = .store 184 x y) (b : Nat) (s s' : Bool) (v v' : Nat)
    (hx : a.eval x = .pointer (some ⟨b, 0, none⟩)) (hy : a.eval y = .agg (wdC s' v')) (hw : Wide w b s v) (h : ∀ w', Chg b w w' → Wide w' b s' v' → wpList Tryz.prog ops Q rest (a.put op.dst undef) w') : wpList Tryz.prog ops Q (op :: rest) a w :=
  wpList_plain hgd fun _ hK => wp_store_wide x y ho b s s' v v' hx hy hw fun w' h1 h2 => hK _ _ (h w' h1 h2)
theorem carry_z (bx by_ vx vy v up : Nat) (k u : Int) (hu : u = up) (sx sy : Bool) (w : World) (R : Ending → World → Prop) (hx : Wide w bx sx vx) (hy : Wide w by_ sy vy) (hne : by_ ≠ bx) (hk : -999999999 ≤ k ∧ k ≤ 999999999)
   (hup : nw vy + up ≤ 232) (nx : nw vx ≤ 232) (hv : (v : Int) = (vx : Int) + k * (bB ^ up : Nat) * (vy : Int)) (nv : nw v ≤ 232) (hR : ∀ w', Chg bx w w' → Wide w' bx sx v → R (.returned (.tuple #[])) w') :
    Calls Tryz.prog 169 #[.pointer (some ⟨bx, 0, none⟩), .pointer (some ⟨by_, 0, none⟩), .int .i64 k, .int .i64 u] w R := by
  subst hu
  exact carry_any bx by_ vx vy v up k sx sy w R hx hy hne hk hup nx hv nv hR
theorem plus_le {vx vy : Nat} (h : nw vx ≤ 231) (h' : nw vy ≤ 231) : nw (vx + vy) ≤ 232 := Nat.le_trans (nw_add _ _) (by omega)
set_option maxRecDepth 100000 in
set_option maxHeartbeats 4000000 in
theorem plus_any (bx by_ vx vy : Nat) (sx sy : Bool) (w : World) (R : Ending → World → Prop) (hx : Wide w bx sx vx) (hy : Wide w by_ sy vy) (hne : by_ ≠ bx) (nx : nw vx ≤ 231) (ny : nw vy ≤ 231)
   (hR : ∀ w', Mut bx w w' → Wide w' bx (plS sx sy vx vy).1 (plS sx sy vx vy).2 → R (.returned (.tuple #[])) w') :
    Calls Tryz.prog 213 #[.pointer (some ⟨bx, 0, none⟩), .pointer (some ⟨by_, 0, none⟩)] w R := by
  have HR := Lib.hid hR
  have HX := Lib.hid hx
  have HY := Lib.hid hy
  have NX := Lib.hid nx
  have NY := Lib.hid ny
  have x0 : w.drew.cell? ⟨bx, 0, none⟩ = some (.bool sx) := hx.m.c0
  have y0 : w.drew.cell? ⟨by_, 0, none⟩ = some (.bool sy) := hy.m.c0
  have BX := lt_of_block hx
  have HXD : Hid (Wide w.drew bx sx vx) := hx
  have HYD : Hid (Wide w.drew by_ sy vy) := hy
  have CD : Hid (Chg bx w w.drew) := (Chg.refl bx w).drew
  clear hR hx hy nx ny
  by_cases hs : sx = sy
  · have KS : (sx == sy) = true := by simp [hs]
    have HS := Lib.hid hs
    clear hs
    go_enter Tryz.func213, Tryz.ntmps213
    go_wp2_with fail
    refine regionL [0, 1, 2, 3, 4, 5, 6, 7, 8] (fun w' => w'.cell? ⟨bx, 0, none⟩ = some (.bool sx) ∧ w'.cell? ⟨by_, 0, none⟩ = some (.bool sy)) (by kernel_rfl) (⟨x0, y0⟩) (fun Qn hPQ hQn hS0 => ?_)
    iterate 9 (refine takeL (v := ?_) rfl rfl (by kernel_rfl) (by kernel_rfl) (by kernel_rfl) hPQ hS0 (by kernel_rfl) ?_ ?_; rotate_left; (focus (intro w hSw; (try dsimp only at hSw); obtain ⟨k0, k1⟩ := hSw; go_simp; (try with_reducible rfl))); (try simp only [Act.put, List.setIfInBounds_toArray, List.set_cons_zero, List.set_cons_succ]))
    refine ofL (wpAnyH_done (by kernel_rfl) (hQn.out _ _ ?_) _)
    clear hS0 hPQ hQn Qn
    go_wp2_with fail
    with_reducible refine carry_z bx by_ _ _ (vx + vy) 0 1 0 rfl _ _ _ _ HXD.out HYD.out hne ⟨by omega, by omega⟩ ?_ ?_ ?_ ?_ fun w2 hc hw => ?_
    · have := NX.out; have := NY.out; omega
    · have := NX.out; have := NY.out; omega
    · rw [Nat.pow_zero]; push_cast; omega
    · exact plus_le NX.out NY.out
    have HM : Hid (Mut bx w w2) := (CD.out.trans hc).mut
    have HW : Hid (Wide w2 bx (plS sx sy vx vy).1 (plS sx sy vx vy).2) := by
      unfold Hid plS; rw [if_pos HS.out]; exact hw
    clear hc hw
    go_wp2_with fail
    go_end0
    exact HR.out _ HM.out HW.out
  · have KS : (sx == sy) = false := by simp [hs]
    have HS := Lib.hid hs
    clear hs
    by_cases hle : vy ≤ vx
    · have HLE := Lib.hid hle
      clear hle
      go_enter Tryz.func213, Tryz.ntmps213
      go_wp2_with fail
      refine regionL [0, 1, 2, 3, 4, 5, 6, 7, 8] (fun w' => w'.cell? ⟨bx, 0, none⟩ = some (.bool sx) ∧ w'.cell? ⟨by_, 0, none⟩ = some (.bool sy)) (by kernel_rfl) (⟨x0, y0⟩) (fun Qn hPQ hQn hS0 => ?_)
      iterate 9 (refine takeL (v := ?_) rfl rfl (by kernel_rfl) (by kernel_rfl) (by kernel_rfl) hPQ hS0 (by kernel_rfl) ?_ ?_; rotate_left; (focus (intro w hSw; (try dsimp only at hSw); obtain ⟨k0, k1⟩ := hSw; go_simp; (try with_reducible rfl))); (try simp only [Act.put, List.setIfInBounds_toArray, List.set_cons_zero, List.set_cons_succ]))
      refine ofL (wpAnyH_done (by kernel_rfl) (hQn.out _ _ ?_) _)
      clear hS0 hPQ hQn Qn
      go_wp2_with fail
      with_reducible refine beyond_any bx by_ vx vy sx sy _ _ HXD.out HYD.out (by have := NX.out; omega) (by have := NY.out; omega) fun r w1 hd hr => ?_
      have HR0 : (0 ≤ r) = True := eq_true (hr.2 HLE.out)
      obtain ⟨qq, hqq⟩ := hd
      have HX1 : Hid (Wide w1 bx sx vx) := by rw [hqq]; exact HXD.out
      have HY1 : Hid (Wide w1 by_ sy vy) := by rw [hqq]; exact HYD.out
      have CD1 : Hid (Chg bx w w1) := by rw [hqq]; exact CD.out.of_drewN qq
      clear hr hqq
      go_wp2_with fail
      with_reducible refine carry_z bx by_ _ _ (vx - vy) 0 (-1) 0 rfl _ _ _ _ HX1.out HY1.out hne ⟨by omega, by omega⟩ ?_ ?_ ?_ ?_ fun w2 hc hw => ?_
      · have := NX.out; have := NY.out; omega
      · have := NX.out; have := NY.out; omega
      · rw [Nat.pow_zero]; have := HLE.out; omega
      · have := nw_mono (Nat.sub_le vx vy); have := NX.out; omega
      have HM : Hid (Mut bx w w2) := (CD1.out.trans hc).mut
      have HW : Hid (Wide w2 bx (plS sx sy vx vy).1 (plS sx sy vx vy).2) := by
        unfold Hid plS; rw [if_neg HS.out, if_pos HLE.out]; exact hw
      clear hc hw
      go_wp2_with fail
      go_end0
      exact HR.out _ HM.out HW.out
    · have HLE := Lib.hid hle
      clear hle
      go_enter Tryz.func213, Tryz.ntmps213
      go_wp2_with fail
      refine regionL [0, 1, 2, 3, 4, 5, 6, 7, 8] (fun w' => w'.cell? ⟨bx, 0, none⟩ = some (.bool sx) ∧ w'.cell? ⟨by_, 0, none⟩ = some (.bool sy)) (by kernel_rfl) (⟨x0, y0⟩) (fun Qn hPQ hQn hS0 => ?_)
      iterate 9 (refine takeL (v := ?_) rfl rfl (by kernel_rfl) (by kernel_rfl) (by kernel_rfl) hPQ hS0 (by kernel_rfl) ?_ ?_; rotate_left; (focus (intro w hSw; (try dsimp only at hSw); obtain ⟨k0, k1⟩ := hSw; go_simp; (try with_reducible rfl))); (try simp only [Act.put, List.setIfInBounds_toArray, List.set_cons_zero, List.set_cons_succ]))
      refine ofL (wpAnyH_done (by kernel_rfl) (hQn.out _ _ ?_) _)
      clear hS0 hPQ hQn Qn
      go_wp2_with fail
      with_reducible refine beyond_any bx by_ vx vy sx sy _ _ HXD.out HYD.out (by have := NX.out; omega) (by have := NY.out; omega) fun r w1 hd hr => ?_
      have HR0 : (0 ≤ r) = False := eq_false (fun h => HLE.out (hr.1 h))
      obtain ⟨qq, hqq⟩ := hd
      have HX1 : Hid (Wide w1 bx sx vx) := by rw [hqq]; exact HXD.out
      have HY1 : Hid (Wide w1 by_ sy vy) := by rw [hqq]; exact HYD.out
      have CD1 : Hid (Chg bx w w1) := by rw [hqq]; exact CD.out.of_drewN qq
      clear hr hqq
      obtain ⟨w2, E2, HB2, s2, X2⟩ := box_ex w1 Tryz.zeroCells184 184
      have HZ2 : Hid (Wide w2 w1.heap.size false 0) := zero_wide X2.out
      have HX2 : Hid (Wide w2 bx sx vx) := HX1.out.below HB2.out
      have sz : Hid (w1.heap.size = w.heap.size) := CD1.out.2.1
      go_wp2_with (first | (refine wpL_load_wide rfl _ rfl by_ sy vy rfl HY1.out ?_) | (rw [E2]) | (refine wpL_store_wide rfl _ _ rfl w1.heap.size false sy 0 vy rfl rfl HZ2.out fun w3 hc3 hw3 => ?_))
      have HX3 : Hid (Wide w3 bx sx vx) := HX2.out.chg hc3 (by have := sz.out; omega)
      have HZ3 := Lib.hid hw3
      have HC3 := Lib.hid hc3
      clear hc3 hw3
      with_reducible refine carry_z w1.heap.size bx _ _ (vy - vx) 0 (-1) 0 rfl _ _ _ _ HZ3.out HX3.out (by have := sz.out; omega) ⟨by omega, by omega⟩ ?_ ?_ ?_ ?_ fun w4 hc hw => ?_
      · have := NX.out; have := NY.out; omega
      · have := NX.out; have := NY.out; omega
      · rw [Nat.pow_zero]; have := HLE.out; omega
      · have := nw_mono (Nat.sub_le vy vx); have := NY.out; omega
      have HZ4 := Lib.hid hw
      have HX4 : Hid (Wide w4 bx sx vx) := HX3.out.chg hc (by have := sz.out; omega)
      have HC4 := Lib.hid hc
      clear hc hw
      go_wp2_with (first | (refine wpL_load_wide rfl _ rfl w1.heap.size sy (vy - vx) rfl HZ4.out ?_) | (refine wpL_store_wide rfl _ _ rfl bx sx sy vx (vy - vx) rfl rfl HX4.out fun w5 hc5 hw5 => ?_))
      have HM : Hid (Mut bx w w5) := CD1.out.mut.trans ((Mut.of_below (HB2.out.trans (HC3.out.1.trans HC4.out.1)) (by have := sz.out; omega)).trans hc5.mut)
      have HW : Hid (Wide w5 bx (plS sx sy vx vy).1 (plS sx sy vx vy).2) := by
        unfold Hid plS; rw [if_neg HS.out, if_neg HLE.out]; exact hw5
      clear hc5 hw5
      go_wp2_with fail
      go_end0
      exact HR.out _ HM.out HW.out
end Go.Proofs.YtcmhompbdanpdaaGreatDoor
