/- The iterator 'states': the indices from the last one down, with their next checks. -/
import Derived.Test.YtfamennpajjajaaRn
namespace Go.Proofs.Ytfamennpajjajaa
open Go.RowKit Go.Maps
attribute [local go_sem] Oper.semAt_some

def atN (vs : List Ev) (i : Nat) : Int := if (eAt vs i).k = 0 then nx vs i else -1
def stEnc (vs : List Ev) (i : Nat) : Array Value := #[.int .i64 i, .agg #[.int .i64 (atN vs i), .int .i64 (stt vs i)]]
/-- What 'last' holds of a gauge: its first check at or behind m. -/
def lastV (vs : List Ev) (r : Int) : Option Value := if r < 0 then none else some (.agg #[.int .i64 r, .int .i64 (1 + (eAt vs r.toNat).k)])
def LastIs (vs : List Ev) (m : Nat) (f : SMap) : Prop := ∀ g, f g = lastV vs (nxS g vs (vs.length - m) m)
theorem last_start (vs : List Ev) : LastIs vs vs.length (fun _ => none) := fun g => by
  rw [Nat.sub_self, nxS]; rfl
theorem nxS_at {g : ByteArray} {vs : List Ev} {i : Nat} (hi : i < vs.length) : nxS g vs (vs.length - i) i = if ckQ g (eAt vs i) = true then (i : Int) else nxS g vs (vs.length - (i + 1)) (i + 1) := by
  rw [show vs.length - i = (vs.length - (i + 1)) + 1 from by omega, nxS]
theorem LastIs.put {vs : List Ev} {i : Nat} {f : SMap} (h : LastIs vs (i + 1) f) (hi : i < vs.length) (hk : (eAt vs i).k = 1 ∨ (eAt vs i).k = 2) : LastIs vs i (f.put (eAt vs i).g (.agg #[.int .i64 i, .int .i64 (1 + (eAt vs i).k)])) := fun g => by
  rw [nxS_at hi]
  unfold SMap.put
  by_cases e : g = (eAt vs i).g
  · rw [if_pos e, if_pos]
    · unfold lastV; rw [if_neg (by omega), Int.toNat_natCast]
    · unfold ckQ; rw [sameB_iff.2 e.symm]; rcases hk with h1 | h1 <;> rw [h1] <;> rfl
  · rw [if_neg e, if_neg, h g]
    unfold ckQ
    rw [sameB_no.2 (fun e' => e e'.symm)]; simp
theorem LastIs.skip {vs : List Ev} {i : Nat} {f : SMap} (h : LastIs vs (i + 1) f) (hi : i < vs.length) (h1 : (eAt vs i).k ≠ 1) (h2 : (eAt vs i).k ≠ 2) : LastIs vs i f := fun g => by
  rw [nxS_at hi, if_neg, h g]
  unfold ckQ
  simp [h1, h2]
theorem LastIs.next {vs : List Ev} {i : Nat} {f : SMap} (h : LastIs vs (i + 1) f) : f (eAt vs i).g = lastV vs (nx vs i) := h _
theorem zeroC (w : World) : (zeroValue 65).run Try.prog w = .ok (.agg #[.int .i64 0, .int .i64 0]) w := by kernel_rfl

theorem states_in (F : Fence) (n : Nat) (h5 : F.fn 38) (hro : F.round = none) (ao : Option Addr) (m c : Nat) (w : World) :
    CallsIn F n Try.prog 38 #[.slice ao m c] w fun e w' => e = .returned (.func (.func 64) #[] #[.pointer (some ⟨w.heap.size, 0, none⟩)]) ∧
      w' = w.alloc (.cells #[.slice ao m c] 22) := by
  refine callsIn_of_wp Try.func38 rfl h5 ?_ hro
  simp only [Try.ntmps38, List.size_toArray, List.length_cons, List.length_nil, Nat.reduceAdd, Nat.reduceSub, Array.replicate_succ, Array.replicate_zero, List.push_toArray, List.append_toArray, List.nil_append, List.cons_append]
  gi_wp2
  go_ret
  exact ⟨rfl, rfl⟩

theorem room_of_none {F : Fence} (hd : F.depth = none) (k : Nat) : F.room k := fun d h => by rw [hd] at h; cases h
theorem roundAny {F : Fence} (hd : F.depth = none) {m m' l' : Nat} {P : Program} {l : Nat} {f : FuncId} {tmps : Array Value} {assign body : Code} {w : World} {R : Ending → World → Prop}
    (h : RoundIn F m P l f tmps assign body w R) : RoundIn (F.inRound l') m' P l f tmps assign body w R := ⟨h.1, fun c cs _ => h.2 c cs (room_of_none hd _)⟩

set_option maxRecDepth 100000 in
set_option maxHeartbeats 4000000 in
theorem states1_gives (F : Fence) (n : Nat) (h64 : F.fn 64) (h65 : F.fn 65) (h84 : F.fn 84) (hro : F.round = none) (hd : F.depth = none) (hn : 4 ≤ n) (Bl : Nat) (bs : List Nat) (ao : Option Addr) (vs : List Ev) (c : Nat) (w0 : World)
    (hl : vs.length ≤ 1000000) (hv : LogOk vs) (hB : w0.cell? ⟨Bl, 0, none⟩ = some (.slice ao vs.length c)) (hBl : Bl < w0.heap.size) (hc : CellsAt w0 ao (eC vs)) (hbm : 0 < vs.length → ∀ b o, ao = some ⟨b, o, none⟩ → b ∈ bs) (hbs : ∀ k ∈ bs, k < w0.heap.size) :
    Gives F n Try.prog 64 #[.pointer (some ⟨Bl, 0, none⟩)] (stEnc vs) bs (dnp vs.length vs.length) w0 := by
  intro l J W hW hJ hY hJ0
  have h1 : 1 ≤ n := by omega
  have HY := Lib.hid hY
  have HC := Lib.hid hc
  have HW := Lib.hid hW
  have Hbm := Lib.hid hbm
  have Hbs := Lib.hid hbs
  have HJ := Lib.hid hJ
  have HJ0 := Lib.hid hJ0
  have HV := Lib.hid hv
  have hb0 := (hW.cell (p := ⟨Bl, 0, none⟩) hBl).trans hB
  have hmm := @run_makeMap Try.prog
  have hWs := hW.size
  have hBlW : Bl < W.heap.size := by omega
  have hb3 : (((W.alloc (.cells #[.func (.yield l) #[] #[]] 91)).alloc (.map #[] 0)).alloc (.cells #[.map (some (W.heap.size + 1))] 92)).cell? ⟨Bl, 0, none⟩ = some (.slice ao vs.length c) :=
    ((((Below.refl W.heap.size W).alloc (Nat.le_refl _) _).alloc (by simp) _).alloc (by simp; omega) _ |>.cell (p := ⟨Bl, 0, none⟩) hBlW).trans hb0
  clear hY hc hW hB hbm hbs hJ hJ0 hv
  refine callsIn_of_wp_marks Try.func64 rfl h64 ?_ hro
  simp only [Try.ntmps64, List.size_toArray, List.length_cons, List.length_nil, Nat.reduceAdd, Nat.reduceSub, Array.replicate_succ, Array.replicate_zero, List.push_toArray, List.append_toArray, List.nil_append, List.cons_append]
  gi_wp2_with (gi_at_call 65; refine (bwd_in F (n - 1) h65 hro _ _ _ _).mono ?_; rintro e w' ⟨rfl, rfl⟩)
  have hB4 : Below W.heap.size W ((((W.alloc (.cells #[.func (.yield l) #[] #[]] 91)).alloc (.map #[] 0)).alloc (.cells #[.map (some (W.heap.size + 1))] 92)).alloc (.cells #[.slice ao vs.length c] 22)) := ((((Below.refl W.heap.size W).alloc (Nat.le_refl _) _).alloc (by simp) _).alloc (by simp; omega) _).alloc (by simp; omega) _
  have q0 : Boxed ((((W.alloc (.cells #[.func (.yield l) #[] #[]] 91)).alloc (.map #[] 0)).alloc (.cells #[.map (some (W.heap.size + 1))] 92)).alloc (.cells #[.slice ao vs.length c] 22)) W.heap.size 91 (.func (.yield l) #[] #[]) := (((Boxed.new W _ _).alloc _).alloc _).alloc _
  have q1 : MapIs Try.prog 9 ((((W.alloc (.cells #[.func (.yield l) #[] #[]] 91)).alloc (.map #[] 0)).alloc (.cells #[.map (some (W.heap.size + 1))] 92)).alloc (.cells #[.slice ao vs.length c] 22)) (W.heap.size + 1) 0 (fun _ => none) := by
    have h := mapIs_made (P := Try.prog) (k := 9) (W.alloc (.cells #[.func (.yield l) #[] #[]] 91))
    rw [World.size_alloc] at h
    exact h.below (((Below.refl (W.heap.size + 2) _).alloc (by simp) _).alloc (by simp) _) (by omega)
  have q2 : Boxed ((((W.alloc (.cells #[.func (.yield l) #[] #[]] 91)).alloc (.map #[] 0)).alloc (.cells #[.map (some (W.heap.size + 1))] 92)).alloc (.cells #[.slice ao vs.length c] 22)) (W.heap.size + 2) 92 (.map (some (W.heap.size + 1))) := by
    have h := Boxed.new ((W.alloc (.cells #[.func (.yield l) #[] #[]] 91)).alloc (.map #[] 0)) 92 (.map (some (W.heap.size + 1)))
    rw [World.size_alloc, World.size_alloc] at h
    exact h.alloc _
  have q3 : Boxed ((((W.alloc (.cells #[.func (.yield l) #[] #[]] 91)).alloc (.map #[] 0)).alloc (.cells #[.map (some (W.heap.size + 1))] 92)).alloc (.cells #[.slice ao vs.length c] 22)) (W.heap.size + 3) 22 (.slice ao vs.length c) := by
    have h := Boxed.new (((W.alloc (.cells #[.func (.yield l) #[] #[]] 91)).alloc (.map #[] 0)).alloc (.cells #[.map (some (W.heap.size + 1))] 92)) 22 (.slice ao vs.length c)
    rw [World.size_alloc, World.size_alloc, World.size_alloc] at h
    exact h
  obtain ⟨W4, hW4⟩ : ∃ W4, ((((W.alloc (.cells #[.func (.yield l) #[] #[]] 91)).alloc (.map #[] 0)).alloc (.cells #[.map (some (W.heap.size + 1))] 92)).alloc (.cells #[.slice ao vs.length c] 22)) = W4 := ⟨_, rfl⟩
  have hs4 : W4.heap.size = W.heap.size + 4 := by rw [← hW4]; simp
  rw [hW4] at q0 q1 q2 q3 hB4 ⊢
  clear hW4 hb0 hb3 hmm
  have HB4 := Lib.hid hB4
  have Q0 := Lib.hid q0
  have Q1 := Lib.hid q1
  have Q2 := Lib.hid q2
  have Q3 := Lib.hid q3
  clear hB4 q0 q1 q2 q3
  refine wpIn_rangeFunc_all (xs := dnp vs.length vs.length) (bs := (W.heap.size + 3) :: bs) hro h1 (gf := 84) (lb := #[.pointer (some ⟨W.heap.size + 1 + 1 + 1, 0, none⟩)]) rfl h84 (enters_of Try.func84 (by kernel_rfl) rfl)
    (bwd1_gives F (n - 1) h84 hro (by omega) (W.heap.size + 1 + 1 + 1) _ ao vs c W4 hl Q3.out.cell (by omega) (by simp) ((HC.out.below HW.out).below HB4.out) (fun h b o e => List.mem_cons_of_mem _ (Hbm.out h b o e))) (Below.refl _ _) (fun _ => rfl)
    (by intro k hk; rcases List.mem_cons.1 hk with rfl | hk
        · omega
        · have := Hbs.out k hk; omega)
    (fun pre V => J pre V ∧ Boxed V W.heap.size 91 (.func (.yield l) #[] #[]) ∧ Boxed V (W.heap.size + 2) 92 (.map (some (W.heap.size + 1))) ∧ ∃ f, MapIs Try.prog 9 V (W.heap.size + 1) pre.length f ∧ LastIs vs (vs.length - pre.length) f)
    (fun s A B hs hAB => ⟨HJ.out s A B hs.1 (hAB.mono (by omega)), (hAB.block _ (by omega)).trans hs.2.1, (hAB.block _ (by omega)).trans hs.2.2.1, by obtain ⟨f, h1, h2⟩ := hs.2.2.2; exact ⟨f, h1.keep (hAB.block _ (by omega)), h2⟩⟩)
    ⟨HJ.out _ _ _ HJ0.out HB4.out, Q0.out, Q2.out, _, Q1.out, last_start vs⟩
    (fun x a' V => ∃ Bx, W4.heap.size ≤ Bx ∧ V.heap[Bx]? = some (.cells #[.int .i64 (eAt vs x).k, .string (eAt vs x).g, .string (eAt vs x).p, .string (eAt vs x).t] 51 (0, 0)) ∧ a' = { tmps := #[.func (.yield l) #[] #[], .pointer (some ⟨Bl, 0, none⟩), .pointer (some ⟨W.heap.size, 0, none⟩), .pointer (some ⟨W.heap.size + 1 + 1, 0, none⟩), .int .i64 x, .pointer (some ⟨Bx, 0, none⟩), undef, undef, undef, .map (some (W.heap.size + 1)), .slice ao vs.length c, .func (.func 84) #[] #[.pointer (some ⟨W.heap.size + 1 + 1 + 1, 0, none⟩)], .int .i64 x, .agg #[.int .i64 (eAt vs x).k, .string (eAt vs x).g, .string (eAt vs x).p, .string (eAt vs x).t], undef, undef, undef, undef, undef, undef, undef, undef, undef, undef, undef, undef, undef, undef, undef, undef, undef, undef, undef, undef, undef, undef, undef, undef, undef, undef, undef, undef, undef, undef, undef, undef, undef, undef], defers := [] })
    (by rintro x a' V l' r o hl' ⟨Bx, h1, h2, h3⟩
        refine ⟨Bx, h1, (World.putObj_heap_other ?_).trans h2, h3⟩
        rintro rfl; rw [hl'] at h2; cases h2) ?assign ?body ?done
  case assign =>
    rintro l' pre x V K hi hsz hpre hK
    unfold evEnc
    gi_wp2
    refine hK _ _ ((Below.refl _ V).alloc (Nat.le_refl _) _) ⟨V.heap.size, hsz, World.alloc_heap_new _ _, rfl⟩
  case done =>
    rintro D V hD ⟨hJ, _⟩ hK
    gi_wp2
    refine ⟨by simp, .inl ⟨_, _, rfl, run_takeDeferred hK, ?_⟩⟩
    exact ⟨_, results_none rfl _ _ _, ⟨_, rfl⟩, HJ.out _ _ _ hJ ⟨rfl, rfl, rfl, by simp, fun k hk => World.putObj_heap_other (by omega)⟩⟩
  case body =>
    rintro l' pre x a' V ⟨hJ, b0, b2, f, hM, hL⟩ ⟨Bx, hBx, hX, rfl⟩ hsz hpre
    obtain ⟨hlt, hpe, hxe⟩ := dnp_at hpre
    obtain ⟨k, hk⟩ : ∃ k, pre.length = k := ⟨_, rfl⟩
    rw [hk] at hlt hpe hxe hM hL
    have hxl : x < vs.length := by omega
    have hm1 : vs.length - k = x + 1 := by omega
    have hok := HV.out x hxl
    rw [hm1] at hL
    have hat : Hid (atN vs x = if (eAt vs x).k = 0 then nx vs x else -1) := rfl
    have hst : Hid (stt vs x = if (eAt vs x).k = 0 then if nx vs x < 0 then 1 else 1 + (eAt vs (nx vs x).toNat).k else 0) := rfl
    have hput : Hid ((eAt vs x).k = 1 ∨ (eAt vs x).k = 2 → LastIs vs x (f.put (eAt vs x).g (.agg #[.int .i64 x, .int .i64 (1 + (eAt vs x).k)]))) := fun h => hL.put hxl h
    have hskip : Hid ((eAt vs x).k ≠ 1 → (eAt vs x).k ≠ 2 → LastIs vs x f) := fun h h' => hL.skip hxl h h'
    have hnext : Hid (f (eAt vs x).g = lastV vs (nx vs x)) := hL.next
    obtain ⟨u, hu⟩ : ∃ u, eAt vs x = u := ⟨_, rfl⟩
    rw [hu] at hX hat hst hput hskip hnext hok
    have hgl : u.g.size ≤ maxLen := hok.1
    have HM5 : Hid (MapIs Try.prog 9 (V.alloc (.cells #[.int .i64 (-1), .int .i64 0] 65)) (W.heap.size + 1) k f) := hM.below ((Below.refl V.heap.size V).alloc (Nat.le_refl _) _) hM.lt
    have hMl := hM.lt
    have x0 := cell_at hX (j := 0) (v := .int .i64 u.k) rfl
    have x1 := cell_at hX (j := 1) (v := .string u.g) rfl
    have hBxl : Bx < V.heap.size := lt_of_block hX
    have hb2c : V.cell? ⟨W.heap.size + 1 + 1, 0, none⟩ = some (.map (some (W.heap.size + 1))) := b2.cell
    have hb0c := b0.cell
    have hb0l := b0.lt
    have hb2l : W.heap.size + 1 + 1 < V.heap.size := b2.lt
    have HJV := Lib.hid hJ
    have HBX := Lib.hid hX
    have HB0 := Lib.hid b0
    have HB2 := Lib.hid b2
    have HPE := Lib.hid hpe
    have HXE := Lib.hid hxe
    have HPL := Lib.hid hk
    have HM1 := Lib.hid hm1
    have HLV := Lib.hid hL
    have HMV := Lib.hid hM
    clear hJ hX b0 b2 hpe hxe hk hm1 hL hM hu
    have hbsl : ∀ k ∈ bs, k < W.heap.size := fun k hk => by have := Hbs.out k hk; omega
    have hB7' : Hid (∀ w7, (V.alloc (.cells #[.int .i64 (-1), .int .i64 0] 65)).grownBy w7 (some (W.heap.size + 1)) → Boxed w7 W.heap.size 91 (.func (.yield l) #[] #[])) := fun w7 g7 => (HB0.out.alloc _).kept g7 (by simp)
    have hB8' : Hid (∀ w7, (V.alloc (.cells #[.int .i64 (-1), .int .i64 0] 65)).grownBy w7 (some (W.heap.size + 1)) → Boxed w7 (W.heap.size + 2) 92 (.map (some (W.heap.size + 1)))) := fun w7 g7 => (HB2.out.alloc _).kept g7 (by simp)
    have HF : Hid (∀ V' W3 f', KeepsUp W4.heap.size V V' → KeepsBs ((W.heap.size + 3) :: bs) V V' → Boxed V' W.heap.size 91 (.func (.yield l) #[] #[]) → Boxed V' (W.heap.size + 2) 92 (.map (some (W.heap.size + 1))) →
        MapIs Try.prog 9 V' (W.heap.size + 1) (k + 1) f' → LastIs vs x f' → J (pre ++ [x]) W3 → KeepsUp W.heap.size V' W3 → KeepsBs bs V' W3 →
        KeepsUp W4.heap.size V W3 ∧ KeepsBs ((W.heap.size + 3) :: bs) V W3 ∧ J (pre ++ [x]) W3 ∧ Boxed W3 W.heap.size 91 (.func (.yield l) #[] #[]) ∧ Boxed W3 (W.heap.size + 2) 92 (.map (some (W.heap.size + 1))) ∧
          ∃ f, MapIs Try.prog 9 W3 (W.heap.size + 1) (pre ++ [x]).length f ∧ LastIs vs (vs.length - (pre ++ [x]).length) f) := by
      intro V' W3 f' k1 k2 c0 c2 hm hlast hj k3 k4
      have up : ∀ {b : Nat}, W.heap.size ≤ b → b < V'.heap.size → W3.heap[b]? = V'.heap[b]? := fun h1 h2 => k3.block _ h1 h2
      refine ⟨k1.trans (k3.mono (by omega)), fun b hb => ?_, hj, (up (Nat.le_refl _) c0.lt).trans c0, (up (by omega) c2.lt).trans c2, f', ?_, ?_⟩
      · rcases List.mem_cons.1 hb with rfl | hb'
        · exact (up (by omega) (by have := k1.size; omega)).trans (k2 _ hb)
        · exact (k4 b hb').trans (k2 b hb)
      · rw [List.length_append, HPL.out]
        exact hm.keep (up (by omega) hm.lt)
      · rw [List.length_append, HPL.out]
        have := HM1.out
        rw [show vs.length - (k + [x].length) = x from by simp; omega]
        exact hlast
    by_cases h1 : u.k = 1
    · have K1 : (u.k == 1) = true := by rw [h1]; rfl
      have eA : atN vs x = -1 := by rw [hat.out, if_neg (by omega)]
      have eS : stt vs x = 0 := by rw [hst.out, if_neg (by omega)]
      have hKL : Hid (LastIs vs x (f.put u.g (.agg #[.int .i64 x, .int .i64 2]))) := by
        have := hput.out (by omega)
        rw [h1] at this; exact this
      have HY2 : Hid (∀ V', J pre V' → YieldAt F (n - 1) Try.prog l #[.int .i64 x, .agg #[.int .i64 (-1), .int .i64 0]] V' fun e W' => e = .returned (.bool true) ∧ J (pre ++ [x]) W' ∧ KeepsUp W.heap.size V' W' ∧ KeepsBs bs V' W') := by
        intro V' h
        have h' := HY.out pre x V' h hpre
        unfold stEnc at h'
        rw [eA, eS] at h'
        exact h'
      have HN : Hid (∀ w7, (V.alloc (.cells #[.int .i64 (-1), .int .i64 0] 65)).grownBy w7 (some (W.heap.size + 1)) → w7.cell? ⟨V.heap.size, 0, none⟩ = some (.int .i64 (-1)) ∧ w7.cell? ⟨V.heap.size, 1, none⟩ = some (.int .i64 0) ∧ w7.cell? ⟨W.heap.size, 0, none⟩ = some (.func (.yield l) #[] #[]) ∧
          YieldAt F (n - 1) Try.prog l #[.int .i64 x, .agg #[.int .i64 (-1), .int .i64 0]] w7 fun e W' => e = .returned (.bool true) ∧ J (pre ++ [x]) W' ∧ KeepsUp W.heap.size w7 W' ∧ KeepsBs bs w7 W') := by
        intro w7 g7
        have hz : (V.alloc (.cells #[.int .i64 (-1), .int .i64 0] 65)).heap[V.heap.size]? = some (.cells #[.int .i64 (-1), .int .i64 0] 65 (0, 0)) := World.alloc_heap_new _ _
        have hc7 := (g7.block V.heap.size (by simp) (by simp; omega)).trans hz
        have hB7 : Below W.heap.size V w7 := ((Below.refl W.heap.size V).alloc (by omega) _).grown g7 (by simp; omega) (by intro k e; cases e; omega)
        exact ⟨cell_at hc7 rfl, cell_at hc7 rfl, (hB7'.out w7 g7).cell, HY2.out w7 (HJ.out _ _ _ HJV.out hB7)⟩
      have HG := HF.out
      clear hat hst hput hskip hnext eA eS
      gi_wp2_with (gi_at_mapUpdate; refine wpIn_mapStore _ rfl _ _ _ 92 rfl 9 65 Try.underlying9 Try.underlying92 (W.heap.size + 1) k f rfl HM5.out (by unfold maxLen; omega) u.g (.agg #[.int .i64 x, .int .i64 2]) rfl rfl hgl ?_; intro w7 h7 g7; obtain ⟨z0, z1, z2, fn, tmps, assign, body, hy, hR⟩ := HN.out w7 g7; have M7 := Lib.hid h7; have G7 := Lib.hid g7; clear h7 g7)
      refine (roundAny hd hR).mono ?_
      rintro e W3 ⟨rfl, j1, j2, j3⟩
      have J1 := Lib.hid j1
      have J2 := Lib.hid j2
      have J3 := Lib.hid j3
      clear j1 j2 j3 z0 z1 z2 hy
      gi_wp2
      exact HG w7 W3 _ (((KeepsUp.refl _ _).alloc _).grown G7.out (by intro k e; cases e; exact .inl (by omega))) (fun k hk => by
          have h4 := Hbs.out
          refine (G7.out.block k ?_ ?_).trans (Below.heap_alloc _ _ _ ?_) <;> rcases List.mem_cons.1 hk with rfl | hk
          · simp; omega
          · have := h4 k hk; simp; omega
          · simp
          · have := h4 k hk; simp; omega
          · omega
          · have := h4 k hk; omega) (hB7'.out w7 G7.out) (hB8'.out w7 G7.out) M7.out hKL.out J1.out J2.out J3.out
    · have K1 : (u.k == 1) = false := by simpa using h1
      by_cases h2 : u.k = 2
      · have K2 : (u.k == 2) = true := by rw [h2]; rfl
        have eA : atN vs x = -1 := by rw [hat.out, if_neg (by omega)]
        have eS : stt vs x = 0 := by rw [hst.out, if_neg (by omega)]
        have hKL : Hid (LastIs vs x (f.put u.g (.agg #[.int .i64 x, .int .i64 3]))) := by
          have := hput.out (by omega)
          rw [h2] at this; exact this
        have HY2 : Hid (∀ V', J pre V' → YieldAt F (n - 1) Try.prog l #[.int .i64 x, .agg #[.int .i64 (-1), .int .i64 0]] V' fun e W' => e = .returned (.bool true) ∧ J (pre ++ [x]) W' ∧ KeepsUp W.heap.size V' W' ∧ KeepsBs bs V' W') := by
          intro V' h
          have h' := HY.out pre x V' h hpre
          unfold stEnc at h'
          rw [eA, eS] at h'
          exact h'
        have HN : Hid (∀ w7, (V.alloc (.cells #[.int .i64 (-1), .int .i64 0] 65)).grownBy w7 (some (W.heap.size + 1)) → w7.cell? ⟨V.heap.size, 0, none⟩ = some (.int .i64 (-1)) ∧ w7.cell? ⟨V.heap.size, 1, none⟩ = some (.int .i64 0) ∧ w7.cell? ⟨W.heap.size, 0, none⟩ = some (.func (.yield l) #[] #[]) ∧
            YieldAt F (n - 1) Try.prog l #[.int .i64 x, .agg #[.int .i64 (-1), .int .i64 0]] w7 fun e W' => e = .returned (.bool true) ∧ J (pre ++ [x]) W' ∧ KeepsUp W.heap.size w7 W' ∧ KeepsBs bs w7 W') := by
          intro w7 g7
          have hz : (V.alloc (.cells #[.int .i64 (-1), .int .i64 0] 65)).heap[V.heap.size]? = some (.cells #[.int .i64 (-1), .int .i64 0] 65 (0, 0)) := World.alloc_heap_new _ _
          have hc7 := (g7.block V.heap.size (by simp) (by simp; omega)).trans hz
          have hB7 : Below W.heap.size V w7 := ((Below.refl W.heap.size V).alloc (by omega) _).grown g7 (by simp; omega) (by intro k e; cases e; omega)
          exact ⟨cell_at hc7 rfl, cell_at hc7 rfl, (hB7'.out w7 g7).cell, HY2.out w7 (HJ.out _ _ _ HJV.out hB7)⟩
        have HG := HF.out
        clear hat hst hput hskip hnext eA eS
        gi_wp2_with (gi_at_mapUpdate; refine wpIn_mapStore _ rfl _ _ _ 92 rfl 9 65 Try.underlying9 Try.underlying92 (W.heap.size + 1) k f rfl HM5.out (by unfold maxLen; omega) u.g (.agg #[.int .i64 x, .int .i64 3]) rfl rfl hgl ?_; intro w7 h7 g7; obtain ⟨z0, z1, z2, fn, tmps, assign, body, hy, hR⟩ := HN.out w7 g7; have M7 := Lib.hid h7; have G7 := Lib.hid g7; clear h7 g7)
        refine (roundAny hd hR).mono ?_
        rintro e W3 ⟨rfl, j1, j2, j3⟩
        have J1 := Lib.hid j1
        have J2 := Lib.hid j2
        have J3 := Lib.hid j3
        clear j1 j2 j3 z0 z1 z2 hy
        gi_wp2
        exact HG w7 W3 _ (((KeepsUp.refl _ _).alloc _).grown G7.out (by intro k e; cases e; exact .inl (by omega))) (fun k hk => by
            have h4 := Hbs.out
            refine (G7.out.block k ?_ ?_).trans (Below.heap_alloc _ _ _ ?_) <;> rcases List.mem_cons.1 hk with rfl | hk
            · simp; omega
            · have := h4 k hk; simp; omega
            · simp
            · have := h4 k hk; simp; omega
            · omega
            · have := h4 k hk; omega) (hB7'.out w7 G7.out) (hB8'.out w7 G7.out) M7.out hKL.out J1.out J2.out J3.out
      · have K2 : (u.k == 2) = false := by simpa using h2
        by_cases h0 : u.k = 0
        · have K0 : (u.k == 0) = true := by rw [h0]; rfl
          have HM6 : Hid (MapIs Try.prog 9 (V.alloc (.cells #[.int .i64 (-1), .int .i64 1] 65)) (W.heap.size + 1) k f) := HMV.out.below ((Below.refl V.heap.size V).alloc (Nat.le_refl _) _) hMl
          rcases nx_cases vs x with hn | ⟨j, hn, hij, hj, hck⟩
          · rw [hn] at hnext hat hst
            have eA : atN vs x = -1 := by rw [hat.out, if_pos h0]
            have eS : stt vs x = 1 := by rw [hst.out, if_pos h0, if_pos (by omega)]
            have hKL : Hid (LastIs vs x f) := hskip.out (by omega) (by omega)
            have HY2 : Hid (∀ V', J pre V' → YieldAt F (n - 1) Try.prog l #[.int .i64 x, .agg #[.int .i64 (-1), .int .i64 1]] V' fun e W' => e = .returned (.bool true) ∧ J (pre ++ [x]) W' ∧ KeepsUp W.heap.size V' W' ∧ KeepsBs bs V' W') := by
              intro V' h
              have h' := HY.out pre x V' h hpre
              unfold stEnc at h'
              rw [eA, eS] at h'
              exact h'
            have FE : Hid ((f u.g).getD (.agg #[.int .i64 0, .int .i64 0]) = .agg #[.int .i64 0, .int .i64 0]) := by unfold Hid; rw [hnext.out]; rfl
            have FK : Hid ((f u.g).isSome = false) := by unfold Hid; rw [hnext.out]; rfl
            have HB9 : Below V.heap.size V ((V.alloc (.cells #[.int .i64 (-1), .int .i64 1] 65)).alloc (.cells #[.int .i64 0, .int .i64 0] 65)) := ((Below.refl _ _).alloc (Nat.le_refl _) _).alloc (by simp) _
            obtain ⟨fn, tmps, assign, body, hy, hR⟩ := HY2.out _ (HJ.out _ _ _ HJV.out (HB9.mono (by omega)))
            have H9 := Lib.hid HB9
            have HG := HF.out
            clear HB9
            clear hat hst hput hskip hnext eA eS
            gi_wp2_with (gi_at_lookup; refine wpIn_mapLookOk _ rfl _ _ 92 rfl 9 65 Try.underlying9 Try.underlying92 (W.heap.size + 1) k f rfl HM6.out (zeroC _) u.g rfl hgl _ _ FE.out FK.out ?_)
            refine (roundAny hd hR).mono ?_
            rintro e W3 ⟨rfl, j1, j2, j3⟩
            have J1 := Lib.hid j1
            have J2 := Lib.hid j2
            have J3 := Lib.hid j3
            clear j1 j2 j3 hy
            gi_wp2
            exact HG _ W3 _ (((KeepsUp.refl _ _).alloc _).alloc _) (fun k hk => by
                have h4 := Hbs.out
                refine H9.out.block k ?_
                rcases List.mem_cons.1 hk with rfl | hk
                · omega
                · have := h4 k hk; omega) ((HB0.out.alloc _).alloc _) ((HB2.out.alloc _).alloc _) ((HMV.out.below H9.out hMl).mono (by omega)) hKL.out J1.out J2.out J3.out
          · have hub : (eAt vs j).k = 1 ∨ (eAt vs j).k = 2 := by
              unfold ckQ at hck
              rw [Bool.and_eq_true, Bool.or_eq_true, beq_iff_eq, beq_iff_eq] at hck
              exact hck.1
            rw [hn, Int.toNat_natCast] at hst
            rw [hn] at hnext hat
            have hlv : lastV vs (j : Int) = some (.agg #[.int .i64 j, .int .i64 (1 + (eAt vs j).k)]) := by unfold lastV; rw [if_neg (by omega), Int.toNat_natCast]
            rw [hlv] at hnext
            obtain ⟨m, hm⟩ : ∃ m, (eAt vs j).k = m := ⟨_, rfl⟩
            rw [hm] at hnext hst hub
            clear hlv hm hck hn
            have eA : atN vs x = j := by rw [hat.out, if_pos h0]
            have eS : stt vs x = (1 + m) := by rw [hst.out, if_pos h0, if_neg (by omega)]
            have hKL : Hid (LastIs vs x f) := hskip.out (by omega) (by omega)
            have HY2 : Hid (∀ V', J pre V' → YieldAt F (n - 1) Try.prog l #[.int .i64 x, .agg #[.int .i64 j, .int .i64 (1 + m)]] V' fun e W' => e = .returned (.bool true) ∧ J (pre ++ [x]) W' ∧ KeepsUp W.heap.size V' W' ∧ KeepsBs bs V' W') := by
              intro V' h
              have h' := HY.out pre x V' h hpre
              unfold stEnc at h'
              rw [eA, eS] at h'
              exact h'
            have FE : Hid ((f u.g).getD (.agg #[.int .i64 0, .int .i64 0]) = .agg #[.int .i64 j, .int .i64 (1 + m)]) := by unfold Hid; rw [hnext.out]; rfl
            have FK : Hid ((f u.g).isSome = true) := by unfold Hid; rw [hnext.out]; rfl
            have HB9 : Below V.heap.size V ((V.alloc (.cells #[.int .i64 j, .int .i64 (1 + m)] 65)).alloc (.cells #[.int .i64 j, .int .i64 (1 + m)] 65)) := ((Below.refl _ _).alloc (Nat.le_refl _) _).alloc (by simp) _
            obtain ⟨fn, tmps, assign, body, hy, hR⟩ := HY2.out _ (HJ.out _ _ _ HJV.out (HB9.mono (by omega)))
            have H9 := Lib.hid HB9
            have HG := HF.out
            clear HB9
            clear hat hst hput hskip hnext eA eS
            gi_wp2_with (gi_at_lookup; refine wpIn_mapLookOk _ rfl _ _ 92 rfl 9 65 Try.underlying9 Try.underlying92 (W.heap.size + 1) k f rfl HM6.out (zeroC _) u.g rfl hgl _ _ FE.out FK.out ?_)
            refine (roundAny hd hR).mono ?_
            rintro e W3 ⟨rfl, j1, j2, j3⟩
            have J1 := Lib.hid j1
            have J2 := Lib.hid j2
            have J3 := Lib.hid j3
            clear j1 j2 j3 hy
            gi_wp2
            exact HG _ W3 _ (((KeepsUp.refl _ _).alloc _).alloc _) (fun k hk => by
                have h4 := Hbs.out
                refine H9.out.block k ?_
                rcases List.mem_cons.1 hk with rfl | hk
                · omega
                · have := h4 k hk; omega) ((HB0.out.alloc _).alloc _) ((HB2.out.alloc _).alloc _) ((HMV.out.below H9.out hMl).mono (by omega)) hKL.out J1.out J2.out J3.out
        · have K0 : (u.k == 0) = false := by simpa using h0
          have eA : atN vs x = -1 := by rw [hat.out, if_neg (by omega)]
          have eS : stt vs x = 0 := by rw [hst.out, if_neg (by omega)]
          have hKL : Hid (LastIs vs x f) := hskip.out h1 h2
          have HY2 : Hid (∀ V', J pre V' → YieldAt F (n - 1) Try.prog l #[.int .i64 x, .agg #[.int .i64 (-1), .int .i64 0]] V' fun e W' => e = .returned (.bool true) ∧ J (pre ++ [x]) W' ∧ KeepsUp W.heap.size V' W' ∧ KeepsBs bs V' W') := by
            intro V' h
            have h' := HY.out pre x V' h hpre
            unfold stEnc at h'
            rw [eA, eS] at h'
            exact h'
          have HB9 : Below V.heap.size V (V.alloc (.cells #[.int .i64 (-1), .int .i64 0] 65)) := (Below.refl _ _).alloc (Nat.le_refl _) _
          obtain ⟨fn, tmps, assign, body, hy, hR⟩ := HY2.out _ (HJ.out _ _ _ HJV.out (HB9.mono (by omega)))
          have H9 := Lib.hid HB9
          have HG := HF.out
          clear hat hst hput hskip hnext eA eS HB9
          gi_wp2
          refine (roundAny hd hR).mono ?_
          rintro e W3 ⟨rfl, j1, j2, j3⟩
          have J1 := Lib.hid j1
          have J2 := Lib.hid j2
          have J3 := Lib.hid j3
          clear j1 j2 j3 hy
          gi_wp2
          exact HG _ W3 _ ((KeepsUp.refl _ _).alloc _) (fun k hk => by
              have h4 := Hbs.out
              refine H9.out.block k ?_
              rcases List.mem_cons.1 hk with rfl | hk
              · omega
              · have := h4 k hk; omega) (HB0.out.alloc _) (HB2.out.alloc _) (HM5.out.mono (by omega)) hKL.out J1.out J2.out J3.out
end Go.Proofs.Ytfamennpajjajaa
