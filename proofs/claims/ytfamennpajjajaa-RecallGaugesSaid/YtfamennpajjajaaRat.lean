/- The walk of the law RecallGauges. (Printed by gen_gauges.py.) -/
import Derived.Test.YtfamennpajjajaaRaq
import Derived.Test.YtfamennpajjajaaRas
import Derived.Test.YtfamennpajjajaaRab
namespace Go.Proofs.Ytfamennpajjajaa
open Go.RowKit Go.Maps

def nI (ys : List Nat) : List Value := I64s (ys.map fun (y : Nat) => (y : Int))
theorem nI_append (a b : List Nat) : nI (a ++ b) = nI a ++ nI b := by unfold nI I64s; rw [List.map_append, List.map_append]
/-- The two own rows of the law's loop. -/
structure Two (w : World) (base : Nat) (v9 v10 : Value) (xs : List Ev) (ys : List Nat) : Prop where
  e : w.ownsRow base 51 4 v9 xs.length (eC xs)
  i : w.ownsRow base 3 1 v10 ys.length (nI ys)
theorem own_elem {w : World} {base size : Nat} {e : TypeId} {v : Value} {n : Nat} {xs : List Value} (h : w.ownsRow base e size v n xs) {g : Nat} (hg : v.ownBlock = some g) : ∃ cur, w.heap[g]? = some (.cells cur e (0, 0)) := by
  rcases h.2 with ⟨rfl, _⟩ | ⟨g', cap, cur, rfl, _, hgg, _⟩
  · simp [Value.ownBlock] at hg
  · simp [Value.ownBlock] at hg; subst hg; exact ⟨cur, hgg⟩
theorem own_ne {w : World} {base base' size size' : Nat} {e e' : TypeId} {v v' : Value} {n n' : Nat} {xs xs' : List Value} (h : w.ownsRow base e size v n xs) (h' : w.ownsRow base' e' size' v' n' xs') (he : e ≠ e') :
    v.ownBlock = none ∨ v.ownBlock ≠ v'.ownBlock := by
  cases hv : v.ownBlock with
  | none => exact .inl rfl
  | some g =>
    refine .inr fun e2 => ?_
    obtain ⟨c1, h1⟩ := own_elem h hv
    obtain ⟨c2, h2⟩ := own_elem h' e2.symm
    rw [h1] at h2; cases h2; exact he rfl
theorem own_low {w : World} {base size : Nat} {e : TypeId} {v : Value} {n : Nat} {xs : List Value} (h : w.ownsRow base e size v n xs) {b : Nat} (hb : b < base) : v.ownBlock = none ∨ v.ownBlock ≠ some b := by
  cases hv : v.ownBlock with
  | none => exact .inl rfl
  | some g =>
    refine .inr fun e2 => ?_
    have h1 := (h.lt g hv).1
    cases e2
    omega
theorem Two.below {w w' : World} {base : Nat} {v9 v10 : Value} {xs : List Ev} {ys : List Nat} (h : Two w base v9 v10 xs ys) (hb : Below w.heap.size w w') : Two w' base v9 v10 xs ys := ⟨ownsRow_below h.e hb, ownsRow_below h.i hb⟩
theorem Two.kept {w w' : World} {base b : Nat} {v9 v10 : Value} {xs : List Ev} {ys : List Nat} (h : Two w base v9 v10 xs ys) (hg : w.grownBy w' (some b)) (hb : b < base) : Two w' base v9 v10 xs ys := ⟨h.e.kept hg (own_low h.e hb), h.i.kept hg (own_low h.i hb)⟩
theorem Two.putE {w w' : World} {base : Nat} {v9 v10 v : Value} {xs : List Ev} {ys : List Nat} {u : Ev} (h : Two w base v9 v10 xs ys) (hown : w'.ownsRow base 51 4 v (xs.length + 1) (eC xs ++ [.int .i64 u.k, .string u.g, .string u.p, .string u.t])) (hg : w.grownBy w' v9.ownBlock) : Two w' base v v10 (xs ++ [u]) ys :=
  ⟨by rw [eC_append, List.length_append]; exact hown, h.i.kept hg (own_ne h.i h.e (by decide))⟩
theorem Two.putI {w w' : World} {base : Nat} {v9 v10 v : Value} {xs : List Ev} {ys : List Nat} {k : Nat} (h : Two w base v9 v10 xs ys) (hown : w'.ownsRow base 3 1 v (ys.length + 1) (nI ys ++ [.int .i64 k])) (hg : w.grownBy w' v10.ownBlock) : Two w' base v9 v xs (ys ++ [k]) :=
  ⟨h.e.kept hg (own_ne h.e h.i (by decide)), by rw [nI_append, List.length_append]; exact hown⟩
/-- The map of the law's loop, in its box, above an older world. -/
structure GSt (w wb : World) (b k : Nat) (f : SMap) : Prop where
  m : MapIs Try.prog 9 w b k f
  x : Boxed w (b + 1) 49 (.map (some b))
  o : Below b wb w
  s : b + 2 ≤ w.heap.size
theorem GSt.grown {w w' wb : World} {b k : Nat} {f : SMap} {row : Option Nat} (h : GSt w wb b k f) (hg : w.grownBy w' row) (hr : ∀ g, row = some g → b + 2 ≤ g) : GSt w' wb b k f :=
  have ne : ∀ c, c < b + 2 → some c ≠ row := fun c hc e => by have := hr c e.symm; omega
  ⟨h.m.keep (hg.block b (by have := h.s; omega) (ne b (by omega))), h.x.kept hg (ne (b + 1) (by omega)), h.o.grown hg (by have := h.s; omega) (fun g e => by have := hr g e; omega), by have := h.s; have := hg.size; omega⟩
theorem GSt.below {w w' wb : World} {b k : Nat} {f : SMap} (h : GSt w wb b k f) (hb : Below w.heap.size w w') : GSt w' wb b k f :=
  ⟨h.m.keep (hb.block b (by have := h.s; omega)), (hb.block (b + 1) (by have := h.s; omega)).trans h.x, h.o.trans (hb.mono (by have := h.s; omega)), by have := h.s; have := hb.size; omega⟩
theorem GSt.store {w w' wb : World} {b k k' : Nat} {f f' : SMap} (h : GSt w wb b k f) (hg : w.grownBy w' (some b)) (hM : MapIs Try.prog 9 w' b k' f') : GSt w' wb b k' f' :=
  ⟨hM, h.x.kept hg (by intro e; have := Option.some.inj e; omega), h.o.grown hg (by have := h.s; omega) (fun g e => by cases e; exact Nat.le_refl _), by have := h.s; have := hg.size; omega⟩
theorem GSt.mono {w wb : World} {b k k' : Nat} {f : SMap} (h : GSt w wb b k f) (hk : k ≤ k') : GSt w wb b k' f := ⟨h.m.mono hk, h.x, h.o, h.s⟩
theorem keep_len (vs : List Ev) (g : ByteArray) (k : Nat) : ((vs.take k).filter (keepF g)).length ≤ vs.length := Nat.le_trans (List.length_filter_le _ _) (by rw [List.length_take]; omega)
theorem ok_keep {vs : List Ev} {g : ByteArray} (h : LogOk vs) : LogOk (vs.filter (keepF g)) := by
  intro i hi
  have h1 := List.getElem_mem (l := vs.filter (keepF g)) hi
  rw [List.mem_filter] at h1
  obtain ⟨j, hj, e⟩ := List.mem_iff_getElem.1 h1.1
  rw [eAt_lt hi, ← e, ← eAt_lt hj]
  exact h j hj

set_option maxRecDepth 100000 in
set_option maxHeartbeats 16000000 in
theorem lawGauges (ao : Option Addr) (vs : List Ev) (c : Nat) (g : ByteArray) (w : World) (R : Ending → World → Prop) (hl : vs.length * 56 ≤ 140737488355328) (hc : CellsAt w ao (eC vs)) (hv : LogOk vs) (hgl : g.size ≤ 9223372036854775807)
   (hR : ∀ w', Below w.heap.size w w' → R (.returned (.bool true)) w') :
    Calls Try.prog 6 #[.slice ao vs.length c, .string g] w R := by
  have HR := Lib.hid hR
  have HC := Lib.hid hc
  have HV := Lib.hid hv
  clear hR hc hv
  obtain ⟨F, hF⟩ : ∃ F, Hid (rgL vs = F) := ⟨_, rfl⟩
  go_enter Try.func6, Try.ntmps6
  go_wp2_with fail
  refine right53_any ao vs c _ _ hl HC.out HV.out ?_
  rw [hF.out]
  intro w1 hb
  have HB1 := Lib.hid hb
  clear hb
  cases F with
  | false =>
    go_wp2_with fail
    refine awake53_any _ _ ?_
    intro w2 hb
    have HB2 : Hid (Below w.heap.size w w2) := HB1.out.trans (hb.mono HB1.out.size)
    clear hb
    go_wp2_with fail
    exact HR.out _ HB2.out
  | true =>
    by_cases h60 : 60 < g.size
    · go_wp2_with fail
      refine awake53_any _ _ ?_
      intro w2 hb
      have HB2 : Hid (Below w.heap.size w w2) := HB1.out.trans (hb.mono HB1.out.size)
      clear hb
      go_wp2_with fail
      exact HR.out _ HB2.out
    have h60' : (g.size : Int) ≤ 60 := by omega
    obtain ⟨hE', hln⟩ := rg_is hF.out
    have hE := Lib.hid hE'
    clear hE'
    obtain ⟨L, hL⟩ : ∃ L, Hid (allL vs = L) := ⟨_, rfl⟩
    have hLl : L.length ≤ 16 := by rw [← hL.out]; exact Nat.le_trans (allL_len vs) hln
    have hmem : Hid (∀ p, p ∈ L → rcl vs p = true) := fun p hp => ((allL_srt vs).mem p).1 (by rw [hL.out]; exact hp)
    have hsz : Hid (∀ p, p ∈ L → p.size ≤ 24) := fun p hp => nm_size (rcl_nm hE.out (hmem.out p hp))
    go_wp2_with fail
    refine states53At ao vs vs.length c (stL vs) _ _ rfl (by omega) hE.out rfl (HC.out.below HB1.out) HV.out ?_
    intro a2 c2 w2 hb hc2
    have HB2 : Hid (Below w.heap.size w w2) := HB1.out.trans (hb.mono HB1.out.size)
    have HA := Lib.hid hc2
    clear hb hc2
    go_wp2_with fail
    refine parts53At ao vs vs.length L.length c L _ _ rfl (by omega) hE.out hL.out rfl (HC.out.below HB2.out) HV.out ?_
    intro a3 c3 w3 hb hc3
    have HB3 : Hid (Below w.heap.size w w3) := HB2.out.trans (hb.mono HB2.out.size)
    have HA3 := Lib.hid (HA.out.below hb)
    have HP := Lib.hid hc3
    have s3 := HB3.out.size
    have hmm := @run_makeMap Try.prog
    clear hb hc3
    go_wp2_with fail
    have hG4 : GSt ((w3.alloc (.map #[] 0)).alloc (.cells #[.map (some w3.heap.size)] 49)) w3 w3.heap.size 0 (fun _ => none) := by
      refine ⟨(mapIs_made w3).below ((Below.refl (w3.heap.size + 1) _).alloc (by simp) _) (by omega), ?_, ((Below.refl _ w3).alloc (Nat.le_refl _) _).alloc (by simp) _, by simp⟩
      have h := Boxed.new (w3.alloc (.map #[] 0)) 49 (.map (some w3.heap.size))
      rw [World.size_alloc] at h
      exact h
    obtain ⟨w4, hw4⟩ : ∃ w4, (w3.alloc (.map #[] 0)).alloc (.cells #[.map (some w3.heap.size)] 49) = w4 := ⟨_, rfl⟩
    have hs4' : w4.heap.size = w3.heap.size + 2 := by rw [← hw4]; simp
    rw [hw4] at hG4 ⊢
    have HG4 := Lib.hid hG4
    have hs4 := Lib.hid hs4'
    clear hw4 hmm hG4 hs4'
    go_loopw [43, 9, 10] (fun j v9 v10 wr => ∃ (k : Nat) (f : SMap) (X : List Ev) (Y : List Nat), k ≤ vs.length ∧ j = .int .i64 k ∧ Hid (GSt wr w3 w3.heap.size k f) ∧ Hid (SetN (badQ vs) k f) ∧ w4.heap.size ≤ wr.heap.size ∧ Hid (Two wr w4.heap.size v9 v10 X Y) ∧ Hid ((vs.take k).filter (keepF g) = X) ∧ Hid (atL vs g k = Y)) (fun j _ _ _ => vs.length - (intOf j).toNat)
    case atStart => exact ⟨0, _, [], [], Nat.zero_le _, rfl, HG4, fun _ => rfl, Nat.le_refl _, ⟨World.ownsRow_nil _ _ _ _, World.ownsRow_nil _ _ _ _⟩, rfl, rfl⟩
    case round =>
      obtain ⟨k, f, X, Y, hk, rfl, HG, HF, sr, HT, hX, hY⟩ := hrel
      have hXl : X.length ≤ 16 := by rw [← hX.out]; exact Nat.le_trans (keep_len vs g k) hln
      have hYl : Y.length ≤ 16 := by rw [← hY.out, atL_len vs g k hk]; exact Nat.le_trans (keep_len vs g k) hln
      by_cases hlt : k < vs.length
      · obtain ⟨b, o, rfl, hbb, hcell⟩ := HC.out.evts (by omega)
        obtain ⟨c0, c1, c2', c3'⟩ := hcell k hlt
        have hok := HV.out k hlt
        have hput : Hid ((eAt vs k).k = 2 → SetN (badQ vs) (k + 1) (f.put (eAt vs k).g (.bool true))) := fun h => HF.out.put _ (fun s => by unfold badQ; rw [h]; rfl)
        have hskip : Hid (((eAt vs k).k == 2) = false → SetN (badQ vs) (k + 1) f) := fun h => HF.out.skip (fun s => by unfold badQ; rw [h]; rfl)
        have hkX : Hid (keepF g (eAt vs k) = true → (vs.take (k + 1)).filter (keepF g) = X ++ [eAt vs k] ∧ atL vs g (k + 1) = Y ++ [k]) := fun h => by rw [keep_succ g hlt, atL_succ, if_pos h, if_pos h, hX.out, hY.out]; exact ⟨rfl, rfl⟩
        have hsX : Hid (keepF g (eAt vs k) = false → (vs.take (k + 1)).filter (keepF g) = X ∧ atL vs g (k + 1) = Y) := fun h => by rw [keep_succ g hlt, atL_succ, h, hX.out, hY.out]; simp
        have HBw : Below w.heap.size w wr := HB3.out.trans (HG.out.o.mono s3)
        have d0 := cellB HBw c0 hbb
        have d1 := cellB HBw c1 hbb
        have d2 := cellB HBw c2' hbb
        have d3 := cellB HBw c3' hbb
        have hbr : b < wr.heap.size := by have := HBw.size; omega
        obtain ⟨u, hu⟩ : ∃ u, eAt vs k = u := ⟨_, rfl⟩
        rw [hu] at d0 d1 d2 d3 hok hput hskip hkX hsX
        have hug : u.g.size ≤ maxLen := hok.1
        have cm := HG.out.x.cell
        have lm := HG.out.x.lt
        have hA : Below wr.heap.size wr (wr.alloc (.cells #[.int .i64 u.k, .string u.g, .string u.p, .string u.t] 51)) := (Below.refl _ _).alloc (Nat.le_refl _) _
        have G0 := Lib.hid (HG.out.below hA)
        have T0 := Lib.hid (HT.out.below hA)
        clear hcell hu c0 c1 c2' c3' hok HBw hA
        by_cases h2 : u.k = 2
        · have K2 : (u.k == 2) = true := by rw [h2]; rfl
          have K1 : (u.k == 1) = false := by rw [h2]; rfl
          have HS := Lib.hid (hput.out h2)
          cases hs : sameB u.g g with
          | true =>
            have hs1 : (u.g.toList == g.toList) = true := hs
            have he := Lib.hid (hsX.out (by unfold keepF ckQ; rw [show ((u.k == 1 || u.k == 2) = true) from by rw [K1, K2]; rfl, hs]; rfl))
            clear hput hskip hkX hsX hs h2
            go_wp2_with (at_mapUpdate; refine wp_mapStore _ rfl _ _ _ 49 rfl 9 4 Try.underlying9 Try.underlying49 w3.heap.size k f rfl G0.out.m (by unfold maxLen; omega) u.g (.bool true) rfl rfl hug ?_; intro w7 h7 g7; have G7g := Lib.hid g7; have G7 := Lib.hid (G0.out.store g7 h7); have T7 := Lib.hid (T0.out.kept g7 (by have := hs4.out; omega)); have s7 : w4.heap.size ≤ w7.heap.size := (by have := G7.out.s; have := hs4.out; omega); have x0 : w7.cell? ⟨wr.heap.size, 0, none⟩ = some (.int .i64 u.k) := (World.cell?_of_block (G7g.out.block wr.heap.size (by simp) (by intro e; have := Option.some.inj e; omega))).trans (cell_at (World.alloc_heap_new wr _) rfl); have x1 : w7.cell? ⟨wr.heap.size, 1, none⟩ = some (.string u.g) := (World.cell?_of_block (G7g.out.block wr.heap.size (by simp) (by intro e; have := Option.some.inj e; omega))).trans (cell_at (World.alloc_heap_new wr _) rfl); have x2 : w7.cell? ⟨wr.heap.size, 2, none⟩ = some (.string u.p) := (World.cell?_of_block (G7g.out.block wr.heap.size (by simp) (by intro e; have := Option.some.inj e; omega))).trans (cell_at (World.alloc_heap_new wr _) rfl); have x3 : w7.cell? ⟨wr.heap.size, 3, none⟩ = some (.string u.t) := (World.cell?_of_block (G7g.out.block wr.heap.size (by simp) (by intro e; have := Option.some.inj e; omega))).trans (cell_at (World.alloc_heap_new wr _) rfl); clear h7 g7)
            exact ⟨⟨k + 1, _, _, _, by omega, by go_num, G7, HS, s7, T7, he.out.1, he.out.2⟩, by simp [intOf]; omega⟩
          | false =>
            have hs1 : (u.g.toList == g.toList) = false := hs
            have he := Lib.hid (hkX.out (by unfold keepF ckQ; rw [show ((u.k == 1 || u.k == 2) = true) from by rw [K1, K2]; rfl, hs]; rfl))
            clear hput hskip hkX hsX hs h2
            go_wp2_with (first | (at_mapUpdate; refine wp_mapStore _ rfl _ _ _ 49 rfl 9 4 Try.underlying9 Try.underlying49 w3.heap.size k f rfl G0.out.m (by unfold maxLen; omega) u.g (.bool true) rfl rfl hug ?_; intro w7 h7 g7; have G7g := Lib.hid g7; have G7 := Lib.hid (G0.out.store g7 h7); have T7 := Lib.hid (T0.out.kept g7 (by have := hs4.out; omega)); have s7 : w4.heap.size ≤ w7.heap.size := (by have := G7.out.s; have := hs4.out; omega); have x0 : w7.cell? ⟨wr.heap.size, 0, none⟩ = some (.int .i64 u.k) := (World.cell?_of_block (G7g.out.block wr.heap.size (by simp) (by intro e; have := Option.some.inj e; omega))).trans (cell_at (World.alloc_heap_new wr _) rfl); have x1 : w7.cell? ⟨wr.heap.size, 1, none⟩ = some (.string u.g) := (World.cell?_of_block (G7g.out.block wr.heap.size (by simp) (by intro e; have := Option.some.inj e; omega))).trans (cell_at (World.alloc_heap_new wr _) rfl); have x2 : w7.cell? ⟨wr.heap.size, 2, none⟩ = some (.string u.p) := (World.cell?_of_block (G7g.out.block wr.heap.size (by simp) (by intro e; have := Option.some.inj e; omega))).trans (cell_at (World.alloc_heap_new wr _) rfl); have x3 : w7.cell? ⟨wr.heap.size, 3, none⟩ = some (.string u.t) := (World.cell?_of_block (G7g.out.block wr.heap.size (by simp) (by intro e; have := Option.some.inj e; omega))).trans (cell_at (World.alloc_heap_new wr _) rfl); clear h7 g7) | (at_builtin; refine wp_appendT rfl (.tmp 68) (.tmp 70) 22 rfl w4.heap.size 51 Try.underlying22 Try.infoPEv rfl (by decide) u9 X.length (eC X) rfl ((T7.out.below ((Below.refl _ _).alloc (Nat.le_refl _) _)).e) ⟨w7.heap.size, 0, none⟩ 1 1 [.int .i64 u.k, .string u.g, .string u.p, .string u.t] rfl rfl (by have h := cells4 w7 (.int .i64 u.k) (.string u.g) (.string u.p) (.string u.t) 51; simpa using h) (by intro z hz; simp at hz; rcases hz with rfl | rfl | rfl | rfl <;> rfl) (by omega) (by omega) (by simp; omega) ?_; intro v5 w5 hown hgrow _; have hA5 : Below w7.heap.size w7 (w7.alloc (.cells #[.int .i64 u.k, .string u.g, .string u.p, .string u.t] 51)) := (Below.refl _ _).alloc (Nat.le_refl _) _; have T5 := Lib.hid (Two.putE (u := u) (T7.out.below hA5) hown hgrow); have G5 := Lib.hid ((G7.out.below hA5).grown hgrow (fun g' e => by have h1 := ((T7.out.below hA5).e.lt g' e).1; have := hs4.out; omega)); have s5 : w4.heap.size ≤ w5.heap.size := (by have := G5.out.s; have := hs4.out; omega); clear hown hgrow hA5) | (at_builtin; refine wp_appendT rfl (.tmp 72) (.tmp 74) 25 rfl w4.heap.size 3 Try.underlying25 infoI53 rfl (by decide) u10 Y.length (nI Y) rfl ((T5.out.below ((Below.refl _ _).alloc (Nat.le_refl _) _)).i) ⟨w5.heap.size, 0, none⟩ 1 1 [.int .i64 k] rfl rfl (CellsAt.new1 _ _ _) (one1 _ rfl) (by omega) (by omega) (by simp only [World.size_alloc]; omega) ?_; intro v6 w6 hown hgrow _; have hA6 : Below w5.heap.size w5 (w5.alloc (.cells #[.int .i64 k] 3)) := (Below.refl _ _).alloc (Nat.le_refl _) _; have T6 := Lib.hid (Two.putI (k := k) (T5.out.below hA6) hown hgrow); have G6 := Lib.hid ((G5.out.below hA6).grown hgrow (fun g' e => by have h1 := ((T5.out.below hA6).i.lt g' e).1; have := hs4.out; omega)); have s6 : w4.heap.size ≤ w6.heap.size := (by have := G6.out.s; have := hs4.out; omega); clear hown hgrow hA6))
            exact ⟨⟨k + 1, _, _, _, by omega, by go_num, G6, HS, s6, T6, he.out.1, he.out.2⟩, by simp [intOf]; omega⟩
        · have K2 : (u.k == 2) = false := by simpa using h2
          have HS := Lib.hid (hskip.out K2)
          clear h2
          by_cases h1 : u.k = 1
          · have K1 : (u.k == 1) = true := by rw [h1]; rfl
            clear h1
            cases hs : sameB u.g g with
            | true =>
              have hs1 : (u.g.toList == g.toList) = true := hs
              have he := Lib.hid (hsX.out (by unfold keepF ckQ; rw [show ((u.k == 1 || u.k == 2) = true) from by rw [K1, K2]; rfl, hs]; rfl))
              clear hput hskip hkX hsX hs
              go_wp2_with fail
              exact ⟨⟨k + 1, _, _, _, by omega, by go_num, G0.out.mono (by omega), HS, by simp; omega, T0, he.out.1, he.out.2⟩, by simp [intOf]; omega⟩
            | false =>
              have hs1 : (u.g.toList == g.toList) = false := hs
              have he := Lib.hid (hkX.out (by unfold keepF ckQ; rw [show ((u.k == 1 || u.k == 2) = true) from by rw [K1, K2]; rfl, hs]; rfl))
              clear hput hskip hkX hsX hs
              go_wp2_with (first | (at_builtin; refine wp_appendT rfl (.tmp 68) (.tmp 70) 22 rfl w4.heap.size 51 Try.underlying22 Try.infoPEv rfl (by decide) u9 X.length (eC X) rfl ((T0.out.below ((Below.refl _ _).alloc (Nat.le_refl _) _)).e) ⟨wr.heap.size + 1, 0, none⟩ 1 1 [.int .i64 u.k, .string u.g, .string u.p, .string u.t] rfl rfl (by have h := cells4 (wr.alloc (.cells #[.int .i64 u.k, .string u.g, .string u.p, .string u.t] 51)) (.int .i64 u.k) (.string u.g) (.string u.p) (.string u.t) 51; simpa using h) (by intro z hz; simp at hz; rcases hz with rfl | rfl | rfl | rfl <;> rfl) (by omega) (by omega) (by simp; omega) ?_; intro v5 w5 hown hgrow _; have hA5 : Below (wr.alloc (.cells #[.int .i64 u.k, .string u.g, .string u.p, .string u.t] 51)).heap.size (wr.alloc (.cells #[.int .i64 u.k, .string u.g, .string u.p, .string u.t] 51)) ((wr.alloc (.cells #[.int .i64 u.k, .string u.g, .string u.p, .string u.t] 51)).alloc (.cells #[.int .i64 u.k, .string u.g, .string u.p, .string u.t] 51)) := (Below.refl _ _).alloc (Nat.le_refl _) _; have T5 := Lib.hid (Two.putE (u := u) (T0.out.below hA5) hown hgrow); have G5 := Lib.hid ((G0.out.below hA5).grown hgrow (fun g' e => by have h1 := ((T0.out.below hA5).e.lt g' e).1; have := hs4.out; omega)); have s5 : w4.heap.size ≤ w5.heap.size := (by have := G5.out.s; have := hs4.out; omega); clear hown hgrow hA5) | (at_builtin; refine wp_appendT rfl (.tmp 72) (.tmp 74) 25 rfl w4.heap.size 3 Try.underlying25 infoI53 rfl (by decide) u10 Y.length (nI Y) rfl ((T5.out.below ((Below.refl _ _).alloc (Nat.le_refl _) _)).i) ⟨w5.heap.size, 0, none⟩ 1 1 [.int .i64 k] rfl rfl (CellsAt.new1 _ _ _) (one1 _ rfl) (by omega) (by omega) (by simp only [World.size_alloc]; omega) ?_; intro v6 w6 hown hgrow _; have hA6 : Below w5.heap.size w5 (w5.alloc (.cells #[.int .i64 k] 3)) := (Below.refl _ _).alloc (Nat.le_refl _) _; have T6 := Lib.hid (Two.putI (k := k) (T5.out.below hA6) hown hgrow); have G6 := Lib.hid ((G5.out.below hA6).grown hgrow (fun g' e => by have h1 := ((T5.out.below hA6).i.lt g' e).1; have := hs4.out; omega)); have s6 : w4.heap.size ≤ w6.heap.size := (by have := G6.out.s; have := hs4.out; omega); clear hown hgrow hA6))
              exact ⟨⟨k + 1, _, _, _, by omega, by go_num, G6.out.mono (by omega), HS, s6, T6, he.out.1, he.out.2⟩, by simp [intOf]; omega⟩
          · have K1 : (u.k == 1) = false := by simpa using h1
            have he := Lib.hid (hkX.out (by unfold keepF ckQ; rw [K1, K2]; rfl))
            clear hput hskip hkX hsX h1
            go_wp2_with (first | (at_builtin; refine wp_appendT rfl (.tmp 68) (.tmp 70) 22 rfl w4.heap.size 51 Try.underlying22 Try.infoPEv rfl (by decide) u9 X.length (eC X) rfl ((T0.out.below ((Below.refl _ _).alloc (Nat.le_refl _) _)).e) ⟨wr.heap.size + 1, 0, none⟩ 1 1 [.int .i64 u.k, .string u.g, .string u.p, .string u.t] rfl rfl (by have h := cells4 (wr.alloc (.cells #[.int .i64 u.k, .string u.g, .string u.p, .string u.t] 51)) (.int .i64 u.k) (.string u.g) (.string u.p) (.string u.t) 51; simpa using h) (by intro z hz; simp at hz; rcases hz with rfl | rfl | rfl | rfl <;> rfl) (by omega) (by omega) (by simp; omega) ?_; intro v5 w5 hown hgrow _; have hA5 : Below (wr.alloc (.cells #[.int .i64 u.k, .string u.g, .string u.p, .string u.t] 51)).heap.size (wr.alloc (.cells #[.int .i64 u.k, .string u.g, .string u.p, .string u.t] 51)) ((wr.alloc (.cells #[.int .i64 u.k, .string u.g, .string u.p, .string u.t] 51)).alloc (.cells #[.int .i64 u.k, .string u.g, .string u.p, .string u.t] 51)) := (Below.refl _ _).alloc (Nat.le_refl _) _; have T5 := Lib.hid (Two.putE (u := u) (T0.out.below hA5) hown hgrow); have G5 := Lib.hid ((G0.out.below hA5).grown hgrow (fun g' e => by have h1 := ((T0.out.below hA5).e.lt g' e).1; have := hs4.out; omega)); have s5 : w4.heap.size ≤ w5.heap.size := (by have := G5.out.s; have := hs4.out; omega); clear hown hgrow hA5) | (at_builtin; refine wp_appendT rfl (.tmp 72) (.tmp 74) 25 rfl w4.heap.size 3 Try.underlying25 infoI53 rfl (by decide) u10 Y.length (nI Y) rfl ((T5.out.below ((Below.refl _ _).alloc (Nat.le_refl _) _)).i) ⟨w5.heap.size, 0, none⟩ 1 1 [.int .i64 k] rfl rfl (CellsAt.new1 _ _ _) (one1 _ rfl) (by omega) (by omega) (by simp only [World.size_alloc]; omega) ?_; intro v6 w6 hown hgrow _; have hA6 : Below w5.heap.size w5 (w5.alloc (.cells #[.int .i64 k] 3)) := (Below.refl _ _).alloc (Nat.le_refl _) _; have T6 := Lib.hid (Two.putI (k := k) (T5.out.below hA6) hown hgrow); have G6 := Lib.hid ((G5.out.below hA6).grown hgrow (fun g' e => by have h1 := ((T5.out.below hA6).i.lt g' e).1; have := hs4.out; omega)); have s6 : w4.heap.size ≤ w6.heap.size := (by have := G6.out.s; have := hs4.out; omega); clear hown hgrow hA6))
            exact ⟨⟨k + 1, _, _, _, by omega, by go_num, G6.out.mono (by omega), HS, s6, T6, he.out.1, he.out.2⟩, by simp [intOf]; omega⟩
      · obtain rfl : k = vs.length := by omega
        rw [List.take_length] at hX
        obtain ⟨a9, c9, rfl, h9, _⟩ := ownsRow_read HT.out.e
        obtain ⟨a10, c10, rfl, h10, _⟩ := ownsRow_read HT.out.i
        have H9 := Lib.hid h9
        have H10 := Lib.hid h10
        have HBw : Hid (Below w.heap.size w wr) := HB3.out.trans (HG.out.o.mono s3)
        have HX9 : Hid (chk3 X = 0) := by unfold Hid; rw [← hX.out]; exact chk_keep g hE.out
        have HO9 : Hid (LogOk X) := by unfold Hid; rw [← hX.out]; exact ok_keep HV.out
        have sr3 := HG.out.s
        clear h9 h10
        go_wp2_with fail
        refine states53At a9 X X.length c9 (stL X) _ _ rfl (by omega) HX9.out rfl H9.out HO9.out ?_
        intro a5 c5 w5 hb hc5
        have HS5 := Lib.hid hc5
        have G5 := Lib.hid (HG.out.below hb)
        have H10' := Lib.hid (H10.out.below hb)
        have HA5 : Hid (CellsAt w5 a2 (I64s (stL vs))) := HA3.out.below (G5.out.o)
        have HP5 : Hid (CellsAt w5 a3 (sC L)) := HP.out.below (G5.out.o)
        have HB5 : Hid (Below w.heap.size w w5) := HB3.out.trans (G5.out.o.mono s3)
        have HSn : Hid (SetN (badQ vs) vs.length f) := HF
        have hYe : Hid (Y = atL vs g vs.length) := hY.out.symm
        clear hb hc5
        go_wp2_with fail
        go_loopw [104] (fun j wr => ∃ k : Nat, k ≤ Y.length ∧ j = .int .i64 k ∧ Drew w5 wr) (fun j _ => Y.length - (intOf j).toNat)
        case atStart => exact ⟨0, Nat.zero_le _, rfl, Drew.refl _⟩
        case round =>
          obtain ⟨k, hk, rfl, ⟨q, rfl⟩⟩ := hrel
          by_cases hlt : k < Y.length
          · have hkY : k < (atL vs g vs.length).length := by rw [← hYe.out]; exact hlt
            have hi := atL_mem hkY
            have hst := keep_at hkY
            rw [hX.out] at hst
            have hYi : at0 (Y.map fun (y : Nat) => (y : Int)) k = ((atL vs g vs.length)[k] : Nat) := by
              have : Y.map (fun (y : Nat) => (y : Int)) = (atL vs g vs.length).map (fun (y : Nat) => (y : Int)) := by rw [hYe.out]
              rw [this]; unfold at0; rw [List.getD_eq_getElem?_getD, List.getElem?_map, List.getElem?_eq_getElem hkY]; rfl
            obtain ⟨i, hii⟩ : ∃ i, (atL vs g vs.length)[k] = i := ⟨_, rfl⟩
            rw [hii] at hi hst hYi
            obtain ⟨b10, o10, rfl, _, hcell⟩ := H10'.out.ints (by rw [List.length_map]; omega)
            have y0 := hcell k (by rw [List.length_map]; exact hlt)
            rw [hYi] at y0
            clear hcell
            obtain ⟨b2, o2, rfl, _, hcell⟩ := HA5.out.ints (by rw [stL_length]; omega)
            have z0 := hcell i (by rw [stL_length]; exact hi)
            have hzi : at0 (stL vs) i = stt vs i := by unfold at0 stL; rw [List.getD_eq_getElem?_getD, List.getElem?_map, List.getElem?_range hi]; rfl
            rw [hzi] at z0
            clear hcell hzi
            have hlX : Y.length = X.length := by rw [hYe.out, atL_len vs g _ (Nat.le_refl _), List.take_length, hX.out]
            obtain ⟨b5, o5, rfl, _, hcell⟩ := HS5.out.ints (by rw [stL_length]; omega)
            have t0 := hcell k (by rw [stL_length]; omega)
            rw [hst] at t0
            clear hcell hst
            obtain ⟨b, o, rfl, hbb, hcell⟩ := HC.out.evts (by omega)
            obtain ⟨c0, c1, _, _⟩ := hcell i hi
            have d0 := cellB HB5.out c0 hbb
            have d1 := cellB HB5.out c1 hbb
            have hkX : k < X.length := by omega
            have hw : Hid (wantS vs g i = if (eAt vs i).k = 0 ∧ (eAt vs i).g = g then 1 else stt vs i) := rfl
            obtain ⟨u, hu⟩ : ∃ u, eAt vs i = u := ⟨_, rfl⟩
            rw [hu] at d0 d1 hw
            obtain ⟨S, hS⟩ : ∃ S, stt vs i = S := ⟨_, rfl⟩
            rw [hS] at z0 hw
            have HlX := Lib.hid hlX
            clear hcell c0 c1 hu hS hii hYi hlX hkY
            by_cases h0 : u.k = 0
            · have K0 : (u.k == 0) = true := by rw [h0]; rfl
              by_cases hg : u.g = g
              · have K1 : (u.g.toList == g.toList) = true := by rw [hg]; simp
                rw [hw.out, if_pos ⟨h0, hg⟩] at t0
                clear h0 hg hw
                go_wp2_with fail
                exact ⟨⟨k + 1, by omega, by go_num, (by repeat first | exact Drew.refl _ | apply Drew.drewN)⟩, by simp [intOf]; omega⟩
              · have K1 : (u.g.toList == g.toList) = false := sameB_no.2 hg
                rw [hw.out, if_neg (fun hh => hg hh.2)] at t0
                have K2 : (S != S) = false := by simp
                clear h0 hg hw
                go_wp2_with fail
                exact ⟨⟨k + 1, by omega, by go_num, (by repeat first | exact Drew.refl _ | apply Drew.drewN)⟩, by simp [intOf]; omega⟩
            · have K0 : (u.k == 0) = false := by simpa using h0
              rw [hw.out, if_neg (fun hh => h0 hh.1)] at t0
              have K2 : (S != S) = false := by simp
              clear h0 hw
              go_wp2_with fail
              exact ⟨⟨k + 1, by omega, by go_num, (by repeat first | exact Drew.refl _ | apply Drew.drewN)⟩, by simp [intOf]; omega⟩
          · have hw5 : Below w5.heap.size w5 (w5.drewN q) := (Drew.refl _).drewN.below _
            have G6 := Lib.hid (G5.out.below hw5)
            have HP6 : Hid (CellsAt (w5.drewN q) a3 (sC L)) := HP5.out.below hw5
            have HB6 : Hid (Below w.heap.size w (w5.drewN q)) := HB5.out.trans (hw5.mono HB5.out.size)
            obtain ⟨w6, hw6⟩ : ∃ w6, w5.drewN q = w6 := ⟨_, rfl⟩
            rw [hw6] at G6 HP6 HB6 ⊢
            clear hw5 hw6
            go_wp2_with fail
            go_loopw [137] (fun j wr => ∃ k : Nat, k ≤ L.length ∧ j = .int .i64 k ∧ Hid (Below w6.heap.size w6 wr)) (fun j _ => L.length - (intOf j).toNat)
            case atStart => exact ⟨0, Nat.zero_le _, rfl, Below.refl _ _⟩
            case round =>
              obtain ⟨k, hk, rfl, HB⟩ := hrel
              by_cases hlt : k < L.length
              · obtain ⟨bp, op, rfl, hbp, hcell⟩ := HP6.out.strs (by omega)
                have cp := hcell k hlt
                have dp := cellB HB.out cp hbp
                have hkm : kat L k ∈ L := by rw [kat_lt hlt]; exact List.getElem_mem _
                have hr := rcl_measured (hmem.out _ hkm)
                obtain ⟨p, hp⟩ : ∃ p, kat L k = p := ⟨_, rfl⟩
                rw [hp] at dp hr
                have hex := Lib.hid hr
                have sB := HB.out.size
                have hA : Below wr.heap.size wr (wr.alloc (.cells #[.string p] 9)) := (Below.refl _ _).alloc (Nat.le_refl _) _
                have HBa : Below w6.heap.size w6 (wr.alloc (.cells #[.string p] 9)) := HB.out.trans (hA.mono sB)
                have G7 := Lib.hid (G6.out.below HBa)
                have HC7 : Hid (CellsAt (wr.alloc (.cells #[.string p] 9)) ao (eC vs)) := HC.out.below (HB6.out.trans (HBa.mono HB6.out.size))
                have HB7 := Lib.hid HBa
                clear hcell cp hkm hp hr hA HBa
                go_wp2_with fail
                refine containsG_any ao vs c wr.heap.size (w3.heap.size + 1) w3.heap.size vs.length p f (fun s => anyN (badQ vs s) vs.length) _ _ (by omega) HC7.out HV.out (by simp) (by simp) G7.out.x G7.out.m HSn.out ?_
                rw [hex.out]
                intro w8 hb
                have HB8 : Hid (Below w6.heap.size w6 w8) := HB7.out.trans (hb.mono HB7.out.size)
                clear hb
                go_wp2_with fail
                exact ⟨⟨k + 1, by omega, by go_num, HB8⟩, by simp [intOf]; omega⟩
              · go_wp2_with fail
                refine awake53_any _ _ ?_
                intro w9 hb
                have HB9 : Hid (Below w.heap.size w w9) := (HB6.out.trans (HB.out.mono HB6.out.size)).trans (hb.mono (HB6.out.trans (HB.out.mono HB6.out.size)).size)
                clear hb
                go_wp2_with fail
                exact HR.out _ HB9.out
end Go.Proofs.Ytfamennpajjajaa
