/- The walk of relaxed of package complete. -/
import Derived.Sort.CutIn
import Derived.Test.YtgngllgknimgkaaMci
import Derived.Test.YtgngllgknimgkaaMcx
namespace Go.Proofs.Ytgngllgknimgkaa
open Go.RowKit Go.Maps
attribute [local go_sem] Oper.semAt_some

/-- The loop that contradicts, as steps. -/
def stS (x : Ar) : Sp := ⟨x.ix, x.bk⟩
def lpC (s : Bf) (v0 : Nat) : Nat → Nat → List Sp
  | 0, _ => []
  | k + 1, v => if v = v0 then [] else stS (s.y v) :: lpC s v0 k (s.p v)
def lpV (s : Bf) (n : Nat) : Nat := s.bk n s.last.toNat
def lpL (s : Bf) (n : Nat) : List Sp := (stS (s.y (lpV s n)) :: lpC s (lpV s n) n (s.p (lpV s n))).reverse
def lenV : Value → Nat
  | .slice _ n _ => n
  | _ => 0
theorem lenV_own {w : World} {base size n : Nat} {e : TypeId} {v : Value} {xs : List Value} (h : w.ownsRow base e size v n xs) : lenV v = n := by
  obtain ⟨a, c, rfl, _⟩ := ownsRow_read h; rfl
theorem lpC_step {s : Bf} {vl k i : Nat} (hi : i < k) (hne : s.bk (i + 1) vl ≠ vl) : lpC s vl (k - i) (s.bk (i + 1) vl) = stS (s.y (s.bk (i + 1) vl)) :: lpC s vl (k - (i + 1)) (s.bk (i + 1 + 1) vl) := by
  obtain ⟨j, hj⟩ : ∃ j, k - i = j + 1 := ⟨k - i - 1, by omega⟩
  rw [hj, lpC, if_neg hne, show k - (i + 1) = j from by omega, Bf.bk_succ s (i + 1)]
theorem lpC_end {s : Bf} {vl k i : Nat} (hi : i < k) (he : s.bk (i + 1) vl = vl) : lpC s vl (k - i) (s.bk (i + 1) vl) = [] := by
  obtain ⟨j, hj⟩ : ∃ j, k - i = j + 1 := ⟨k - i - 1, by omega⟩
  rw [hj, he, lpC, if_pos rfl]
section
variable {W W' : World} {base n : Nat} {v : Value} {xs : List Value}
theorem own_keeps (ho : W.ownsRow base 111 2 v n xs) (hg : W.grownBy W' v.ownBlock) {k : Nat} (hk : k < W.heap.size) (hne : ∀ cur, W.heap[k]? ≠ some (.cells cur 111 (0, 0))) : W'.heap[k]? = W.heap[k]? := by
  refine hg.block k hk fun e => ?_
  obtain ⟨cur, h2⟩ := own_elem ho e.symm
  exact hne cur h2
theorem WyAt.grown {b7 b8 gf gb gs sc m : Nat} {s : Bf} (h : WyAt W b7 b8 gf gb gs sc m s) (ho : W.ownsRow base 111 2 v n xs) (hg : W.grownBy W' v.ownBlock) : WyAt W' b7 b8 gf gb gs sc m s := by
  obtain ⟨h1, h2, h3, h4, h5⟩ := h.lt
  have key : ∀ (k : Nat) (cs : Array Value) (t : TypeId), t ≠ 111 → W.heap[k]? = some (Obj.cells cs t (0, 0)) → W'.heap[k]? = W.heap[k]? := fun k cs t ht hk =>
    own_keeps ho hg (lt_of_block hk) fun cur e => by rw [hk] at e; cases e; exact ht rfl
  obtain ⟨cur, c1, _⟩ := h.seen
  refine h.keep fun k hk => ?_
  rcases hk with rfl | rfl | rfl | rfl | rfl
  · exact key _ _ _ (by decide) h.box
  · exact key _ _ _ (by decide) h.last
  · exact key _ _ _ (by decide) h.far
  · exact key _ _ _ (by decide) h.by_
  · exact key _ _ _ (by decide) c1
theorem Marks.grown {B : Nat} {L : List Nat} (h : Marks B W L) (ho : W.ownsRow base 111 2 v n xs) (hg : W.grownBy W' v.ownBlock) : Marks B W' L := h.keep fun D hD =>
  own_keeps ho hg (h.lt hD) fun cur e => by rw [h.blk D hD] at e; cases e
end
theorem Try.infoSp : (Try.prog.info? 111).map (fun i => (i.zero, i.size, i.bytes)) = some (some (.agg #[.int .i64 0, .bool false]), 2, 16) := by kernel_rfl
theorem lit_cells (w : World) (cs : Array Value) (e : TypeId) (l : List Value) (h : cs.toList = l) : CellsAt (w.alloc (.cells cs e)) (some ⟨w.heap.size, 0, none⟩) l := by
  subst h
  intro h0
  refine ⟨_, 0, rfl, by simp, fun j hj => ?_⟩
  have hj' : j < cs.size := by simpa using hj
  rw [Nat.zero_add, World.cell?_alloc_new, List.getD_eq_getElem?_getD]
  simp [hj']
theorem leaves_marks2 {F : Fence} {n : Nat} {P : Program} {fn : Func} {R : Ending → World → Prop} {tmps : Array Value} {v : Value} {B : Nat} : ∀ (L : List Nat) (V : World), Marks B V L →
    (∀ w', Below B V w' → (results fn tmps).run P w' = .ok v w') → (∀ w', Below B V w' → (∀ k, k ∉ L → w'.heap[k]? = V.heap[k]?) → R (.returned v) w') → LeavesInM F n P fn tmps R (L.map mkD) .returning V
  | [], V, _, hr, hR => ⟨_, hr V (Below.refl _ _), hR V (Below.refl _ _) fun _ _ => rfl⟩
  | D :: L, V, hm, hr, hR => by
    have hK := hm.blk D (by simp)
    have hb : Below B V (V.putObj D (.deferred none)) := ⟨rfl, rfl, rfl, by simp, fun k hk => World.putObj_heap_other (by have := hm.lo D (by simp); omega)⟩
    refine ⟨by simp, .inl ⟨D, _, rfl, run_takeDeferred hK, ?_⟩⟩
    refine leaves_marks2 L _ ⟨(List.nodup_cons.1 hm.nd).2, fun x hx => hm.lo x (by simp [hx]), fun x hx => ?_⟩ (fun w' h => hr w' (hb.trans h)) (fun w' h hk => hR w' (hb.trans h) fun k hk2 => ?_)
    · exact (World.putObj_heap_other (by rintro rfl; exact (List.nodup_cons.1 hm.nd).1 hx)).trans (hm.blk x (by simp [hx]))
    · rw [List.mem_cons] at hk2
      exact (hk k fun h => hk2 (.inr h)).trans (World.putObj_heap_other (fun e => hk2 (.inl e)))
theorem own_marks {B base size n : Nat} {e : TypeId} {V W : World} {L : List Nat} {v : Value} {xs : List Value} (h : V.ownsRow base e size v n xs) (hm : Marks B V L) (hk : ∀ k, k ∉ L → W.heap[k]? = V.heap[k]?) : W.ownsRow base e size v n xs := by
  refine ⟨h.1, ?_⟩
  rcases h.2 with h1 | ⟨g, cap, cur, h1, h2, h3, h4⟩
  · exact .inl h1
  · refine .inr ⟨g, cap, cur, h1, h2, (hk g fun hg => ?_).trans h3, h4⟩
    have := hm.blk g hg
    rw [h3] at this; cases this
theorem arX_near {vs : List Dm} (h : ∀ j, j < vs.length → vaE (dAt vs j) = 0) (ax : Int) : Near (arX vs ax) := fun x hx => by
  obtain ⟨i, hi, e⟩ := arX_mem.1 hx
  have hb := vaE_bounds (h i hi.1)
  rcases e with rfl | rfl <;> dsimp only <;> omega
theorem arX_loose {vs : List Dm} (h : ∀ j, j < vs.length → vaE (dAt vs j) = 0) (ax : Int) : Loose (arX vs ax) := fun x hx => by
  obtain ⟨i, hi, e⟩ := arX_mem.1 hx
  have hne : (dAt vs i).f ≠ (dAt vs i).t := fun e2 => by
    have h1 := h i hi.1
    unfold vaE at h1
    by_cases a : nmE (dAt vs i).f = 0
    · rw [if_pos a] at h1
      by_cases b : nmE (dAt vs i).t = 0
      · rw [if_pos b, if_pos (by rw [e2]; simp [sameD])] at h1; omega
      · rw [if_neg b] at h1; exact b h1
    · rw [if_neg a] at h1; exact a h1
  obtain ⟨_, h2, h3⟩ := onA_names (onD_iff.1 hi)
  have hp : pF vs ax i ≠ pT vs ax i := fun e2 => hne (pos_inj h2 h3 e2)
  rcases e with rfl | rfl
  · exact hp
  · exact hp.symm
/-! ### the rows of the ways -/
def MkF (B n : Nat) (W : World) (u : Value) : Prop := ∃ g, B ≤ g ∧ u = .slice (some ⟨g, 0, none⟩) n n ∧ W.heap[g]? = some (.cells (I64s (List.replicate n 0)).toArray 3 (0, 0))
def MkB (B n : Nat) (W : World) (u : Value) : Prop := ∃ g, B ≤ g ∧ u = .slice (some ⟨g, 0, none⟩) n n ∧ W.heap[g]? = some (.cells (aC (List.replicate n Ar.zero)).toArray 113 (0, 0))
def MkS (B n : Nat) (S : List Bool) (W : World) (u : Value) : Prop := ∃ g sc, B ≤ g ∧ u = .slice (some ⟨g, 0, none⟩) n sc ∧ ∃ cur : Array Value, W.heap[g]? = some (.cells cur 4 (0, 0)) ∧ n ≤ cur.size ∧ ∀ j, j < n → cur[j]? = some (.bool (S.getD j false))
def MkX (B : Nat) (W : World) (u : Value) : Prop := ∃ g x y z, B ≤ g ∧ u = .pointer (some ⟨g, 0, none⟩) ∧ W.heap[g]? = some (.cells #[x, y, z] 87 (0, 0))
def MkY (B : Nat) (W : World) (u x y z : Value) : Prop := ∃ g, B ≤ g ∧ u = .pointer (some ⟨g, 0, none⟩) ∧ W.heap[g]? = some (.cells #[x, y, z] 87 (0, 0))
section
variable {B n : Nat} {S : List Bool} {W W' : World} {u x y z : Value}
theorem MkF.keep (h : MkF B n W u) (hk : ∀ (g : Nat) (cs : Array Value), W.heap[g]? = some (.cells cs 3 (0, 0)) → W'.heap[g]? = W.heap[g]?) : MkF B n W' u := by
  obtain ⟨g, h1, h2, h3⟩ := h; exact ⟨g, h1, h2, (hk g _ h3).trans h3⟩
theorem MkB.keep (h : MkB B n W u) (hk : ∀ (g : Nat) (cs : Array Value), W.heap[g]? = some (.cells cs 113 (0, 0)) → W'.heap[g]? = W.heap[g]?) : MkB B n W' u := by
  obtain ⟨g, h1, h2, h3⟩ := h; exact ⟨g, h1, h2, (hk g _ h3).trans h3⟩
theorem MkS.keep (h : MkS B n S W u) (hk : ∀ (g : Nat) (cs : Array Value), W.heap[g]? = some (.cells cs 4 (0, 0)) → W'.heap[g]? = W.heap[g]?) : MkS B n S W' u := by
  obtain ⟨g, sc, h1, h2, cur, h3, h4⟩ := h; exact ⟨g, sc, h1, h2, cur, (hk g _ h3).trans h3, h4⟩
theorem MkX.keep (h : MkX B W u) (hk : ∀ (g : Nat) (cs : Array Value), W.heap[g]? = some (.cells cs 87 (0, 0)) → W'.heap[g]? = W.heap[g]?) : MkX B W' u := by
  obtain ⟨g, a, b, c, h1, h2, h3⟩ := h; exact ⟨g, a, b, c, h1, h2, (hk g _ h3).trans h3⟩
theorem MkY.keep (h : MkY B W u x y z) (hk : ∀ (g : Nat) (cs : Array Value), W.heap[g]? = some (.cells cs 87 (0, 0)) → W'.heap[g]? = W.heap[g]?) : MkY B W' u x y z := by
  obtain ⟨g, h1, h2, h3⟩ := h; exact ⟨g, h1, h2, (hk g _ h3).trans h3⟩
theorem below_cells {t : TypeId} (hb : Below W.heap.size W W') : ∀ (g : Nat) (cs : Array Value), W.heap[g]? = some (Obj.cells cs t (0, 0)) → W'.heap[g]? = W.heap[g]? := fun _ _ h => hb.block _ (lt_of_block h)
end
/-- What region 2 leaves. -/
structure W5 (W : World) (B b7 gf gb gs sc n : Nat) (S : List Bool) : Prop where
  box : W.heap[b7]? = some (.cells #[.slice (some ⟨gf, 0, none⟩) n n, .slice (some ⟨gb, 0, none⟩) n n, .slice (some ⟨gs, 0, none⟩) n sc] 87 (0, 0))
  far : W.heap[gf]? = some (.cells (I64s (List.replicate n 0)).toArray 3 (0, 0))
  by_ : W.heap[gb]? = some (.cells (aC (List.replicate n Ar.zero)).toArray 113 (0, 0))
  seen : ∃ cur : Array Value, W.heap[gs]? = some (.cells cur 4 (0, 0)) ∧ n ≤ cur.size ∧ ∀ j, j < n → cur[j]? = some (.bool (S.getD j false))
  lo : B ≤ b7 ∧ B ≤ gf ∧ B ≤ gb ∧ B ≤ gs
theorem run_cloneB (L : List Bool) (bb bo n sc0 : Nat) (w : World) (hn : L.length = n) (hl : n ≤ 512) (hc : CellsAt w (some ⟨bb, bo, none⟩) (boC L)) :
    Calls Try.prog 48 #[.slice (some ⟨bb, bo, none⟩) n sc0] w fun e w' => ∃ u, e = .returned u ∧ MkS w.heap.size n L w' u ∧ Below w.heap.size w w' := by
  have hi : (Try.prog.info? 4).map (fun i => (i.zero, i.size, i.bytes)) = some (some (.bool false), 1, 1) := by kernel_rfl
  obtain ⟨i0, h1, h2, h3, h4⟩ := info_parts hi
  subst hn
  refine (Try.slices_Clone i0 _ 1 1 h1 h2 h3 h4 rfl (by decide) (fun w => by kernel_rfl) bb bo L.length sc0 (boC L) w (by rw [boC_length]; omega) (by unfold maxLen; omega) (by omega) ?_ ?_).mono ?_
  · intro j u hu
    have hj : j < (boC L).length := (List.getElem?_eq_some_iff.1 hu).1
    exact hc.get rfl hu
  · intro u hu
    obtain ⟨x, _, rfl⟩ := List.mem_map.1 hu
    rfl
  · rintro e w' ⟨v', rfl, hown, hne, hb⟩
    refine ⟨v', rfl, ?_, hb⟩
    rcases hown.2 with ⟨h, _⟩ | ⟨g, cap, cur, rfl, hg, hh, hcap, _, hcs, htk⟩
    · exact absurd h hne
    · refine ⟨g, cap, hg, rfl, cur, hh, by omega, fun j hj => ?_⟩
      have h5 : (boC L)[j]? = some (.bool (L.getD j false)) := by
        unfold boC
        rw [List.getElem?_map, List.getElem?_eq_getElem hj, List.getD_eq_getElem?_getD, List.getElem?_eq_getElem hj]; rfl
      rw [← htk, List.getElem?_take] at h5
      rw [if_pos (by omega)] at h5
      simpa using h5
set_option maxRecDepth 100000 in
set_option maxHeartbeats 8000000 in
theorem relaxed_any (ao : Option Addr) (vs : List Dm) (c b : Nat) (ax : Int) (bb bo sc0 : Nat) (S : List Bool) (w : World) (R : Ending → World → Prop) (hl : vs.length ≤ 256) (hc : CellsAt w ao (dC vs)) (hv : DmsOk vs) (hva : ∀ j, j < vs.length → vaE (dAt vs j) = 0)
   (hg : GrX w b ao c vs ax) (hS : S.length = (nmG vs ax).length) (hcS : CellsAt w (some ⟨bb, bo, none⟩) (boC S))
   (hR1 : (rxR (arX vs ax) S).2 = true → ∀ gf gb gs sc w', Below w.heap.size w w' → Blk w' gf 3 (I64s (rxR (arX vs ax) S).1.far) → R (.returned (.tuple #[.agg #[.slice (some ⟨gf, 0, none⟩) (nmG vs ax).length (nmG vs ax).length, .slice (some ⟨gb, 0, none⟩) (nmG vs ax).length (nmG vs ax).length, .slice (some ⟨gs, 0, none⟩) (nmG vs ax).length sc], .slice none 0 0])) w')
   (hR2 : (rxR (arX vs ax) S).2 = false → ∀ gf gb gs sc v w', Below w.heap.size w w' → w'.ownsRow w.heap.size 111 2 v (lpL (rxR (arX vs ax) S).1 (nmG vs ax).length).length (pC (lpL (rxR (arX vs ax) S).1 (nmG vs ax).length)) → R (.returned (.tuple #[.agg #[.slice (some ⟨gf, 0, none⟩) (nmG vs ax).length (nmG vs ax).length, .slice (some ⟨gb, 0, none⟩) (nmG vs ax).length (nmG vs ax).length, .slice (some ⟨gs, 0, none⟩) (nmG vs ax).length sc], v])) w') :
    Calls Try.prog 32 #[.pointer (some ⟨b + 1, 0, none⟩), .slice (some ⟨bb, bo, none⟩) S.length sc0] w R := by
  have HR1 := Lib.hid hR1
  have HR2 := Lib.hid hR2
  have HC := Lib.hid hc
  have HV := Lib.hid hv
  have HVA := Lib.hid hva
  have HCS := Lib.hid hcS
  have hkl := nmG_len (ax := ax) hl
  rw [hS]
  clear hR1 hR2 hc hv hva hcS
  obtain ⟨w1, E1, HB1, s1, X1⟩ := box_ex w #[.slice none 0 0, .slice none 0 0, .slice none 0 0] 87
  obtain ⟨nv, dv, hg0⟩ := hg
  have hg1 := hg0.below HB1.out
  obtain ⟨na, nc, rfl, _, _⟩ := ownsRow_read hg1.names
  obtain ⟨da, dc, rfl, hdc0, _⟩ := ownsRow_read hg0.dims
  have HG0 := Lib.hid hg0
  have HDC0 := Lib.hid hdc0
  have HBox : Hid (b + 1 < w.heap.size) := lt_of_block hg0.box
  have g0 := hg1.cell.1
  obtain ⟨N, hN⟩ : ∃ N, (nmG vs ax).length = N := ⟨_, rfl⟩
  rw [hN] at g0 hkl hS ⊢
  have HN := Lib.hid hN
  have HSl := Lib.hid hS
  clear hg0 hg1 hdc0 hN hS
  refine (callsIn_wide (n := 8)).1 ?_
  refine callsIn_of_wp_marks Try.func32 rfl trivial ?_ rfl
  simp only [Try.ntmps32, List.size_toArray, List.length_cons, List.length_nil, Nat.reduceAdd, Nat.reduceSub, Array.replicate_succ, Array.replicate_zero, List.push_toArray, List.append_toArray, List.nil_append, List.cons_append]
  gi_wp2_with (rw [E1.out])
  clear E1 g0
  gi_cut [7] from 140 (fun s7 wx => ∃ b7 gf gb gs sc, s7 = .pointer (some ⟨b7, 0, none⟩) ∧ Hid (Below w1.heap.size w1 wx) ∧ Hid (W5 wx w1.heap.size b7 gf gb gs sc N S))
  case first =>
    rename_i J K' hJ hK'
    refine wpIn_wide.2 ?_
    have hmF := fun w => make_zeros N hkl w
    have hmB := fun w => make_arcs N hkl w
    have HmF := Lib.hid hmF
    have HmB := Lib.hid hmB
    clear hmF hmB
    refine region_inv (by kernel_rfl) (fun listed a W => ∃ u7 u17 u18 u19 u20 u21 u22 u23 : Value, a = { tmps := #[.pointer (some ⟨b + 1, 0, none⟩), .slice (some ⟨bb, bo, none⟩) N sc0, undef, undef, .pointer (some ⟨w.heap.size, 0, none⟩), .slice none 0 0, .int .i64 N, u7, undef, undef, undef, undef, .pointer (some ⟨b + 1, 0, none⟩), .pointer (some ⟨b + 1, 0, none⟩), .pointer (some ⟨b + 1, 0, none⟩), .slice na N nc, .int .i64 N, u17, u18, u19, u20, u21, u22, u23, undef, undef, undef, undef, undef, undef, undef, undef, undef, undef, undef, undef, undef, undef, undef, undef, undef, undef, undef, undef, undef, undef, undef, undef, undef, undef, undef, undef, undef, undef, undef, undef, undef, undef, undef, undef, undef, undef, undef, undef, undef, undef, undef, undef, undef, undef, undef, undef, undef, undef, undef, undef, undef, undef, undef, undef, undef, undef, undef, undef, undef, undef, undef, undef, undef, undef, undef, undef, undef, undef, undef, undef, undef, undef, undef, undef, undef, undef, undef, undef, undef, undef, undef, undef, undef, undef, undef, undef, undef, undef, undef, undef, undef, undef, undef, undef, undef, undef, undef, undef, undef, undef, undef, undef, undef, undef, undef, undef, undef, undef, undef, undef, undef, undef, undef, undef], defers := [] } ∧ listed.size = 9 ∧ Hid (Below w1.heap.size w1 W) ∧ Up listed 0 (u17 = .int .i64 N) ∧ Up listed 1 (MkF w1.heap.size N W u18) ∧ Up listed 2 (u19 = .int .i64 N) ∧ Up listed 3 (MkB w1.heap.size N W u20) ∧ Up listed 4 (u21 = .slice (some ⟨bb, bo, none⟩) N sc0) ∧ Up listed 5 (MkS w1.heap.size N S W u22) ∧ Up listed 6 (u23 = .agg #[u18, u20, u22]) ∧ Up listed 7 (MkX w1.heap.size W u7) ∧ Up listed 8 (MkY w1.heap.size W u7 u18 u20 u22)) ?h0 ?hs ?hd
    case h0 => exact ⟨_, _, _, _, _, _, _, _, rfl, rfl, (Below.refl _ _).drew, Up.start, Up.start, Up.start, Up.start, Up.start, Up.start, Up.start, Up.start, Up.start⟩
    case hd =>
      rintro listed a W ⟨u7, u17, u18, u19, u20, u21, u22, u23, rfl, hz, hB, f0, f1, f2, f3, f4, f5, f6, f7, f8⟩ hr
      have hal := all_listed (by kernel_rfl) hz hr
      obtain ⟨gf, a1, rfl, a2⟩ := f1 (hal 1 (by decide))
      obtain ⟨gb, b1, rfl, b2⟩ := f3 (hal 3 (by decide))
      obtain ⟨gs, sc, c1, rfl, c2⟩ := f5 (hal 5 (by decide))
      obtain ⟨b7, d1, rfl, d2⟩ := f8 (hal 8 (by decide))
      refine hK' _ _ ?_
      refine Met.intro (hJ _ _ ?_)
      exact ⟨_, _, _, _, _, _, _, _, ⟨b7, gf, gb, gs, sc, rfl, hB, ⟨d2, a2, b2, c2, d1, a1, b1, c1⟩⟩, rfl⟩
    case hs =>
      rintro listed a W i o ⟨u7, u17, u18, u19, u20, u21, u22, u23, rfl, hz, hB, f0, f1, f2, f3, f4, f5, f6, f7, f8⟩ ho hi hun hdep hnd K hK
      have hi9 : i < 9 := hi
      have hc : i = 0 ∨ i = 1 ∨ i = 2 ∨ i = 3 ∨ i = 4 ∨ i = 5 ∨ i = 6 ∨ i = 7 ∨ i = 8 := by omega
      have hsB := hB.out.size
      have no : ∀ {i j : Nat} {p : Prop}, i ≠ j → ¬ (listed.getD j false = true) → Up (listed.setIfInBounds i true) j p := fun hij h hl => by rw [getD_set_ne false hij] at hl; exact (h hl).elim
      rcases hc with rfl | rfl | rfl | rfl | rfl | rfl | rfl | rfl | rfl
      · simp only [List.getElem?_toArray, List.getElem?_cons_zero, Option.some.injEq] at ho
        subst ho
        have F0 := Lib.hid f0
        have F1 := Lib.hid f1
        have F2 := Lib.hid f2
        have F3 := Lib.hid f3
        have F4 := Lib.hid f4
        have F5 := Lib.hid f5
        have F6 := Lib.hid f6
        have F7 := Lib.hid f7
        have F8 := Lib.hid f8
        have HK := Lib.hid hK
        have NO : Hid (∀ {i j : Nat} {p : Prop}, i ≠ j → ¬ (listed.getD j false = true) → Up (listed.setIfInBounds i true) j p) := no
        have HND := Lib.hid hnd
        have HZ := Lib.hid hz
        clear f0 f1 f2 f3 f4 f5 f6 f7 f8 hK no hnd hdep hz hun hi hi9
        have N1 := HND.out 1 _ rfl ⟨{ on := 0, ground := .data }, by simp, by kernel_rfl, rfl⟩
        go_simp
        refine HK.out _ _ ⟨u7, .int .i64 N, u18, u19, u20, u21, u22, u23, rfl, by have := HZ.out; simp [this], hB, fun _ => rfl, NO.out (by decide) N1, F2.out.set id (fun e => absurd e (by decide)), F3.out.set id (fun e => absurd e (by decide)), F4.out.set id (fun e => absurd e (by decide)), F5.out.set id (fun e => absurd e (by decide)), F6.out.set id (fun e => absurd e (by decide)), F7.out.set id (fun e => absurd e (by decide)), F8.out.set id (fun e => absurd e (by decide))⟩
      · simp only [List.getElem?_toArray, List.getElem?_cons_zero, List.getElem?_cons_succ, Option.some.injEq] at ho
        subst ho
        obtain rfl := f0 (hdep { on := 0, ground := .data } (by simp) (by kernel_rfl))
        have F0 := Lib.hid f0
        have F1 := Lib.hid f1
        have F2 := Lib.hid f2
        have F3 := Lib.hid f3
        have F4 := Lib.hid f4
        have F5 := Lib.hid f5
        have F6 := Lib.hid f6
        have F7 := Lib.hid f7
        have F8 := Lib.hid f8
        have HK := Lib.hid hK
        have NO : Hid (∀ {i j : Nat} {p : Prop}, i ≠ j → ¬ (listed.getD j false = true) → Up (listed.setIfInBounds i true) j p) := no
        have HND := Lib.hid hnd
        have HZ := Lib.hid hz
        clear f0 f1 f2 f3 f4 f5 f6 f7 f8 hK no hnd hdep hz hun hi hi9
        have N6 := HND.out 6 _ rfl ⟨{ on := 1, ground := .data }, by simp, by kernel_rfl, rfl⟩
        have N8 := HND.out 8 _ rfl ⟨{ on := 1, ground := .phase }, by simp, by kernel_rfl, rfl⟩
        have hmk := HmF.out W
        have hb : Below W.heap.size W (W.alloc (.cells (I64s (List.replicate N 0)).toArray 3)) := (Below.refl _ _).alloc (Nat.le_refl _) _
        have Hb := Lib.hid hb
        clear hb
        go_simp
        have hb := Hb.out
        refine HK.out _ _ ⟨u7, _, .slice (some ⟨W.heap.size, 0, none⟩) N N, u19, u20, u21, u22, u23, rfl, by have := HZ.out; simp [this], hB.out.trans (hb.mono hsB), F0.out.set id (fun e => absurd e (by decide)), fun _ => ⟨_, hsB, rfl, World.alloc_heap_new _ _⟩, F2.out.set id (fun e => absurd e (by decide)), F3.out.set (fun h => h.keep (below_cells hb)) (fun e => absurd e (by decide)), F4.out.set id (fun e => absurd e (by decide)), F5.out.set (fun h => h.keep (below_cells hb)) (fun e => absurd e (by decide)), NO.out (by decide) N6, F7.out.set (fun h => h.keep (below_cells hb)) (fun e => absurd e (by decide)), NO.out (by decide) N8⟩
      · simp only [List.getElem?_toArray, List.getElem?_cons_zero, List.getElem?_cons_succ, Option.some.injEq] at ho
        subst ho
        have F0 := Lib.hid f0
        have F1 := Lib.hid f1
        have F2 := Lib.hid f2
        have F3 := Lib.hid f3
        have F4 := Lib.hid f4
        have F5 := Lib.hid f5
        have F6 := Lib.hid f6
        have F7 := Lib.hid f7
        have F8 := Lib.hid f8
        have HK := Lib.hid hK
        have NO : Hid (∀ {i j : Nat} {p : Prop}, i ≠ j → ¬ (listed.getD j false = true) → Up (listed.setIfInBounds i true) j p) := no
        have HND := Lib.hid hnd
        have HZ := Lib.hid hz
        clear f0 f1 f2 f3 f4 f5 f6 f7 f8 hK no hnd hdep hz hun hi hi9
        have N3 := HND.out 3 _ rfl ⟨{ on := 2, ground := .data }, by simp, by kernel_rfl, rfl⟩
        go_simp
        refine HK.out _ _ ⟨u7, u17, u18, .int .i64 N, u20, u21, u22, u23, rfl, by have := HZ.out; simp [this], hB, F0.out.set id (fun e => absurd e (by decide)), F1.out.set id (fun e => absurd e (by decide)), fun _ => rfl, NO.out (by decide) N3, F4.out.set id (fun e => absurd e (by decide)), F5.out.set id (fun e => absurd e (by decide)), F6.out.set id (fun e => absurd e (by decide)), F7.out.set id (fun e => absurd e (by decide)), F8.out.set id (fun e => absurd e (by decide))⟩
      · simp only [List.getElem?_toArray, List.getElem?_cons_zero, List.getElem?_cons_succ, Option.some.injEq] at ho
        subst ho
        obtain rfl := f2 (hdep { on := 2, ground := .data } (by simp) (by kernel_rfl))
        have F0 := Lib.hid f0
        have F1 := Lib.hid f1
        have F2 := Lib.hid f2
        have F3 := Lib.hid f3
        have F4 := Lib.hid f4
        have F5 := Lib.hid f5
        have F6 := Lib.hid f6
        have F7 := Lib.hid f7
        have F8 := Lib.hid f8
        have HK := Lib.hid hK
        have NO : Hid (∀ {i j : Nat} {p : Prop}, i ≠ j → ¬ (listed.getD j false = true) → Up (listed.setIfInBounds i true) j p) := no
        have HND := Lib.hid hnd
        have HZ := Lib.hid hz
        clear f0 f1 f2 f3 f4 f5 f6 f7 f8 hK no hnd hdep hz hun hi hi9
        have N6 := HND.out 6 _ rfl ⟨{ on := 3, ground := .data }, by simp, by kernel_rfl, rfl⟩
        have N8 := HND.out 8 _ rfl ⟨{ on := 3, ground := .phase }, by simp, by kernel_rfl, rfl⟩
        have hmk := HmB.out W
        have hb : Below W.heap.size W (W.alloc (.cells (aC (List.replicate N Ar.zero)).toArray 113)) := (Below.refl _ _).alloc (Nat.le_refl _) _
        have Hb := Lib.hid hb
        clear hb
        go_simp
        have hb := Hb.out
        refine HK.out _ _ ⟨u7, u17, u18, _, .slice (some ⟨W.heap.size, 0, none⟩) N N, u21, u22, u23, rfl, by have := HZ.out; simp [this], hB.out.trans (hb.mono hsB), F0.out.set id (fun e => absurd e (by decide)), F1.out.set (fun h => h.keep (below_cells hb)) (fun e => absurd e (by decide)), F2.out.set id (fun e => absurd e (by decide)), fun _ => ⟨_, hsB, rfl, World.alloc_heap_new _ _⟩, F4.out.set id (fun e => absurd e (by decide)), F5.out.set (fun h => h.keep (below_cells hb)) (fun e => absurd e (by decide)), NO.out (by decide) N6, F7.out.set (fun h => h.keep (below_cells hb)) (fun e => absurd e (by decide)), NO.out (by decide) N8⟩
      · simp only [List.getElem?_toArray, List.getElem?_cons_zero, List.getElem?_cons_succ, Option.some.injEq] at ho
        subst ho
        have F0 := Lib.hid f0
        have F1 := Lib.hid f1
        have F2 := Lib.hid f2
        have F3 := Lib.hid f3
        have F4 := Lib.hid f4
        have F5 := Lib.hid f5
        have F6 := Lib.hid f6
        have F7 := Lib.hid f7
        have F8 := Lib.hid f8
        have HK := Lib.hid hK
        have NO : Hid (∀ {i j : Nat} {p : Prop}, i ≠ j → ¬ (listed.getD j false = true) → Up (listed.setIfInBounds i true) j p) := no
        have HND := Lib.hid hnd
        have HZ := Lib.hid hz
        clear f0 f1 f2 f3 f4 f5 f6 f7 f8 hK no hnd hdep hz hun hi hi9
        have N5 := HND.out 5 _ rfl ⟨{ on := 4, ground := .data }, by simp, by kernel_rfl, rfl⟩
        go_simp
        refine HK.out _ _ ⟨u7, u17, u18, u19, u20, .slice (some ⟨bb, bo, none⟩) N sc0, u22, u23, rfl, by have := HZ.out; simp [this], hB, F0.out.set id (fun e => absurd e (by decide)), F1.out.set id (fun e => absurd e (by decide)), F2.out.set id (fun e => absurd e (by decide)), F3.out.set id (fun e => absurd e (by decide)), fun _ => rfl, NO.out (by decide) N5, F6.out.set id (fun e => absurd e (by decide)), F7.out.set id (fun e => absurd e (by decide)), F8.out.set id (fun e => absurd e (by decide))⟩
      · simp only [List.getElem?_toArray, List.getElem?_cons_zero, List.getElem?_cons_succ, Option.some.injEq] at ho
        subst ho
        obtain rfl := f4 (hdep { on := 4, ground := .data } (by simp) (by kernel_rfl))
        have F0 := Lib.hid f0
        have F1 := Lib.hid f1
        have F2 := Lib.hid f2
        have F3 := Lib.hid f3
        have F4 := Lib.hid f4
        have F5 := Lib.hid f5
        have F6 := Lib.hid f6
        have F7 := Lib.hid f7
        have F8 := Lib.hid f8
        have HK := Lib.hid hK
        have NO : Hid (∀ {i j : Nat} {p : Prop}, i ≠ j → ¬ (listed.getD j false = true) → Up (listed.setIfInBounds i true) j p) := no
        have HND := Lib.hid hnd
        have HZ := Lib.hid hz
        clear f0 f1 f2 f3 f4 f5 f6 f7 f8 hK no hnd hdep hz hun hi hi9
        have N6 := HND.out 6 _ rfl ⟨{ on := 5, ground := .data }, by simp, by kernel_rfl, rfl⟩
        have N8 := HND.out 8 _ rfl ⟨{ on := 5, ground := .chain }, by simp, by kernel_rfl, rfl⟩
        go_simp
        refine (run_cloneB S bb bo N sc0 W HSl.out hkl (HCS.out.below (HB1.out.trans (hB.out.mono (by omega))))).mono ?_
        rintro e w' ⟨u, rfl, hm, hb⟩
        refine HK.out _ _ ⟨u7, u17, u18, u19, u20, _, u, u23, rfl, by have := HZ.out; simp [this], hB.out.trans (hb.mono hsB), F0.out.set id (fun e => absurd e (by decide)), F1.out.set (fun h => h.keep (below_cells hb)) (fun e => absurd e (by decide)), F2.out.set id (fun e => absurd e (by decide)), F3.out.set (fun h => h.keep (below_cells hb)) (fun e => absurd e (by decide)), F4.out.set id (fun e => absurd e (by decide)), fun _ => (by obtain ⟨g, sc, h1, h2⟩ := hm; exact ⟨g, sc, by omega, h2⟩), NO.out (by decide) N6, F7.out.set (fun h => h.keep (below_cells hb)) (fun e => absurd e (by decide)), NO.out (by decide) N8⟩
      · simp only [List.getElem?_toArray, List.getElem?_cons_zero, List.getElem?_cons_succ, Option.some.injEq] at ho
        subst ho
        obtain ⟨gf, a1, rfl, a2⟩ := f1 (hdep { on := 1, ground := .data } (by simp) (by kernel_rfl))
        obtain ⟨gb, b1, rfl, b2⟩ := f3 (hdep { on := 3, ground := .data } (by simp) (by kernel_rfl))
        obtain ⟨gs, sc, c1, rfl, c2⟩ := f5 (hdep { on := 5, ground := .data } (by simp) (by kernel_rfl))
        have F0 := Lib.hid f0
        have F1 := Lib.hid f1
        have F2 := Lib.hid f2
        have F3 := Lib.hid f3
        have F4 := Lib.hid f4
        have F5 := Lib.hid f5
        have F6 := Lib.hid f6
        have F7 := Lib.hid f7
        have F8 := Lib.hid f8
        have HK := Lib.hid hK
        have NO : Hid (∀ {i j : Nat} {p : Prop}, i ≠ j → ¬ (listed.getD j false = true) → Up (listed.setIfInBounds i true) j p) := no
        have HND := Lib.hid hnd
        have HZ := Lib.hid hz
        clear f0 f1 f2 f3 f4 f5 f6 f7 f8 hK no hnd hdep hz hun hi hi9
        have N8 := HND.out 8 _ rfl ⟨{ on := 6, ground := .data }, by simp, by kernel_rfl, rfl⟩
        go_simp
        refine HK.out _ _ ⟨u7, u17, _, u19, _, u21, _, _, rfl, by have := HZ.out; simp [this], hB, F0.out.set id (fun e => absurd e (by decide)), F1.out.set id (fun e => absurd e (by decide)), F2.out.set id (fun e => absurd e (by decide)), F3.out.set id (fun e => absurd e (by decide)), F4.out.set id (fun e => absurd e (by decide)), F5.out.set id (fun e => absurd e (by decide)), fun _ => rfl, F7.out.set id (fun e => absurd e (by decide)), NO.out (by decide) N8⟩
      · simp only [List.getElem?_toArray, List.getElem?_cons_zero, List.getElem?_cons_succ, Option.some.injEq] at ho
        subst ho
        have F0 := Lib.hid f0
        have F1 := Lib.hid f1
        have F2 := Lib.hid f2
        have F3 := Lib.hid f3
        have F4 := Lib.hid f4
        have F5 := Lib.hid f5
        have F6 := Lib.hid f6
        have F7 := Lib.hid f7
        have F8 := Lib.hid f8
        have HK := Lib.hid hK
        have NO : Hid (∀ {i j : Nat} {p : Prop}, i ≠ j → ¬ (listed.getD j false = true) → Up (listed.setIfInBounds i true) j p) := no
        have HND := Lib.hid hnd
        have HZ := Lib.hid hz
        clear f0 f1 f2 f3 f4 f5 f6 f7 f8 hK no hnd hdep hz hun hi hi9
        have N8 := HND.out 8 _ rfl ⟨{ on := 7, ground := .data }, by simp, by kernel_rfl, rfl⟩
        have hb : Below W.heap.size W (W.alloc (.cells #[.slice none 0 0, .slice none 0 0, .slice none 0 0] 87)) := (Below.refl _ _).alloc (Nat.le_refl _) _
        have Hb := Lib.hid hb
        clear hb
        go_simp
        have hb := Hb.out
        refine HK.out _ _ ⟨.pointer (some ⟨W.heap.size, 0, none⟩), u17, u18, u19, u20, u21, u22, u23, rfl, by have := HZ.out; simp [this], hB.out.trans (hb.mono hsB), F0.out.set id (fun e => absurd e (by decide)), F1.out.set (fun h => h.keep (below_cells hb)) (fun e => absurd e (by decide)), F2.out.set id (fun e => absurd e (by decide)), F3.out.set (fun h => h.keep (below_cells hb)) (fun e => absurd e (by decide)), F4.out.set id (fun e => absurd e (by decide)), F5.out.set (fun h => h.keep (below_cells hb)) (fun e => absurd e (by decide)), F6.out.set id (fun e => absurd e (by decide)), fun _ => ⟨_, _, _, _, hsB, rfl, World.alloc_heap_new _ _⟩, NO.out (by decide) N8⟩
      · simp only [List.getElem?_toArray, List.getElem?_cons_zero, List.getElem?_cons_succ, Option.some.injEq] at ho
        subst ho
        obtain ⟨b7, x, y, z, d1, rfl, d2⟩ := f7 (hdep { on := 7, ground := .data } (by simp) (by kernel_rfl))
        obtain rfl := f6 (hdep { on := 6, ground := .data } (by simp) (by kernel_rfl))
        obtain ⟨gf, a1, rfl, a2⟩ := f1 (hdep { on := 1, ground := .phase } (by simp) (by kernel_rfl))
        obtain ⟨gb, b1, rfl, b2⟩ := f3 (hdep { on := 3, ground := .phase } (by simp) (by kernel_rfl))
        obtain ⟨gs, sc, c1, rfl, c2⟩ := f5 (hdep { on := 5, ground := .phase } (by simp) (by kernel_rfl))
        have e0 := cell_of d2 (j := 0) (v := x) rfl
        have e1 := cell_of d2 (j := 1) (v := y) rfl
        have e2 := cell_of d2 (j := 2) (v := z) rfl
        have e3 := frozen_of d2 0
        have e4 := frozen_of d2 1
        have e5 := frozen_of d2 2
        have F0 := Lib.hid f0
        have F1 := Lib.hid f1
        have F2 := Lib.hid f2
        have F3 := Lib.hid f3
        have F4 := Lib.hid f4
        have F5 := Lib.hid f5
        have F6 := Lib.hid f6
        have F7 := Lib.hid f7
        have F8 := Lib.hid f8
        have HK := Lib.hid hK
        have NO : Hid (∀ {i j : Nat} {p : Prop}, i ≠ j → ¬ (listed.getD j false = true) → Up (listed.setIfInBounds i true) j p) := no
        have HND := Lib.hid hnd
        have HZ := Lib.hid hz
        clear f0 f1 f2 f3 f4 f5 f6 f7 f8 hK no hnd hdep hz hun hi hi9
        have hk : ∀ (u1 u2 u3 : Value) (t : TypeId), t ≠ 87 → ∀ (g : Nat) (cs : Array Value), W.heap[g]? = some (.cells cs t (0, 0)) → (((W.setCell ⟨b7, 0, none⟩ u1).setCell ⟨b7, 1, none⟩ u2).setCell ⟨b7, 2, none⟩ u3).heap[g]? = W.heap[g]? := fun u1 u2 u3 t ht g cs hg => by
          have hne : g ≠ b7 := by rintro rfl; rw [d2] at hg; cases hg; exact ht rfl
          exact (Below.heap_setCell _ _ _ _ hne).trans ((Below.heap_setCell _ _ _ _ hne).trans (Below.heap_setCell _ _ _ _ hne))
        have Hk := Lib.hid hk
        have D2 := Lib.hid d2
        clear hk d2
        go_simp
        have hN := heap_setCell_same _ b7 2 _ _ (.slice (some ⟨gs, 0, none⟩) N sc) (heap_setCell_same _ b7 1 _ _ (.slice (some ⟨gb, 0, none⟩) N N) (heap_setCell_same _ b7 0 _ _ (.slice (some ⟨gf, 0, none⟩) N N) D2.out))
        refine HK.out _ _ ⟨_, _, _, _, _, _, _, _, rfl, by have := HZ.out; simp [this], ((hB.out.setCell (p := ⟨b7, 0, none⟩) d1 _).setCell (p := ⟨b7, 1, none⟩) d1 _).setCell (p := ⟨b7, 2, none⟩) d1 _, F0.out.set id (fun e => absurd e (by decide)), F1.out.set (fun h => h.keep (Hk.out _ _ _ _ (by decide))) (fun e => absurd e (by decide)), F2.out.set id (fun e => absurd e (by decide)), F3.out.set (fun h => h.keep (Hk.out _ _ _ _ (by decide))) (fun e => absurd e (by decide)), F4.out.set id (fun e => absurd e (by decide)), F5.out.set (fun h => h.keep (Hk.out _ _ _ _ (by decide))) (fun e => absurd e (by decide)), F6.out.set id (fun e => absurd e (by decide)), F7.out.set (fun _ => ⟨b7, _, _, _, d1, rfl, hN⟩) (fun e => absurd e (by decide)), fun _ => ⟨b7, d1, rfl, hN⟩⟩
  case rest =>
    obtain ⟨b7, gf, gb, gs, sc, rfl, HBx, H5⟩ := hcut
    obtain ⟨X, hX⟩ : ∃ X, rxR (arX vs ax) S = X := ⟨_, rfl⟩
    have HX := Lib.hid hX
    rw [hX] at HR1 HR2
    have hAW := Lib.hid (arX_within vs ax)
    have hAN := Lib.hid (arX_near HVA.out ax)
    have hAL := Lib.hid (arX_loose HVA.out ax)
    rw [HN.out] at hAW
    have hml : (arX vs ax).length ≤ 512 := by have := onA_len vs ax vs.length; rw [arX_len]; omega
    have hlo := H5.out.lo
    have hlt : b7 < wc.heap.size ∧ gf < wc.heap.size ∧ gb < wc.heap.size ∧ gs < wc.heap.size :=
      ⟨lt_of_block H5.out.box, lt_of_block H5.out.far, lt_of_block H5.out.by_, by obtain ⟨cur, h, _⟩ := H5.out.seen; exact lt_of_block h⟩
    have hne' : b7 ≠ wc.heap.size ∧ b7 ≠ gf ∧ b7 ≠ gb ∧ b7 ≠ gs ∧ wc.heap.size ≠ gf ∧ wc.heap.size ≠ gb ∧ wc.heap.size ≠ gs ∧ gf ≠ gb ∧ gf ≠ gs ∧ gb ≠ gs := by
      have key : ∀ {g g' : Nat} {cs cs' : Array Value} {t t' : TypeId}, wc.heap[g]? = some (.cells cs t (0, 0)) → wc.heap[g']? = some (.cells cs' t' (0, 0)) → t ≠ t' → g ≠ g' := fun h h' ht e => by subst e; rw [h] at h'; cases h'; exact ht rfl
      obtain ⟨cur, h, _⟩ := H5.out.seen
      refine ⟨by omega, key H5.out.box H5.out.far (by decide), key H5.out.box H5.out.by_ (by decide), key H5.out.box h (by decide), by omega, by omega, by omega, key H5.out.far H5.out.by_ (by decide), key H5.out.far h (by decide), key H5.out.by_ h (by decide)⟩
    have hne := Lib.hid hne'
    have hW0' : WyAt (wc.alloc (.cells #[.int .i64 (-1)] 3)) b7 wc.heap.size gf gb gs sc N (Bf.begin S) := by
      have hbl : Below wc.heap.size wc (wc.alloc (.cells #[.int .i64 (-1)] 3)) := (Below.refl _ _).alloc (Nat.le_refl _) _
      obtain ⟨cur, c1, c2, c3⟩ := H5.out.seen
      have hS' := HSl.out
      refine ⟨by rw [← hS']; exact Bf.begin_ok S, (hbl.block _ hlt.1).trans H5.out.box, World.alloc_heap_new _ _, ?_, ?_, cur, (hbl.block _ hlt.2.2.2).trans c1, c2, c3⟩
      · show _ = some (Obj.cells (I64s (List.replicate S.length 0)).toArray _ _)
        rw [hS']; exact (hbl.block _ hlt.2.1).trans H5.out.far
      · show _ = some (Obj.cells (aC (List.replicate S.length Ar.zero)).toArray _ _)
        rw [hS']; exact (hbl.block _ hlt.2.2.1).trans H5.out.by_
    have HW0 := Lib.hid hW0'
    have hB3' : Below w1.heap.size w1 (wc.alloc (.cells #[.int .i64 (-1)] 3)) := HBx.out.alloc HBx.out.size _
    have HB3 := Lib.hid hB3'
    have hws : w1.heap.size ≤ wc.heap.size := HBx.out.size
    have Hlo := Lib.hid hlo
    have Hlt := Lib.hid hlt
    clear hne' hW0' hB3' hX hlo hlt
    gi_wp2_with fail
    refine wpIn_loop (fun a' W => Hid (∃ (r : Nat) (s : Bf) (L : List Nat) (u27 u28 u29 u91 u92 u94 : Value), a' = { tmps := #[.pointer (some ⟨b + 1, 0, none⟩), .slice (some ⟨bb, bo, none⟩) N sc0, undef, undef, .pointer (some ⟨w.heap.size, 0, none⟩), .slice none 0 0, .int .i64 N, .pointer (some ⟨b7, 0, none⟩), .pointer (some ⟨wc.heap.size, 0, none⟩), undef, undef, undef, .pointer (some ⟨b + 1, 0, none⟩), .pointer (some ⟨b + 1, 0, none⟩), .pointer (some ⟨b + 1, 0, none⟩), .slice na N nc, .int .i64 N, u17, u18, u19, u20, u21, u22, u23, .int .i64 N, .int .i64 ((N : Int) + 1), .int .i64 r, u27, u28, u29, undef, undef, undef, undef, undef, undef, undef, undef, undef, undef, undef, undef, undef, undef, undef, undef, undef, undef, undef, undef, undef, undef, undef, undef, undef, undef, undef, undef, undef, undef, undef, undef, undef, undef, undef, undef, undef, undef, undef, undef, undef, undef, undef, undef, undef, undef, undef, undef, undef, undef, undef, undef, undef, undef, undef, undef, undef, undef, undef, undef, undef, u91, u92, undef, u94, undef, undef, undef, undef, undef, undef, undef, undef, undef, undef, undef, undef, undef, undef, undef, undef, undef, undef, undef, undef, undef, undef, undef, undef, undef, undef, undef, undef, undef, undef, undef, undef, undef, undef, undef, undef, undef, undef, undef, undef, undef, undef, undef, undef, undef], defers := L.map mkD } ∧ r ≤ N + 1 ∧ Hid (Below w1.heap.size w1 W) ∧ Hid (WyAt W b7 wc.heap.size gf gb gs sc N s) ∧ Hid (Marks (wc.heap.size + 1) W L) ∧ Hid (Fb s (100000 * (r * (arX vs ax).length))) ∧ Hid (Bf.run (arX vs ax) (N + 1 - r) s = X))) (fun a' _ => N + 1 - (intOf (a'.tmps.getD 26 undef)).toNat) ?start ?round
    case start =>
      refine Lib.hid ⟨0, Bf.begin S, [], _, _, _, _, _, _, rfl, Nat.zero_le _, HB3, HW0, Marks.nil _ _, fun v => ?_, ?_⟩
      · rw [Bf.begin_f]; omega
      · have h := HX.out; unfold rxR at h; rw [HSl.out] at h; exact h
    case round =>
      intro a' wr hinv
      obtain ⟨r, s, L, u27, u28, u29, u91, u92, u94, rfl, hr, HB, HW, HM, HF, HRu⟩ := hinv.out
      clear HW0 HB3
      have hwr : wc.heap.size < wr.heap.size := HW.out.lt.2.1
      by_cases hrn : r < N + 1
      · have hwrap : ∀ i, i < vs.length → IntKind.i64.wrap (-(dAt vs i).l) = -(dAt vs i).l := fun i hi => by
          have := vaE_bounds (HVA.out i hi)
          rw [IntKind.wrap_i64]; omega
        have c8 := cell_of HW.out.last (j := 0) (v := .int .i64 s.last) rfl
        have f8 := frozen_of HW.out.last 0
        have hW1 := HW.out.setLast ⟨hne.out.1.symm, hne.out.2.2.2.2.1, hne.out.2.2.2.2.2.1, hne.out.2.2.2.2.2.2.1⟩ (-1)
        have hB1 := HB.out.setCell (p := ⟨wc.heap.size, 0, none⟩) hws (.int .i64 (-1))
        have hM1 : Marks (wc.heap.size + 1) (wr.setCell ⟨wc.heap.size, 0, none⟩ (.int .i64 (-1))) L := HM.out.keep fun D hD => Below.heap_setCell _ _ _ _ (by have := HM.out.lo D hD; show D ≠ wc.heap.size; omega)
        have hsz : (wr.setCell ⟨wc.heap.size, 0, none⟩ (.int .i64 (-1))).heap.size = wr.heap.size := by simp
        have hb5 : Below wr.heap.size (wr.setCell ⟨wc.heap.size, 0, none⟩ (.int .i64 (-1))) ((wr.setCell ⟨wc.heap.size, 0, none⟩ (.int .i64 (-1))).alloc (.cells #[.pointer (some ⟨b + 1, 0, none⟩)] 58)) := (Below.refl _ _).alloc (by rw [hsz]; exact Nat.le_refl _) _
        have hW5 := hW1.below (by rw [hsz]; exact hb5)
        have hB5 := hB1.trans (hb5.mono (by omega))
        have hM5 := hM1.below (by rw [hsz]; exact hb5)
        have q0 : ((wr.setCell ⟨wc.heap.size, 0, none⟩ (.int .i64 (-1))).alloc (.cells #[.pointer (some ⟨b + 1, 0, none⟩)] 58)).cell? ⟨wr.heap.size, 0, none⟩ = some (.pointer (some ⟨b + 1, 0, none⟩)) := by
          have h := World.alloc_heap_new (wr.setCell ⟨wc.heap.size, 0, none⟩ (.int .i64 (-1))) (.cells #[.pointer (some ⟨b + 1, 0, none⟩)] 58)
          rw [hsz] at h
          exact cell_of h rfl
        have hs5 : ((wr.setCell ⟨wc.heap.size, 0, none⟩ (.int .i64 (-1))).alloc (.cells #[.pointer (some ⟨b + 1, 0, none⟩)] 58)).heap.size = wr.heap.size + 1 := by simp
        obtain ⟨W5, hW5e⟩ : ∃ W5, (wr.setCell ⟨wc.heap.size, 0, none⟩ (.int .i64 (-1))).alloc (.cells #[.pointer (some ⟨b + 1, 0, none⟩)] 58) = W5 := ⟨_, rfl⟩
        rw [hW5e] at hW5 hB5 hM5 q0 hs5
        have hB5w := HB1.out.trans (hB5.mono (Nat.le_of_lt s1))
        have hg2 := HG0.out.below hB5w
        have hARK : ArK W5 wr.heap.size b (.slice na (nmG vs ax).length nc) da dc ao vs c (onA vs ax vs.length) (nmG vs ax).length (plF (nmG vs ax) (nmG vs ax).length) :=
          ⟨q0, hg2.box, hg2.map, HDC0.out.below hB5w, HC.out.below hB5w⟩
        have HW5 := Lib.hid hW5
        have HB5 := Lib.hid hB5
        have HM5 := Lib.hid hM5
        have HARK := Lib.hid hARK
        have Hwrap := Lib.hid hwrap
        have HW5e := Lib.hid hW5e
        have Hs5 := Lib.hid hs5
        clear hB5w hW1 hB1 hM1 hsz hb5 hW5 hB5 hM5 q0 hW5e hARK hwrap hg2 hs5
        gi_wp2_with (first | (refine ⟨trivial, ?_⟩; gi_at_call 49; refine (arcs_in Fence.wide 7 trivial rfl _ _).mono ?_; rintro e w' ⟨rfl, rfl⟩))
        rw [HW5e.out]
        refine wpIn_rangeFunc_all (xs := List.range (2 * (onA vs ax vs.length).length)) (bs := arBs wr.heap.size b da ao vs (onA vs ax vs.length)) rfl (by omega) (gf := 69) (lb := #[.pointer (some ⟨wr.heap.size, 0, none⟩)]) rfl trivial (enters_of Try.func69 (by kernel_rfl) rfl)
          (arcs1_gives Fence.wide 7 trivial rfl (by omega) wr.heap.size b _ da dc ao vs c ax W5 hl HARK.out HV.out Hwrap.out) (Below.refl _ _) (fun _ => rfl) (arBs_lt HARK.out)
          (fun pre V => Hid (WyAt V b7 wc.heap.size gf gb gs sc N ((pre.map (arcV vs ax)).foldl Bf.rel { s with last := -1 })) ∧ Hid (Below w1.heap.size w1 V) ∧ Hid (Marks (wc.heap.size + 1) V L))
          ?old ⟨HW5, HB5, HM5⟩ (fun x a' V => ∃ Bx, W5.heap.size ≤ Bx ∧ V.heap[Bx]? = some (.cells (arcV vs ax x).cells.toArray 113 (0, 0)) ∧ a' = { tmps := #[.pointer (some ⟨b + 1, 0, none⟩), .slice (some ⟨bb, bo, none⟩) N sc0, undef, undef, .pointer (some ⟨w.heap.size, 0, none⟩), .slice none 0 0, .int .i64 N, .pointer (some ⟨b7, 0, none⟩), .pointer (some ⟨wc.heap.size, 0, none⟩), .pointer (some ⟨Bx, 0, none⟩), undef, undef, .pointer (some ⟨b + 1, 0, none⟩), .pointer (some ⟨b + 1, 0, none⟩), .pointer (some ⟨b + 1, 0, none⟩), .slice na N nc, .int .i64 N, u17, u18, u19, u20, u21, u22, u23, .int .i64 N, .int .i64 ((N : Int) + 1), .int .i64 r, .bool true, .pointer (some ⟨b + 1, 0, none⟩), .func (.func 69) #[] #[.pointer (some ⟨wr.heap.size, 0, none⟩)], arcEnc vs ax x, undef, undef, undef, undef, undef, undef, undef, undef, undef, undef, undef, undef, undef, undef, undef, undef, undef, undef, undef, undef, undef, undef, undef, undef, undef, undef, undef, undef, undef, undef, undef, undef, undef, undef, undef, undef, undef, undef, undef, undef, undef, undef, undef, undef, undef, undef, undef, undef, undef, undef, undef, undef, undef, undef, undef, undef, undef, undef, undef, undef, u91, u92, undef, u94, undef, undef, undef, undef, undef, undef, undef, undef, undef, undef, undef, undef, undef, undef, undef, undef, undef, undef, undef, undef, undef, undef, undef, undef, undef, undef, undef, undef, undef, undef, undef, undef, undef, undef, undef, undef, undef, undef, undef, undef, undef, undef, undef, undef, undef], defers := [] }) ?stable ?assign ?body ?done
        case old =>
          intro pre A B hs hAB
          obtain ⟨h1, h2, h3⟩ := hs
          have e5 := Hs5.out
          have e6 := Hlt.out
          exact ⟨h1.out.keep fun k hk => hAB.block k (by omega), h2.out.trans (hAB.mono (by omega)), h3.out.keep fun D hD => hAB.block D (by have := HM.out.lt hD; omega)⟩
        case stable =>
          rintro x a' V l' r' o hl' ⟨Bx, h1, h2, h3⟩
          refine ⟨Bx, h1, (World.putObj_heap_other ?_).trans h2, h3⟩
          rintro rfl; rw [hl'] at h2; cases h2
        case assign =>
          rintro l' pre x V K hi hsz hpre hK
          have HK := Lib.hid hK
          obtain ⟨z, hz⟩ : ∃ z, arcV vs ax x = z := ⟨_, rfl⟩
          have e : arcEnc vs ax x = .agg #[.int .i64 z.ix, .bool z.bk, .int .i64 z.a, .int .i64 z.b, .int .i64 z.w] := by rw [arcEnc_is, hz]; rfl
          have HE := Lib.hid e
          have HZ := Lib.hid hz
          rw [e]
          clear hK hi hpre e hz
          gi_wp2
          refine HK.out _ _ ((Below.refl _ V).alloc (Nat.le_refl _) _) ⟨V.heap.size, hsz, ?_, ?_⟩
          · rw [HZ.out]; exact World.alloc_heap_new _ _
          · rw [HE.out]
        case body =>
          rintro l' pre x a' V ⟨hW, hB, hM⟩ ⟨Bx, hBx, hXc, rfl⟩ hsz hpre
          obtain ⟨hlt, hpe, hxe⟩ := range_at hpre
          have hzA : arcV vs ax x ∈ arX vs ax := List.mem_map.2 ⟨x, List.mem_range.2 (by omega), rfl⟩
          have hzN := hAN.out _ hzA
          have hzW := hAW.out _ hzA
          have hzL := hAL.out _ hzA
          have hst : ((pre ++ [x]).map (arcV vs ax)).foldl Bf.rel { s with last := -1 } = ((pre.map (arcV vs ax)).foldl Bf.rel { s with last := -1 }).rel (arcV vs ax x) := by
            rw [List.map_append, List.foldl_append]; rfl
          have hFt := Fb.fold hAW.out hAN.out (pre.map (arcV vs ax)) { s with last := -1 } _ HF.out ⟨HW.out.ok.far, HW.out.ok.seen, HW.out.ok.by_⟩ (fun y hy => by
            obtain ⟨j, hj, rfl⟩ := List.mem_map.1 hy
            rw [hpe] at hj
            exact List.mem_map.2 ⟨j, List.mem_range.2 (by have := List.mem_range.1 hj; omega), rfl⟩)
          rw [List.length_map] at hFt
          have hrm : r * (arX vs ax).length ≤ 512 * 512 := Nat.mul_le_mul (by omega) hml
          have hpl : pre.length ≤ 512 := by rw [arX_len] at hml; omega
          have HI : Hid (∀ V', WyAt V' b7 wc.heap.size gf gb gs sc N (((pre.map (arcV vs ax)).foldl Bf.rel { s with last := -1 }).rel (arcV vs ax x)) → Below w1.heap.size w1 V' → Marks (wc.heap.size + 1) V' L → Hid (WyAt V' b7 wc.heap.size gf gb gs sc N (((pre ++ [x]).map (arcV vs ax)).foldl Bf.rel { s with last := -1 })) ∧ Hid (Below w1.heap.size w1 V') ∧ Hid (Marks (wc.heap.size + 1) V' L)) := fun V' h1 h2 h3 => ⟨by rw [hst]; exact h1, h2, h3⟩
          obtain ⟨t, ht⟩ : ∃ t, (pre.map (arcV vs ax)).foldl Bf.rel { s with last := -1 } = t := ⟨_, rfl⟩
          rw [ht] at hW hFt HI
          have hnc : arcEnc vs ax x = .agg (arcV vs ax x).cells.toArray := arcEnc_is vs ax x
          obtain ⟨z, hz⟩ : ∃ z, arcV vs ax x = z := ⟨_, rfl⟩
          rw [hz] at hzA hzN hzW hzL HI hXc hnc
          rw [hnc]
          have HT : Hid (pre ++ [x] = pre ++ [x]) := rfl
          obtain ⟨ix, bk, Pn, Qn, wt⟩ := z
          dsimp only at hzN hzW hzL
          obtain ⟨hP, hQ⟩ := hzW
          have hwr2 : IntKind.i64.wrap (t.f Pn + wt) = t.f Pn + wt := by
            have := hFt Pn
            rw [IntKind.wrap_i64]; omega
          have hXc' : V.heap[Bx]? = some (.cells #[.int .i64 ix, .bool bk, .int .i64 Pn, .int .i64 Qn, .int .i64 wt] 113 (0, 0)) := hXc
          have x0 := cell_of hXc' (j := 0) (v := .int .i64 ix) rfl
          have x1 := cell_of hXc' (j := 1) (v := .bool bk) rfl
          have x2 := cell_of hXc' (j := 2) (v := .int .i64 Pn) rfl
          have x3 := cell_of hXc' (j := 3) (v := .int .i64 Qn) rfl
          have x4 := cell_of hXc' (j := 4) (v := .int .i64 wt) rfl
          have b0 := cell_of hW.out.box (j := 0) (v := .slice (some ⟨gf, 0, none⟩) N N) rfl
          have b1 := cell_of hW.out.box (j := 1) (v := .slice (some ⟨gb, 0, none⟩) N N) rfl
          have b2 := cell_of hW.out.box (j := 2) (v := .slice (some ⟨gs, 0, none⟩) N sc) rfl
          have sP := hW.out.cSeen hP
          have sQ := hW.out.cSeen hQ
          have fP := hW.out.cFar hP
          have fQ := hW.out.cFar hQ
          have HXc := Lib.hid hXc'
          have hiff : Hid (t.hit ⟨ix, bk, Pn, Qn, wt⟩ = (t.s Pn && !(t.s Qn && decide (t.f Qn ≤ t.f Pn + wt)))) := rfl
          have HRel : Hid (t.rel ⟨ix, bk, Pn, Qn, wt⟩ = if t.hit ⟨ix, bk, Pn, Qn, wt⟩ = true then t.put ⟨ix, bk, Pn, Qn, wt⟩ else t) := rfl
          have HzL := Lib.hid hzL
          have HBsl := Lib.hid (arBs_lt HARK.out)
          obtain ⟨E1, hE1⟩ : ∃ E1, t.s Pn = E1 := ⟨_, rfl⟩
          obtain ⟨E2, hE2⟩ : ∃ E2, t.s Qn = E2 := ⟨_, rfl⟩
          rw [hE1] at sP hiff
          rw [hE2] at sQ hiff
          have hW' := hW
          clear hzA hzN hzL hst hFt hrm hpl ht hnc hz hXc hXc' hE1 hE2 hW hpe hxe hlt hpre
          have hK0 : ∀ a'' nq, t.hit ⟨ix, bk, Pn, Qn, wt⟩ = false → allPost W5.heap.size (arBs wr.heap.size b da ao vs (onA vs ax vs.length)) (fun pre V => Hid (WyAt V b7 wc.heap.size gf gb gs sc N ((pre.map (arcV vs ax)).foldl Bf.rel { s with last := -1 })) ∧ Hid (Below w1.heap.size w1 V) ∧ Hid (Marks (wc.heap.size + 1) V L)) (pre ++ [x]) V .normal a'' (V.drewN nq) := fun a'' nq hno => by
            have hb : Below V.heap.size V (V.drewN nq) := ⟨rfl, rfl, rfl, Nat.le_refl _, fun _ _ => rfl⟩
            refine ⟨⟨Nat.le_refl _, fun _ _ _ => rfl⟩, fun _ _ => rfl, HI.out _ ?_ (hB.out.trans ⟨rfl, rfl, rfl, Nat.le_refl _, fun _ _ => rfl⟩) (hM.out.below hb)⟩
            rw [HRel.out, hno, if_neg (by simp)]; exact hW'.out.below hb
          have HK0 := Lib.hid hK0
          clear hK0
          have hkS : ∀ (U : World) (p : Addr) (v : Value), p.block ≠ b7 → p.block ≠ Bx → (p.block = gf → p.off ≠ Pn) → (U.cell? ⟨b7, 0, none⟩ = some (.slice (some ⟨gf, 0, none⟩) N N) ∧ U.cell? ⟨b7, 1, none⟩ = some (.slice (some ⟨gb, 0, none⟩) N N) ∧ U.cell? ⟨b7, 2, none⟩ = some (.slice (some ⟨gs, 0, none⟩) N sc) ∧ U.cell? ⟨Bx, 0, none⟩ = some (.int .i64 ix) ∧ U.cell? ⟨Bx, 1, none⟩ = some (.bool bk) ∧ U.cell? ⟨Bx, 2, none⟩ = some (.int .i64 Pn) ∧ U.cell? ⟨Bx, 3, none⟩ = some (.int .i64 Qn) ∧ U.cell? ⟨Bx, 4, none⟩ = some (.int .i64 wt) ∧ U.cell? ⟨gf, Pn, none⟩ = some (.int .i64 (t.f Pn))) →
              ((U.setCell p v).cell? ⟨b7, 0, none⟩ = some (.slice (some ⟨gf, 0, none⟩) N N) ∧ (U.setCell p v).cell? ⟨b7, 1, none⟩ = some (.slice (some ⟨gb, 0, none⟩) N N) ∧ (U.setCell p v).cell? ⟨b7, 2, none⟩ = some (.slice (some ⟨gs, 0, none⟩) N sc) ∧ (U.setCell p v).cell? ⟨Bx, 0, none⟩ = some (.int .i64 ix) ∧ (U.setCell p v).cell? ⟨Bx, 1, none⟩ = some (.bool bk) ∧ (U.setCell p v).cell? ⟨Bx, 2, none⟩ = some (.int .i64 Pn) ∧ (U.setCell p v).cell? ⟨Bx, 3, none⟩ = some (.int .i64 Qn) ∧ (U.setCell p v).cell? ⟨Bx, 4, none⟩ = some (.int .i64 wt) ∧ (U.setCell p v).cell? ⟨gf, Pn, none⟩ = some (.int .i64 (t.f Pn))) := by
            rintro U p v n1 n2 n3 ⟨q0, q1, q2, q3, q4, q5, q6, q7, q8⟩
            have far : ∀ (g o : Nat), p.block ≠ g → (U.setCell p v).cell? ⟨g, o, none⟩ = U.cell? ⟨g, o, none⟩ := fun g o h => World.cell?_setCell_far U p ⟨g, o, none⟩ v h
            refine ⟨(far _ _ n1).trans q0, (far _ _ n1).trans q1, (far _ _ n1).trans q2, (far _ _ n2).trans q3, (far _ _ n2).trans q4, (far _ _ n2).trans q5, (far _ _ n2).trans q6, (far _ _ n2).trans q7, ?_⟩
            refine (World.cell?_setCell_other U p ⟨gf, Pn, none⟩ v (fun e => ?_)).trans q8
            by_cases hg : p.block = gf
            · exact n3 hg (by rw [e])
            · exact hg (by rw [e])
          have HkS := Lib.hid hkS
          have HNE := hne
          have HkG := Lib.hid (fun (U : World) (o : Nat) (v : Value) => hkS U ⟨gb, o, none⟩ v HNE.out.2.2.1.symm (by have := Hlt.out; have := Hs5.out; show gb ≠ Bx; omega) (fun e => absurd e HNE.out.2.2.2.2.2.2.2.1.symm))
          clear hkS
          have hKF : ∀ (a'' : Act) (V' : World), t.hit ⟨ix, bk, Pn, Qn, wt⟩ = true → WyAt V' b7 wc.heap.size gf gb gs sc N (t.put ⟨ix, bk, Pn, Qn, wt⟩) → Below w1.heap.size w1 V' → KeepsUp (wc.heap.size + 1) V V' → KeepsBs (arBs wr.heap.size b da ao vs (onA vs ax vs.length)) V V' →
              allPost W5.heap.size (arBs wr.heap.size b da ao vs (onA vs ax vs.length)) (fun pre V => Hid (WyAt V b7 wc.heap.size gf gb gs sc N ((pre.map (arcV vs ax)).foldl Bf.rel { s with last := -1 })) ∧ Hid (Below w1.heap.size w1 V) ∧ Hid (Marks (wc.heap.size + 1) V L)) (pre ++ [x]) V .normal a'' V' := fun a'' V' hh hw hb hk hbs => by
            refine ⟨hk.mono (by have := Hs5.out; omega), hbs, HI.out _ ?_ hb (hM.out.up hk)⟩
            rw [HRel.out, hh, if_pos rfl]; exact hw
          have HKF := Lib.hid hKF
          have HBo := Lib.hid (fun k (hk : k ∈ arBs wr.heap.size b da ao vs (onA vs ax vs.length)) => arBs_old HBox.out HDC0.out HC.out k hk)
          clear hKF
          cases E1 with
          | false =>
            have hno : Hid (t.hit ⟨ix, bk, Pn, Qn, wt⟩ = false) := by rw [hiff.out]; rfl
            gi_wp2
            refine region_round_quiet_lit (by kernel_rfl) (by kernel_rfl) (by kernel_rfl) rfl ?_
            repeat (gi_big_quiet_step (fail))
            refine wpQuietIn_nil ?_
            intro _ hw'
            obtain ⟨nq, hw''⟩ := hw'
            subst hw''
            gi_wp2
            exact HK0.out _ nq hno.out
          | true =>
            cases E2 with
            | true =>
              by_cases hle : t.f Qn ≤ t.f Pn + wt
              · have hno : Hid (t.hit ⟨ix, bk, Pn, Qn, wt⟩ = false) := by unfold Hid; rw [hiff.out, decide_eq_true hle]; rfl
                gi_wp2
                refine region_round_quiet_lit (by kernel_rfl) (by kernel_rfl) (by kernel_rfl) rfl ?_
                repeat (gi_big_quiet_step (fail))
                refine wpQuietIn_nil ?_
                intro _ hw'
                obtain ⟨nq, hw''⟩ := hw'
                subst hw''
                gi_wp2
                exact HK0.out _ nq hno.out
              · have hhit : Hid (t.hit ⟨ix, bk, Pn, Qn, wt⟩ = true) := by unfold Hid; rw [hiff.out, decide_eq_false hle]; rfl
                gi_wp2
                refine region_round_quiet_lit (by kernel_rfl) (by kernel_rfl) (by kernel_rfl) rfl ?_
                repeat (gi_big_quiet_step (fail))
                refine wpQuietIn_nil ?_
                intro _ hw'
                obtain ⟨nq, hw''⟩ := hw'
                subst hw''
                gi_wp2
                refine region_round_held (fun w' => w'.cell? ⟨b7, 0, none⟩ = some (.slice (some ⟨gf, 0, none⟩) N N) ∧ w'.cell? ⟨b7, 1, none⟩ = some (.slice (some ⟨gb, 0, none⟩) N N) ∧ w'.cell? ⟨b7, 2, none⟩ = some (.slice (some ⟨gs, 0, none⟩) N sc) ∧ w'.cell? ⟨Bx, 0, none⟩ = some (.int .i64 ix) ∧ w'.cell? ⟨Bx, 1, none⟩ = some (.bool bk) ∧ w'.cell? ⟨Bx, 2, none⟩ = some (.int .i64 Pn) ∧ w'.cell? ⟨Bx, 3, none⟩ = some (.int .i64 Qn) ∧ w'.cell? ⟨Bx, 4, none⟩ = some (.int .i64 wt) ∧ w'.cell? ⟨gf, Pn, none⟩ = some (.int .i64 (t.f Pn))) (by kernel_rfl) (by kernel_rfl) (fun ⟨_, _, h⟩ => h) ⟨b0, b1, b2, x0, x1, x2, x3, x4, fP⟩ (fun hS0 => ?_)
                have hWd : WyAt (V.drewN nq).drew b7 wc.heap.size gf gb gs sc N t := hW'.out.below ⟨rfl, rfl, rfl, Nat.le_refl _, fun _ _ => rfl⟩
                have hBd : Below w1.heap.size w1 (V.drewN nq).drew := hB.out.trans ⟨rfl, rfl, rfl, Nat.le_refl _, fun _ _ => rfl⟩
                have HHd : Hid ((V.drewN nq).drew.heap = V.heap) := rfl
                obtain ⟨Vd, hVd⟩ : ∃ Vd, (V.drewN nq).drew = Vd := ⟨_, rfl⟩
                rw [hVd] at hS0 hWd hBd HHd ⊢
                have HWd := Lib.hid hWd
                have HBd := Lib.hid hBd
                clear hWd hBd hVd b0 b1 b2 x0 x1 x2 x3 x4 sP sQ fP fQ
                refine wpAnyH_take (i := 0) (oi := _) (v := .pointer (some ⟨b7, 2, none⟩)) rfl (by kernel_rfl) (by kernel_rfl) (by kernel_rfl) (fun _ _ _ h => h) (Or.inl ⟨by rfl, ?h1⟩) hS0 ?r1
                case h1 => (intro w hSw; (try dsimp only at hSw); obtain ⟨q0, q1, q2, q3, q4, q5, q6, q7, q8⟩ := hSw; go_simp; (try with_reducible rfl))
                simp only [Act.put, List.setIfInBounds_toArray]
                refine wpAnyH_take (i := 1) (oi := _) (v := .slice (some ⟨gs, 0, none⟩) N sc) rfl (by kernel_rfl) (by kernel_rfl) (by kernel_rfl) (fun _ _ _ h => h) (Or.inl ⟨by rfl, ?h2⟩) hS0 ?r2
                case h2 => (intro w hSw; (try dsimp only at hSw); obtain ⟨q0, q1, q2, q3, q4, q5, q6, q7, q8⟩ := hSw; go_simp; (try with_reducible rfl))
                simp only [Act.put]
                refine wpAnyH_take (i := 2) (oi := _) (v := .pointer (some ⟨Bx, 3, none⟩)) rfl (by kernel_rfl) (by kernel_rfl) (by kernel_rfl) (fun _ _ _ h => h) (Or.inl ⟨by rfl, ?h3⟩) hS0 ?r3
                case h3 => (intro w hSw; (try dsimp only at hSw); obtain ⟨q0, q1, q2, q3, q4, q5, q6, q7, q8⟩ := hSw; go_simp; (try with_reducible rfl))
                simp only [Act.put]
                refine wpAnyH_take (i := 3) (oi := _) (v := .int .i64 Qn) rfl (by kernel_rfl) (by kernel_rfl) (by kernel_rfl) (fun _ _ _ h => h) (Or.inl ⟨by rfl, ?h4⟩) hS0 ?r4
                case h4 => (intro w hSw; (try dsimp only at hSw); obtain ⟨q0, q1, q2, q3, q4, q5, q6, q7, q8⟩ := hSw; go_simp; (try with_reducible rfl))
                simp only [Act.put]
                refine wpAnyH_take (i := 4) (oi := _) (v := .pointer (some ⟨b7, 0, none⟩)) rfl (by kernel_rfl) (by kernel_rfl) (by kernel_rfl) (fun _ _ _ h => h) (Or.inl ⟨by rfl, ?h5⟩) hS0 ?r5
                case h5 => (intro w hSw; (try dsimp only at hSw); obtain ⟨q0, q1, q2, q3, q4, q5, q6, q7, q8⟩ := hSw; go_simp; (try with_reducible rfl))
                simp only [Act.put]
                refine wpAnyH_take (i := 5) (oi := _) (v := .slice (some ⟨gf, 0, none⟩) N N) rfl (by kernel_rfl) (by kernel_rfl) (by kernel_rfl) (fun _ _ _ h => h) (Or.inl ⟨by rfl, ?h6⟩) hS0 ?r6
                case h6 => (intro w hSw; (try dsimp only at hSw); obtain ⟨q0, q1, q2, q3, q4, q5, q6, q7, q8⟩ := hSw; go_simp; (try with_reducible rfl))
                simp only [Act.put]
                refine wpAnyH_take (i := 6) (oi := _) (v := .pointer (some ⟨Bx, 3, none⟩)) rfl (by kernel_rfl) (by kernel_rfl) (by kernel_rfl) (fun _ _ _ h => h) (Or.inl ⟨by rfl, ?h7⟩) hS0 ?r7
                case h7 => (intro w hSw; (try dsimp only at hSw); obtain ⟨q0, q1, q2, q3, q4, q5, q6, q7, q8⟩ := hSw; go_simp; (try with_reducible rfl))
                simp only [Act.put]
                refine wpAnyH_take (i := 7) (oi := _) (v := .int .i64 Qn) rfl (by kernel_rfl) (by kernel_rfl) (by kernel_rfl) (fun _ _ _ h => h) (Or.inl ⟨by rfl, ?h8⟩) hS0 ?r8
                case h8 => (intro w hSw; (try dsimp only at hSw); obtain ⟨q0, q1, q2, q3, q4, q5, q6, q7, q8⟩ := hSw; go_simp; (try with_reducible rfl))
                simp only [Act.put]
                refine wpAnyH_take (i := 8) (oi := _) (v := .pointer (some ⟨b7, 1, none⟩)) rfl (by kernel_rfl) (by kernel_rfl) (by kernel_rfl) (fun _ _ _ h => h) (Or.inl ⟨by rfl, ?h9⟩) hS0 ?r9
                case h9 => (intro w hSw; (try dsimp only at hSw); obtain ⟨q0, q1, q2, q3, q4, q5, q6, q7, q8⟩ := hSw; go_simp; (try with_reducible rfl))
                simp only [Act.put]
                refine wpAnyH_take (i := 9) (oi := _) (v := .slice (some ⟨gb, 0, none⟩) N N) rfl (by kernel_rfl) (by kernel_rfl) (by kernel_rfl) (fun _ _ _ h => h) (Or.inl ⟨by rfl, ?h10⟩) hS0 ?r10
                case h10 => (intro w hSw; (try dsimp only at hSw); obtain ⟨q0, q1, q2, q3, q4, q5, q6, q7, q8⟩ := hSw; go_simp; (try with_reducible rfl))
                simp only [Act.put]
                refine wpAnyH_take (i := 10) (oi := _) (v := .pointer (some ⟨Bx, 3, none⟩)) rfl (by kernel_rfl) (by kernel_rfl) (by kernel_rfl) (fun _ _ _ h => h) (Or.inl ⟨by rfl, ?h11⟩) hS0 ?r11
                case h11 => (intro w hSw; (try dsimp only at hSw); obtain ⟨q0, q1, q2, q3, q4, q5, q6, q7, q8⟩ := hSw; go_simp; (try with_reducible rfl))
                simp only [Act.put]
                refine wpAnyH_take (i := 11) (oi := _) (v := .int .i64 Qn) rfl (by kernel_rfl) (by kernel_rfl) (by kernel_rfl) (fun _ _ _ h => h) (Or.inl ⟨by rfl, ?h12⟩) hS0 ?r12
                case h12 => (intro w hSw; (try dsimp only at hSw); obtain ⟨q0, q1, q2, q3, q4, q5, q6, q7, q8⟩ := hSw; go_simp; (try with_reducible rfl))
                simp only [Act.put]
                refine wpAnyH_take (i := 12) (oi := _) (v := .pointer (some ⟨b7, 0, none⟩)) rfl (by kernel_rfl) (by kernel_rfl) (by kernel_rfl) (fun _ _ _ h => h) (Or.inl ⟨by rfl, ?h13⟩) hS0 ?r13
                case h13 => (intro w hSw; (try dsimp only at hSw); obtain ⟨q0, q1, q2, q3, q4, q5, q6, q7, q8⟩ := hSw; go_simp; (try with_reducible rfl))
                simp only [Act.put]
                refine wpAnyH_take (i := 13) (oi := _) (v := .slice (some ⟨gf, 0, none⟩) N N) rfl (by kernel_rfl) (by kernel_rfl) (by kernel_rfl) (fun _ _ _ h => h) (Or.inl ⟨by rfl, ?h14⟩) hS0 ?r14
                case h14 => (intro w hSw; (try dsimp only at hSw); obtain ⟨q0, q1, q2, q3, q4, q5, q6, q7, q8⟩ := hSw; go_simp; (try with_reducible rfl))
                simp only [Act.put]
                refine wpAnyH_take (i := 14) (oi := _) (v := .pointer (some ⟨Bx, 2, none⟩)) rfl (by kernel_rfl) (by kernel_rfl) (by kernel_rfl) (fun _ _ _ h => h) (Or.inl ⟨by rfl, ?h15⟩) hS0 ?r15
                case h15 => (intro w hSw; (try dsimp only at hSw); obtain ⟨q0, q1, q2, q3, q4, q5, q6, q7, q8⟩ := hSw; go_simp; (try with_reducible rfl))
                simp only [Act.put]
                refine wpAnyH_take (i := 15) (oi := _) (v := .int .i64 Pn) rfl (by kernel_rfl) (by kernel_rfl) (by kernel_rfl) (fun _ _ _ h => h) (Or.inl ⟨by rfl, ?h16⟩) hS0 ?r16
                case h16 => (intro w hSw; (try dsimp only at hSw); obtain ⟨q0, q1, q2, q3, q4, q5, q6, q7, q8⟩ := hSw; go_simp; (try with_reducible rfl))
                simp only [Act.put]
                refine wpAnyH_take (i := 16) (oi := _) (v := .pointer (some ⟨gf, Pn, none⟩)) rfl (by kernel_rfl) (by kernel_rfl) (by kernel_rfl) (fun _ _ _ h => h) (Or.inl ⟨by rfl, ?h17⟩) hS0 ?r17
                case h17 => (intro w hSw; (try dsimp only at hSw); obtain ⟨q0, q1, q2, q3, q4, q5, q6, q7, q8⟩ := hSw; go_simp; (try with_reducible rfl))
                simp only [Act.put]
                refine wpAnyH_take (i := 17) (oi := _) (v := .int .i64 (t.f Pn)) rfl (by kernel_rfl) (by kernel_rfl) (by kernel_rfl) (fun _ _ _ h => h) (Or.inl ⟨by rfl, ?h18⟩) hS0 ?r18
                case h18 => (intro w hSw; (try dsimp only at hSw); obtain ⟨q0, q1, q2, q3, q4, q5, q6, q7, q8⟩ := hSw; go_simp; (try with_reducible rfl))
                simp only [Act.put]
                refine wpAnyH_take (i := 18) (oi := _) (v := .pointer (some ⟨Bx, 4, none⟩)) rfl (by kernel_rfl) (by kernel_rfl) (by kernel_rfl) (fun _ _ _ h => h) (Or.inl ⟨by rfl, ?h19⟩) hS0 ?r19
                case h19 => (intro w hSw; (try dsimp only at hSw); obtain ⟨q0, q1, q2, q3, q4, q5, q6, q7, q8⟩ := hSw; go_simp; (try with_reducible rfl))
                simp only [Act.put]
                refine wpAnyH_take (i := 19) (oi := _) (v := .int .i64 wt) rfl (by kernel_rfl) (by kernel_rfl) (by kernel_rfl) (fun _ _ _ h => h) (Or.inl ⟨by rfl, ?h20⟩) hS0 ?r20
                case h20 => (intro w hSw; (try dsimp only at hSw); obtain ⟨q0, q1, q2, q3, q4, q5, q6, q7, q8⟩ := hSw; go_simp; (try with_reducible rfl))
                simp only [Act.put]
                refine wpAnyH_take (i := 20) (oi := _) (v := .int .i64 (t.f Pn + wt)) rfl (by kernel_rfl) (by kernel_rfl) (by kernel_rfl) (fun _ _ _ h => h) (Or.inl ⟨by rfl, ?h21⟩) hS0 ?r21
                case h21 => (intro w hSw; (try dsimp only at hSw); obtain ⟨q0, q1, q2, q3, q4, q5, q6, q7, q8⟩ := hSw; go_simp; (try with_reducible rfl))
                simp only [Act.put]
                refine wpAnyH_take (i := 21) (oi := _) (v := .agg #[.int .i64 ix, .bool bk, .int .i64 Pn, .int .i64 Qn, .int .i64 wt]) rfl (by kernel_rfl) (by kernel_rfl) (by kernel_rfl) (fun _ _ _ h => h) (Or.inl ⟨by rfl, ?h22⟩) hS0 ?r22
                case h22 => (intro w hSw; (try dsimp only at hSw); obtain ⟨q0, q1, q2, q3, q4, q5, q6, q7, q8⟩ := hSw; go_simp; (try with_reducible rfl))
                simp only [Act.put]
                refine wpAnyH_take (i := 22) (oi := _) (v := .pointer (some ⟨Bx, 3, none⟩)) rfl (by kernel_rfl) (by kernel_rfl) (by kernel_rfl) (fun _ _ _ h => h) (Or.inl ⟨by rfl, ?h23⟩) hS0 ?r23
                case h23 => (intro w hSw; (try dsimp only at hSw); obtain ⟨q0, q1, q2, q3, q4, q5, q6, q7, q8⟩ := hSw; go_simp; (try with_reducible rfl))
                simp only [Act.put]
                refine wpAnyH_take (i := 23) (oi := _) (v := .int .i64 Qn) rfl (by kernel_rfl) (by kernel_rfl) (by kernel_rfl) (fun _ _ _ h => h) (Or.inl ⟨by rfl, ?h24⟩) hS0 ?r24
                case h24 => (intro w hSw; (try dsimp only at hSw); obtain ⟨q0, q1, q2, q3, q4, q5, q6, q7, q8⟩ := hSw; go_simp; (try with_reducible rfl))
                simp only [Act.put]
                refine wpAnyH_take (i := 24) (oi := _) (v := .pointer (some ⟨gs, Qn, none⟩)) rfl (by kernel_rfl) (by kernel_rfl) (by kernel_rfl) (fun _ _ _ h => h) (Or.inl ⟨by rfl, ?h25⟩) hS0 ?r25
                case h25 => (intro w hSw; (try dsimp only at hSw); obtain ⟨q0, q1, q2, q3, q4, q5, q6, q7, q8⟩ := hSw; go_simp; (try with_reducible rfl))
                simp only [Act.put]
                have d1 := HWd.out.cSeen hQ
                have d2 : Vd.frozen? ⟨gs, Qn, none⟩ = false := by obtain ⟨cur, h, _⟩ := HWd.out.seen; exact frozen_of h _
                refine wpAnyH_ready (rs := [25]) (by kernel_rfl) (by simp) ?_
                refine AllReadyH.cons (o := _) rfl (fun K hK => ?_) AllReadyH.nil
                go_simp
                refine hK.out _ _ (HkS.out Vd ⟨gs, Qn, none⟩ (.bool true) HNE.out.2.2.2.1.symm (by have := Hlt.out; have := Hs5.out; show gs ≠ Bx; omega) (fun e => absurd e HNE.out.2.2.2.2.2.2.2.2.1.symm) hS0) (fun hS1 => ?_)
                clear hK K
                (try simp only [Act.put, List.setIfInBounds_toArray, List.set_cons_zero, List.set_cons_succ])
                clear d1 d2 hS0
                have d1 : (Vd.setCell ⟨gs, Qn, none⟩ (.bool true)).cell? ⟨gf, Qn, none⟩ = some (.int .i64 (t.f Qn)) := (World.cell?_of_block (Below.heap_setCell _ _ _ _ HNE.out.2.2.2.2.2.2.2.2.1)).trans (HWd.out.cFar hQ)
                have d2 : (Vd.setCell ⟨gs, Qn, none⟩ (.bool true)).frozen? ⟨gf, Qn, none⟩ = false := frozen_of ((Below.heap_setCell _ _ _ _ HNE.out.2.2.2.2.2.2.2.2.1).trans HWd.out.far) _
                obtain ⟨V1, hV1⟩ : ∃ V1, Vd.setCell ⟨gs, Qn, none⟩ (.bool true) = V1 := ⟨_, rfl⟩
                rw [hV1] at hS1 d1 d2 ⊢
                have HV1 := Lib.hid hV1
                clear hV1
                refine wpAnyH_take (i := 26) (oi := _) (v := .pointer (some ⟨gf, Qn, none⟩)) rfl (by kernel_rfl) (by kernel_rfl) (by kernel_rfl) (fun _ _ _ h => h) (Or.inl ⟨by rfl, ?h26⟩) hS1 ?r26
                case h26 => (intro w hSw; (try dsimp only at hSw); obtain ⟨q0, q1, q2, q3, q4, q5, q6, q7, q8⟩ := hSw; go_simp; (try with_reducible rfl))
                simp only [Act.put, List.setIfInBounds_toArray]
                refine wpAnyH_ready (rs := [27]) (by kernel_rfl) (by simp) ?_
                refine AllReadyH.cons (o := _) rfl (fun K hK => ?_) AllReadyH.nil
                go_simp
                refine hK.out _ _ (HkS.out V1 ⟨gf, Qn, none⟩ (.int .i64 (t.f Pn + wt)) HNE.out.2.1.symm (by have := Hlt.out; have := Hs5.out; show gf ≠ Bx; omega) (fun _ => HzL.out.symm) hS1) (fun hS2 => ?_)
                clear hK K
                (try simp only [Act.put, List.setIfInBounds_toArray, List.set_cons_zero, List.set_cons_succ])
                clear d1 d2 hS1
                have e5 := aC_get t.by_ Qn (by rw [HWd.out.ok.by_]; exact hQ)
                have ey : aAt t.by_ Qn = t.y Qn := rfl
                rw [ey] at e5
                clear ey
                have hgb2 : (V1.setCell ⟨gf, Qn, none⟩ (.int .i64 (t.f Pn + wt))).heap[gb]? = some (.cells (aC t.by_).toArray 113 (0, 0)) := by
                  rw [← HV1.out, Below.heap_setCell _ _ _ _ (by exact HNE.out.2.2.2.2.2.2.2.1.symm), Below.heap_setCell _ _ _ _ (by exact HNE.out.2.2.2.2.2.2.2.2.2)]; exact HWd.out.by_
                have hb82 : (V1.setCell ⟨gf, Qn, none⟩ (.int .i64 (t.f Pn + wt))).heap[wc.heap.size]? = some (.cells #[.int .i64 t.last] 3 (0, 0)) := by
                  rw [← HV1.out, Below.heap_setCell _ _ _ _ (by exact HNE.out.2.2.2.2.1), Below.heap_setCell _ _ _ _ (by exact HNE.out.2.2.2.2.2.2.1)]; exact HWd.out.last
                obtain ⟨V2, hV2⟩ : ∃ V2, V1.setCell ⟨gf, Qn, none⟩ (.int .i64 (t.f Pn + wt)) = V2 := ⟨_, rfl⟩
                rw [hV2] at hS2 hgb2 hb82 ⊢
                have HV2 := Lib.hid hV2
                have Hb82 := Lib.hid hb82
                obtain ⟨e50, e51, e52, e53, e54⟩ := e5
                have d0 : V2.cell? ⟨gb, Qn * 5, none⟩ = some (.int .i64 (t.y Qn).ix) := cell_of hgb2 (by simpa using e50)
                have d1 : V2.cell? ⟨gb, Qn * 5 + 1, none⟩ = some (.bool (t.y Qn).bk) := cell_of hgb2 (by simpa using e51)
                have d2 : V2.cell? ⟨gb, Qn * 5 + 2, none⟩ = some (.int .i64 (t.y Qn).a) := cell_of hgb2 (by simpa using e52)
                have d3 : V2.cell? ⟨gb, Qn * 5 + 3, none⟩ = some (.int .i64 (t.y Qn).b) := cell_of hgb2 (by simpa using e53)
                have d4 : V2.cell? ⟨gb, Qn * 5 + 4, none⟩ = some (.int .i64 (t.y Qn).w) := cell_of hgb2 (by simpa using e54)
                have d5 := frozen_of hgb2 (Qn * 5)
                have d6 := frozen_of hgb2 (Qn * 5 + 1)
                have d7 := frozen_of hgb2 (Qn * 5 + 2)
                have d8 := frozen_of hgb2 (Qn * 5 + 3)
                have d9 := frozen_of hgb2 (Qn * 5 + 4)
                clear hV2 e50 e51 e52 e53 e54 hgb2 hb82
                refine wpAnyH_take (i := 28) (oi := _) (v := .pointer (some ⟨gb, (Qn * 5), none⟩)) rfl (by kernel_rfl) (by kernel_rfl) (by kernel_rfl) (fun _ _ _ h => h) (Or.inl ⟨by rfl, ?h27⟩) hS2 ?r27
                case h27 => (intro w hSw; (try dsimp only at hSw); obtain ⟨q0, q1, q2, q3, q4, q5, q6, q7, q8⟩ := hSw; go_simp; (try with_reducible rfl))
                simp only [Act.put, List.setIfInBounds_toArray]
                refine wpAnyH_ready (rs := [29]) (by kernel_rfl) (by simp) ?_
                refine AllReadyH.cons (o := _) rfl (fun K hK => ?_) AllReadyH.nil
                go_simp
                refine hK.out _ _ (HkG.out _ _ _ (HkG.out _ _ _ (HkG.out _ _ _ (HkG.out _ _ _ (HkG.out _ _ _ hS2))))) (fun hS3 => ?_)
                clear hK K
                (try simp only [Act.put, List.setIfInBounds_toArray, List.set_cons_zero, List.set_cons_succ])
                clear d0 d1 d2 d3 d4 d5 d6 d7 d8 d9 hS2
                have hb83 : (((((V2.setCell ⟨gb, Qn * 5, none⟩ (.int .i64 ix)).setCell ⟨gb, Qn * 5 + 1, none⟩ (.bool bk)).setCell ⟨gb, Qn * 5 + 2, none⟩ (.int .i64 Pn)).setCell ⟨gb, Qn * 5 + 3, none⟩ (.int .i64 Qn)).setCell ⟨gb, Qn * 5 + 4, none⟩ (.int .i64 wt)).heap[wc.heap.size]? = some (.cells #[.int .i64 t.last] 3 (0, 0)) := by
                  have hne8 := HNE.out.2.2.2.2.2.1
                  rw [Below.heap_setCell _ _ _ _ (by exact hne8), Below.heap_setCell _ _ _ _ (by exact hne8), Below.heap_setCell _ _ _ _ (by exact hne8), Below.heap_setCell _ _ _ _ (by exact hne8), Below.heap_setCell _ _ _ _ (by exact hne8)]; exact Hb82.out
                obtain ⟨V3, hV3⟩ : ∃ V3, ((((V2.setCell ⟨gb, Qn * 5, none⟩ (.int .i64 ix)).setCell ⟨gb, Qn * 5 + 1, none⟩ (.bool bk)).setCell ⟨gb, Qn * 5 + 2, none⟩ (.int .i64 Pn)).setCell ⟨gb, Qn * 5 + 3, none⟩ (.int .i64 Qn)).setCell ⟨gb, Qn * 5 + 4, none⟩ (.int .i64 wt) = V3 := ⟨_, rfl⟩
                rw [hV3] at hS3 hb83 ⊢
                have HV3 := Lib.hid hV3
                have d0 := cell_of hb83 (j := 0) (v := .int .i64 t.last) rfl
                have d1 := frozen_of hb83 0
                clear hV3 hb83
                refine wpAnyH_ready (rs := [30]) (by kernel_rfl) (by simp) ?_
                refine AllReadyH.cons (o := _) rfl (fun K hK => ?_) AllReadyH.nil
                go_simp
                refine hK.out _ _ (HkS.out V3 ⟨wc.heap.size, 0, none⟩ (.int .i64 Qn) HNE.out.1.symm (by have := Hs5.out; show wc.heap.size ≠ Bx; omega) (fun e => absurd e HNE.out.2.2.2.2.1) hS3) (fun hS4 => ?_)
                clear hK K
                (try simp only [Act.put, List.setIfInBounds_toArray, List.set_cons_zero, List.set_cons_succ])
                clear d0 d1 hS3
                refine wpAnyH_done (by kernel_rfl) ?_ _
                clear hS4
                gi_wp2
                have hput := HWd.out.put HNE.out (x := ⟨ix, bk, Pn, Qn, wt⟩) hQ
                rw [HV1.out, HV2.out, HV3.out] at hput
                have hkk : ∀ k, k ≠ gs → k ≠ gf → k ≠ gb → k ≠ wc.heap.size → (V3.setCell ⟨wc.heap.size, 0, none⟩ (.int .i64 Qn)).heap[k]? = V.heap[k]? := fun k h1 h2 h3 h4 => by
                  rw [← HV3.out, ← HV2.out, ← HV1.out, Below.heap_setCell _ _ _ _ (by exact h4), Below.heap_setCell _ _ _ _ (by exact h3), Below.heap_setCell _ _ _ _ (by exact h3), Below.heap_setCell _ _ _ _ (by exact h3), Below.heap_setCell _ _ _ _ (by exact h3), Below.heap_setCell _ _ _ _ (by exact h3), Below.heap_setCell _ _ _ _ (by exact h2), Below.heap_setCell _ _ _ _ (by exact h1), HHd.out]
                have hss : (V3.setCell ⟨wc.heap.size, 0, none⟩ (.int .i64 Qn)).heap.size = V.heap.size := by
                  rw [← HV3.out, ← HV2.out, ← HV1.out, World.size_setCell, World.size_setCell, World.size_setCell, World.size_setCell, World.size_setCell, World.size_setCell, World.size_setCell, World.size_setCell, HHd.out]
                have l1 := Hlt.out
                have l2 := Hs5.out
                have l3 := Hlo.out
                have hBe : Below w1.heap.size w1 (V3.setCell ⟨wc.heap.size, 0, none⟩ (.int .i64 Qn)) := by
                  rw [← HV3.out, ← HV2.out, ← HV1.out]
                  exact (((((((HBd.out.setCell (p := ⟨gs, Qn, none⟩) l3.2.2.2 _).setCell (p := ⟨gf, Qn, none⟩) l3.2.1 _).setCell (p := ⟨gb, _, none⟩) l3.2.2.1 _).setCell (p := ⟨gb, _, none⟩) l3.2.2.1 _).setCell (p := ⟨gb, _, none⟩) l3.2.2.1 _).setCell (p := ⟨gb, _, none⟩) l3.2.2.1 _).setCell (p := ⟨gb, _, none⟩) l3.2.2.1 _).setCell (p := ⟨wc.heap.size, 0, none⟩) hws _
                refine HKF.out _ _ hhit.out hput hBe ⟨by omega, fun k h1 h2 => hkk k (by omega) (by omega) (by omega) (by omega)⟩ ?_
                intro k hk
                have := HBo.out k hk
                exact hkk k (by omega) (by omega) (by omega) (by omega)
            | false =>
              have hhit : Hid (t.hit ⟨ix, bk, Pn, Qn, wt⟩ = true) := by unfold Hid; rw [hiff.out]; rfl
              gi_wp2
              refine region_round_quiet_lit (by kernel_rfl) (by kernel_rfl) (by kernel_rfl) rfl ?_
              repeat (gi_big_quiet_step (fail))
              refine wpQuietIn_nil ?_
              intro _ hw'
              obtain ⟨nq, hw''⟩ := hw'
              subst hw''
              gi_wp2
              refine region_round_held (fun w' => w'.cell? ⟨b7, 0, none⟩ = some (.slice (some ⟨gf, 0, none⟩) N N) ∧ w'.cell? ⟨b7, 1, none⟩ = some (.slice (some ⟨gb, 0, none⟩) N N) ∧ w'.cell? ⟨b7, 2, none⟩ = some (.slice (some ⟨gs, 0, none⟩) N sc) ∧ w'.cell? ⟨Bx, 0, none⟩ = some (.int .i64 ix) ∧ w'.cell? ⟨Bx, 1, none⟩ = some (.bool bk) ∧ w'.cell? ⟨Bx, 2, none⟩ = some (.int .i64 Pn) ∧ w'.cell? ⟨Bx, 3, none⟩ = some (.int .i64 Qn) ∧ w'.cell? ⟨Bx, 4, none⟩ = some (.int .i64 wt) ∧ w'.cell? ⟨gf, Pn, none⟩ = some (.int .i64 (t.f Pn))) (by kernel_rfl) (by kernel_rfl) (fun ⟨_, _, h⟩ => h) ⟨b0, b1, b2, x0, x1, x2, x3, x4, fP⟩ (fun hS0 => ?_)
              have hWd : WyAt (V.drewN nq).drew b7 wc.heap.size gf gb gs sc N t := hW'.out.below ⟨rfl, rfl, rfl, Nat.le_refl _, fun _ _ => rfl⟩
              have hBd : Below w1.heap.size w1 (V.drewN nq).drew := hB.out.trans ⟨rfl, rfl, rfl, Nat.le_refl _, fun _ _ => rfl⟩
              have HHd : Hid ((V.drewN nq).drew.heap = V.heap) := rfl
              obtain ⟨Vd, hVd⟩ : ∃ Vd, (V.drewN nq).drew = Vd := ⟨_, rfl⟩
              rw [hVd] at hS0 hWd hBd HHd ⊢
              have HWd := Lib.hid hWd
              have HBd := Lib.hid hBd
              clear hWd hBd hVd b0 b1 b2 x0 x1 x2 x3 x4 sP sQ fP fQ
              refine wpAnyH_take (i := 0) (oi := _) (v := .pointer (some ⟨b7, 2, none⟩)) rfl (by kernel_rfl) (by kernel_rfl) (by kernel_rfl) (fun _ _ _ h => h) (Or.inl ⟨by rfl, ?h28⟩) hS0 ?r28
              case h28 => (intro w hSw; (try dsimp only at hSw); obtain ⟨q0, q1, q2, q3, q4, q5, q6, q7, q8⟩ := hSw; go_simp; (try with_reducible rfl))
              simp only [Act.put, List.setIfInBounds_toArray]
              refine wpAnyH_take (i := 1) (oi := _) (v := .slice (some ⟨gs, 0, none⟩) N sc) rfl (by kernel_rfl) (by kernel_rfl) (by kernel_rfl) (fun _ _ _ h => h) (Or.inl ⟨by rfl, ?h29⟩) hS0 ?r29
              case h29 => (intro w hSw; (try dsimp only at hSw); obtain ⟨q0, q1, q2, q3, q4, q5, q6, q7, q8⟩ := hSw; go_simp; (try with_reducible rfl))
              simp only [Act.put]
              refine wpAnyH_take (i := 2) (oi := _) (v := .pointer (some ⟨Bx, 3, none⟩)) rfl (by kernel_rfl) (by kernel_rfl) (by kernel_rfl) (fun _ _ _ h => h) (Or.inl ⟨by rfl, ?h30⟩) hS0 ?r30
              case h30 => (intro w hSw; (try dsimp only at hSw); obtain ⟨q0, q1, q2, q3, q4, q5, q6, q7, q8⟩ := hSw; go_simp; (try with_reducible rfl))
              simp only [Act.put]
              refine wpAnyH_take (i := 3) (oi := _) (v := .int .i64 Qn) rfl (by kernel_rfl) (by kernel_rfl) (by kernel_rfl) (fun _ _ _ h => h) (Or.inl ⟨by rfl, ?h31⟩) hS0 ?r31
              case h31 => (intro w hSw; (try dsimp only at hSw); obtain ⟨q0, q1, q2, q3, q4, q5, q6, q7, q8⟩ := hSw; go_simp; (try with_reducible rfl))
              simp only [Act.put]
              refine wpAnyH_take (i := 4) (oi := _) (v := .pointer (some ⟨b7, 0, none⟩)) rfl (by kernel_rfl) (by kernel_rfl) (by kernel_rfl) (fun _ _ _ h => h) (Or.inl ⟨by rfl, ?h32⟩) hS0 ?r32
              case h32 => (intro w hSw; (try dsimp only at hSw); obtain ⟨q0, q1, q2, q3, q4, q5, q6, q7, q8⟩ := hSw; go_simp; (try with_reducible rfl))
              simp only [Act.put]
              refine wpAnyH_take (i := 5) (oi := _) (v := .slice (some ⟨gf, 0, none⟩) N N) rfl (by kernel_rfl) (by kernel_rfl) (by kernel_rfl) (fun _ _ _ h => h) (Or.inl ⟨by rfl, ?h33⟩) hS0 ?r33
              case h33 => (intro w hSw; (try dsimp only at hSw); obtain ⟨q0, q1, q2, q3, q4, q5, q6, q7, q8⟩ := hSw; go_simp; (try with_reducible rfl))
              simp only [Act.put]
              refine wpAnyH_take (i := 6) (oi := _) (v := .pointer (some ⟨Bx, 3, none⟩)) rfl (by kernel_rfl) (by kernel_rfl) (by kernel_rfl) (fun _ _ _ h => h) (Or.inl ⟨by rfl, ?h34⟩) hS0 ?r34
              case h34 => (intro w hSw; (try dsimp only at hSw); obtain ⟨q0, q1, q2, q3, q4, q5, q6, q7, q8⟩ := hSw; go_simp; (try with_reducible rfl))
              simp only [Act.put]
              refine wpAnyH_take (i := 7) (oi := _) (v := .int .i64 Qn) rfl (by kernel_rfl) (by kernel_rfl) (by kernel_rfl) (fun _ _ _ h => h) (Or.inl ⟨by rfl, ?h35⟩) hS0 ?r35
              case h35 => (intro w hSw; (try dsimp only at hSw); obtain ⟨q0, q1, q2, q3, q4, q5, q6, q7, q8⟩ := hSw; go_simp; (try with_reducible rfl))
              simp only [Act.put]
              refine wpAnyH_take (i := 8) (oi := _) (v := .pointer (some ⟨b7, 1, none⟩)) rfl (by kernel_rfl) (by kernel_rfl) (by kernel_rfl) (fun _ _ _ h => h) (Or.inl ⟨by rfl, ?h36⟩) hS0 ?r36
              case h36 => (intro w hSw; (try dsimp only at hSw); obtain ⟨q0, q1, q2, q3, q4, q5, q6, q7, q8⟩ := hSw; go_simp; (try with_reducible rfl))
              simp only [Act.put]
              refine wpAnyH_take (i := 9) (oi := _) (v := .slice (some ⟨gb, 0, none⟩) N N) rfl (by kernel_rfl) (by kernel_rfl) (by kernel_rfl) (fun _ _ _ h => h) (Or.inl ⟨by rfl, ?h37⟩) hS0 ?r37
              case h37 => (intro w hSw; (try dsimp only at hSw); obtain ⟨q0, q1, q2, q3, q4, q5, q6, q7, q8⟩ := hSw; go_simp; (try with_reducible rfl))
              simp only [Act.put]
              refine wpAnyH_take (i := 10) (oi := _) (v := .pointer (some ⟨Bx, 3, none⟩)) rfl (by kernel_rfl) (by kernel_rfl) (by kernel_rfl) (fun _ _ _ h => h) (Or.inl ⟨by rfl, ?h38⟩) hS0 ?r38
              case h38 => (intro w hSw; (try dsimp only at hSw); obtain ⟨q0, q1, q2, q3, q4, q5, q6, q7, q8⟩ := hSw; go_simp; (try with_reducible rfl))
              simp only [Act.put]
              refine wpAnyH_take (i := 11) (oi := _) (v := .int .i64 Qn) rfl (by kernel_rfl) (by kernel_rfl) (by kernel_rfl) (fun _ _ _ h => h) (Or.inl ⟨by rfl, ?h39⟩) hS0 ?r39
              case h39 => (intro w hSw; (try dsimp only at hSw); obtain ⟨q0, q1, q2, q3, q4, q5, q6, q7, q8⟩ := hSw; go_simp; (try with_reducible rfl))
              simp only [Act.put]
              refine wpAnyH_take (i := 12) (oi := _) (v := .pointer (some ⟨b7, 0, none⟩)) rfl (by kernel_rfl) (by kernel_rfl) (by kernel_rfl) (fun _ _ _ h => h) (Or.inl ⟨by rfl, ?h40⟩) hS0 ?r40
              case h40 => (intro w hSw; (try dsimp only at hSw); obtain ⟨q0, q1, q2, q3, q4, q5, q6, q7, q8⟩ := hSw; go_simp; (try with_reducible rfl))
              simp only [Act.put]
              refine wpAnyH_take (i := 13) (oi := _) (v := .slice (some ⟨gf, 0, none⟩) N N) rfl (by kernel_rfl) (by kernel_rfl) (by kernel_rfl) (fun _ _ _ h => h) (Or.inl ⟨by rfl, ?h41⟩) hS0 ?r41
              case h41 => (intro w hSw; (try dsimp only at hSw); obtain ⟨q0, q1, q2, q3, q4, q5, q6, q7, q8⟩ := hSw; go_simp; (try with_reducible rfl))
              simp only [Act.put]
              refine wpAnyH_take (i := 14) (oi := _) (v := .pointer (some ⟨Bx, 2, none⟩)) rfl (by kernel_rfl) (by kernel_rfl) (by kernel_rfl) (fun _ _ _ h => h) (Or.inl ⟨by rfl, ?h42⟩) hS0 ?r42
              case h42 => (intro w hSw; (try dsimp only at hSw); obtain ⟨q0, q1, q2, q3, q4, q5, q6, q7, q8⟩ := hSw; go_simp; (try with_reducible rfl))
              simp only [Act.put]
              refine wpAnyH_take (i := 15) (oi := _) (v := .int .i64 Pn) rfl (by kernel_rfl) (by kernel_rfl) (by kernel_rfl) (fun _ _ _ h => h) (Or.inl ⟨by rfl, ?h43⟩) hS0 ?r43
              case h43 => (intro w hSw; (try dsimp only at hSw); obtain ⟨q0, q1, q2, q3, q4, q5, q6, q7, q8⟩ := hSw; go_simp; (try with_reducible rfl))
              simp only [Act.put]
              refine wpAnyH_take (i := 16) (oi := _) (v := .pointer (some ⟨gf, Pn, none⟩)) rfl (by kernel_rfl) (by kernel_rfl) (by kernel_rfl) (fun _ _ _ h => h) (Or.inl ⟨by rfl, ?h44⟩) hS0 ?r44
              case h44 => (intro w hSw; (try dsimp only at hSw); obtain ⟨q0, q1, q2, q3, q4, q5, q6, q7, q8⟩ := hSw; go_simp; (try with_reducible rfl))
              simp only [Act.put]
              refine wpAnyH_take (i := 17) (oi := _) (v := .int .i64 (t.f Pn)) rfl (by kernel_rfl) (by kernel_rfl) (by kernel_rfl) (fun _ _ _ h => h) (Or.inl ⟨by rfl, ?h45⟩) hS0 ?r45
              case h45 => (intro w hSw; (try dsimp only at hSw); obtain ⟨q0, q1, q2, q3, q4, q5, q6, q7, q8⟩ := hSw; go_simp; (try with_reducible rfl))
              simp only [Act.put]
              refine wpAnyH_take (i := 18) (oi := _) (v := .pointer (some ⟨Bx, 4, none⟩)) rfl (by kernel_rfl) (by kernel_rfl) (by kernel_rfl) (fun _ _ _ h => h) (Or.inl ⟨by rfl, ?h46⟩) hS0 ?r46
              case h46 => (intro w hSw; (try dsimp only at hSw); obtain ⟨q0, q1, q2, q3, q4, q5, q6, q7, q8⟩ := hSw; go_simp; (try with_reducible rfl))
              simp only [Act.put]
              refine wpAnyH_take (i := 19) (oi := _) (v := .int .i64 wt) rfl (by kernel_rfl) (by kernel_rfl) (by kernel_rfl) (fun _ _ _ h => h) (Or.inl ⟨by rfl, ?h47⟩) hS0 ?r47
              case h47 => (intro w hSw; (try dsimp only at hSw); obtain ⟨q0, q1, q2, q3, q4, q5, q6, q7, q8⟩ := hSw; go_simp; (try with_reducible rfl))
              simp only [Act.put]
              refine wpAnyH_take (i := 20) (oi := _) (v := .int .i64 (t.f Pn + wt)) rfl (by kernel_rfl) (by kernel_rfl) (by kernel_rfl) (fun _ _ _ h => h) (Or.inl ⟨by rfl, ?h48⟩) hS0 ?r48
              case h48 => (intro w hSw; (try dsimp only at hSw); obtain ⟨q0, q1, q2, q3, q4, q5, q6, q7, q8⟩ := hSw; go_simp; (try with_reducible rfl))
              simp only [Act.put]
              refine wpAnyH_take (i := 21) (oi := _) (v := .agg #[.int .i64 ix, .bool bk, .int .i64 Pn, .int .i64 Qn, .int .i64 wt]) rfl (by kernel_rfl) (by kernel_rfl) (by kernel_rfl) (fun _ _ _ h => h) (Or.inl ⟨by rfl, ?h49⟩) hS0 ?r49
              case h49 => (intro w hSw; (try dsimp only at hSw); obtain ⟨q0, q1, q2, q3, q4, q5, q6, q7, q8⟩ := hSw; go_simp; (try with_reducible rfl))
              simp only [Act.put]
              refine wpAnyH_take (i := 22) (oi := _) (v := .pointer (some ⟨Bx, 3, none⟩)) rfl (by kernel_rfl) (by kernel_rfl) (by kernel_rfl) (fun _ _ _ h => h) (Or.inl ⟨by rfl, ?h50⟩) hS0 ?r50
              case h50 => (intro w hSw; (try dsimp only at hSw); obtain ⟨q0, q1, q2, q3, q4, q5, q6, q7, q8⟩ := hSw; go_simp; (try with_reducible rfl))
              simp only [Act.put]
              refine wpAnyH_take (i := 23) (oi := _) (v := .int .i64 Qn) rfl (by kernel_rfl) (by kernel_rfl) (by kernel_rfl) (fun _ _ _ h => h) (Or.inl ⟨by rfl, ?h51⟩) hS0 ?r51
              case h51 => (intro w hSw; (try dsimp only at hSw); obtain ⟨q0, q1, q2, q3, q4, q5, q6, q7, q8⟩ := hSw; go_simp; (try with_reducible rfl))
              simp only [Act.put]
              refine wpAnyH_take (i := 24) (oi := _) (v := .pointer (some ⟨gs, Qn, none⟩)) rfl (by kernel_rfl) (by kernel_rfl) (by kernel_rfl) (fun _ _ _ h => h) (Or.inl ⟨by rfl, ?h52⟩) hS0 ?r52
              case h52 => (intro w hSw; (try dsimp only at hSw); obtain ⟨q0, q1, q2, q3, q4, q5, q6, q7, q8⟩ := hSw; go_simp; (try with_reducible rfl))
              simp only [Act.put]
              have d1 := HWd.out.cSeen hQ
              have d2 : Vd.frozen? ⟨gs, Qn, none⟩ = false := by obtain ⟨cur, h, _⟩ := HWd.out.seen; exact frozen_of h _
              refine wpAnyH_ready (rs := [25]) (by kernel_rfl) (by simp) ?_
              refine AllReadyH.cons (o := _) rfl (fun K hK => ?_) AllReadyH.nil
              go_simp
              refine hK.out _ _ (HkS.out Vd ⟨gs, Qn, none⟩ (.bool true) HNE.out.2.2.2.1.symm (by have := Hlt.out; have := Hs5.out; show gs ≠ Bx; omega) (fun e => absurd e HNE.out.2.2.2.2.2.2.2.2.1.symm) hS0) (fun hS1 => ?_)
              clear hK K
              (try simp only [Act.put, List.setIfInBounds_toArray, List.set_cons_zero, List.set_cons_succ])
              clear d1 d2 hS0
              have d1 : (Vd.setCell ⟨gs, Qn, none⟩ (.bool true)).cell? ⟨gf, Qn, none⟩ = some (.int .i64 (t.f Qn)) := (World.cell?_of_block (Below.heap_setCell _ _ _ _ HNE.out.2.2.2.2.2.2.2.2.1)).trans (HWd.out.cFar hQ)
              have d2 : (Vd.setCell ⟨gs, Qn, none⟩ (.bool true)).frozen? ⟨gf, Qn, none⟩ = false := frozen_of ((Below.heap_setCell _ _ _ _ HNE.out.2.2.2.2.2.2.2.2.1).trans HWd.out.far) _
              obtain ⟨V1, hV1⟩ : ∃ V1, Vd.setCell ⟨gs, Qn, none⟩ (.bool true) = V1 := ⟨_, rfl⟩
              rw [hV1] at hS1 d1 d2 ⊢
              have HV1 := Lib.hid hV1
              clear hV1
              refine wpAnyH_take (i := 26) (oi := _) (v := .pointer (some ⟨gf, Qn, none⟩)) rfl (by kernel_rfl) (by kernel_rfl) (by kernel_rfl) (fun _ _ _ h => h) (Or.inl ⟨by rfl, ?h53⟩) hS1 ?r53
              case h53 => (intro w hSw; (try dsimp only at hSw); obtain ⟨q0, q1, q2, q3, q4, q5, q6, q7, q8⟩ := hSw; go_simp; (try with_reducible rfl))
              simp only [Act.put, List.setIfInBounds_toArray]
              refine wpAnyH_ready (rs := [27]) (by kernel_rfl) (by simp) ?_
              refine AllReadyH.cons (o := _) rfl (fun K hK => ?_) AllReadyH.nil
              go_simp
              refine hK.out _ _ (HkS.out V1 ⟨gf, Qn, none⟩ (.int .i64 (t.f Pn + wt)) HNE.out.2.1.symm (by have := Hlt.out; have := Hs5.out; show gf ≠ Bx; omega) (fun _ => HzL.out.symm) hS1) (fun hS2 => ?_)
              clear hK K
              (try simp only [Act.put, List.setIfInBounds_toArray, List.set_cons_zero, List.set_cons_succ])
              clear d1 d2 hS1
              have e5 := aC_get t.by_ Qn (by rw [HWd.out.ok.by_]; exact hQ)
              have ey : aAt t.by_ Qn = t.y Qn := rfl
              rw [ey] at e5
              clear ey
              have hgb2 : (V1.setCell ⟨gf, Qn, none⟩ (.int .i64 (t.f Pn + wt))).heap[gb]? = some (.cells (aC t.by_).toArray 113 (0, 0)) := by
                rw [← HV1.out, Below.heap_setCell _ _ _ _ (by exact HNE.out.2.2.2.2.2.2.2.1.symm), Below.heap_setCell _ _ _ _ (by exact HNE.out.2.2.2.2.2.2.2.2.2)]; exact HWd.out.by_
              have hb82 : (V1.setCell ⟨gf, Qn, none⟩ (.int .i64 (t.f Pn + wt))).heap[wc.heap.size]? = some (.cells #[.int .i64 t.last] 3 (0, 0)) := by
                rw [← HV1.out, Below.heap_setCell _ _ _ _ (by exact HNE.out.2.2.2.2.1), Below.heap_setCell _ _ _ _ (by exact HNE.out.2.2.2.2.2.2.1)]; exact HWd.out.last
              obtain ⟨V2, hV2⟩ : ∃ V2, V1.setCell ⟨gf, Qn, none⟩ (.int .i64 (t.f Pn + wt)) = V2 := ⟨_, rfl⟩
              rw [hV2] at hS2 hgb2 hb82 ⊢
              have HV2 := Lib.hid hV2
              have Hb82 := Lib.hid hb82
              obtain ⟨e50, e51, e52, e53, e54⟩ := e5
              have d0 : V2.cell? ⟨gb, Qn * 5, none⟩ = some (.int .i64 (t.y Qn).ix) := cell_of hgb2 (by simpa using e50)
              have d1 : V2.cell? ⟨gb, Qn * 5 + 1, none⟩ = some (.bool (t.y Qn).bk) := cell_of hgb2 (by simpa using e51)
              have d2 : V2.cell? ⟨gb, Qn * 5 + 2, none⟩ = some (.int .i64 (t.y Qn).a) := cell_of hgb2 (by simpa using e52)
              have d3 : V2.cell? ⟨gb, Qn * 5 + 3, none⟩ = some (.int .i64 (t.y Qn).b) := cell_of hgb2 (by simpa using e53)
              have d4 : V2.cell? ⟨gb, Qn * 5 + 4, none⟩ = some (.int .i64 (t.y Qn).w) := cell_of hgb2 (by simpa using e54)
              have d5 := frozen_of hgb2 (Qn * 5)
              have d6 := frozen_of hgb2 (Qn * 5 + 1)
              have d7 := frozen_of hgb2 (Qn * 5 + 2)
              have d8 := frozen_of hgb2 (Qn * 5 + 3)
              have d9 := frozen_of hgb2 (Qn * 5 + 4)
              clear hV2 e50 e51 e52 e53 e54 hgb2 hb82
              refine wpAnyH_take (i := 28) (oi := _) (v := .pointer (some ⟨gb, (Qn * 5), none⟩)) rfl (by kernel_rfl) (by kernel_rfl) (by kernel_rfl) (fun _ _ _ h => h) (Or.inl ⟨by rfl, ?h54⟩) hS2 ?r54
              case h54 => (intro w hSw; (try dsimp only at hSw); obtain ⟨q0, q1, q2, q3, q4, q5, q6, q7, q8⟩ := hSw; go_simp; (try with_reducible rfl))
              simp only [Act.put, List.setIfInBounds_toArray]
              refine wpAnyH_ready (rs := [29]) (by kernel_rfl) (by simp) ?_
              refine AllReadyH.cons (o := _) rfl (fun K hK => ?_) AllReadyH.nil
              go_simp
              refine hK.out _ _ (HkG.out _ _ _ (HkG.out _ _ _ (HkG.out _ _ _ (HkG.out _ _ _ (HkG.out _ _ _ hS2))))) (fun hS3 => ?_)
              clear hK K
              (try simp only [Act.put, List.setIfInBounds_toArray, List.set_cons_zero, List.set_cons_succ])
              clear d0 d1 d2 d3 d4 d5 d6 d7 d8 d9 hS2
              have hb83 : (((((V2.setCell ⟨gb, Qn * 5, none⟩ (.int .i64 ix)).setCell ⟨gb, Qn * 5 + 1, none⟩ (.bool bk)).setCell ⟨gb, Qn * 5 + 2, none⟩ (.int .i64 Pn)).setCell ⟨gb, Qn * 5 + 3, none⟩ (.int .i64 Qn)).setCell ⟨gb, Qn * 5 + 4, none⟩ (.int .i64 wt)).heap[wc.heap.size]? = some (.cells #[.int .i64 t.last] 3 (0, 0)) := by
                have hne8 := HNE.out.2.2.2.2.2.1
                rw [Below.heap_setCell _ _ _ _ (by exact hne8), Below.heap_setCell _ _ _ _ (by exact hne8), Below.heap_setCell _ _ _ _ (by exact hne8), Below.heap_setCell _ _ _ _ (by exact hne8), Below.heap_setCell _ _ _ _ (by exact hne8)]; exact Hb82.out
              obtain ⟨V3, hV3⟩ : ∃ V3, ((((V2.setCell ⟨gb, Qn * 5, none⟩ (.int .i64 ix)).setCell ⟨gb, Qn * 5 + 1, none⟩ (.bool bk)).setCell ⟨gb, Qn * 5 + 2, none⟩ (.int .i64 Pn)).setCell ⟨gb, Qn * 5 + 3, none⟩ (.int .i64 Qn)).setCell ⟨gb, Qn * 5 + 4, none⟩ (.int .i64 wt) = V3 := ⟨_, rfl⟩
              rw [hV3] at hS3 hb83 ⊢
              have HV3 := Lib.hid hV3
              have d0 := cell_of hb83 (j := 0) (v := .int .i64 t.last) rfl
              have d1 := frozen_of hb83 0
              clear hV3 hb83
              refine wpAnyH_ready (rs := [30]) (by kernel_rfl) (by simp) ?_
              refine AllReadyH.cons (o := _) rfl (fun K hK => ?_) AllReadyH.nil
              go_simp
              refine hK.out _ _ (HkS.out V3 ⟨wc.heap.size, 0, none⟩ (.int .i64 Qn) HNE.out.1.symm (by have := Hs5.out; show wc.heap.size ≠ Bx; omega) (fun e => absurd e HNE.out.2.2.2.2.1) hS3) (fun hS4 => ?_)
              clear hK K
              (try simp only [Act.put, List.setIfInBounds_toArray, List.set_cons_zero, List.set_cons_succ])
              clear d0 d1 hS3
              refine wpAnyH_done (by kernel_rfl) ?_ _
              clear hS4
              gi_wp2
              have hput := HWd.out.put HNE.out (x := ⟨ix, bk, Pn, Qn, wt⟩) hQ
              rw [HV1.out, HV2.out, HV3.out] at hput
              have hkk : ∀ k, k ≠ gs → k ≠ gf → k ≠ gb → k ≠ wc.heap.size → (V3.setCell ⟨wc.heap.size, 0, none⟩ (.int .i64 Qn)).heap[k]? = V.heap[k]? := fun k h1 h2 h3 h4 => by
                rw [← HV3.out, ← HV2.out, ← HV1.out, Below.heap_setCell _ _ _ _ (by exact h4), Below.heap_setCell _ _ _ _ (by exact h3), Below.heap_setCell _ _ _ _ (by exact h3), Below.heap_setCell _ _ _ _ (by exact h3), Below.heap_setCell _ _ _ _ (by exact h3), Below.heap_setCell _ _ _ _ (by exact h3), Below.heap_setCell _ _ _ _ (by exact h2), Below.heap_setCell _ _ _ _ (by exact h1), HHd.out]
              have hss : (V3.setCell ⟨wc.heap.size, 0, none⟩ (.int .i64 Qn)).heap.size = V.heap.size := by
                rw [← HV3.out, ← HV2.out, ← HV1.out, World.size_setCell, World.size_setCell, World.size_setCell, World.size_setCell, World.size_setCell, World.size_setCell, World.size_setCell, World.size_setCell, HHd.out]
              have l1 := Hlt.out
              have l2 := Hs5.out
              have l3 := Hlo.out
              have hBe : Below w1.heap.size w1 (V3.setCell ⟨wc.heap.size, 0, none⟩ (.int .i64 Qn)) := by
                rw [← HV3.out, ← HV2.out, ← HV1.out]
                exact (((((((HBd.out.setCell (p := ⟨gs, Qn, none⟩) l3.2.2.2 _).setCell (p := ⟨gf, Qn, none⟩) l3.2.1 _).setCell (p := ⟨gb, _, none⟩) l3.2.2.1 _).setCell (p := ⟨gb, _, none⟩) l3.2.2.1 _).setCell (p := ⟨gb, _, none⟩) l3.2.2.1 _).setCell (p := ⟨gb, _, none⟩) l3.2.2.1 _).setCell (p := ⟨gb, _, none⟩) l3.2.2.1 _).setCell (p := ⟨wc.heap.size, 0, none⟩) hws _
              refine HKF.out _ _ hhit.out hput hBe ⟨by omega, fun k h1 h2 => hkk k (by omega) (by omega) (by omega) (by omega)⟩ ?_
              intro k hk
              have := HBo.out k hk
              exact hkk k (by omega) (by omega) (by omega) (by omega)
        case done =>
          rintro D V hD ⟨hW, hB, hM⟩ hK
          have hM2 : Marks (wc.heap.size + 1) V (D :: L) := hM.out.cons (N := W5.heap.size) (fun D' h' => by have := HM.out.lt h'; have := Hs5.out; omega) hD (by have := Hs5.out; omega) hK
          have hW2 : WyAt V b7 wc.heap.size gf gb gs sc N (s.round (arX vs ax)) := hW.out
          have hRs := HRu.out
          rw [show N + 1 - r = (N - r) + 1 from by omega, Bf.run] at hRs
          have hF2 : Fb (s.round (arX vs ax)) (100000 * ((r + 1) * (arX vs ax).length)) := by
            have h := Fb.fold hAW.out hAN.out (arX vs ax) { s with last := -1 } _ HF.out ⟨HW.out.ok.far, HW.out.ok.seen, HW.out.ok.by_⟩ (fun x hx => hx)
            have e : (r + 1) * (arX vs ax).length = r * (arX vs ax).length + (arX vs ax).length := by rw [Nat.add_mul, Nat.one_mul]
            rw [e, Nat.mul_add]; exact h
          obtain ⟨t, ht⟩ : ∃ t, s.round (arX vs ax) = t := ⟨_, rfl⟩
          rw [ht] at hW2 hRs hF2
          have HW2 := Lib.hid hW2
          have HM2 := Lib.hid hM2
          have HF2 := Lib.hid hF2
          have e1 := cell_of hW2.last (j := 0) (v := .int .i64 t.last) rfl
          clear hW hM hW2 hM2 hF2 ht hK
          by_cases hlast : t.last < 0
          · rw [if_pos hlast] at hRs
            have hX1 : Hid (X = (t, true)) := hRs.symm
            have y0 := cell_of HW2.out.box (j := 0) (v := .slice (some ⟨gf, 0, none⟩) N N) rfl
            have y1 := cell_of HW2.out.box (j := 1) (v := .slice (some ⟨gb, 0, none⟩) N N) rfl
            have y2 := cell_of HW2.out.box (j := 2) (v := .slice (some ⟨gs, 0, none⟩) N sc) rfl
            have hX4 := (hB.out.block _ s1).trans X1.out
            have z0 := cell_of hX4 (j := 0) (v := .slice none 0 0) rfl
            have z1 := cell_of hX4 (j := 1) (v := .slice none 0 0) rfl
            have z2 := cell_of hX4 (j := 2) (v := .slice none 0 0) rfl
            have z3 := frozen_of hX4 0
            have z4 := frozen_of hX4 1
            have z5 := frozen_of hX4 2
            have HX4 := Lib.hid hX4
            clear hRs hX4
            gi_wp2_with fail
            have hbx := heap_setCell_same _ w.heap.size 2 _ _ (.slice (some ⟨gs, 0, none⟩) N sc) (heap_setCell_same _ w.heap.size 1 _ _ (.slice (some ⟨gb, 0, none⟩) N N) (heap_setCell_same _ w.heap.size 0 _ _ (.slice (some ⟨gf, 0, none⟩) N N) HX4.out))
            have hBV := (((HB1.out.trans (hB.out.mono (Nat.le_of_lt s1))).setCell (p := ⟨w.heap.size, 0, none⟩) (Nat.le_refl _) (.slice (some ⟨gf, 0, none⟩) N N)).setCell (p := ⟨w.heap.size, 1, none⟩) (Nat.le_refl _) (.slice (some ⟨gb, 0, none⟩) N N)).setCell (p := ⟨w.heap.size, 2, none⟩) (Nat.le_refl _) (.slice (some ⟨gs, 0, none⟩) N sc)
            have hk3 : ∀ k, k ≠ w.heap.size → (((V.setCell ⟨w.heap.size, 0, none⟩ (.slice (some ⟨gf, 0, none⟩) N N)).setCell ⟨w.heap.size, 1, none⟩ (.slice (some ⟨gb, 0, none⟩) N N)).setCell ⟨w.heap.size, 2, none⟩ (.slice (some ⟨gs, 0, none⟩) N sc)).heap[k]? = V.heap[k]? := fun k hk =>
              (Below.heap_setCell _ _ _ _ hk).trans ((Below.heap_setCell _ _ _ _ hk).trans (Below.heap_setCell _ _ _ _ hk))
            have e7 := Hlo.out
            have hws' := hws
            refine leaves_marks (v := .tuple #[.agg #[.slice (some ⟨gf, 0, none⟩) N N, .slice (some ⟨gb, 0, none⟩) N N, .slice (some ⟨gs, 0, none⟩) N sc], .slice none 0 0]) (B := wc.heap.size + 1) (D :: L) _ (HM2.out.keep fun D' h' => hk3 D' (by have := HM2.out.lo D' h'; omega)) ?hr ?hR
            case hr =>
              intro w' hb
              have hx := (hb.block w.heap.size (by omega)).trans hbx
              have t0 := cell_of hx (j := 0) (v := .slice (some ⟨gf, 0, none⟩) N N) rfl
              have t1 := cell_of hx (j := 1) (v := .slice (some ⟨gb, 0, none⟩) N N) rfl
              have t2 := cell_of hx (j := 2) (v := .slice (some ⟨gs, 0, none⟩) N sc) rfl
              clear hx hbx hBV hk3
              simp [results, Try.results32, go_sem, t0, t1, t2]
            case hR =>
              intro w' hb
              have hsV := hBV.size
              have h := HR1.out (by rw [hX1.out]) gf gb gs sc w' (hBV.trans (hb.mono (by omega))) ((hb.block gf (by have := Hlt.out; omega)).trans ((hk3 gf (by omega)).trans (by rw [hX1.out]; exact HW2.out.far)))
              rw [HN.out] at h; exact h
          · rw [if_neg hlast] at hRs
            have HRs := Lib.hid hRs
            clear hRs
            gi_wp2_with fail
            refine ⟨Lib.hid ⟨r + 1, t, D :: L, ⟨by omega, rfl⟩, by omega, HW2, HM2, HF2, by rw [show N + 1 - (r + 1) = N - r from by omega]; exact HRs⟩, by simp [intOf]; omega⟩
      · obtain rfl : r = N + 1 := by omega
        have hX1 : Hid (X = (s, false)) := by have h := HRu.out; rw [Nat.sub_self] at h; exact h.symm
        have hRun : Bf.run (arX vs ax) (N + 1) (Bf.begin S) = (s, false) := by have h := HX.out; unfold rxR at h; rw [HSl.out, hX1.out] at h; exact h
        obtain ⟨v0, hv0, hbkn, m, hLp⟩ := Bf.loops hAW.out (s := Bf.begin S) (by have h := Bf.begin_ok S; rw [HSl.out] at h; exact h) (by rw [hRun])
        rw [hRun] at hv0 hbkn hLp
        dsimp only at hv0 hbkn hLp
        have hlv : Hid (lpV s N = s.bk N v0) := by unfold Hid lpV; rw [hv0, Int.toNat_natCast]
        have hs0 : Hid (({ s with last := ((s.bk 0 v0 : Nat) : Int) } : Bf) = s) := by unfold Hid; show Bf.mk s.far s.seen s.by_ (v0 : Int) = s; rw [← hv0]
        have HBk := Lib.hid hbkn
        have HLp := Lib.hid hLp
        clear hRun hv0 hbkn hLp HRu HF
        gi_wp2_with fail
        gi_loopw [96] (fun j W => ∃ k : Nat, k ≤ N ∧ j = .int .i64 k ∧ Hid (Below w1.heap.size w1 W) ∧ Hid (WyAt W b7 wc.heap.size gf gb gs sc N { s with last := ((s.bk k v0 : Nat) : Int) }) ∧ Hid (Marks (wc.heap.size + 1) W L)) (fun j _ => N - (intOf j).toNat)
        case atStart => exact ⟨0, Nat.zero_le _, rfl, HB, by rw [hs0.out]; exact HW, HM⟩
        case round =>
          clear HB HW HM hwr
          obtain ⟨k, hk, rfl, HB, HW, HM⟩ := hrel
          by_cases hkn : k < N
          · obtain ⟨y, hy⟩ : ∃ y, s.bk k v0 = y := ⟨_, rfl⟩
            have hyn : y < N := by rw [← hy]; exact HBk.out k hk
            have hnx : Hid (s.bk (k + 1) v0 = s.p y) := by unfold Hid; rw [Bf.bk_succ, hy]
            rw [hy] at HW
            have e0 := cell_of HW.out.box (j := 1) (v := .slice (some ⟨gb, 0, none⟩) N N) rfl
            have e1 := cell_of HW.out.last (j := 0) (v := .int .i64 y) rfl
            have e2 := frozen_of HW.out.last 0
            have e3 : wr.cell? ⟨gb, y * 5 + 2, none⟩ = some (.int .i64 (s.p y)) := (HW.out.cBy hyn).2.2.1
            have hW1 := HW.out.setLast ⟨hne.out.1.symm, hne.out.2.2.2.2.1, hne.out.2.2.2.2.2.1, hne.out.2.2.2.2.2.2.1⟩ ((s.p y : Nat) : Int)
            have hM1 : Marks (wc.heap.size + 1) (wr.setCell ⟨wc.heap.size, 0, none⟩ (.int .i64 ((s.p y : Nat) : Int))) L := HM.out.keep fun D hD => Below.heap_setCell _ _ _ _ (by have := HM.out.lo D hD; show D ≠ wc.heap.size; omega)
            have HW1 := Lib.hid hW1
            have HM1 := Lib.hid hM1
            have hB1 := Lib.hid (HB.out.setCell (p := ⟨wc.heap.size, 0, none⟩) hws (.int .i64 ((s.p y : Nat) : Int)))
            obtain ⟨z, hz⟩ : ∃ z, s.p y = z := ⟨_, rfl⟩
            rw [hz] at e3 HW1 HM1 hB1 hnx
            clear hW1 hM1 hy hz
            gi_wp2_with fail
            refine ⟨⟨k + 1, by omega, by go_num, hB1, by rw [hnx.out]; exact HW1, HM1⟩, by simp [intOf]; omega⟩
          · obtain rfl : k = N := by omega
            obtain ⟨vl, hvl⟩ : ∃ vl, s.bk k v0 = vl := ⟨_, rfl⟩
            have hvn : vl < k := by rw [← hvl]; exact HBk.out k hk
            rw [hvl] at HW hlv HLp
            have hfull : Hid (lpL s k = (stS (s.y vl) :: lpC s vl k (s.p vl)).reverse) := by unfold Hid lpL; rw [hlv.out]
            have e0 := cell_of HW.out.box (j := 1) (v := .slice (some ⟨gb, 0, none⟩) k k) rfl
            have e1 := cell_of HW.out.last (j := 0) (v := .int .i64 vl) rfl
            obtain ⟨e2, e3, e4, _, _⟩ := HW.out.cBy hvn
            have e2' : wr.cell? ⟨gb, vl * 5, none⟩ = some (.int .i64 (s.y vl).ix) := e2
            have e3' : wr.cell? ⟨gb, vl * 5 + 1, none⟩ = some (.bool (s.y vl).bk) := e3
            have e4' : wr.cell? ⟨gb, vl * 5 + 2, none⟩ = some (.int .i64 (s.p vl)) := e4
            have hbl : Below wr.heap.size wr (wr.alloc (.cells #[.int .i64 (s.y vl).ix, .bool (s.y vl).bk] 111)) := (Below.refl _ _).alloc (Nat.le_refl _) _
            have hW1 := HW.out.below hbl
            have hM1 := HM.out.below hbl
            have hBs1 := HB.out.size
            have hB1 := HB.out.trans (hbl.mono hBs1)
            have hO1 : (wr.alloc (.cells #[.int .i64 (s.y vl).ix, .bool (s.y vl).bk] 111)).ownsRow w1.heap.size 111 2 (.slice (some ⟨wr.heap.size, 0, none⟩) 1 1) 1 (pC [stS (s.y vl)]) :=
              ⟨rfl, .inr ⟨wr.heap.size, 1, _, rfl, hBs1, World.alloc_heap_new _ _, Nat.le_refl _, by decide, rfl, rfl⟩⟩
            have HW1 := Lib.hid hW1
            have HM1 := Lib.hid hM1
            have HB1' := Lib.hid hB1
            have HO1 := Lib.hid hO1
            have e5 : (wr.alloc (.cells #[.int .i64 (s.y vl).ix, .bool (s.y vl).bk] 111)).cell? ⟨b7, 1, none⟩ = some (.slice (some ⟨gb, 0, none⟩) k k) := cell_of hW1.box rfl
            have e6 : (wr.alloc (.cells #[.int .i64 (s.y vl).ix, .bool (s.y vl).bk] 111)).cell? ⟨wc.heap.size, 0, none⟩ = some (.int .i64 vl) := cell_of hW1.last rfl
            have e7 : (wr.alloc (.cells #[.int .i64 (s.y vl).ix, .bool (s.y vl).bk] 111)).cell? ⟨gb, vl * 5 + 2, none⟩ = some (.int .i64 (s.p vl)) := (hW1.cBy hvn).2.2.1
            have hst0 : Hid ([stS (s.y vl)] ++ lpC s vl k (s.bk 1 vl) = stS (s.y vl) :: lpC s vl k (s.p vl)) := rfl
            obtain ⟨full, hfl⟩ : ∃ full, stS (s.y vl) :: lpC s vl k (s.p vl) = full := ⟨_, rfl⟩
            rw [hfl] at hfull hst0
            have hp1 : Hid (s.bk 1 vl = s.p vl) := rfl
            clear hbl hW1 hM1 hB1 hO1 hvl e2 e3 e4 hfl hBs1
            gi_wp2_with fail
            gi_loopw [11, 10] (fun j v W => ∃ (i : Nat) (pre : List Sp), i < m ∧ j = .int .i64 (s.bk (i + 1) vl) ∧ Hid (W.ownsRow w1.heap.size 111 2 v pre.length (pC pre)) ∧ Hid (pre ++ lpC s vl (k - i) (s.bk (i + 1) vl) = full) ∧ Hid (pre.length = i + 1) ∧ Hid (Below w1.heap.size w1 W) ∧ Hid (WyAt W b7 wc.heap.size gf gb gs sc k { s with last := vl }) ∧ Hid (Marks (wc.heap.size + 1) W L)) (fun _ v _ => k + 1 - lenV v)
            case atStart => exact ⟨0, [stS (s.y vl)], HLp.out.pos, rfl, HO1, hst0, rfl, HB1', HW1, HM1⟩
            case round =>
              obtain ⟨i, pre, hi, rfl, HO, HE, HP, HB, HW, HM⟩ := hrel
              have hmk := HLp.out.len
              have hP := HP.out
              have hLv := Lib.hid (lenV_own HO.out)
              have sB := HB.out.size
              have e0 := cell_of HW.out.box (j := 1) (v := .slice (some ⟨gb, 0, none⟩) k k) rfl
              have e1 := cell_of HW.out.last (j := 0) (v := .int .i64 vl) rfl
              by_cases hne2 : s.bk (i + 1) vl = vl
              · have hE : Hid (pre = full) := by have h := HE.out; rw [lpC_end (by omega) hne2, List.append_nil] at h; exact h
                rw [hne2]
                have K1 : ((vl : Int) != (vl : Int)) = false := by simp
                clear HE hne2
                obtain rfl := hE.out
                have hfm : pre.length ≤ k := by omega
                gi_wp2_with fail
                refine ⟨trivial, callsIn_wide.2 (revS_any w1.heap.size pre u10 _ _ (by omega) (by omega) HO.out ?_)⟩
                intro w6 hgr hown
                have hW6 := HW.out.grown HO.out hgr
                have hM6 := HM.out.grown HO.out hgr
                have hB6 := HB.out.grown hgr sB (fun j e => (HO.out.lt j e).1)
                have HO6 := Lib.hid hown
                have HW6 := Lib.hid hW6
                have HM6 := Lib.hid hM6
                have HB6 := Lib.hid hB6
                have hX6 := (hB6.block _ s1).trans X1.out
                have y0 := cell_of hW6.box (j := 0) (v := .slice (some ⟨gf, 0, none⟩) k k) rfl
                have y1 := cell_of hW6.box (j := 1) (v := .slice (some ⟨gb, 0, none⟩) k k) rfl
                have y2 := cell_of hW6.box (j := 2) (v := .slice (some ⟨gs, 0, none⟩) k sc) rfl
                have z0 := cell_of hX6 (j := 0) (v := .slice none 0 0) rfl
                have z1 := cell_of hX6 (j := 1) (v := .slice none 0 0) rfl
                have z2 := cell_of hX6 (j := 2) (v := .slice none 0 0) rfl
                have z3 := frozen_of hX6 0
                have z4 := frozen_of hX6 1
                have z5 := frozen_of hX6 2
                have HX6 := Lib.hid hX6
                clear hW6 hM6 hB6 hX6 hgr hown e0 e1
                gi_wp2_with fail
                have hbx := heap_setCell_same _ w.heap.size 2 _ _ (.slice (some ⟨gs, 0, none⟩) k sc) (heap_setCell_same _ w.heap.size 1 _ _ (.slice (some ⟨gb, 0, none⟩) k k) (heap_setCell_same _ w.heap.size 0 _ _ (.slice (some ⟨gf, 0, none⟩) k k) HX6.out))
                have hBV := (((HB1.out.trans (HB6.out.mono (Nat.le_of_lt s1))).setCell (p := ⟨w.heap.size, 0, none⟩) (Nat.le_refl _) (.slice (some ⟨gf, 0, none⟩) k k)).setCell (p := ⟨w.heap.size, 1, none⟩) (Nat.le_refl _) (.slice (some ⟨gb, 0, none⟩) k k)).setCell (p := ⟨w.heap.size, 2, none⟩) (Nat.le_refl _) (.slice (some ⟨gs, 0, none⟩) k sc)
                have hk3 : ∀ j, j ≠ w.heap.size → (((w6.setCell ⟨w.heap.size, 0, none⟩ (.slice (some ⟨gf, 0, none⟩) k k)).setCell ⟨w.heap.size, 1, none⟩ (.slice (some ⟨gb, 0, none⟩) k k)).setCell ⟨w.heap.size, 2, none⟩ (.slice (some ⟨gs, 0, none⟩) k sc)).heap[j]? = w6.heap[j]? := fun j hj =>
                  (Below.heap_setCell _ _ _ _ hj).trans ((Below.heap_setCell _ _ _ _ hj).trans (Below.heap_setCell _ _ _ _ hj))
                have hOV := ownsRow_set (ownsRow_set (ownsRow_set HO6.out (a := ⟨w.heap.size, 0, none⟩) (by show w.heap.size < w1.heap.size; omega) (.slice (some ⟨gf, 0, none⟩) k k)) (a := ⟨w.heap.size, 1, none⟩) (by show w.heap.size < w1.heap.size; omega) (.slice (some ⟨gb, 0, none⟩) k k)) (a := ⟨w.heap.size, 2, none⟩) (by show w.heap.size < w1.heap.size; omega) (.slice (some ⟨gs, 0, none⟩) k sc)
                have hMV := HM6.out.keep (w' := ((w6.setCell ⟨w.heap.size, 0, none⟩ (.slice (some ⟨gf, 0, none⟩) k k)).setCell ⟨w.heap.size, 1, none⟩ (.slice (some ⟨gb, 0, none⟩) k k)).setCell ⟨w.heap.size, 2, none⟩ (.slice (some ⟨gs, 0, none⟩) k sc)) fun D' h' => hk3 D' (by have := HM6.out.lo D' h'; omega)
                refine leaves_marks2 (v := .tuple #[.agg #[.slice (some ⟨gf, 0, none⟩) k k, .slice (some ⟨gb, 0, none⟩) k k, .slice (some ⟨gs, 0, none⟩) k sc], u10]) (B := wc.heap.size + 1) L _ hMV ?hr ?hR
                case hr =>
                  intro w' hb
                  have hx := (hb.block w.heap.size (by omega)).trans hbx
                  have t0 := cell_of hx (j := 0) (v := .slice (some ⟨gf, 0, none⟩) k k) rfl
                  have t1 := cell_of hx (j := 1) (v := .slice (some ⟨gb, 0, none⟩) k k) rfl
                  have t2 := cell_of hx (j := 2) (v := .slice (some ⟨gs, 0, none⟩) k sc) rfl
                  clear hx hbx hBV hk3 hOV hMV
                  simp [results, Try.results32, go_sem, t0, t1, t2]
                case hR =>
                  intro w' hb hk
                  have hsV := hBV.size
                  have hL : lpL X.1 (nmG vs ax).length = pre.reverse := by rw [HN.out, hX1.out]; exact hfull.out
                  have h := HR2.out (by rw [hX1.out]) gf gb gs sc u10 w' (hBV.trans (hb.mono (by omega))) (by rw [hL, List.length_reverse]; exact ownsRow_mono (own_marks hOV hMV hk) (by omega))
                  rw [HN.out] at h; exact h
              · have him : i + 1 < m := by
                  by_cases h : i + 1 < m
                  · exact h
                  · exact absurd (by rw [show i + 1 = m from by omega]; exact HLp.out.back) hne2
                have hE := HE.out
                rw [lpC_step (by omega) hne2] at hE
                have hnx : s.bk (i + 1 + 1) vl = s.p (s.bk (i + 1) vl) := Bf.bk_succ s (i + 1) vl
                have hyk : s.bk (i + 1) vl < k := (HLp.out.ptr (i + 1)).1
                obtain ⟨y, hy⟩ : ∃ y, s.bk (i + 1) vl = y := ⟨_, rfl⟩
                rw [hy] at hE hnx hne2 hyk ⊢
                obtain ⟨z, hz⟩ : ∃ z, s.bk (i + 1 + 1) vl = z := ⟨_, rfl⟩
                rw [hz] at hE hnx
                have hz' := Lib.hid hz
                have K1 : ((y : Int) != (vl : Int)) = true := by rw [bne_iff_ne]; omega
                obtain ⟨e2, e3, e4, _, _⟩ := HW.out.cBy hyk
                have e2' : wr.cell? ⟨gb, y * 5, none⟩ = some (.int .i64 (s.y y).ix) := e2
                have e3' : wr.cell? ⟨gb, y * 5 + 1, none⟩ = some (.bool (s.y y).bk) := e3
                have e4' : wr.cell? ⟨gb, y * 5 + 2, none⟩ = some (.int .i64 z) := e4.trans (by rw [hnx]; rfl)
                have HE' := Lib.hid hE
                have hzp : Hid (s.p y = z) := hnx.symm
                clear hE hz hnx e2 e3 e4 hy hne2
                have hbl : Below wr.heap.size wr (wr.alloc (.cells #[.int .i64 (s.y y).ix, .bool (s.y y).bk] 111)) := (Below.refl _ _).alloc (Nat.le_refl _) _
                have HOa := Lib.hid (ownsRow_below HO.out hbl)
                have HWa := Lib.hid (HW.out.below hbl)
                have HMa := Lib.hid (HM.out.below hbl)
                have HBa := Lib.hid (HB.out.trans (hbl.mono sB))
                clear hbl
                gi_wp2_with (gi_at_builtin; refine wpIn_appendT rfl (.tmp 127) (.tmp 134) 67 rfl w1.heap.size 111 Try.underlying67 Try.infoSp rfl (by decide) u10 pre.length (pC pre) rfl HOa.out ⟨wr.heap.size, 0, none⟩ 1 1 (pC [stS (s.y y)]) rfl rfl (lit_cells wr _ _ _ rfl) (pC_one _) (by omega) (by omega) (by simp; omega) ?_; intro v5 w5 hown hgrow _; have O5 := Lib.hid hown; have HW5 := Lib.hid (HWa.out.grown HOa.out hgrow); have HM5 := Lib.hid (HMa.out.grown HOa.out hgrow); have HB5 := Lib.hid (HBa.out.grown hgrow (by simp; omega) (fun j e => (HOa.out.lt j e).1)); have f1 := cell_of HW5.out.box (j := 1) (v := .slice (some ⟨gb, 0, none⟩) k k) rfl; have f4 : w5.cell? ⟨gb, y * 5 + 2, none⟩ = some (.int .i64 (s.p y)) := (HW5.out.cBy hyk).2.2.1; clear hown hgrow)
                have hpl : lenV v5 = pre.length + 1 := lenV_own O5.out
                have hul := hLv.out
                refine ⟨⟨i + 1, pre ++ [stS (s.y y)], him, by rw [hz'.out, hzp.out], ?_, ?_, ?_, HB5, HW5, HM5⟩, by omega⟩
                · have h := O5.out
                  rw [pC_append, List.length_append]; exact h
                · have h := HE'.out
                  rw [hz'.out, List.append_assoc]; exact h
                · show (pre ++ [stS (s.y y)]).length = i + 1 + 1
                  rw [List.length_append]; simp; omega
end Go.Proofs.Ytgngllgknimgkaa
