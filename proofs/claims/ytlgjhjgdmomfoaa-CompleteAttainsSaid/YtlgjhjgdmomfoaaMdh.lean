/- Positions as data; what Solve computes. The walk of Solve of package complete. Maps keyed by int, as functions; slices of slices of strings. The groups as lists of names: what Groups computes. -/
import Derived.Test.YtlgjhjgdmomfoaaMda
import Derived.Deep.RegionHeld3
import Derived.Maps.Own
import Derived.Maps.OwnSet
import Derived.Maps.OwnOps
import Derived.Maps.Views
namespace Go.Proofs.Ytlgjhjgdmomfoaa
open Go.RowKit Go.Maps

structure Ps where
  n : ByteArray
  a : Int
def Ps.cells (x : Ps) : List Value := [.string x.n, .int .i64 x.a]
def Ps.zero : Ps := ⟨⟨#[]⟩, 0⟩
def poC (xs : List Ps) : List Value := xs.flatMap Ps.cells
theorem poC_length (xs : List Ps) : (poC xs).length = xs.length * 2 := by
  induction xs with
  | nil => rfl
  | cons b bs ih => show (b.cells ++ poC bs).length = _; rw [List.length_append, ih]; simp [Ps.cells]; omega
def psAt (xs : List Ps) (i : Nat) : Ps := xs.getD i Ps.zero
theorem poC_get (xs : List Ps) : ∀ (i : Nat), i < xs.length → (poC xs)[i * 2]? = some (.string (psAt xs i).n) ∧ (poC xs)[i * 2 + 1]? = some (.int .i64 (psAt xs i).a) := by
  induction xs with
  | nil => intro i hi; exact absurd hi (by simp)
  | cons b bs ih =>
    intro i hi
    cases i with
    | zero => exact ⟨rfl, rfl⟩
    | succ i =>
      have h := ih i (by simpa using hi)
      rw [show (i + 1) * 2 = i * 2 + 2 from by omega]
      exact h
theorem poC_set (xs : List Ps) : ∀ (i : Nat) (x : Ps), i < xs.length → ((poC xs).set (i * 2) (.string x.n)).set (i * 2 + 1) (.int .i64 x.a) = poC (xs.set i x) := by
  induction xs with
  | nil => intro i x hi; exact absurd hi (by simp)
  | cons b bs ih =>
    intro i x hi
    cases i with
    | zero => rfl
    | succ i =>
      have h := ih i x (by simpa using hi)
      rw [show (i + 1) * 2 = i * 2 + 2 from by omega]
      show b.cells ++ _ = b.cells ++ poC (bs.set i x)
      rw [← h]; rfl
theorem make_pos (n : Nat) (hn : n ≤ 512) (w : World) :
    (Instr.makeSlice 49 (.int .i64 (n : Int)) (.int .i64 (n : Int))).run Try.prog w = .ok (.slice (some ⟨w.heap.size, 0, none⟩) n n) (w.alloc (.cells (poC (List.replicate n Ps.zero)).toArray 56)) := by
  have hi : (Try.prog.info? 56).map (fun i => (i.zero, i.size, i.bytes)) = some (some (.agg #[.string ⟨#[]⟩, .int .i64 0]), 2, 24) := by kernel_rfl
  obtain ⟨i0, h1, h2, h3, h4⟩ := info_parts hi
  rw [run_make (P := Try.prog) w 49 56 i0 _ Try.underlying49 h1 h2 .i64 .i64 n n (by omega) (by omega) (by rw [h4]; omega) (by omega), h3]
  have : madeCells (Value.cells (.agg #[.string ⟨#[]⟩, .int .i64 0])) ((n : Int).toNat * 2) = (poC (List.replicate n Ps.zero)).toArray := by
    apply Array.toList_inj.1
    apply List.ext_getElem?
    intro i
    rw [Int.toNat_natCast]
    show _ = (poC (List.replicate n Ps.zero))[i]?
    have hl : (poC (List.replicate n Ps.zero)).length = n * 2 := by rw [poC_length]; simp
    by_cases h : i < n * 2
    · have hg := poC_get (List.replicate n Ps.zero) (i / 2) (by simp; omega)
      have hz : psAt (List.replicate n Ps.zero) (i / 2) = Ps.zero := by
        unfold psAt; rw [List.getD_eq_getElem?_getD, List.getElem?_replicate, if_pos (by omega)]; rfl
      rw [hz] at hg
      have e : (poC (List.replicate n Ps.zero))[i]? = (#[Value.string ⟨#[]⟩, .int .i64 0])[i % 2]? := by
        have h5 : i % 2 < 2 := Nat.mod_lt _ (by decide)
        have hi5 : i = i / 2 * 2 + i % 2 := by omega
        obtain ⟨g0, g1⟩ := hg
        generalize i % 2 = r at *
        rw [hi5]
        match r, h5 with
        | 0, _ => exact g0
        | 1, _ => exact g1
      rw [e]
      unfold madeCells
      have h5 : i % 2 < 2 := Nat.mod_lt _ (by decide)
      have hc : Value.cells (.agg #[.string ⟨#[]⟩, .int .i64 0]) = #[.string ⟨#[]⟩, .int .i64 0] := rfl
      rw [hc]
      simp only [Array.toList_map, List.getElem?_map, Array.toList_range, List.getElem?_range h, Option.map_some]
      show some ((#[Value.string ⟨#[]⟩, .int .i64 0])[i % 2]!) = _
      generalize i % 2 = r at h5
      have hr : r = 0 ∨ r = 1 := by omega
      rcases hr with rfl | rfl <;> rfl
    · rw [List.getElem?_eq_none (by rw [Array.length_toList, size_madeCells]; omega), List.getElem?_eq_none (by omega)]
  rw [this]; simp
/-- The position of a place. -/
def poP (vs : List Dm) (ax : Int) (v : Nat) : Ps := ⟨kAt (nmG vs ax) v, (frR vs ax (nAt (grG vs ax) v)).1.f v⟩
/-- The positions of the groups below k, and of the first m places of group k. -/
def soL (vs : List Dm) (ax : Int) (k m : Nat) : List Ps :=
  (List.range (nmG vs ax).length).map fun v => if nAt (grG vs ax) v < k ∨ (nAt (grG vs ax) v = k ∧ v < m) then poP vs ax v else Ps.zero
def soX (vs : List Dm) (ax : Int) : List Ps := (List.range (nmG vs ax).length).map (poP vs ax)
theorem soL_len (vs : List Dm) (ax : Int) (k m : Nat) : (soL vs ax k m).length = (nmG vs ax).length := by simp [soL]
theorem soL_start (vs : List Dm) (ax : Int) : soL vs ax 0 0 = List.replicate (nmG vs ax).length Ps.zero := by
  unfold soL
  apply List.ext_getElem
  · simp
  · intro i h1 h2
    simp
theorem soL_next {vs : List Dm} {ax : Int} {k m : Nat} (hm : (nmG vs ax).length ≤ m) : soL vs ax k m = soL vs ax (k + 1) 0 := by
  unfold soL
  refine List.map_congr_left fun v hv => ?_
  have hv' := List.mem_range.1 hv
  by_cases h : nAt (grG vs ax) v < k ∨ (nAt (grG vs ax) v = k ∧ v < m)
  · rw [if_pos h, if_pos (by omega)]
  · rw [if_neg h, if_neg (by omega)]
theorem soL_skip {vs : List Dm} {ax : Int} {k : Nat} (hk : nAt (grG vs ax) k ≠ k) : soL vs ax k 0 = soL vs ax (k + 1) 0 := by
  unfold soL
  refine List.map_congr_left fun v hv => ?_
  have hv' := List.mem_range.1 hv
  have hne : nAt (grG vs ax) v ≠ k := fun e => hk (by rw [← e]; exact grG_idem hv')
  by_cases h : nAt (grG vs ax) v < k
  · rw [if_pos (.inl h), if_pos (.inl (by omega))]
  · rw [if_neg (by omega), if_neg (by omega)]
theorem soL_put {vs : List Dm} {ax : Int} {k m : Nat} (_hm : m < (nmG vs ax).length) (hk : nAt (grG vs ax) m = k) : (soL vs ax k m).set m ⟨kAt (nmG vs ax) m, (frR vs ax k).1.f m⟩ = soL vs ax k (m + 1) := by
  apply List.ext_getElem
  · simp [soL]
  · intro i h1 h2
    rw [List.getElem_set]
    by_cases e : m = i
    · subst e
      rw [if_pos rfl]
      simp only [soL, List.getElem_map, List.getElem_range]
      rw [if_pos (by omega)]
      unfold poP
      rw [hk]
    · rw [if_neg e]
      simp only [soL, List.getElem_map, List.getElem_range]
      by_cases h : nAt (grG vs ax) i < k ∨ (nAt (grG vs ax) i = k ∧ i < m)
      · rw [if_pos h, if_pos (by omega)]
      · rw [if_neg h, if_neg (by omega)]
theorem soL_stay {vs : List Dm} {ax : Int} {k m : Nat} (hk : nAt (grG vs ax) m ≠ k) : soL vs ax k m = soL vs ax k (m + 1) := by
  unfold soL
  refine List.map_congr_left fun v _ => ?_
  by_cases h : nAt (grG vs ax) v < k ∨ (nAt (grG vs ax) v = k ∧ v < m)
  · rw [if_pos h, if_pos (by omega)]
  · rw [if_neg h, if_neg (by
      rintro (h2 | ⟨h2, h3⟩)
      · exact h (.inl h2)
      · by_cases e : v = m
        · subst e; exact hk h2
        · exact h (.inr ⟨h2, by omega⟩))]
theorem soL_end (vs : List Dm) (ax : Int) : soL vs ax (nmG vs ax).length 0 = soX vs ax := by
  unfold soL soX
  refine List.map_congr_left fun v hv => ?_
  rw [if_pos (.inl (grG_lt (List.mem_range.1 hv)))]
end Go.Proofs.Ytlgjhjgdmomfoaa
namespace Go.Proofs.Ytlgjhjgdmomfoaa
open Go.RowKit Go.Maps

theorem cellO2 {w : World} {a : Addr} {v : Value} (h : w.cell? a = some v) {p q : Addr} (x y : Value) (h1 : a.block ≠ p.block) (h2 : a.block ≠ q.block) : ((w.setCell p x).setCell q y).cell? a = some v := by
  rw [World.cell?_setCell_other _ _ _ _ (fun e => h2 (by rw [← e])), World.cell?_setCell_other _ _ _ _ (fun e => h1 (by rw [← e]))]
  exact h
theorem psC_cell {W : World} {b : Nat} {L : List Ps} (h : Blk W b 56 (poC L)) {m : Nat} (hm : m < L.length) : W.cell? ⟨b, m * 2, none⟩ = some (.string (psAt L m).n) ∧ W.cell? ⟨b, m * 2 + 1, none⟩ = some (.int .i64 (psAt L m).a) := by
  obtain ⟨h1, h2⟩ := poC_get L m hm
  refine ⟨?_, ?_⟩
  · refine cell_of h ?_; simpa using h1
  · refine cell_of h ?_; simpa using h2
set_option maxRecDepth 100000 in
set_option maxHeartbeats 8000000 in
theorem solve_any (ao : Option Addr) (vs : List Dm) (c : Nat) (ax : Int) (w : World) (R : Ending → World → Prop) (hl : vs.length ≤ 9223372036854775807) (hc : CellsAt w ao (dC vs)) (hv : DmsOk vs)
   (hR1 : giE vs ax ≠ 0 → ∀ w', Below w.heap.size w w' → R (.returned (.tuple #[.slice none 0 0, .slice none 0 0, .bool false, .int .i64 (giE vs ax)])) w')
   (hR2 : giE vs ax = 0 → cfE vs ax = false → ∀ v w', Below w.heap.size w w' → w'.ownsRow w.heap.size 28 2 v (cfL vs ax).length (pC (cfL vs ax)) → R (.returned (.tuple #[.slice none 0 0, v, .bool false, .int .i64 0])) w')
   (hR3 : giE vs ax = 0 → cfE vs ax = true → ∀ g w', w.heap.size ≤ g → Below w.heap.size w w' → Blk w' g 56 (poC (soX vs ax)) → R (.returned (.tuple #[.slice (some ⟨g, 0, none⟩) (nmG vs ax).length (nmG vs ax).length, .slice none 0 0, .bool true, .int .i64 0])) w') :
    Calls Try.prog 19 #[.slice ao vs.length c, .int .i64 ax] w R := by
  have HR1 := Lib.hid hR1
  have HR2 := Lib.hid hR2
  have HR3 := Lib.hid hR3
  have HC := Lib.hid hc
  have HV := Lib.hid hv
  clear hR1 hR2 hR3 hc hv
  obtain ⟨E, hE⟩ : ∃ E, giE vs ax = E := ⟨_, rfl⟩
  have HE := Lib.hid hE
  rw [hE] at HR1 HR2 HR3
  clear hE
  go_enter Try.func19, Try.ntmps19
  go_wp2_with fail
  refine given_any ao vs c ax _ _ hl HC.out HV.out ?_
  rw [HE.out]
  intro w1 hb
  have HB1 := Lib.hid hb
  clear hb
  by_cases h0 : E = 0
  · subst h0
    have hl2 := giE_len HE.out
    have HVA := Lib.hid (giE_all HE.out).2
    have sB1 := HB1.out.size
    go_wp2_with fail
    refine graphX_any ao vs c ax _ _ hl2 (HC.out.below HB1.out) HV.out ?_
    intro w2 hb hg
    have HB2 := Lib.hid (HB1.out.trans (hb.mono sB1))
    have HG2 := Lib.hid hg
    have sB2 := HB2.out.size
    clear hb hg
    go_wp2_with fail
    refine conflict_any ao vs c _ ax _ _ hl2 (HC.out.below HB2.out) HV.out HVA.out HG2.out ?_ ?_
    · intro hcf w3 hb
      have HB3 := Lib.hid (HB2.out.trans (hb.mono sB2))
      have HG3 := Lib.hid (HG2.out.below hb (Nat.le_refl _))
      have sB3 := HB3.out.size
      have Hcf := Lib.hid hcf
      have hkl := nmG_len (ax := ax) hl2
      have HC3 := Lib.hid (HC.out.below HB3.out)
      have sG := HG3.out.size
      obtain ⟨nv, dv, hg0⟩ := HG3.out
      obtain ⟨na, nc, rfl, hcn, _⟩ := ownsRow_read hg0.names
      obtain ⟨g0, _, _, _⟩ := hg0.cell
      have HCN := Lib.hid hcn
      have hbG : w1.heap.size + 1 < w3.heap.size := by omega
      obtain ⟨N, hN⟩ : ∃ N, (nmG vs ax).length = N := ⟨_, rfl⟩
      rw [hN] at g0 hkl
      have G0 := Lib.hid g0
      have HN := Lib.hid hN
      have hmk := make_pos N hkl w3
      have X4' := Blk.new w3 (poC (List.replicate N Ps.zero)) 56
      have B4' : Below w3.heap.size w3 (w3.alloc (.cells (poC (List.replicate N Ps.zero)).toArray 56)) := (Below.refl _ _).alloc (Nat.le_refl _) _
      obtain ⟨w4, hw4⟩ : ∃ w4, w3.alloc (.cells (poC (List.replicate N Ps.zero)).toArray 56) = w4 := ⟨_, rfl⟩
      rw [hw4] at X4' B4' hmk
      have X4 := Lib.hid X4'
      have B4 := Lib.hid B4'
      have s4 : w3.heap.size < w4.heap.size := by rw [← hw4]; simp
      clear hb hcf hg0 hcn hw4 X4' B4' hN
      go_wp2_with fail
      refine groupsX_any ao vs c _ ax _ _ hl2 (HC3.out.below B4.out) HV.out (HG3.out.below B4.out (Nat.le_refl _)) ?_
      intro gg w5 hgg hb hx
      have B5 := Lib.hid (B4.out.trans (hb.mono (Nat.le_of_lt s4)))
      have X5 := Lib.hid (X4.out.below hb s4)
      have G5 := Lib.hid hx
      rw [HN.out]
      have hgl : (grG vs ax).length = N := by rw [← HN.out]; exact grG_len vs ax
      have HGL := Lib.hid hgl
      have hng : Hid (gg ≠ w3.heap.size) := by unfold Hid; omega
      clear hb hx hmk hgl
      go_wp2_with fail
      go_loopw [41] (fun j wr => ∃ (k : Nat), k ≤ N ∧ j = .int .i64 k ∧ Hid (Below w3.heap.size w3 wr) ∧ Hid (Blk wr w3.heap.size 56 (poC (soL vs ax k 0))) ∧ Hid (Blk wr gg 3 (dI (grG vs ax)))) (fun j _ => N - (intOf j).toNat)
      case atStart => exact ⟨0, Nat.zero_le _, rfl, B5, by rw [soL_start, HN.out]; exact X5, G5⟩
      case round =>
        clear X4 X5 G5
        obtain ⟨k, hk, rfl, HB, HX, HI⟩ := hrel
        have sB := HB.out.size
        have hxl := HX.out.lt
        have hil := HI.out.lt
        by_cases hlt : k < N
        · have i1 := HI.out.cell (j := k) (by rw [dI_length, HGL.out]; exact hlt)
          rw [dI_get (by rw [HGL.out]; exact hlt)] at i1
          by_cases hq : nAt (grG vs ax) k = k
          · rw [hq] at i1
            have K1 : ((k : Int) != (k : Int)) = false := by simp
            go_wp2_with fail
            refine from_any ao vs c _ k ax _ _ hl2 (HC3.out.below HB.out) HV.out HVA.out (HG3.out.below HB.out (Nat.le_refl _)) (by rw [HN.out]; exact hlt) (frR_ends Hcf.out k) ?_
            intro gf gb gs sc w6 hb hf
            have B6 := Lib.hid (HB.out.trans (hb.mono sB))
            have X6 := Lib.hid (HX.out.below hb hxl)
            have I6 := Lib.hid (HI.out.below hb hil)
            have F6 := Lib.hid hf
            rw [HN.out]
            obtain ⟨w7, E7, B7, s7, Y7⟩ := box_ex w6 #[.slice (some ⟨gf, 0, none⟩) N N, .slice (some ⟨gb, 0, none⟩) N N, .slice (some ⟨gs, 0, none⟩) N sc] 111
            have B7' := Lib.hid (B6.out.trans (B7.out.mono B6.out.size))
            have X7 := Lib.hid (X6.out.below B7.out X6.out.lt)
            have I7 := Lib.hid (I6.out.below B7.out I6.out.lt)
            have F7 := Lib.hid (F6.out.below B7.out F6.out.lt)
            clear hb hf i1 K1
            go_wp2_with fail
            have Y7' := Lib.hid Y7.out
            have hnf : Hid (gf ≠ w3.heap.size) := ne_types F6.out X6.out (by decide)
            have hny : Hid (w6.heap.size ≠ w3.heap.size) := by unfold Hid; have := X6.out.lt; omega
            clear HB HX HI B6 X6 I6 F6 B7 Y7 E7
            go_loopw [54] (fun j W => ∃ m : Nat, m ≤ N ∧ j = .int .i64 m ∧ Hid (Below w3.heap.size w3 W) ∧ Hid (Blk W w3.heap.size 56 (poC (soL vs ax k m))) ∧ Hid (Blk W gg 3 (dI (grG vs ax))) ∧ Hid (Blk W gf 3 (I64s (frR vs ax k).1.far)) ∧ Hid (W.heap[w6.heap.size]? = some (.cells #[.slice (some ⟨gf, 0, none⟩) N N, .slice (some ⟨gb, 0, none⟩) N N, .slice (some ⟨gs, 0, none⟩) N sc] 111 (0, 0)))) (fun j _ => N - (intOf j).toNat)
            case atStart => exact ⟨0, Nat.zero_le _, rfl, B7', X7, I7, F7, Y7'⟩
            case round =>
              clear B7' X7 I7 F7 Y7'
              obtain ⟨m, hm, rfl, HB, HX, HI, HF, HY⟩ := hrel
              by_cases hlm : m < N
              · have i1 := HI.out.cell (j := m) (by rw [dI_length, HGL.out]; exact hlm)
                rw [dI_get (by rw [HGL.out]; exact hlm)] at i1
                by_cases hqm : nAt (grG vs ax) m = k
                · have hput := soL_put (by rw [HN.out]; exact hlm) hqm
                  rw [hqm] at i1
                  have K1 : ((k : Int) == (k : Int)) = true := by simp
                  have g1 := cellB HB.out G0.out hbG
                  obtain ⟨bn, on, rfl, hbn, _⟩ := HCN.out (by rw [sC_length, HN.out]; omega)
                  have n1 := cellB HB.out (HCN.out.get rfl (sC_get (by rw [HN.out]; exact hlm))) hbn
                  have y0 := cell_of HY.out (j := 0) (v := .slice (some ⟨gf, 0, none⟩) N N) rfl
                  have f1 := far_cell HF.out (v := m) (by rw [HN.out]; exact hlm)
                  obtain ⟨x0, x1⟩ := psC_cell HX.out (m := m) (by rw [soL_len, HN.out]; exact hlm)
                  have x2 := HX.out.frozen (m * 2)
                  have x3 := HX.out.frozen (m * 2 + 1)
                  obtain ⟨nm, hnm⟩ : ∃ nm, kAt (nmG vs ax) m = nm := ⟨_, rfl⟩
                  obtain ⟨fa, hfa⟩ : ∃ fa, (frR vs ax k).1.f m = fa := ⟨_, rfl⟩
                  rw [hnm] at n1 hput
                  rw [hfa] at f1 hput
                  have Hput := Lib.hid hput
                  have hxm : Hid (m < (soL vs ax k m).length) := by unfold Hid; rw [soL_len, HN.out]; exact hlm
                  have ng : Hid (w1.heap.size + 1 ≠ w3.heap.size) := by unfold Hid; omega
                  have nn : Hid (bn ≠ w3.heap.size) := by unfold Hid; omega
                  clear hqm hput hnm hfa
                  go_wp2_with fail
                  go_region_held3 (fun w' => w'.cell? ⟨w1.heap.size + 1, 0, none⟩ = some (.slice (some ⟨bn, on, none⟩) N nc) ∧ w'.cell? ⟨bn, on + m, none⟩ = some (.string nm) ∧ w'.cell? ⟨w6.heap.size, 0, none⟩ = some (.slice (some ⟨gf, 0, none⟩) N N) ∧ w'.cell? ⟨gf, m, none⟩ = some (.int .i64 fa))
                    (first | exact ⟨g1, n1, y0, f1⟩ | exact ⟨cellO2 (a := ⟨w1.heap.size + 1, 0, none⟩) g1 _ _ ng.out ng.out, cellO2 (a := ⟨bn, on + m, none⟩) n1 _ _ nn.out nn.out, cellO2 (a := ⟨w6.heap.size, 0, none⟩) y0 _ _ hny.out hny.out, cellO2 (a := ⟨gf, m, none⟩) f1 _ _ hnf.out hnf.out⟩)
                    (fail)
                  have hBn := Lib.hid ((HB.out.setCell (p := ⟨w3.heap.size, m * 2, none⟩) (Nat.le_refl _) (.string nm)).setCell (p := ⟨w3.heap.size, m * 2 + 1, none⟩) (Nat.le_refl _) (.int .i64 fa))
                  have hXn : Hid (Blk ((wr.setCell ⟨w3.heap.size, m * 2, none⟩ (.string nm)).setCell ⟨w3.heap.size, m * 2 + 1, none⟩ (.int .i64 fa)) w3.heap.size 56 (poC (soL vs ax k (m + 1)))) := by
                    have h := (HX.out.set (m * 2) (.string nm)).set (m * 2 + 1) (.int .i64 fa)
                    rw [poC_set _ _ ⟨nm, fa⟩ hxm.out, Hput.out] at h; exact h
                  have hIn := Lib.hid ((HI.out.other (a := ⟨w3.heap.size, m * 2, none⟩) hng.out (.string nm)).other (a := ⟨w3.heap.size, m * 2 + 1, none⟩) hng.out (.int .i64 fa))
                  have hFn := Lib.hid ((HF.out.other (a := ⟨w3.heap.size, m * 2, none⟩) hnf.out (.string nm)).other (a := ⟨w3.heap.size, m * 2 + 1, none⟩) hnf.out (.int .i64 fa))
                  have hYn := Lib.hid ((Below.heap_setCell (wr.setCell ⟨w3.heap.size, m * 2, none⟩ (.string nm)) ⟨w3.heap.size, m * 2 + 1, none⟩ (.int .i64 fa) _ hny.out).trans ((Below.heap_setCell wr ⟨w3.heap.size, m * 2, none⟩ (.string nm) _ hny.out).trans HY.out))
                  clear g1 n1 y0 f1 x0 x1 x2 x3 i1 HB HX HI HF HY
                  go_wp2_with fail
                  refine ⟨⟨m + 1, by omega, by go_num, hBn.out.drew, hXn.out.drew, hIn.out.drew, hFn.out.drew, hYn⟩, by simp [intOf]; omega⟩
                · have hst := soL_stay hqm
                  obtain ⟨q, hq'⟩ : ∃ q, nAt (grG vs ax) m = q := ⟨_, rfl⟩
                  rw [hq'] at i1 hqm
                  have K1 : ((q : Int) == (k : Int)) = false := by rw [beq_eq_false_iff_ne]; omega
                  have Hst := Lib.hid hst
                  clear hst hq' hqm
                  go_wp2_with fail
                  refine ⟨⟨m + 1, by omega, by go_num, HB, by rw [← Hst.out]; exact HX, HI, HF, HY⟩, by simp [intOf]; omega⟩
              · obtain rfl : m = N := by omega
                have hnx : soL vs ax k m = soL vs ax (k + 1) 0 := soL_next (by rw [HN.out]; omega)
                have Hnx := Lib.hid hnx
                clear hnx
                go_wp2_with fail
                refine ⟨⟨k + 1, by omega, by go_num, HB, by rw [← Hnx.out]; exact HX, HI⟩, by simp [intOf]; omega⟩
          · have K1 : ((k : Int) != (nAt (grG vs ax) k : Int)) = true := by rw [bne_iff_ne]; omega
            have hsk := soL_skip hq
            obtain ⟨q, hq'⟩ : ∃ q, nAt (grG vs ax) k = q := ⟨_, rfl⟩
            rw [hq'] at i1 K1
            have Hsk := Lib.hid hsk
            clear hq hq' hsk
            go_wp2_with fail
            refine ⟨⟨k + 1, by omega, by go_num, HB, by rw [← Hsk.out]; exact HX, HI⟩, by simp [intOf]; omega⟩
        · obtain rfl : k = N := by omega
          go_wp2_with fail
          refine bodyPost_ret (v := .tuple #[.slice (some ⟨w3.heap.size, 0, none⟩) k k, .slice none 0 0, .bool true, .int .i64 0]) (by simp [results, Try.results19, go_sem]) rfl ?_
          have h := HR3.out (by simp) Hcf.out w3.heap.size wr (by omega) (HB3.out.trans (HB.out.mono sB3)) (by have h := HX.out; rw [← HN.out, soL_end] at h; exact h)
          rw [HN.out] at h; exact h
    · intro hcf v w3 hb ho
      have HB3 := Lib.hid (HB2.out.trans (hb.mono sB2))
      have HO := Lib.hid (ownsRow_mono ho sB2)
      obtain ⟨g, n, c', rfl⟩ := cfL_some ho
      have Hcf := Lib.hid hcf
      clear hb hcf ho
      go_wp2_with fail
      refine bodyPost_ret (v := .tuple #[.slice none 0 0, .slice (some ⟨g, 0, none⟩) n c', .bool false, .int .i64 0]) (by simp [results, Try.results19, go_sem]) rfl ?_
      exact HR2.out (by simp) Hcf.out _ w3 HB3.out HO.out
  · have K : (E != 0) = true := by simpa using h0
    have h0' := Lib.hid h0
    clear h0
    go_wp2_with fail
    refine bodyPost_ret (v := .tuple #[.slice none 0 0, .slice none 0 0, .bool false, .int .i64 E]) (by simp [results, Try.results19, go_sem]) rfl ?_
    exact HR1.out h0'.out w1 HB1.out
end Go.Proofs.Ytlgjhjgdmomfoaa
namespace Go.Proofs.Ytlgjhjgdmomfoaa
open Go.RowKit Go.Maps

def keyI (x : Int) : Lit := .int .i64 x
theorem keyI_inj {x y : Int} (h : keyI x = keyI y) : x = y := by unfold keyI at h; cases h; rfl
abbrev IMap := Int → Option Value
def IMap.put (f : IMap) (x : Int) (v : Value) : IMap := fun y => if y = x then some v else f y
/-- Block b of w is a map of at most n entries, which is f. -/
def IMapIs (P : Program) (k : TypeId) (w : World) (b n : Nat) (f : IMap) : Prop :=
  ∃ D : DataW Value, w.ownsMap P k heldR b n D ∧ ∀ x z, D.atKey (keyI x) z = match f x with | some v => .held v | none => z
section
variable {P : Program} {k t e : TypeId} {w w' : World} {b n : Nat} {f : IMap}
theorem imapIs_made (w : World) : IMapIs P k (w.alloc (.map #[] 0)) w.heap.size 0 (fun _ => none) :=
  ⟨.map [], World.ownsMap_made w P k heldR, fun _ _ => rfl⟩
theorem IMapIs.lt (h : IMapIs P k w b n f) : b < w.heap.size := by obtain ⟨D, h1, _⟩ := h; exact h1.lt
theorem IMapIs.keep (h : IMapIs P k w b n f) (hb : w'.heap[b]? = w.heap[b]?) : IMapIs P k w' b n f := by
  obtain ⟨D, ⟨es, clock, h1, h3⟩, h2⟩ := h
  exact ⟨D, ⟨es, clock, hb.trans h1, h3⟩, h2⟩
theorem IMapIs.mono (h : IMapIs P k w b n f) {n' : Nat} (hn : n ≤ n') : IMapIs P k w b n' f := by
  obtain ⟨D, h1, h2⟩ := h; exact ⟨D, h1.mono hn, h2⟩
theorem IMapIs.look (h : IMapIs P k w b n f) (hk : P.underlying k = some (.int .i64)) (ht : P.underlying t = some (.map k e)) {z : Value} (hz : (zeroValue e).run P w = .ok z w) {x : Int} (hx : (Lit.int .i64 x).wf = true) :
    (Instr.lookup t (.map (some b)) (.int .i64 x) false).run P w = .ok ((f x).getD z) w := by
  obtain ⟨D, h1, h2⟩ := h
  obtain ⟨v, ps, hrun, hv⟩ := h1.lookup (int_keyed hk) ht hz (zd := .held z) rfl (Maps.keyOf_int_mk hk hx)
  rw [hrun]
  rw [show (Lit.int .i64 x) = keyI x from rfl, h2 x (.held z)] at hv
  cases hf : f x with
  | none =>
    rw [hf] at hv
    simp only [heldR, Option.some.injEq, Prod.mk.injEq, DataW.held.injEq] at hv
    rw [hv.1]; rfl
  | some u =>
    rw [hf] at hv
    simp only [heldR, Option.some.injEq, Prod.mk.injEq, DataW.held.injEq] at hv
    rw [hv.1]; rfl
theorem iput_view {D : DataW Value} (hD : IsMap D) (h2 : ∀ x z, D.atKey (keyI x) z = match f x with | some v => .held v | none => z) (x : Int) (v : Value) :
    ∀ y z, (D.put (keyI x) (.held v)).atKey (keyI y) z = match f.put x v y with | some v => .held v | none => z := by
  intro y z
  unfold IMap.put
  by_cases e : y = x
  · subst e; rw [if_pos rfl]; exact atKey_put_same (k := keyI y) hD trivial _ _
  · rw [if_neg e, atKey_put_other (fun h => e (keyI_inj h)), h2]
theorem wp_imapStore (w : World) {ops : Array Oper} {rest : List Oper} {o : Oper} {a : Act} {Q : Exit → Act → World → Prop}
    (hg : o.guard = none) (m x v : Operand) (t : TypeId) (hop : o.op = Op.mapUpdate t m x v) (k e : TypeId) (hk : P.underlying k = some (.int .i64)) (ht : P.underlying t = some (.map k e)) (b n : Nat) (f : IMap)
    (hm : a.eval m = .map (some b)) (h : IMapIs P k w b n f) (hn : n < maxLen) (s : Int) (val : Value) (hx : a.eval x = .int .i64 s) (hv : a.eval v = val) (hs : (Lit.int .i64 s).wf = true)
    (hK : ∀ w', IMapIs P k w' b (n + 1) (f.put s val) → w.grownBy w' (some b) → wpList P ops Q rest (a.put o.dst undef) w') :
    wpList P ops Q (o :: rest) a w := by
  obtain ⟨D, h1, h2⟩ := h
  exact wpList_mapUpdate_own w hg m x v t hop k e (int_keyed hk) ht heldR b n D hm h1 hn (.int .i64 s) val (keyI s) hx hv (Maps.keyOf_int_mk hk hs) (.held val) [] rfl
    fun w' h3 h4 => hK w' ⟨_, h3, iput_view h1.isMap h2 s val⟩ h4
end

/-! ### slices of slices -/
def vAt (l : List Value) (j : Nat) : Value := l.getD j (.slice none 0 0)
def rAt (l : List (List ByteArray)) (j : Nat) : List ByteArray := l.getD j []
structure NsAt (W : World) (base : Nat) (ov : Value) (vals : List Value) (rows : List (List ByteArray)) : Prop where
  len : vals.length = rows.length
  out : W.ownsRow base 60 1 ov vals.length vals
  row : ∀ j, j < rows.length → W.ownsRow base 9 1 (vAt vals j) (rAt rows j).length (sC (rAt rows j))
  apart : ∀ i j, i ≠ j → i < rows.length → j < rows.length → (vAt vals i).ownBlock = none ∨ (vAt vals i).ownBlock ≠ (vAt vals j).ownBlock
section
variable {W W' : World} {base : Nat} {ov v : Value} {vals : List Value} {rows : List (List ByteArray)}
theorem NsAt.nil (W : World) (base : Nat) : NsAt W base (.slice none 0 0) [] [] :=
  ⟨rfl, World.ownsRow_nil _ _ _ _, fun j h => absurd h (by simp), fun i j _ h => absurd h (by simp)⟩
theorem NsAt.below (h : NsAt W base ov vals rows) (hb : Below W.heap.size W W') : NsAt W' base ov vals rows :=
  ⟨h.len, ownsRow_below h.out hb, fun j hj => ownsRow_below (h.row j hj) hb, h.apart⟩
theorem vAt_app {a b : List Value} {j : Nat} (h : j < a.length) : vAt (a ++ b) j = vAt a j := by
  unfold vAt; rw [List.getD_eq_getElem?_getD, List.getElem?_append_left h, List.getD_eq_getElem?_getD]
theorem rAt_app {a b : List (List ByteArray)} {j : Nat} (h : j < a.length) : rAt (a ++ b) j = rAt a j := by
  unfold rAt; rw [List.getD_eq_getElem?_getD, List.getElem?_append_left h, List.getD_eq_getElem?_getD]
theorem vAt_new (a : List Value) (x : Value) : vAt (a ++ [x]) a.length = x := by
  unfold vAt; rw [List.getD_eq_getElem?_getD, List.getElem?_append_right (Nat.le_refl _), Nat.sub_self]; rfl
theorem rAt_new (a : List (List ByteArray)) (x : List ByteArray) : rAt (a ++ [x]) a.length = x := by
  unfold rAt; rw [List.getD_eq_getElem?_getD, List.getElem?_append_right (Nat.le_refl _), Nat.sub_self]; rfl
theorem vAt_set {a : List Value} {i j : Nat} {x : Value} (h : i < a.length) : vAt (a.set i x) j = if j = i then x else vAt a j := by
  unfold vAt
  rw [List.getD_eq_getElem?_getD, List.getElem?_set]
  by_cases e : i = j
  · subst e; rw [if_pos rfl, if_pos h, if_pos rfl]; rfl
  · rw [if_neg e, if_neg (fun e2 => e e2.symm), List.getD_eq_getElem?_getD]
theorem rAt_set {a : List (List ByteArray)} {i j : Nat} {x : List ByteArray} (h : i < a.length) : rAt (a.set i x) j = if j = i then x else rAt a j := by
  unfold rAt
  rw [List.getD_eq_getElem?_getD, List.getElem?_set]
  by_cases e : i = j
  · subst e; rw [if_pos rfl, if_pos h, if_pos rfl]; rfl
  · rw [if_neg e, if_neg (fun e2 => e e2.symm), List.getD_eq_getElem?_getD]
/-- An empty row more. -/
theorem NsAt.push (h : NsAt W base ov vals rows) (hg : W.grownBy W' ov.ownBlock) (hown : W'.ownsRow base 60 1 v (vals.length + 1) (vals ++ [.slice none 0 0])) : NsAt W' base v (vals ++ [.slice none 0 0]) (rows ++ [[]]) := by
  refine ⟨by simp [h.len], by rw [List.length_append]; exact hown, fun j hj => ?_, fun i j hij hi hj => ?_⟩
  · rw [List.length_append] at hj
    by_cases e : j < rows.length
    · rw [vAt_app (by rw [h.len]; exact e), rAt_app e]
      exact (h.row j e).kept hg (own_ne (h.row j e) h.out (by decide))
    · obtain rfl : j = rows.length := by simp at hj; omega
      rw [rAt_new, ← h.len, vAt_new]; exact World.ownsRow_nil _ _ _ _
  · rw [List.length_append] at hi hj
    by_cases e1 : i < rows.length
    · by_cases e2 : j < rows.length
      · rw [vAt_app (by rw [h.len]; exact e1), vAt_app (by rw [h.len]; exact e2)]; exact h.apart i j hij e1 e2
      · obtain rfl : j = rows.length := by simp at hj; omega
        rw [← h.len, vAt_new]
        cases ho : (vAt (vals ++ [.slice none 0 0]) i).ownBlock with
        | none => exact .inl rfl
        | some g => exact .inr (by simp [Value.ownBlock])
    · obtain rfl : i = rows.length := by simp at hi; omega
      rw [← h.len, vAt_new]; exact .inl rfl
/-- A name more in a row; the new row in the outer one. -/
theorem NsAt.add (h : NsAt W base ov vals rows) {j : Nat} (hj : j < rows.length) {s : ByteArray} (hg : W.grownBy W' (vAt vals j).ownBlock) (hown : W'.ownsRow base 9 1 v ((rAt rows j).length + 1) (sC (rAt rows j) ++ [.string s]))
    {g : Nat} (hv : v.ownBlock = some g) (hf : (vAt vals j).ownBlock = some g ∨ g = W.heap.size) {go c : Nat} (ho : ov = .slice (some ⟨go, 0, none⟩) vals.length c) (_hlt : W.heap.size ≤ W'.heap.size) :
    NsAt (W'.setCell ⟨go, j, none⟩ v) base ov (vals.set j v) (rows.set j (rAt rows j ++ [s])) := by
  have hout := h.out.kept hg (own_ne h.out (h.row j hj) (by decide))
  have hgo : ∃ cur, W'.heap[go]? = some (.cells cur 60 (0, 0)) ∧ vals.length ≤ cur.size := by
    rcases hout.2 with ⟨e, _⟩ | ⟨g2, cap, cur, e, _, h2, h3, _, h4, _⟩
    · rw [ho] at e; cases e
    · rw [ho] at e; cases e; exact ⟨cur, h2, by omega⟩
  obtain ⟨cur, hcur, hcl⟩ := hgo
  have hkeep : ∀ {u : Value} {n : Nat} {xs : List Value}, W'.ownsRow base 9 1 u n xs → (W'.setCell ⟨go, j, none⟩ v).ownsRow base 9 1 u n xs := by
    intro u n xs hu
    refine ⟨hu.1, ?_⟩
    rcases hu.2 with h1 | ⟨g2, cap, cur2, h1, h2, h3, h4⟩
    · exact .inl h1
    · refine .inr ⟨g2, cap, cur2, h1, h2, (Below.heap_setCell _ _ _ _ ?_).trans h3, h4⟩
      show g2 ≠ go
      rintro rfl
      rw [h3] at hcur; cases hcur
  refine ⟨by simp [h.len], ?_, fun i hi => ?_, fun i k hik hi hk => ?_⟩
  · rcases hout.2 with ⟨e, _⟩ | ⟨g2, cap, cur2, e, h1, h2, h3, h4, h5, h6⟩
    · rw [ho] at e; cases e
    · obtain ⟨hg2, hc2⟩ : go = g2 ∧ c = cap := by rw [ho] at e; cases e; exact ⟨rfl, rfl⟩
      subst hg2 hc2
      refine ⟨by simp, .inr ⟨go, c, cur2.setIfInBounds j v, by rw [List.length_set]; exact e, h1, heap_setCell_same W' go j cur2 _ v h2, by rw [List.length_set]; exact h3, h4, by simpa using h5, ?_⟩⟩
      rw [List.length_set, Array.toList_setIfInBounds, List.take_set, h6]
  · rw [List.length_set] at hi
    rw [vAt_set (by rw [h.len]; exact hj), rAt_set hj]
    by_cases e : i = j
    · subst e
      rw [if_pos rfl, if_pos rfl, List.length_append]
      refine hkeep ?_
      have : sC (rAt rows i ++ [s]) = sC (rAt rows i) ++ [.string s] := by simp [sC]
      rw [this]; exact hown
    · rw [if_neg e, if_neg e]
      exact hkeep ((h.row i hi).kept hg (h.apart i j e hi hj))
  · rw [List.length_set] at hi hk
    have hfr : ∀ i, i < rows.length → (vAt vals i).ownBlock = none ∨ (i = j ∨ (vAt vals i).ownBlock ≠ some g) := by
      intro i hi
      by_cases e : i = j
      · exact .inr (.inl e)
      · rcases h.apart i j e hi hj with h1 | h1
        · exact .inl h1
        · rcases hf with h2 | h2
          · exact .inr (.inr (by rw [← h2]; exact h1))
          · refine .inr (.inr fun e2 => ?_)
            have := ((h.row i hi).lt g e2).2
            omega
    rw [vAt_set (by rw [h.len]; exact hj), vAt_set (by rw [h.len]; exact hj)]
    by_cases e1 : i = j
    · subst e1
      rw [if_pos rfl, if_neg (fun e => hik e.symm), hv]
      refine .inr fun e2 => ?_
      rcases hfr k hk with h1 | h1 | h1
      · rw [h1] at e2; cases e2
      · exact hik h1.symm
      · exact h1 e2.symm
    · rw [if_neg e1]
      by_cases e2 : k = j
      · rw [if_pos e2, hv]
        rcases hfr i hi with h1 | h1 | h1
        · exact .inl h1
        · exact absurd h1 e1
        · exact .inr h1
      · rw [if_neg e2]; exact h.apart i k hik hi hk
end
end Go.Proofs.Ytlgjhjgdmomfoaa
namespace Go.Proofs.Ytlgjhjgdmomfoaa
open Go.RowKit Go.Maps

/-- First places below k. -/
def fsL (vs : List Dm) (ax : Int) (k : Nat) : List Nat := (List.range k).filter fun v => nAt (grG vs ax) v == v
/-- The names of group f below k. -/
def gmL (vs : List Dm) (ax : Int) (k f : Nat) : List ByteArray := ((List.range k).filter fun v => nAt (grG vs ax) v == f).map (kAt (nmG vs ax))
def gsF (vs : List Dm) (ax : Int) (k : Nat) : List (List ByteArray) := (fsL vs ax k).map (gmL vs ax k)
def gsM (vs : List Dm) (ax : Int) (k : Nat) : List (List ByteArray) := (fsL vs ax (k + 1)).map (gmL vs ax k)
def gsX (vs : List Dm) (ax : Int) : List (List ByteArray) := gsF vs ax (nmG vs ax).length
/-- The index of group f. -/
def jxF (vs : List Dm) (ax : Int) (f : Nat) : Nat := (fsL vs ax f).length
def atF (vs : List Dm) (ax : Int) : Nat → IMap
  | 0 => fun _ => none
  | k + 1 => if nAt (grG vs ax) k = k then (atF vs ax k).put k (.int .i64 (jxF vs ax k)) else atF vs ax k
section
variable {vs : List Dm} {ax : Int} {k f : Nat}
theorem fsL_succ : fsL vs ax (k + 1) = if nAt (grG vs ax) k = k then fsL vs ax k ++ [k] else fsL vs ax k := by
  unfold fsL
  rw [List.range_succ, List.filter_append]
  by_cases h : nAt (grG vs ax) k = k
  · rw [if_pos h, List.filter_cons_of_pos (by simpa using h)]; rfl
  · rw [if_neg h, List.filter_cons_of_neg (by simpa using h)]; simp
theorem fsL_mem : f ∈ fsL vs ax k ↔ f < k ∧ nAt (grG vs ax) f = f := by
  unfold fsL; rw [List.mem_filter, List.mem_range]; simp
theorem fsL_le : (fsL vs ax k).length ≤ k := by
  unfold fsL
  refine Nat.le_trans (List.length_filter_le _ _) ?_
  rw [List.length_range]; exact Nat.le_refl _
theorem fsL_pre (k : Nat) : ∀ {m : Nat}, k ≤ m → ∃ r, fsL vs ax m = fsL vs ax k ++ r
  | 0, h => ⟨[], by obtain rfl : k = 0 := by omega
                    simp⟩
  | m + 1, h => by
    by_cases e : k = m + 1
    · subst e; exact ⟨[], by simp⟩
    · obtain ⟨r, hr⟩ := fsL_pre k (m := m) (by omega)
      rw [fsL_succ, hr]
      split
      · exact ⟨r ++ [m], by simp⟩
      · exact ⟨r, rfl⟩
/-- The place of a first place in the list. -/
theorem fsL_at (hf : nAt (grG vs ax) f = f) (hk : f < k) : (fsL vs ax k)[jxF vs ax f]? = some f := by
  obtain ⟨r, hr⟩ := fsL_pre (vs := vs) (ax := ax) (f + 1) (m := k) (by omega)
  rw [hr, fsL_succ, if_pos hf]
  unfold jxF
  rw [List.append_assoc, List.getElem?_append_right (Nat.le_refl _), Nat.sub_self]; rfl
theorem jxF_lt (hf : nAt (grG vs ax) f = f) (hk : f < k) : jxF vs ax f < (fsL vs ax k).length := (List.getElem?_eq_some_iff.1 (fsL_at hf hk)).1
theorem fsL_inj {i j a : Nat} (hi : (fsL vs ax k)[i]? = some a) (hj : (fsL vs ax k)[j]? = some a) : i = j := by
  have hn : (fsL vs ax k).Pairwise (· ≠ ·) := List.Pairwise.filter _ List.nodup_range
  rw [List.pairwise_iff_getElem] at hn
  obtain ⟨h1, h2⟩ := List.getElem?_eq_some_iff.1 hi
  obtain ⟨h3, h4⟩ := List.getElem?_eq_some_iff.1 hj
  rcases Nat.lt_trichotomy i j with h | h | h
  · exact absurd (h2.trans h4.symm) (hn i j h1 h3 h)
  · exact h
  · exact absurd (h4.trans h2.symm) (hn j i h3 h1 h)
theorem gmL_succ : gmL vs ax (k + 1) f = if nAt (grG vs ax) k = f then gmL vs ax k f ++ [kAt (nmG vs ax) k] else gmL vs ax k f := by
  unfold gmL
  rw [List.range_succ, List.filter_append]
  by_cases h : nAt (grG vs ax) k = f
  · rw [if_pos h, List.filter_cons_of_pos (by simpa using h)]; simp
  · rw [if_neg h, List.filter_cons_of_neg (by simpa using h)]; simp
theorem gmL_le : (gmL vs ax k f).length ≤ k := by
  unfold gmL
  rw [List.length_map]
  refine Nat.le_trans (List.length_filter_le _ _) ?_
  rw [List.length_range]; exact Nat.le_refl _
theorem gmL_none (_hk : k < (nmG vs ax).length) (h : k ≤ f) (hf : f < (nmG vs ax).length) : gmL vs ax k f = [] := by
  unfold gmL
  rw [List.map_eq_nil_iff, List.filter_eq_nil_iff]
  intro v hv
  have hv' := List.mem_range.1 hv
  have := (grG_inv vs ax).le v (by omega)
  simp; omega
theorem atF_get : ∀ {k : Nat}, nAt (grG vs ax) f = f → f < k → atF vs ax k f = some (.int .i64 (jxF vs ax f))
  | k + 1, hf, hk => by
    rw [atF]
    by_cases e : f = k
    · subst e; rw [if_pos hf]; unfold IMap.put; rw [if_pos rfl]
    · split
      · unfold IMap.put; rw [if_neg (by omega)]; exact atF_get hf (by omega)
      · exact atF_get hf (by omega)
/-- Ahead of the name: an empty row more, or none. -/
theorem gsM_new (hk : k < (nmG vs ax).length) (h : nAt (grG vs ax) k = k) : gsM vs ax k = gsF vs ax k ++ [[]] := by
  unfold gsM gsF
  rw [fsL_succ, if_pos h, List.map_append]
  simp [gmL_none hk (Nat.le_refl _) hk]
theorem gsM_old (h : nAt (grG vs ax) k ≠ k) : gsM vs ax k = gsF vs ax k := by
  unfold gsM gsF
  rw [fsL_succ, if_neg h]
theorem gsF_len : (gsF vs ax k).length = (fsL vs ax k).length := by simp [gsF]
theorem gsM_len : (gsM vs ax k).length = (fsL vs ax (k + 1)).length := by simp [gsM]
theorem gsM_at (hf : nAt (grG vs ax) f = f) (hk : f < k + 1) : rAt (gsM vs ax k) (jxF vs ax f) = gmL vs ax k f := by
  unfold rAt gsM
  rw [List.getD_eq_getElem?_getD, List.getElem?_map, fsL_at hf hk]; rfl
/-- The name in its row. -/
theorem gsM_put (hk : k < (nmG vs ax).length) (hf : nAt (grG vs ax) k = f) : (gsM vs ax k).set (jxF vs ax f) (gmL vs ax k f ++ [kAt (nmG vs ax) k]) = gsF vs ax (k + 1) := by
  have hff : nAt (grG vs ax) f = f := by rw [← hf]; exact grG_idem hk
  have hfk : f < k + 1 := by have := (grG_inv vs ax).le k hk; omega
  apply List.ext_getElem?
  intro i
  rw [List.getElem?_set]
  by_cases e : jxF vs ax f = i
  · subst e
    rw [if_pos rfl, if_pos (by rw [gsM_len]; exact jxF_lt hff hfk)]
    unfold gsF
    rw [List.getElem?_map, fsL_at hff hfk, Option.map_some, gmL_succ, if_pos hf]
  · rw [if_neg e]
    unfold gsM gsF
    rw [List.getElem?_map, List.getElem?_map]
    cases hi : (fsL vs ax (k + 1))[i]? with
    | none => rfl
    | some a =>
      rw [Option.map_some, Option.map_some, gmL_succ, if_neg]
      rintro e2
      refine e ?_
      rw [hf] at e2
      subst e2
      exact fsL_inj (fsL_at hff hfk) hi
end
end Go.Proofs.Ytlgjhjgdmomfoaa
