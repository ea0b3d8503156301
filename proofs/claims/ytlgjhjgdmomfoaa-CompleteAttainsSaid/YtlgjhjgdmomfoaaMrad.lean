/- The walks of Few, Has, Put of the reference; sorted lists of names. The graph of package complete as data: its box, its map, its two own rows. The walk of graphOf of package complete. What groups of package complete computes; its inner steps, and places of names. The walk of groups of package complete. The graph of a list along an axis, whole; its groups; joined of package complete. -/
import Derived.Sort.Walk0
import Derived.Test.YtlgjhjgdmomfoaaMcm
import Derived.Laws.AppendOwn
import Derived.Laws.Rows
import Derived.Test.YtlgjhjgdmomfoaaMcb
import Derived.Deep.RegionHeld3
import Derived.Deep.RegionLaw
import Derived.Deep.AppendLies
import Derived.Deep.QuietTactic
namespace Go.Proofs.Ytlgjhjgdmomfoaa
open Go.RowKit

theorem Try.infoStr53 : (Try.prog.info? 9).map (fun i => (i.zero, i.size, i.bytes)) = some (some (.string ⟨#[]⟩), 1, 16) := by kernel_rfl

/-! ### Few -/
/-! ### lists of names -/
def kat (ks : List ByteArray) (k : Nat) : ByteArray := ks.getD k ⟨#[]⟩
theorem kat_lt {ks : List ByteArray} {k : Nat} (h : k < ks.length) : kat ks k = ks[k] := by unfold kat; rw [List.getD_eq_getElem?_getD, List.getElem?_eq_getElem h]; rfl
theorem kat_drop {ks : List ByteArray} {k : Nat} (h : k < ks.length) : ks.drop k = kat ks k :: ks.drop (k + 1) := by
  rw [List.drop_eq_getElem_cons h, kat_lt h]
theorem CellsAt.strs {w : World} {ao : Option Addr} {ks : List ByteArray} (h : CellsAt w ao (sC ks)) (h0 : 0 < ks.length) :
    ∃ b o, ao = some ⟨b, o, none⟩ ∧ b < w.heap.size ∧ ∀ j, j < ks.length → w.cell? ⟨b, o + j, none⟩ = some (.string (kat ks j)) := by
  obtain ⟨b, o, e, hl, hc⟩ := h (by rw [sC_length]; omega)
  refine ⟨b, o, e, hl, fun j hj => ?_⟩
  rw [hc j (by rw [sC_length]; exact hj), kat_lt hj, List.getD_eq_getElem?_getD, sC, List.getElem?_map, List.getElem?_eq_getElem hj]; rfl
def hasL (ks : List ByteArray) (s : ByteArray) : Bool := ks.any (fun k => sameB k s)
theorem hasL_iff {ks : List ByteArray} {s : ByteArray} : hasL ks s = true ↔ s ∈ ks := by
  unfold hasL; rw [List.any_eq_true]
  exact ⟨fun ⟨k, h1, h2⟩ => by rw [← sameB_iff.1 h2]; exact h1, fun h => ⟨s, h, sameB_iff.2 rfl⟩⟩
theorem sC_append (a b : List ByteArray) : sC (a ++ b) = sC a ++ sC b := by unfold sC; rw [List.map_append]

set_option maxRecDepth 100000 in
set_option maxHeartbeats 2000000 in
theorem rhas_any (ao : Option Addr) (ks : List ByteArray) (c : Nat) (s : ByteArray) (w : World) (R : Ending → World → Prop) (hl : ks.length ≤ 1000000) (hc : CellsAt w ao (sC ks))
   (hR : ∀ w', Drew w w' → R (.returned (.bool (hasL ks s))) w') :
    Calls Try.prog 54 #[.slice ao ks.length c, .string s] w R := by
  have HR := Lib.hid hR
  have HC := Lib.hid hc
  clear hR hc
  obtain ⟨X, hX⟩ : ∃ X, Hid (hasL ks s = X) := ⟨_, Lib.hid rfl⟩
  have hX2 : Hid (hasL (ks.drop 0) s = X) := hX
  rw [hX.out] at HR
  go_enter Try.func54, Try.ntmps54
  go_wp2_with fail
  go_loopw [5] (fun j wr => ∃ k : Nat, k ≤ ks.length ∧ j = .int .i64 k ∧ Drew w wr ∧ Hid (hasL (ks.drop k) s = X)) (fun j _ => ks.length - (intOf j).toNat)
  case atStart => exact ⟨0, Nat.zero_le _, rfl, Drew.refl _, hX2⟩
  case round =>
    obtain ⟨k, hk, rfl, ⟨q, rfl⟩, hL⟩ := hrel
    by_cases hlt : k < ks.length
    · obtain ⟨b, o, rfl, _, hcell⟩ := HC.out.strs (by omega)
      have d0 := hcell k hlt
      have hst : Hid (hasL (ks.drop k) s = (sameB (kat ks k) s || hasL (ks.drop (k + 1)) s)) := by unfold Hid; rw [kat_drop hlt]; rfl
      obtain ⟨u, hu⟩ : ∃ u, kat ks k = u := ⟨_, rfl⟩
      rw [hu] at d0 hst
      clear hcell hu
      cases hs : sameB u s with
      | true =>
        have hs1 : (u.toList == s.toList) = true := hs
        have e : Hid (X = true) := by unfold Hid; rw [← hL.out, hst.out, hs]; rfl
        clear hs
        go_wp2_with fail
        exact ret_b (HR.out _ (by repeat first | exact Drew.refl _ | apply Drew.drewN)) rfl e.out
      | false =>
        have hs1 : (u.toList == s.toList) = false := hs
        have e : Hid (hasL (ks.drop (k + 1)) s = X) := by unfold Hid; rw [← hL.out, hst.out, hs]; rfl
        clear hs
        go_wp2_with fail
        exact ⟨⟨k + 1, by omega, by go_num, (by repeat first | exact Drew.refl _ | apply Drew.drewN), e⟩, by simp [intOf]; omega⟩
    · have e : Hid (X = false) := by unfold Hid; rw [← hL.out, List.drop_of_length_le (by omega)]; rfl
      go_wp2_with fail
      exact ret_b (HR.out _ (by repeat first | exact Drew.refl _ | apply Drew.drewN)) rfl e.out

/-! ### Put -/
def ltB (a b : ByteArray) : Bool := Op.bytesLess a.toList b.toList
theorem ltB_iff {a b : ByteArray} : ltB a b = true ↔ bL a < bL b := by
  unfold ltB; rw [bytesLess_eq, decide_eq_true_iff, Lib.toList_data, Lib.toList_data]
theorem ltB_no {a b : ByteArray} : ltB a b = false ↔ ¬ bL a < bL b := by
  rw [← Bool.not_eq_true, ltB_iff]
theorem ltB_same {a b : ByteArray} (h : ltB a b = true) : sameB a b = false := by
  rw [sameB_no]; intro e; subst e; exact List.lt_irrefl _ (ltB_iff.1 h)
def putL (s : ByteArray) : Bool → List ByteArray → List ByteArray
  | d, [] => if d = true then [] else [s]
  | d, k :: ks => (if (!d && !ltB k s) = true then [s] else []) ++ ((if sameB k s = true then [] else [k]) ++ putL s (d || !ltB k s) ks)
theorem putL_true (s : ByteArray) (ks : List ByteArray) : putL s true ks = ks.filter (fun k => !sameB k s) := by
  induction ks with
  | nil => rfl
  | cons k ks ih =>
    rw [putL, Bool.true_or, ih, List.filter_cons]
    cases sameB k s <;> rfl
theorem putL_len (s : ByteArray) (d : Bool) (ks : List ByteArray) : (putL s d ks).length ≤ ks.length + 1 := by
  induction ks generalizing d with
  | nil => cases d <;> simp [putL]
  | cons k ks ih =>
    rw [putL]
    have h0 := List.length_filter_le (fun k => !sameB k s) ks
    cases d <;> cases h1 : ltB k s <;> cases h2 : sameB k s <;> simp only [Bool.not_true, Bool.not_false, Bool.false_or, Bool.true_or, Bool.and_true, Bool.and_false, if_true, if_false, List.nil_append, List.length_append, List.length_cons, List.length_nil, Bool.false_eq_true, putL_true] <;> have := ih false <;> have := ih true <;> omega
theorem putL_mem (s t : ByteArray) (ks : List ByteArray) : t ∈ putL s false ks ↔ t ∈ ks ∨ t = s := by
  induction ks with
  | nil => simp [putL]
  | cons k ks ih =>
    rw [putL]
    cases h1 : ltB k s with
    | true =>
      have h2 := ltB_same h1
      simp only [h2, Bool.not_true, Bool.and_false, Bool.false_or, Bool.false_eq_true, if_false, List.nil_append, List.singleton_append, List.mem_cons, ih]
      exact ⟨fun h => by rcases h with h | h | h <;> simp [h], fun h => by rcases h with (h | h) | h <;> simp [h]⟩
    | false =>
      simp only [Bool.not_false, Bool.and_true, Bool.false_or, if_true, List.singleton_append, List.mem_cons, putL_true, List.mem_append, List.mem_filter, Bool.not_eq_true']
      constructor
      · rintro (h | h | h)
        · exact .inr h
        · split at h
          · cases h
          · simp at h; exact .inl (.inl h)
        · exact .inl (.inr h.1)
      · rintro ((h | h) | h)
        · subst h
          cases h2 : sameB t s with
          | true => exact .inl (sameB_iff.1 h2)
          | false => exact .inr (.inl (by simp))
        · cases h2 : sameB t s with
          | true => exact .inl (sameB_iff.1 h2)
          | false => exact .inr (.inr ⟨h, rfl⟩)
        · exact .inl h
theorem putL_up (s : ByteArray) (ks : List ByteArray) (h : ks.Pairwise (fun a b => bL a < bL b)) : (putL s false ks).Pairwise (fun a b => bL a < bL b) := by
  induction ks with
  | nil => simp [putL]
  | cons k ks ih =>
    rw [List.pairwise_cons] at h
    rw [putL]
    cases h1 : ltB k s with
    | true =>
      have h2 := ltB_same h1
      simp only [h2, Bool.not_true, Bool.and_false, Bool.false_or, Bool.false_eq_true, if_false, List.nil_append, List.singleton_append, List.pairwise_cons]
      refine ⟨fun t ht => ?_, ih h.2⟩
      rcases (putL_mem s t ks).1 ht with h3 | h3
      · exact h.1 t h3
      · subst h3; exact ltB_iff.1 h1
    | false =>
      simp only [Bool.not_false, Bool.and_true, Bool.false_or, if_true, List.singleton_append, putL_true]
      have hge := ltB_no.1 h1
      have hf : (ks.filter (fun k => !sameB k s)).Pairwise (fun a b => bL a < bL b) := h.2.sublist List.filter_sublist
      cases h2 : sameB k s with
      | true =>
        obtain rfl := sameB_iff.1 h2
        simp only [if_true, List.nil_append, List.pairwise_cons]
        exact ⟨fun t ht => h.1 t (List.mem_filter.1 ht).1, hf⟩
      | false =>
        simp only [Bool.false_eq_true, if_false, List.singleton_append, List.pairwise_cons, List.mem_cons]
        have hlt : bL s < bL k := by
          rcases Std.le_iff_lt_or_eq.1 (List.not_lt.1 hge) with h4 | h4
          · exact h4
          · exact absurd (bL_inj h4).symm (sameB_no.1 h2)
        refine ⟨fun t ht => ?_, fun t ht => h.1 t (List.mem_filter.1 ht).1, hf⟩
        rcases ht with rfl | ht
        · exact hlt
        · exact List.lt_trans hlt (h.1 t (List.mem_filter.1 ht).1)
theorem SrtIs.put {ks : List ByteArray} {Q Q' : ByteArray → Bool} (h : SrtIs ks Q) (s : ByteArray) (hQ : ∀ t, Q' t = (Q t || sameB s t)) : SrtIs (putL s false ks) Q' :=
  ⟨putL_up s ks h.up, fun t => by rw [putL_mem, h.mem, hQ, Bool.or_eq_true, sameB_iff]; exact ⟨fun h => h.imp id Eq.symm, fun h => h.imp id Eq.symm⟩⟩
end Go.Proofs.Ytlgjhjgdmomfoaa
namespace Go.Proofs.Ytlgjhjgdmomfoaa
open Go.RowKit Go.Maps

/-! ### own rows beside others -/
theorem own_elem {w : World} {base size : Nat} {e : TypeId} {v : Value} {n : Nat} {xs : List Value} (h : w.ownsRow base e size v n xs) {g : Nat} (hg : v.ownBlock = some g) : ∃ cur, w.heap[g]? = some (.cells cur e (0, 0)) := by
  rcases h.2 with ⟨rfl, _⟩ | ⟨g', cap, cur, rfl, _, hgg, _⟩
  · simp [Value.ownBlock] at hg
  · simp [Value.ownBlock] at hg; subst hg; exact ⟨cur, hgg⟩
theorem own_ne {w : World} {base base' size size' : Nat} {e e' : TypeId} {v v' : Value} {n n' : Nat} {xs xs' : List Value} (h : w.ownsRow base e size v n xs) (h' : w.ownsRow base' e' size' v' n' xs') (he : e ≠ e') :
    v.ownBlock = none ∨ v.ownBlock ≠ v'.ownBlock := by
  cases hv : v.ownBlock with
  | none => exact .inl rfl
  | some g =>
    refine .inr fun e2 => ?_
    obtain ⟨c1, h1⟩ := own_elem h hv
    obtain ⟨c2, h2⟩ := own_elem h' e2.symm
    rw [h1] at h2; cases h2; exact he rfl
theorem own_low {w : World} {base size : Nat} {e : TypeId} {v : Value} {n : Nat} {xs : List Value} (h : w.ownsRow base e size v n xs) {b : Nat} (hb : b < base) : v.ownBlock = none ∨ v.ownBlock ≠ some b := by
  cases hv : v.ownBlock with
  | none => exact .inl rfl
  | some g =>
    refine .inr fun e2 => ?_
    have h1 := (h.lt g hv).1
    cases e2
    omega
theorem ownsRow_set {w : World} {base : Nat} {e : TypeId} {size : Nat} {v : Value} {n : Nat} {xs : List Value} (h : w.ownsRow base e size v n xs) {a : Addr} (ha : a.block < base) (u : Value) : (w.setCell a u).ownsRow base e size v n xs := by
  refine ⟨h.1, ?_⟩
  rcases h.2 with h1 | ⟨g, cap, cur, h1, h2, h3, h4⟩
  · exact .inl h1
  · exact .inr ⟨g, cap, cur, h1, h2, (Below.heap_setCell _ _ _ _ (by omega)).trans h3, h4⟩
theorem cell_of {w : World} {b : Nat} {cs : Array Value} {e : TypeId} (h : w.heap[b]? = some (.cells cs e (0, 0))) {j : Nat} {v : Value} (hj : cs[j]? = some v) : w.cell? ⟨b, j, none⟩ = some v := by
  simp [World.cell?, h, hj]
theorem frozen_of {w : World} {b : Nat} {cs : Array Value} {e : TypeId} (h : w.heap[b]? = some (.cells cs e (0, 0))) (j : Nat) : w.frozen? ⟨b, j, none⟩ = false := by
  simp [World.frozen?, h]
theorem cells_one (w : World) (x : Value) (e : TypeId) : CellsAt (w.alloc (.cells #[x] e)) (some ⟨w.heap.size, 0, none⟩) [x] := by
  intro _
  refine ⟨_, 0, rfl, by simp, fun j hj => ?_⟩
  rw [Nat.zero_add, World.cell?_alloc_new]
  match j, hj with
  | 0, _ => rfl

/-! ### what graphOf computes -/
def dI (ys : List Nat) : List Value := I64s (ys.map fun (y : Nat) => (y : Int))
theorem dI_append (a b : List Nat) : dI (a ++ b) = dI a ++ dI b := by unfold dI I64s; rw [List.map_append, List.map_append]
theorem dI_length (a : List Nat) : (dI a).length = a.length := by simp [dI, I64s]
/-- The dimensions along an axis. -/
def onA (vs : List Dm) (ax : Int) : Nat → List Nat
  | 0 => []
  | k + 1 => if (dAt vs k).x == ax then onA vs ax k ++ [k] else onA vs ax k
/-- Their names, as they come. -/
def rawN (vs : List Dm) (ax : Int) : Nat → List ByteArray
  | 0 => []
  | k + 1 => if (dAt vs k).x == ax then rawN vs ax k ++ [(dAt vs k).f, (dAt vs k).t] else rawN vs ax k
theorem onA_len (vs : List Dm) (ax : Int) : ∀ k, (onA vs ax k).length ≤ k
  | 0 => Nat.le_refl _
  | k + 1 => by
    have := onA_len vs ax k
    rw [onA]
    split
    · rw [List.length_append]; simp; omega
    · omega
theorem rawN_len (vs : List Dm) (ax : Int) : ∀ k, (rawN vs ax k).length ≤ 2 * k
  | 0 => Nat.le_refl _
  | k + 1 => by
    have := rawN_len vs ax k
    rw [rawN]
    split
    · rw [List.length_append]; simp; omega
    · omega
theorem rawN_mem (vs : List Dm) (ax : Int) (s : ByteArray) : ∀ k, s ∈ rawN vs ax k ↔ ∃ i, i < k ∧ (dAt vs i).x = ax ∧ (s = (dAt vs i).f ∨ s = (dAt vs i).t)
  | 0 => by simp [rawN]
  | k + 1 => by
    have ih := rawN_mem vs ax s k
    rw [rawN]
    by_cases h : (dAt vs k).x = ax
    · rw [if_pos (by simpa using h), List.mem_append, ih]
      constructor
      · rintro (⟨i, h1, h2⟩ | h1)
        · exact ⟨i, by omega, h2⟩
        · exact ⟨k, by omega, h, by simpa using h1⟩
      · rintro ⟨i, h1, h2, h3⟩
        by_cases e : i = k
        · subst e; exact .inr (by simpa using h3)
        · exact .inl ⟨i, by omega, h2, h3⟩
    · rw [if_neg (by simpa using h), ih]
      constructor
      · rintro ⟨i, h1, h2⟩; exact ⟨i, by omega, h2⟩
      · rintro ⟨i, h1, h2, h3⟩
        by_cases e : i = k
        · subst e; exact absurd h2 h
        · exact ⟨i, by omega, h2, h3⟩
/-- The names, sorted, each once. -/
def nmG (vs : List Dm) (ax : Int) : List ByteArray := sortU (rawN vs ax vs.length)
def kAt (ks : List ByteArray) (i : Nat) : ByteArray := ks.getD i ⟨#[]⟩
theorem sC_get {ks : List ByteArray} {i : Nat} (h : i < ks.length) : (sC ks)[i]? = some (.string (kAt ks i)) := by
  unfold sC kAt
  rw [List.getElem?_map, List.getElem?_eq_getElem h, List.getD_eq_getElem?_getD, List.getElem?_eq_getElem h]; rfl
theorem kAt_mem {ks : List ByteArray} {i : Nat} (h : i < ks.length) : kAt ks i ∈ ks := by
  unfold kAt; rw [List.getD_eq_getElem?_getD, List.getElem?_eq_getElem h]; exact List.getElem_mem h
/-- The places of the first names. -/
def plF (ks : List ByteArray) : Nat → SMap
  | 0 => fun _ => none
  | k + 1 => (plF ks k).put (kAt ks k) (.int .i64 k)
theorem sortU_cmp (ks : List ByteArray) : (Go.Lib.compact ((srtK ks).map bL)).map ofL = sortU ks := by
  have e : (srtK ks).map bL = (ks.map bL).mergeSort fun x y => decide (x ≤ y) := by
    unfold srtK
    rw [List.map_map]
    conv => rhs; rw [← List.map_id ((ks.map bL).mergeSort fun x y => decide (x ≤ y))]
    exact List.map_congr_left fun l _ => bL_ofL l
  rw [e]; rfl
theorem sortU_len (ks : List ByteArray) : (sortU ks).length ≤ ks.length := by
  unfold sortU Go.Lib.compact Go.Lib.compactUpTo
  rw [List.length_map, List.length_map]
  refine Nat.le_trans (List.length_filter_le _ _) ?_
  rw [List.length_range, List.length_mergeSort, List.length_map]; exact Nat.le_refl _

/-! ### the graph in memory -/
structure GrAt (W : World) (b : Nat) (nv dv lv : Value) (ks : List ByteArray) (is : List Nat) (k : Nat) (f : SMap) : Prop where
  box : W.heap[b + 1]? = some (.cells #[nv, .map (some b), dv, lv] 99 (0, 0))
  map : MapIs Try.prog 9 W b k f
  names : W.ownsRow (b + 2) 9 1 nv ks.length (sC ks)
  dims : W.ownsRow (b + 2) 3 1 dv is.length (dI is)
section
variable {W W' : World} {b : Nat} {nv dv lv v : Value} {ks js : List ByteArray} {is : List Nat} {k k' : Nat} {f f' : SMap}
theorem GrAt.size (h : GrAt W b nv dv lv ks is k f) : b + 2 ≤ W.heap.size := by
  have := h.box
  by_cases hlt : b + 1 < W.heap.size
  · omega
  · rw [Array.getElem?_eq_none (by omega)] at this; cases this
theorem GrAt.below (h : GrAt W b nv dv lv ks is k f) (hb : Below W.heap.size W W') : GrAt W' b nv dv lv ks is k f :=
  have hs := h.size
  ⟨(hb.block (b + 1) (by omega)).trans h.box, h.map.keep (hb.block b (by omega)), ownsRow_below h.names hb, ownsRow_below h.dims hb⟩
theorem GrAt.cell (h : GrAt W b nv dv lv ks is k f) : W.cell? ⟨b + 1, 0, none⟩ = some nv ∧ W.cell? ⟨b + 1, 1, none⟩ = some (.map (some b)) ∧ W.cell? ⟨b + 1, 2, none⟩ = some dv ∧ W.cell? ⟨b + 1, 3, none⟩ = some lv :=
  ⟨cell_of h.box rfl, cell_of h.box rfl, cell_of h.box rfl, cell_of h.box rfl⟩
theorem GrAt.frozen (h : GrAt W b nv dv lv ks is k f) (j : Nat) : W.frozen? ⟨b + 1, j, none⟩ = false := frozen_of h.box j
theorem low_ne {base : Nat} {size n : Nat} {e : TypeId} {xs : List Value} (h : W.ownsRow base e size v n xs) {c : Nat} (hc : c < base) : some c ≠ v.ownBlock := fun e2 => by
  have := (h.lt c e2.symm).1; omega
/-- A new row of dimensions. -/
theorem GrAt.putDims (h : GrAt W b nv dv lv ks is k f) {i : Nat} (hg : W.grownBy W' dv.ownBlock) (hown : W'.ownsRow (b + 2) 3 1 v (is.length + 1) (dI is ++ [.int .i64 i])) :
    GrAt (W'.setCell ⟨b + 1, 2, none⟩ v) b nv v lv ks (is ++ [i]) k f := by
  have hs := h.size
  have hbx := (hg.block (b + 1) (by omega) (low_ne h.dims (by omega))).trans h.box
  refine ⟨heap_setCell_same W' (b + 1) 2 _ _ v hbx, h.map.keep ?_, ownsRow_set (h.names.kept hg (own_ne h.names h.dims (by decide))) (by show b + 1 < b + 2; omega) _, ownsRow_set ?_ (by show b + 1 < b + 2; omega) _⟩
  · exact (Below.heap_setCell _ _ _ _ (by show b ≠ b + 1; omega)).trans (hg.block b (by omega) (low_ne h.dims (by omega)))
  · rw [dI_append, List.length_append]; exact hown
/-- A new row of names, in the box. -/
theorem GrAt.putNames (h : GrAt W b nv dv lv ks is k f) (hg : W.grownBy W' nv.ownBlock) (hown : W'.ownsRow (b + 2) 9 1 v js.length (sC js)) :
    GrAt (W'.setCell ⟨b + 1, 0, none⟩ v) b v dv lv js is k f := by
  have hs := h.size
  have hbx := (hg.block (b + 1) (by omega) (low_ne h.names (by omega))).trans h.box
  refine ⟨heap_setCell_same W' (b + 1) 0 _ _ v hbx, h.map.keep ?_, ownsRow_set hown (by show b + 1 < b + 2; omega) _, ownsRow_set (h.dims.kept hg (own_ne h.dims h.names (by decide))) (by show b + 1 < b + 2; omega) _⟩
  exact (Below.heap_setCell _ _ _ _ (by show b ≠ b + 1; omega)).trans (hg.block b (by omega) (low_ne h.names (by omega)))
/-- The names changed in their place. -/
theorem GrAt.inNames (h : GrAt W b nv dv lv ks is k f) (hg : W.grownBy W' nv.ownBlock) (hown : W'.ownsRow (b + 2) 9 1 nv js.length (sC js)) : GrAt W' b nv dv lv js is k f := by
  have hs := h.size
  exact ⟨(hg.block (b + 1) (by omega) (low_ne h.names (by omega))).trans h.box, h.map.keep (hg.block b (by omega) (low_ne h.names (by omega))), hown, h.dims.kept hg (own_ne h.dims h.names (by decide))⟩
/-- An entry more in the map. -/
theorem GrAt.store (h : GrAt W b nv dv lv ks is k f) (hg : W.grownBy W' (some b)) (hM : MapIs Try.prog 9 W' b k' f') : GrAt W' b nv dv lv ks is k' f' := by
  have hs := h.size
  exact ⟨(hg.block (b + 1) (by omega) (by intro e; have := Option.some.inj e; omega)).trans h.box, hM, h.names.kept hg (own_low h.names (by omega)), h.dims.kept hg (own_low h.dims (by omega))⟩
theorem GrAt.grown (_h : GrAt W b nv dv lv ks is k f) {v : Value} {base size n : Nat} {e : TypeId} {xs : List Value} (ho : W.ownsRow base e size v n xs) {B : Nat} (hB : B ≤ base) {w0 : World} (hb : Below B w0 W) (hBs : B ≤ W.heap.size) (hg : W.grownBy W' v.ownBlock) : Below B w0 W' :=
  hb.grown hg hBs fun j e => by have := (ho.lt j e).1; omega
end
theorem grAt_made (w : World) (lv : Value) : GrAt ((w.alloc (.map #[] 0)).alloc (.cells #[.slice none 0 0, .map (some w.heap.size), .slice none 0 0, lv] 99)) w.heap.size (.slice none 0 0) (.slice none 0 0) lv [] [] 0 (fun _ => none) := by
  refine ⟨?_, (mapIs_made w).below ((Below.refl (w.heap.size + 1) _).alloc (by simp) _) (by omega), World.ownsRow_nil _ _ _ _, World.ownsRow_nil _ _ _ _⟩
  have h := World.alloc_heap_new (w.alloc (.map #[] 0)) (.cells #[.slice none 0 0, .map (some w.heap.size), .slice none 0 0, lv] 99)
  rw [World.size_alloc] at h
  exact h
end Go.Proofs.Ytlgjhjgdmomfoaa
namespace Go.Proofs.Ytlgjhjgdmomfoaa
open Go.RowKit Go.Maps

theorem Try.infoI22 : (Try.prog.info? 3).map (fun i => (i.zero, i.size, i.bytes)) = some (some (.int .i64 0), 1, 8) := by kernel_rfl
theorem sortU_mem (ks : List ByteArray) (s : ByteArray) : s ∈ sortU ks ↔ s ∈ ks := by
  classical
  have h := (sortU_srt ks (fun s => decide (s ∈ ks)) (fun s => by simp)).mem s
  rw [h]; simp
theorem nmG_size {vs : List Dm} {ax : Int} (hv : DmsOk vs) {s : ByteArray} (h : s ∈ nmG vs ax) : s.size ≤ 9223372036854775807 := by
  obtain ⟨i, h1, _, h3⟩ := (rawN_mem vs ax s vs.length).1 ((sortU_mem _ _).1 h)
  rcases h3 with rfl | rfl
  · exact (hv i h1).1
  · exact (hv i h1).2
theorem oneII (x y : ByteArray) : ∀ u ∈ [Value.string x, .string y], u.oneCell' = true := by
  intro u hu
  simp only [List.mem_cons, List.not_mem_nil, or_false] at hu
  rcases hu with rfl | rfl <;> rfl
set_option maxRecDepth 100000 in
set_option maxHeartbeats 8000000 in
theorem graphOf_any (ao : Option Addr) (vs : List Dm) (c : Nat) (ax : Int) (w : World) (R : Ending → World → Prop) (hl : vs.length ≤ 256) (hc : CellsAt w ao (dC vs)) (hv : DmsOk vs)
   (hR : ∀ nv dv w', Below w.heap.size w w' → GrAt w' w.heap.size nv dv (.slice ao vs.length c) (nmG vs ax) (onA vs ax vs.length) (nmG vs ax).length (plF (nmG vs ax) (nmG vs ax).length) → R (.returned (.pointer (some ⟨w.heap.size + 1, 0, none⟩))) w') :
    Calls Try.prog 49 #[.slice ao vs.length c, .int .i64 ax] w R := by
  have HR := Lib.hid hR
  have HC := Lib.hid hc
  have HV := Lib.hid hv
  obtain ⟨i0, hi0, hi1, hi2, hi3⟩ := info_parts Try.infoStr53
  have hmm := @run_makeMap Try.prog
  clear hR hc hv
  go_enter Try.func49, Try.ntmps49
  go_wp2_with fail
  have hG4 := grAt_made w (.slice ao vs.length c)
  have hB4 : Below w.heap.size w ((w.alloc (.map #[] 0)).alloc (.cells #[.slice none 0 0, .map (some w.heap.size), .slice none 0 0, .slice ao vs.length c] 99)) := ((Below.refl _ w).alloc (Nat.le_refl _) _).alloc (by simp) _
  obtain ⟨w4, hw4⟩ : ∃ w4, (w.alloc (.map #[] 0)).alloc (.cells #[.slice none 0 0, .map (some w.heap.size), .slice none 0 0, .slice ao vs.length c] 99) = w4 := ⟨_, rfl⟩
  rw [hw4] at hG4 hB4 ⊢
  have HG4 := Lib.hid hG4
  have HB4 := Lib.hid hB4
  clear hw4 hmm hG4 hB4
  go_loopw [16] (fun j wr => ∃ (k : Nat) (nv dv : Value), k ≤ vs.length ∧ j = .int .i64 k ∧ Hid (Below w.heap.size w wr) ∧ Hid (GrAt wr w.heap.size nv dv (.slice ao vs.length c) (rawN vs ax k) (onA vs ax k) 0 (fun _ => none))) (fun j _ => vs.length - (intOf j).toNat)
  case atStart => exact ⟨0, _, _, Nat.zero_le _, rfl, HB4, HG4⟩
  case round =>
    obtain ⟨k, nv, dv, hk, rfl, HB, HG⟩ := hrel
    have sB := HB.out.size
    have sG := HG.out.size
    by_cases hlt : k < vs.length
    · obtain ⟨b, o, rfl, hbb, hcell⟩ := HC.out.dms (by omega)
      obtain ⟨c0, c1, c2, c3, c4⟩ := hcell k hlt
      have d0 := cellB HB.out c0 hbb
      have d1 := cellB HB.out c1 hbb
      have d2 := cellB HB.out c2 hbb
      have d3 := cellB HB.out c3 hbb
      have d4 := cellB HB.out c4 hbb
      have hnR : Hid (rawN vs ax (k + 1) = if (dAt vs k).x == ax then rawN vs ax k ++ [(dAt vs k).f, (dAt vs k).t] else rawN vs ax k) := rfl
      have hnO : Hid (onA vs ax (k + 1) = if (dAt vs k).x == ax then onA vs ax k ++ [k] else onA vs ax k) := rfl
      have lnR := rawN_len vs ax k
      have lnO := onA_len vs ax k
      obtain ⟨u, hu⟩ : ∃ u, dAt vs k = u := ⟨_, rfl⟩
      obtain ⟨ks, hks⟩ : ∃ ks, rawN vs ax k = ks := ⟨_, rfl⟩
      obtain ⟨is, his⟩ : ∃ is, onA vs ax k = is := ⟨_, rfl⟩
      rw [hu] at d0 d1 d2 d3 d4 hnR hnO
      rw [hks] at hnR lnR HG
      rw [his] at hnO lnO HG
      have HA : Hid (Below w.heap.size w (wr.alloc (.cells #[.string u.f, .string u.t, .int .i64 u.x, .int .i64 u.l, .int .i64 u.h] 73))) := HB.out.alloc sB _
      have GA : Hid (GrAt (wr.alloc (.cells #[.string u.f, .string u.t, .int .i64 u.x, .int .i64 u.l, .int .i64 u.h] 73)) w.heap.size nv dv (.slice (some ⟨b, o, none⟩) vs.length c) ks is 0 (fun _ => none)) := HG.out.below ((Below.refl _ _).alloc (Nat.le_refl _) _)
      clear hcell hu hks his c0 c1 c2 c3 c4
      by_cases hx : u.x = ax
      · have K : (u.x == ax) = true := by simpa using hx
        have hR2 : Hid (rawN vs ax (k + 1) = ks ++ [u.f, u.t]) := by have h := hnR.out; rw [K, if_pos rfl] at h; exact h
        have hO2 : Hid (onA vs ax (k + 1) = is ++ [k]) := by have h := hnO.out; rw [K, if_pos rfl] at h; exact h
        clear hx
        obtain ⟨na, nc, rfl, _, _⟩ := ownsRow_read HG.out.names
        obtain ⟨_, _, a2, _⟩ := GA.out.cell
        have a2f := GA.out.frozen 2
        go_wp2_with (at_builtin; refine wp_appendT rfl (.tmp 29) (.tmp 31) 42 rfl (w.heap.size + 2) 3 Try.underlying42 Try.infoI22 rfl (by decide) dv is.length (dI is) rfl (ownsRow_below GA.out.dims ((Below.refl _ _).alloc (Nat.le_refl _) _)) ⟨wr.heap.size + 1, 0, none⟩ 1 1 [.int .i64 k] rfl rfl (by have h := cells_one (wr.alloc (.cells #[.string u.f, .string u.t, .int .i64 u.x, .int .i64 u.l, .int .i64 u.h] 73)) (.int .i64 k) 3; simpa using h) (one1 _ rfl) (by omega) (by omega) (by simp; omega) ?_; intro v5 w5 hown hgrow _; obtain ⟨a5, c5, rfl, _, _⟩ := ownsRow_read hown; have Gd := GA.out.below ((Below.refl _ (wr.alloc (.cells #[.string u.f, .string u.t, .int .i64 u.x, .int .i64 u.l, .int .i64 u.h] 73))).alloc (Nat.le_refl _) (.cells #[.int .i64 k] 3)); have hbx := (hgrow.block (w.heap.size + 1) (by simp; omega) (low_ne Gd.dims (by omega))).trans Gd.box; have q1 := cell_of hbx (j := 2) rfl; have q2 := frozen_of hbx 2; have H5 := Lib.hid hown; have hg0 := Lib.hid hgrow; clear hown hgrow Gd hbx)
        have G6' := GrAt.putDims (GA.out.below ((Below.refl _ _).alloc (Nat.le_refl _) _)) hg0.out H5.out
        have B6' : Below w.heap.size w (w5.setCell ⟨w.heap.size + 1, 2, none⟩ (.slice a5 (is.length + 1) c5)) := ((GA.out.below ((Below.refl _ _).alloc (Nat.le_refl _) _)).grown (ownsRow_below GA.out.dims ((Below.refl _ _).alloc (Nat.le_refl _) _)) (by omega) (HA.out.alloc HA.out.size _) (by simp; omega) hg0.out).setCell (by show w.heap.size ≤ w.heap.size + 1; omega) _
        have X0 : (w5.setCell ⟨w.heap.size + 1, 2, none⟩ (.slice a5 (is.length + 1) c5)).heap[wr.heap.size]? = some (.cells #[.string u.f, .string u.t, .int .i64 u.x, .int .i64 u.l, .int .i64 u.h] 73 (0, 0)) := by
          refine (Below.heap_setCell _ _ _ _ (by show wr.heap.size ≠ w.heap.size + 1; omega)).trans ((hg0.out.block wr.heap.size (by simp; omega) ?_).trans ((Below.heap_alloc _ _ _ (by simp)).trans (World.alloc_heap_new wr _)))
          intro e
          have := (HG.out.dims.lt _ e.symm).2
          omega
        obtain ⟨w6, hw6⟩ : ∃ w6, w5.setCell ⟨w.heap.size + 1, 2, none⟩ (.slice a5 (is.length + 1) c5) = w6 := ⟨_, rfl⟩
        rw [hw6] at G6' B6' X0 ⊢
        have G6 := Lib.hid G6'
        have B6 := Lib.hid B6'
        clear G6' B6' hw6 H5 hg0 a2 a2f HA GA q1 q2
        have s6 := B6.out.size
        have t6 := G6.out.size
        obtain ⟨g0, _, _, _⟩ := G6.out.cell
        have e0 : w6.cell? ⟨wr.heap.size, 0, none⟩ = some (.string u.f) := cell_of X0 rfl
        have e1 : w6.cell? ⟨wr.heap.size, 1, none⟩ = some (.string u.t) := cell_of X0 rfl
        have hx6 : wr.heap.size < w6.heap.size := lt_of_block X0
        have gA : (w6.alloc (.cells #[.string u.f, .string u.t] 9)).cell? ⟨w.heap.size + 1, 0, none⟩ = some (.slice na ks.length nc) := cellB ((Below.refl _ _).alloc (Nat.le_refl _) _) g0 (by omega)
        clear X0
        go_wp2_with fail
        go_region_law ((refine step_append_lies _ (by rfl) (.tmp 39) (.tmp 44) _ (by rfl) (w.heap.size + 2) 9 i0 _ 1 16 Try.underlying60 hi0 hi1 hi2 hi3 rfl (by omega) (.slice na ks.length nc) ks.length (sC ks) (by rfl) (ownsRow_below G6.out.names (((Below.refl _ _).alloc (Nat.le_refl _) _).drew)) ⟨w6.heap.size, 0, none⟩ 2 2 [.string u.f, .string u.t] (by rfl) (by rfl) (World.news_of_block (cs := #[.string u.f, .string u.t]) (fr := (0, 0)) (World.alloc_heap_new w6 _)) (oneII _ _) (by omega) (by unfold maxLen; omega) (by omega) (by simp; omega) (w6.heap.size + 1) (by simp) ?_; intro gg cap w7 hown1 hgrow hat hlt; have Gd := G6.out.below (((Below.refl _ w6).alloc (Nat.le_refl _) (.cells #[.string u.f, .string u.t] 9)).drew); have hbx := (hgrow.block (w.heap.size + 1) (by simp; omega) (low_ne Gd.names (by omega))).trans Gd.box; have g1 : w7.cell? ⟨w.heap.size + 1, 0, none⟩ = some (.slice na ks.length nc) := cell_of hbx rfl; have g2 := frozen_of hbx 0; have G7 := Lib.hid (GrAt.putNames Gd hgrow (v := .slice (some ⟨gg, 0, none⟩) (ks.length + 2) cap) (js := ks ++ [u.f, u.t]) (by rw [sC_append, List.length_append]; exact hown1)); have B7 := Lib.hid ((Gd.grown Gd.names (by omega) ((B6.out.alloc B6.out.size _).drew) (by simp; omega) hgrow).setCell (p := ⟨w.heap.size + 1, 0, none⟩) (by show w.heap.size ≤ w.heap.size + 1; omega) (.slice (some ⟨gg, 0, none⟩) (ks.length + 2) cap)); clear hown1 hgrow hat hlt Gd hbx))
        all_goals
          go_wp2_with fail
          refine ⟨⟨k + 1, .slice (some ⟨gg, 0, none⟩) (ks.length + 2) cap, .slice a5 (is.length + 1) c5, by omega, by go_num, B7, ?_⟩, by simp [intOf]; omega⟩
          rw [hR2.out, hO2.out]; exact G7
      · have K : (u.x == ax) = false := by simpa using hx
        have hR2 : Hid (rawN vs ax (k + 1) = ks) := by have h := hnR.out; rw [K, if_neg (by simp)] at h; exact h
        have hO2 : Hid (onA vs ax (k + 1) = is) := by have h := hnO.out; rw [K, if_neg (by simp)] at h; exact h
        clear hx
        go_wp2_with fail
        refine ⟨⟨k + 1, nv, dv, by omega, by go_num, HA, ?_⟩, by simp [intOf]; omega⟩
        rw [hR2.out, hO2.out]; exact GA
    · obtain rfl : k = vs.length := by omega
      obtain ⟨n0, n1, _, _⟩ := HG.out.cell
      have lnR := rawN_len vs ax vs.length
      go_wp2_with fail
      refine sortM_any (w.heap.size + 2) (rawN vs ax vs.length) nv wr _ (by omega) HG.out.names ?_
      intro w1 hg ho
      have G1 := Lib.hid (HG.out.inNames hg (js := srtK (rawN vs ax vs.length)) (by rw [srtK_len]; exact ho))
      have B1 := Lib.hid (HG.out.grown HG.out.names (by omega) HB.out sB hg)
      clear hg ho n0 n1 HG HB
      have s1 := B1.out.size
      have t1 := G1.out.size
      obtain ⟨n0, n1, _, _⟩ := G1.out.cell
      go_wp2_with fail
      refine compactM_any (w.heap.size + 2) (srtK (rawN vs ax vs.length)) nv w1 _ (by rw [srtK_len]; omega) G1.out.names ?_
      rw [sortU_cmp]
      intro v' w2 hg _ ho
      have hK : sortU (rawN vs ax vs.length) = nmG vs ax := rfl
      rw [hK] at ho
      have hkl : (nmG vs ax).length ≤ 512 := by rw [← hK]; exact Nat.le_trans (sortU_len _) (by omega)
      have hKs : Hid (∀ s, s ∈ nmG vs ax → s.size ≤ 9223372036854775807) := fun s h => nmG_size HV.out h
      obtain ⟨ks, hks⟩ : ∃ ks, nmG vs ax = ks := ⟨_, rfl⟩
      rw [hks] at ho hkl hKs HR
      obtain ⟨a', c', rfl, _, _⟩ := ownsRow_read ho
      have G2' := GrAt.putNames G1.out hg ho
      have B2' := (G1.out.grown G1.out.names (by omega) B1.out s1 hg).setCell (p := ⟨w.heap.size + 1, 0, none⟩) (by show w.heap.size ≤ w.heap.size + 1; omega) (.slice a' ks.length c')
      have hbx := (hg.block (w.heap.size + 1) (by omega) (low_ne G1.out.names (by omega))).trans G1.out.box
      have m0 := cell_of hbx (j := 0) rfl
      have m1 := frozen_of hbx 0
      have hw2 := hg.size
      clear hg ho n0 n1 hK hks hbx
      go_wp2_with fail
      obtain ⟨w3, hw3⟩ : ∃ w3, w2.setCell ⟨w.heap.size + 1, 0, none⟩ (.slice a' ks.length c') = w3 := ⟨_, rfl⟩
      rw [hw3] at G2' B2' ⊢
      have G2 := Lib.hid G2'
      have B2 := Lib.hid B2'
      clear hw3 G2' B2' m0 m1
      clear G1 B1
      go_loopw [67] (fun j wr => ∃ (k : Nat), k ≤ ks.length ∧ j = .int .i64 k ∧ Hid (Below w.heap.size w wr) ∧ Hid (GrAt wr w.heap.size (.slice a' ks.length c') dv (.slice ao vs.length c) ks (onA vs ax vs.length) k (plF ks k))) (fun j _ => ks.length - (intOf j).toNat)
      case atStart => exact ⟨0, Nat.zero_le _, rfl, B2, G2⟩
      case round =>
        obtain ⟨k, hk, rfl, HB, HG⟩ := hrel
        by_cases hlt : k < ks.length
        · obtain ⟨_, _, e9, hcs, _⟩ := ownsRow_read HG.out.names
          cases e9
          obtain ⟨b, o, rfl, hbb, _⟩ := hcs (by rw [sC_length]; omega)
          have d1 := hcs.get rfl (sC_get hlt)
          have hs' := Lib.hid (hKs.out _ (kAt_mem hlt))
          have hpl : Hid (plF ks (k + 1) = (plF ks k).put (kAt ks k) (.int .i64 k)) := rfl
          obtain ⟨s, hs⟩ : ∃ s, kAt ks k = s := ⟨_, rfl⟩
          rw [hs] at d1 hs' hpl
          obtain ⟨_, n1, _, _⟩ := HG.out.cell
          clear hcs hs
          go_wp2_with (at_mapUpdate; refine wp_mapStore _ rfl _ _ _ 97 rfl 9 3 Try.underlying9 Try.underlying97 w.heap.size k (plF ks k) rfl HG.out.map (by unfold maxLen; omega) s (.int .i64 k) rfl rfl hs'.out ?_; intro w7 h7 g7; have G7 := Lib.hid (HG.out.store g7 h7); have B7 := Lib.hid (HB.out.grown g7 HB.out.size (fun j e => by cases e; exact Nat.le_refl _)); clear h7 g7)
          refine ⟨⟨k + 1, by omega, by go_num, B7, ?_⟩, by simp [intOf]; omega⟩
          rw [hpl.out]; exact G7
        · obtain rfl : k = ks.length := by omega
          go_wp2_with fail
          exact HR.out _ _ _ HB.out HG.out
end Go.Proofs.Ytlgjhjgdmomfoaa
namespace Go.Proofs.Ytlgjhjgdmomfoaa
open Go.RowKit Go.Maps

def nAt (l : List Nat) (i : Nat) : Nat := l.getD i 0
theorem nAt_lt {l : List Nat} {i : Nat} (h : i < l.length) : nAt l i = l[i] := by unfold nAt; rw [List.getD_eq_getElem?_getD, List.getElem?_eq_getElem h]; rfl
theorem dI_get {l : List Nat} {i : Nat} (h : i < l.length) : (dI l).getD i undef = .int .i64 (nAt l i) := by
  rw [dI, I64s_getD _ _ (by simpa using h), at0, List.getD_eq_getElem?_getD, List.getElem?_map, List.getElem?_eq_getElem h, nAt_lt h]; rfl
theorem dI_get? {l : List Nat} {i : Nat} (h : i < l.length) : (dI l)[i]? = some (.int .i64 (nAt l i)) := by
  have h1 : i < (dI l).length := by rw [dI_length]; exact h
  have h2 := dI_get h
  rw [List.getD_eq_getElem?_getD, List.getElem?_eq_getElem h1] at h2
  rw [List.getElem?_eq_getElem h1]; exact congrArg some h2
theorem dI_set (l : List Nat) (i x : Nat) : (dI l).set i (.int .i64 x) = dI (l.set i x) := by simp [dI, I64s, List.map_set]
theorem dI_zero (n : Nat) : reps n (.int .i64 0) = dI (List.replicate n 0) := by simp [reps, dI, I64s]
/-- The first places are their own. -/
def iniL (n k : Nat) : List Nat := List.range k ++ List.replicate (n - k) 0
theorem iniL_len {n k : Nat} (h : k ≤ n) : (iniL n k).length = n := by simp [iniL]; omega
theorem iniL_set {n k : Nat} (h : k < n) : (iniL n k).set k k = iniL n (k + 1) := by
  unfold iniL
  rw [show n - k = (n - (k + 1)) + 1 from by omega, List.replicate_succ, List.range_succ, List.append_assoc]
  rw [List.set_append]
  simp
/-- Two groups are made one. -/
def mrg (a b x : Nat) : Nat := if x = a ∨ x = b then min a b else x
def mid (a b : Nat) (L : List Nat) (k : Nat) : List Nat := (L.take k).map (mrg a b) ++ L.drop k
theorem mid_len {a b : Nat} {L : List Nat} {k : Nat} (h : k ≤ L.length) : (mid a b L k).length = L.length := by simp [mid]; omega
theorem mid_zero (a b : Nat) (L : List Nat) : mid a b L 0 = L := by simp [mid]
theorem mid_all (a b : Nat) (L : List Nat) : mid a b L L.length = L.map (mrg a b) := by simp [mid]
theorem mid_get {a b : Nat} {L : List Nat} {k : Nat} (h : k < L.length) : nAt (mid a b L k) k = nAt L k := by
  rw [nAt_lt (by rw [mid_len (by omega)]; exact h), nAt_lt h]
  simp [mid, Nat.min_eq_left (Nat.le_of_lt h)]
theorem mid_set {a b : Nat} {L : List Nat} {k : Nat} (h : k < L.length) : (mid a b L k).set k (mrg a b (nAt L k)) = mid a b L (k + 1) := by
  unfold mid
  rw [List.drop_eq_getElem_cons h, List.take_succ_eq_append_getElem h, List.map_append, List.append_assoc, List.set_append, nAt_lt h]
  simp [Nat.min_eq_left (Nat.le_of_lt h)]
  rw [List.drop_eq_getElem_cons h]; rfl
theorem mid_keep {a b : Nat} {L : List Nat} {k : Nat} (h : k < L.length) (hn : ¬ (nAt L k = a ∨ nAt L k = b)) : mid a b L (k + 1) = mid a b L k := by
  rw [← mid_set h, mrg, if_neg hn, ← mid_get (a := a) (b := b) h, nAt_lt (by rw [mid_len (by omega)]; exact h), List.set_getElem_self]
/-- The groups behind some dimensions. -/
def grp (p q : Nat → Nat) : List Nat → List Nat → List Nat
  | out, [] => out
  | out, i :: is => grp p q (out.map (mrg (nAt out (p i)) (nAt out (q i)))) is
theorem grp_len (p q : Nat → Nat) : ∀ (is out : List Nat), (grp p q out is).length = out.length
  | [], _ => rfl
  | i :: is, out => by rw [grp, grp_len p q is]; simp
/-- All members stay below a bound. -/
theorem mrg_lt {a b x n : Nat} (ha : a < n) (hb : b < n) (hx : x < n) : mrg a b x < n := by unfold mrg; split <;> omega

/-! ### places -/
def pos (ks : List ByteArray) (s : ByteArray) : Nat := (ks.map bL).idxOf (bL s)
theorem pos_lt {ks : List ByteArray} {s : ByteArray} (h : s ∈ ks) : pos ks s < ks.length := by
  have h1 : bL s ∈ ks.map bL := List.mem_map_of_mem h
  have := List.idxOf_lt_length_of_mem h1
  rw [List.length_map] at this; exact this
theorem pos_kAt {ks : List ByteArray} (hn : ks.Nodup) {i : Nat} (h : i < ks.length) : pos ks (kAt ks i) = i := by
  have hm : (ks.map bL).Nodup := List.Pairwise.map bL (fun a b hab e => hab (bL_inj e)) hn
  have e : bL (kAt ks i) = (ks.map bL)[i]'(by simpa using h) := by
    unfold kAt; rw [List.getD_eq_getElem?_getD, List.getElem?_eq_getElem h]; simp
  unfold pos
  rw [e]; exact hm.idxOf_getElem i _
theorem kAt_pos {ks : List ByteArray} {s : ByteArray} (h : s ∈ ks) : kAt ks (pos ks s) = s := by
  have h1 : bL s ∈ ks.map bL := List.mem_map_of_mem h
  have h2 := List.getElem_idxOf (List.idxOf_lt_length_of_mem h1)
  have h3 := pos_lt h
  unfold kAt
  rw [List.getD_eq_getElem?_getD, List.getElem?_eq_getElem h3]
  refine bL_inj ?_
  rw [List.getElem_map] at h2
  exact h2
theorem plF_some {ks : List ByteArray} (hn : ks.Nodup) {s : ByteArray} (h : s ∈ ks) : ∀ k, k ≤ ks.length → plF ks k s = if pos ks s < k then some (.int .i64 (pos ks s)) else none
  | 0, _ => by rw [if_neg (by omega)]; rfl
  | k + 1, hk => by
    rw [plF]
    unfold SMap.put
    by_cases e : s = kAt ks k
    · have e2 : pos ks s = k := by rw [e]; exact pos_kAt hn (by omega)
      rw [if_pos e, if_pos (by omega), e2]
    · rw [if_neg e, plF_some hn h k (by omega)]
      have e2 : pos ks s ≠ k := fun e2 => e (by rw [← e2]; exact (kAt_pos h).symm)
      by_cases h3 : pos ks s < k
      · rw [if_pos h3, if_pos (by omega)]
      · rw [if_neg h3, if_neg (by omega)]
theorem plF_none {ks : List ByteArray} {s : ByteArray} (h : ¬ s ∈ ks) : ∀ k, k ≤ ks.length → plF ks k s = none
  | 0, _ => rfl
  | k + 1, hk => by
    rw [plF]
    unfold SMap.put
    rw [if_neg (fun e => h (by rw [e]; exact kAt_mem (by omega)))]
    exact plF_none h k (by omega)
/-- The whole map of places. -/
theorem place_in {ks : List ByteArray} (hn : ks.Nodup) {s : ByteArray} (h : s ∈ ks) : plF ks ks.length s = some (.int .i64 (pos ks s)) := by
  rw [plF_some hn h _ (Nat.le_refl _), if_pos (pos_lt h)]
theorem place_out {ks : List ByteArray} {s : ByteArray} (h : ¬ s ∈ ks) : plF ks ks.length s = none := plF_none h _ (Nat.le_refl _)
theorem sortU_nodup (ks : List ByteArray) : (sortU ks).Nodup := by
  classical
  exact (sortU_srt ks (fun s => decide (s ∈ ks)) (fun s => by simp)).nodup
theorem onA_mem (vs : List Dm) (ax : Int) (i : Nat) : ∀ k, i ∈ onA vs ax k ↔ i < k ∧ (dAt vs i).x = ax
  | 0 => by simp [onA]
  | k + 1 => by
    have ih := onA_mem vs ax i k
    rw [onA]
    by_cases h : (dAt vs k).x = ax
    · rw [if_pos (by simpa using h), List.mem_append, ih]
      constructor
      · rintro (⟨h1, h2⟩ | h1)
        · exact ⟨by omega, h2⟩
        · obtain rfl : i = k := by simpa using h1
          exact ⟨by omega, h⟩
      · rintro ⟨h1, h2⟩
        by_cases e : i = k
        · exact .inr (by simp [e])
        · exact .inl ⟨by omega, h2⟩
    · rw [if_neg (by simpa using h), ih]
      constructor
      · rintro ⟨h1, h2⟩; exact ⟨by omega, h2⟩
      · rintro ⟨h1, h2⟩
        refine ⟨?_, h2⟩
        by_cases e : i = k
        · subst e; exact absurd h2 h
        · omega
/-- The ends of a dimension along the axis are names of the graph. -/
theorem onA_names {vs : List Dm} {ax : Int} {i : Nat} (h : i ∈ onA vs ax vs.length) : i < vs.length ∧ (dAt vs i).f ∈ nmG vs ax ∧ (dAt vs i).t ∈ nmG vs ax := by
  obtain ⟨h1, h2⟩ := (onA_mem vs ax i vs.length).1 h
  exact ⟨h1, (sortU_mem _ _).2 ((rawN_mem vs ax _ _).2 ⟨i, h1, h2, .inl rfl⟩), (sortU_mem _ _).2 ((rawN_mem vs ax _ _).2 ⟨i, h1, h2, .inr rfl⟩)⟩
end Go.Proofs.Ytlgjhjgdmomfoaa
namespace Go.Proofs.Ytlgjhjgdmomfoaa
open Go.RowKit Go.Maps

theorem zeroI22 (w : World) : (zeroValue 3).run Try.prog w = .ok (.int .i64 0) w := by kernel_rfl
/-- What groups asks of the dimensions' ends. -/
def EndsOk (vs : List Dm) (f : SMap) (n : Nat) (p q : Nat → Nat) (is : List Nat) : Prop :=
  ∀ i, i ∈ is → i < vs.length ∧ f (dAt vs i).f = some (.int .i64 (p i)) ∧ p i < n ∧ f (dAt vs i).t = some (.int .i64 (q i)) ∧ q i < n
set_option maxRecDepth 100000 in
set_option maxHeartbeats 8000000 in
theorem groups_any (ao : Option Addr) (vs : List Dm) (c b kk : Nat) (nv dv : Value) (ks : List ByteArray) (is : List Nat) (f : SMap) (p q : Nat → Nat) (w : World) (R : Ending → World → Prop) (hl : ks.length ≤ 512) (hil : is.length ≤ 256) (hc : CellsAt w ao (dC vs)) (hv : DmsOk vs)
   (hg : GrAt w b nv dv (.slice ao vs.length c) ks is kk f) (he : EndsOk vs f ks.length p q is)
   (hR : ∀ g w', w.heap.size ≤ g → Below w.heap.size w w' → Blk w' g 3 (dI (grp p q (List.range ks.length) is)) → R (.returned (.slice (some ⟨g, 0, none⟩) ks.length ks.length)) w') :
    Calls Try.prog 58 #[.pointer (some ⟨b + 1, 0, none⟩)] w R := by
  have HR := Lib.hid hR
  have HC := Lib.hid hc
  have HV := Lib.hid hv
  have HG := Lib.hid hg
  have HE := Lib.hid he
  have hmk := fun w => make_row (P := Try.prog) (t := 42) Try.underlying42 Try.infoI22 rfl ks.length (by omega) (by omega) w
  clear hR hc hv hg he
  obtain ⟨na, nc, rfl, _, _⟩ := ownsRow_read HG.out.names
  obtain ⟨da, dc, rfl, hdc, _⟩ := ownsRow_read HG.out.dims
  have HDC := Lib.hid hdc
  clear hdc
  have sG := HG.out.size
  obtain ⟨g0, g1, g2, g3⟩ := HG.out.cell
  have hgs : b + 1 < w.heap.size := by omega
  go_enter Try.func58, Try.ntmps58
  go_wp2_with fail
  rw [dI_zero]
  have X0' := Blk.new w (dI (List.replicate ks.length 0)) 3
  have B0' : Below w.heap.size w (w.alloc (.cells (dI (List.replicate ks.length 0)).toArray 3)) := (Below.refl _ _).alloc (Nat.le_refl _) _
  obtain ⟨w1, hw1⟩ : ∃ w1, w.alloc (.cells (dI (List.replicate ks.length 0)).toArray 3) = w1 := ⟨_, rfl⟩
  rw [hw1] at X0' B0' ⊢
  have X0 := Lib.hid X0'
  have B0 := Lib.hid B0'
  clear hw1 X0' B0' hmk
  go_loopw [18] (fun j wr => ∃ (k : Nat), k ≤ ks.length ∧ j = .int .i64 k ∧ Hid (Below w.heap.size w wr) ∧ Hid (Blk wr w.heap.size 3 (dI (iniL ks.length k)))) (fun j _ => ks.length - (intOf j).toNat)
  case atStart => exact ⟨0, Nat.zero_le _, rfl, B0, by unfold iniL; simpa using X0⟩
  case round =>
    obtain ⟨k, hk, rfl, HB, HX⟩ := hrel
    by_cases hlt : k < ks.length
    · have hln := iniL_len hk
      have x1 := HX.out.cell (j := k) (by rw [dI_length, hln]; exact hlt)
      have x2 := HX.out.frozen k
      have hxl := HX.out.lt
      rw [dI_get (by rw [hln]; exact hlt)] at x1
      have X2 := Lib.hid (HX.out.set k (.int .i64 k))
      have B2 := Lib.hid (HB.out.setCell (p := ⟨w.heap.size, k, none⟩) (Nat.le_refl _) (.int .i64 k))
      go_wp2_with fail
      refine ⟨⟨k + 1, by omega, by go_num, B2, ?_⟩, by simp [intOf]; omega⟩
      have h := X2.out
      rw [dI_set, iniL_set hlt] at h; exact h
    · obtain rfl : k = ks.length := by omega
      have hX := HX.out
      rw [show iniL ks.length ks.length = List.range ks.length from by simp [iniL]] at hX
      have HX2 := Lib.hid hX
      obtain ⟨L0, hL0⟩ : ∃ L0, List.range ks.length = L0 := ⟨_, rfl⟩
      have hLn : L0.length = ks.length := by rw [← hL0]; simp
      rw [hL0] at HX2 HR
      have HLn := Lib.hid hLn
      have k2 := cellB HB.out g2 hgs
      clear hX HX hL0 hLn
      go_wp2_with fail
      go_loopw [31] (fun j wr => ∃ (m : Nat) (L : List Nat), m ≤ is.length ∧ j = .int .i64 m ∧ Hid (Below w.heap.size w wr) ∧ Hid (Blk wr w.heap.size 3 (dI L)) ∧ Hid (L.length = ks.length) ∧ Hid (grp p q L (is.drop m) = grp p q L0 is)) (fun j _ => is.length - (intOf j).toNat)
      case atStart => exact ⟨0, L0, Nat.zero_le _, rfl, HB, HX2, HLn, rfl⟩
      case round =>
        clear HB HX2 HLn k2
        obtain ⟨m, L, hm, rfl, HB, HX, hLn, hgr⟩ := hrel
        by_cases hlm : m < is.length
        · obtain ⟨i, hi⟩ : ∃ i, nAt is m = i := ⟨_, rfl⟩
          have him : i ∈ is := by rw [← hi, nAt_lt hlm]; exact List.getElem_mem hlm
          obtain ⟨hiv, hf, hp, ht, hq⟩ := HE.out i him
          obtain ⟨b2, o2, rfl, hb2, _⟩ := HDC.out (by rw [dI_length]; omega)
          have i1 := cellB HB.out (HDC.out.get rfl (dI_get? hlm)) hb2
          rw [hi] at i1
          have hst : Hid (grp p q (L.map (mrg (nAt L (p i)) (nAt L (q i)))) (is.drop (m + 1)) = grp p q L0 is) := by
            have h := hgr.out
            rw [List.drop_eq_getElem_cons hlm, ← nAt_lt hlm, hi, grp] at h; exact h
          obtain ⟨P, hP⟩ : ∃ P, p i = P := ⟨_, rfl⟩
          obtain ⟨Q, hQ⟩ : ∃ Q, q i = Q := ⟨_, rfl⟩
          rw [hP] at hf hp hst
          rw [hQ] at ht hq hst
          have x1 := HX.out.cell (j := P) (by rw [dI_length, hLn.out]; exact hp)
          have x2 := HX.out.cell (j := Q) (by rw [dI_length, hLn.out]; exact hq)
          rw [dI_get (by rw [hLn.out]; exact hp)] at x1
          rw [dI_get (by rw [hLn.out]; exact hq)] at x2
          obtain ⟨A, hA⟩ : ∃ A, nAt L P = A := ⟨_, rfl⟩
          obtain ⟨B, hB⟩ : ∃ B, nAt L Q = B := ⟨_, rfl⟩
          rw [hA] at x1 hst
          rw [hB] at x2 hst
          obtain ⟨bd, od, rfl, hbd, hcell⟩ := HC.out.dms (by omega)
          obtain ⟨c0, c1, _, _, _⟩ := hcell i hiv
          have d0 := cellB HB.out c0 hbd
          have d1 := cellB HB.out c1 hbd
          have hok := HV.out i hiv
          have hlf := fun n => ((HG.out.map.below HB.out (by omega)).keep (w' := wr.drewN n) rfl).look (t := 97) Try.underlying9 Try.underlying97 (zeroI22 _) hok.1
          have hlt' := fun n => ((HG.out.map.below HB.out (by omega)).keep (w' := wr.drewN n) rfl).look (t := 97) Try.underlying9 Try.underlying97 (zeroI22 _) hok.2
          rw [hf] at hlf
          rw [ht] at hlt'
          simp only [Option.getD_some] at hlf hlt'
          have k1 := cellB HB.out g1 hgs
          have k3 := cellB HB.out g3 hgs
          have hxl := HX.out.lt
          obtain ⟨uf, huf⟩ : ∃ uf, (dAt vs i).f = uf := ⟨_, rfl⟩
          obtain ⟨ut, hut⟩ : ∃ ut, (dAt vs i).t = ut := ⟨_, rfl⟩
          rw [huf] at d0 hlf
          rw [hut] at d1 hlt'
          clear hcell hi him hf ht hP hQ hA hB c0 c1 hok huf hut hgr
          go_wp2_with fail
          go_quiet (fail)
          have HB9' : Below w.heap.size w (wr.drewN nq) := HB.out.trans ⟨rfl, rfl, rfl, Nat.le_refl _, fun _ _ => rfl⟩
          have HX9' : Blk (wr.drewN nq) w.heap.size 3 (dI L) := HX.out.drewN nq
          obtain ⟨w9, hw9⟩ : ∃ w9, wr.drewN nq = w9 := ⟨_, rfl⟩
          rw [hw9] at HB9' HX9' ⊢
          have HB9 := Lib.hid HB9'
          have HX9 := Lib.hid HX9'
          clear hw9 HB9' HX9' hlf hlt' d0 d1 k1 k3 x1 x2 hxl i1
          go_wp2_with fail
          go_loopw [69] (fun j wr => ∃ (k : Nat), k ≤ ks.length ∧ j = .int .i64 k ∧ Hid (Below w.heap.size w wr) ∧ Hid (Blk wr w.heap.size 3 (dI (mid A B L k)))) (fun j _ => ks.length - (intOf j).toNat)
          case atStart => exact ⟨0, Nat.zero_le _, rfl, HB9, by rw [mid_zero]; exact HX9⟩
          case round =>
            clear HB HX HB9 HX9
            obtain ⟨k, hk, rfl, HB, HX⟩ := hrel
            by_cases hlk : k < ks.length
            · have hlL : k < L.length := by rw [hLn.out]; exact hlk
              have hml := mid_len (a := A) (b := B) (Nat.le_of_lt hlL)
              have x1 := HX.out.cell (j := k) (by rw [dI_length, hml]; exact hlL)
              rw [dI_get (by rw [hml]; exact hlL), mid_get hlL] at x1
              have x2 := HX.out.frozen k
              have hxl := HX.out.lt
              have hsetX : Hid ((mid A B L k).set k (mrg A B (nAt L k)) = mid A B L (k + 1)) := mid_set hlL
              have hkeepX : Hid (¬ (nAt L k = A ∨ nAt L k = B) → mid A B L (k + 1) = mid A B L k) := fun h => mid_keep hlL h
              obtain ⟨X, hXe⟩ : ∃ X, nAt L k = X := ⟨_, rfl⟩
              rw [hXe] at x1 hsetX hkeepX
              have B2 : ∀ u, Hid (Below w.heap.size w (wr.setCell ⟨w.heap.size, k, none⟩ u)) := fun u => HB.out.setCell (p := ⟨w.heap.size, k, none⟩) (Nat.le_refl _) u
              have X2 : Hid (Blk (wr.setCell ⟨w.heap.size, k, none⟩ (.int .i64 (mrg A B X))) w.heap.size 3 (dI (mid A B L (k + 1)))) := by
                have h := HX.out.set k (.int .i64 (mrg A B X))
                rw [dI_set, hsetX.out] at h; exact h
              clear hXe hsetX hml hlL
              by_cases hA : X = A
              · subst hA
                have hm1 : mrg X B X = min X B := by unfold mrg; rw [if_pos (.inl rfl)]
                rw [hm1, show ((min X B : Nat) : Int) = min (X : Int) (B : Int) from by omega] at X2
                clear hkeepX hm1
                go_wp2_with fail
                exact ⟨⟨k + 1, by omega, by go_num, B2 _, X2⟩, by simp [intOf]; omega⟩
              · have KA : ((X : Int) == (A : Int)) = false := by simp; omega
                by_cases hB' : X = B
                · subst hB'
                  have hm1 : mrg A X X = min A X := by unfold mrg; rw [if_pos (.inr rfl)]
                  rw [hm1, show ((min A X : Nat) : Int) = min (A : Int) (X : Int) from by omega] at X2
                  clear hkeepX hm1 hA
                  go_wp2_with fail
                  exact ⟨⟨k + 1, by omega, by go_num, B2 _, X2⟩, by simp [intOf]; omega⟩
                · have KB : ((X : Int) == (B : Int)) = false := by simp; omega
                  have hke := Lib.hid (hkeepX.out (by rintro (h | h); exact hA h; exact hB' h))
                  clear hkeepX X2 hA hB'
                  go_wp2_with fail
                  exact ⟨⟨k + 1, by omega, by go_num, HB, by rw [hke.out]; exact HX⟩, by simp [intOf]; omega⟩
            · obtain rfl : k = ks.length := by omega
              have hX9 := HX.out
              rw [← hLn.out, mid_all] at hX9
              have HX9 := Lib.hid hX9
              have hLm : Hid ((L.map (mrg A B)).length = ks.length) := by unfold Hid; rw [List.length_map]; exact hLn.out
              clear hX9 HX
              go_wp2_with fail
              exact ⟨⟨m + 1, _, by omega, by go_num, HB, HX9, hLm, hst⟩, by simp [intOf]; omega⟩
        · obtain rfl : m = is.length := by omega
          have hfin : Hid (grp p q L0 is = L) := by have h := hgr.out; rw [List.drop_length, grp] at h; exact h.symm
          go_wp2_with fail
          refine HR.out w.heap.size _ (Nat.le_refl _) HB.out ?_
          rw [hfin.out]; exact HX.out
end Go.Proofs.Ytlgjhjgdmomfoaa
namespace Go.Proofs.Ytlgjhjgdmomfoaa
open Go.RowKit Go.Maps

/-- The graph of dimensions vs along axis ax lies at block b. -/
def GrX (W : World) (b : Nat) (ao : Option Addr) (c : Nat) (vs : List Dm) (ax : Int) : Prop :=
  ∃ nv dv, GrAt W b nv dv (.slice ao vs.length c) (nmG vs ax) (onA vs ax vs.length) (nmG vs ax).length (plF (nmG vs ax) (nmG vs ax).length)
theorem GrX.below {W W' : World} {b : Nat} {ao : Option Addr} {c : Nat} {vs : List Dm} {ax : Int} (h : GrX W b ao c vs ax) {B : Nat} (hb : Below B W W') (hB : W.heap.size ≤ B) : GrX W' b ao c vs ax := by
  obtain ⟨nv, dv, h⟩ := h
  exact ⟨nv, dv, h.below (hb.mono hB)⟩
theorem GrX.size {W : World} {b : Nat} {ao : Option Addr} {c : Nat} {vs : List Dm} {ax : Int} (h : GrX W b ao c vs ax) : b + 2 ≤ W.heap.size := by
  obtain ⟨nv, dv, h⟩ := h
  exact h.size
def nmN (vs : List Dm) (ax : Int) : Nat := (nmG vs ax).length
def pF (vs : List Dm) (ax : Int) (i : Nat) : Nat := pos (nmG vs ax) (dAt vs i).f
def pT (vs : List Dm) (ax : Int) (i : Nat) : Nat := pos (nmG vs ax) (dAt vs i).t
/-- The least places of the groups. -/
def grG (vs : List Dm) (ax : Int) : List Nat := grp (pF vs ax) (pT vs ax) (List.range (nmN vs ax)) (onA vs ax vs.length)
theorem nmG_nodup (vs : List Dm) (ax : Int) : (nmG vs ax).Nodup := sortU_nodup _
theorem nmG_len {vs : List Dm} {ax : Int} (hl : vs.length ≤ 256) : (nmG vs ax).length ≤ 512 := by
  have h1 := sortU_len (rawN vs ax vs.length)
  have h2 := rawN_len vs ax vs.length
  have h3 : nmG vs ax = sortU (rawN vs ax vs.length) := rfl
  rw [h3]; omega
theorem endsOk (vs : List Dm) (ax : Int) : EndsOk vs (plF (nmG vs ax) (nmG vs ax).length) (nmG vs ax).length (pF vs ax) (pT vs ax) (onA vs ax vs.length) := fun _i h =>
  have ⟨h1, h2, h3⟩ := onA_names h
  ⟨h1, place_in (nmG_nodup vs ax) h2, pos_lt h2, place_in (nmG_nodup vs ax) h3, pos_lt h3⟩
theorem grG_len (vs : List Dm) (ax : Int) : (grG vs ax).length = (nmG vs ax).length := by
  unfold grG; rw [grp_len, List.length_range]; rfl
theorem graphX_any (ao : Option Addr) (vs : List Dm) (c : Nat) (ax : Int) (w : World) (R : Ending → World → Prop) (hl : vs.length ≤ 256) (hc : CellsAt w ao (dC vs)) (hv : DmsOk vs)
   (hR : ∀ w', Below w.heap.size w w' → GrX w' w.heap.size ao c vs ax → R (.returned (.pointer (some ⟨w.heap.size + 1, 0, none⟩))) w') :
    Calls Try.prog 49 #[.slice ao vs.length c, .int .i64 ax] w R :=
  graphOf_any ao vs c ax w R hl hc hv fun nv dv w' hb hg => hR w' hb ⟨nv, dv, hg⟩
theorem groupsX_any (ao : Option Addr) (vs : List Dm) (c b : Nat) (ax : Int) (w : World) (R : Ending → World → Prop) (hl : vs.length ≤ 256) (hc : CellsAt w ao (dC vs)) (hv : DmsOk vs) (hg : GrX w b ao c vs ax)
   (hR : ∀ g w', w.heap.size ≤ g → Below w.heap.size w w' → Blk w' g 3 (dI (grG vs ax)) → R (.returned (.slice (some ⟨g, 0, none⟩) (nmG vs ax).length (nmG vs ax).length)) w') :
    Calls Try.prog 58 #[.pointer (some ⟨b + 1, 0, none⟩)] w R := by
  obtain ⟨nv, dv, hg⟩ := hg
  exact groups_any ao vs c b _ nv dv _ _ _ (pF vs ax) (pT vs ax) w R (nmG_len hl) (Nat.le_trans (onA_len vs ax _) hl) hc hv hg (endsOk vs ax) hR

/-! ### joined -/
def inK (ks : List ByteArray) (s : ByteArray) : Bool := (ks.map bL).contains (bL s)
theorem inK_iff {ks : List ByteArray} {s : ByteArray} : inK ks s = true ↔ s ∈ ks := by
  unfold inK
  rw [List.contains_iff_mem, List.mem_map]
  exact ⟨fun ⟨t, h1, h2⟩ => bL_inj h2 ▸ h1, fun h => ⟨s, h, rfl⟩⟩
theorem place_all {ks : List ByteArray} (hn : ks.Nodup) (s : ByteArray) : plF ks ks.length s = if inK ks s = true then some (.int .i64 (pos ks s)) else none := by
  by_cases h : s ∈ ks
  · rw [if_pos (inK_iff.2 h)]; exact place_in hn h
  · rw [if_neg (fun e => h (inK_iff.1 e))]; exact place_out h
def jnX (vs : List Dm) (ax : Int) (s t : ByteArray) : Bool := inK (nmG vs ax) s && inK (nmG vs ax) t && nAt (grG vs ax) (pos (nmG vs ax) s) == nAt (grG vs ax) (pos (nmG vs ax) t)
set_option maxRecDepth 100000 in
set_option maxHeartbeats 8000000 in
theorem joined_any (ao : Option Addr) (vs : List Dm) (c b : Nat) (ax : Int) (s t : ByteArray) (w : World) (R : Ending → World → Prop) (hl : vs.length ≤ 256) (hc : CellsAt w ao (dC vs)) (hv : DmsOk vs) (hg : GrX w b ao c vs ax) (hs : s.size ≤ 9223372036854775807) (ht : t.size ≤ 9223372036854775807)
   (hR : ∀ w', Below w.heap.size w w' → R (.returned (.bool (jnX vs ax s t))) w') :
    Calls Try.prog 50 #[.pointer (some ⟨b + 1, 0, none⟩), .string s, .string t] w R := by
  have HR := Lib.hid hR
  have HC := Lib.hid hc
  have HV := Lib.hid hv
  have HG := Lib.hid hg
  clear hR hc hv
  obtain ⟨nv, dv, hg⟩ := hg
  obtain ⟨_, g1, _, _⟩ := hg.cell
  have sG := hg.size
  have hbs : b + 1 < w.heap.size := by omega
  have hls := hg.map.lookOk (t := 97) Try.underlying9 Try.underlying97 (zeroI22 _) hs
  have hlt := hg.map.lookOk (t := 97) Try.underlying9 Try.underlying97 (zeroI22 _) ht
  rw [place_all (nmG_nodup vs ax)] at hls hlt
  have hps : inK (nmG vs ax) s = true → pos (nmG vs ax) s < (nmG vs ax).length := fun h => pos_lt (inK_iff.1 h)
  have hpt : inK (nmG vs ax) t = true → pos (nmG vs ax) t < (nmG vs ax).length := fun h => pos_lt (inK_iff.1 h)
  have hJ : Hid (jnX vs ax s t = (inK (nmG vs ax) s && inK (nmG vs ax) t && nAt (grG vs ax) (pos (nmG vs ax) s) == nAt (grG vs ax) (pos (nmG vs ax) t))) := rfl
  obtain ⟨p1, hp1⟩ : ∃ p1, pos (nmG vs ax) s = p1 := ⟨_, rfl⟩
  obtain ⟨p2, hp2⟩ : ∃ p2, pos (nmG vs ax) t = p2 := ⟨_, rfl⟩
  obtain ⟨b1, hb1⟩ : ∃ b1, inK (nmG vs ax) s = b1 := ⟨_, rfl⟩
  obtain ⟨b2, hb2⟩ : ∃ b2, inK (nmG vs ax) t = b2 := ⟨_, rfl⟩
  rw [hp1, hb1] at hls hps hJ
  rw [hp2, hb2] at hlt hpt hJ
  have hGl := Lib.hid (grG_len vs ax)
  clear hg hp1 hp2 hb1 hb2
  have main : ∀ (hls : (Instr.lookup 97 (.map (some b)) (.string s) true).run Try.prog w = .ok (.tuple #[.int .i64 (if b1 = true then (p1 : Int) else 0), .bool b1]) w) (hlt : (Instr.lookup 97 (.map (some b)) (.string t) true).run Try.prog w = .ok (.tuple #[.int .i64 (if b2 = true then (p2 : Int) else 0), .bool b2]) w), Calls Try.prog 50 #[.pointer (some ⟨b + 1, 0, none⟩), .string s, .string t] w R := by
    clear hls hlt
    intro hls hlt
    cases b1 with
    | false =>
      simp only [if_neg (by simp : ¬ false = true)] at hls
      obtain ⟨z2, hz2⟩ : ∃ z2, (if b2 = true then (p2 : Int) else 0) = z2 := ⟨_, rfl⟩
      rw [hz2] at hlt
      rw [Bool.false_and, Bool.false_and] at hJ
      clear hps hpt hz2
      go_enter Try.func50, Try.ntmps50
      go_wp2_with fail
      refine groupsX_any ao vs c b ax _ _ hl HC.out HV.out HG.out ?_
      intro g w1 hgb hb hx
      have HB1 := Lib.hid hb
      clear hb hx
      go_wp2_with fail
      go_quiet (fail)
      go_wp2_with fail
      have h := HR.out _ (HB1.out.trans (c := w1.drewN nq) ⟨rfl, rfl, rfl, Nat.le_refl _, fun _ _ => rfl⟩)
      rw [hJ.out] at h; exact h
    | true =>
      simp only [] at hls
      have h1 := hps rfl
      cases b2 with
      | false =>
        simp only [if_neg (by simp : ¬ false = true)] at hlt
        rw [Bool.true_and, Bool.false_and] at hJ
        clear hps hpt
        go_enter Try.func50, Try.ntmps50
        go_wp2_with fail
        refine groupsX_any ao vs c b ax _ _ hl HC.out HV.out HG.out ?_
        intro g w1 hgb hb hx
        have HB1 := Lib.hid hb
        clear hb hx
        go_wp2_with fail
        go_quiet (fail)
        go_wp2_with fail
        have h := HR.out _ (HB1.out.trans (c := w1.drewN nq) ⟨rfl, rfl, rfl, Nat.le_refl _, fun _ _ => rfl⟩)
        rw [hJ.out] at h; exact h
      | true =>
        simp only [] at hlt
        rw [Bool.true_and, Bool.true_and] at hJ
        have h2 := hpt rfl
        clear hps hpt
        go_enter Try.func50, Try.ntmps50
        go_wp2_with fail
        refine groupsX_any ao vs c b ax _ _ hl HC.out HV.out HG.out ?_
        intro g w1 hgb hb hx
        have HB1 := Lib.hid hb
        have x1 := hx.cell (j := p1) (by rw [dI_length, hGl.out]; exact h1)
        have x2 := hx.cell (j := p2) (by rw [dI_length, hGl.out]; exact h2)
        rw [dI_get (by rw [hGl.out]; exact h1)] at x1
        rw [dI_get (by rw [hGl.out]; exact h2)] at x2
        have hxl := hx.lt
        obtain ⟨A, hA⟩ : ∃ A, nAt (grG vs ax) p1 = A := ⟨_, rfl⟩
        obtain ⟨B, hB⟩ : ∃ B, nAt (grG vs ax) p2 = B := ⟨_, rfl⟩
        rw [hA] at x1 hJ
        rw [hB] at x2 hJ
        have hAB : Hid (((A : Int) == (B : Int)) = (A == B)) := by
          unfold Hid
          by_cases e : A = B
          · subst e; simp
          · rw [show (A == B) = false from by simpa using e]; simp; omega
        rw [← hAB.out] at hJ
        clear hb hx hA hB hAB
        go_wp2_with fail
        go_quiet (fail)
        go_wp2_with fail
        have h := HR.out _ (HB1.out.trans (c := w1.drewN nq) ⟨rfl, rfl, rfl, Nat.le_refl _, fun _ _ => rfl⟩)
        rw [hJ.out] at h; exact h
  cases b1 <;> cases b2 <;> exact main hls hlt
end Go.Proofs.Ytlgjhjgdmomfoaa
