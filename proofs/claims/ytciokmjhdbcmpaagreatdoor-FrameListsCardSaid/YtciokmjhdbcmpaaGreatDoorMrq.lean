/- Maps keyed by strings: entries struck; their keys, sorted. The walks of Few, Has, Put of the reference; sorted lists of names. Text of package frame and of reference 19; the variables of the library that a world has. (Printed by gen_text.py.) Split of reference 19. (Printed by gen_split.py.) -/
import Derived.Lib.SlMapFilter
import Derived.Sort.KeysCollected
import Derived.Test.YtciokmjhdbcmpaaGreatDoorMfv
import Derived.Sort.Walk0
import Derived.Lib.AppendIntMem
namespace Go.Proofs.YtciokmjhdbcmpaaGreatDoor
open Go.RowKit Go.Maps

def pdOf {H : Type} (q : ByteArray → Bool) : Lit → DataW H → Bool
  | .string l, _ => q ⟨l.toArray⟩
  | _, _ => false
theorem pdOf_keyL {H : Type} (q : ByteArray → Bool) (s : ByteArray) (d : DataW H) : pdOf q (keyL s) d = q s := by
  unfold keyL pdOf; simp
/-- The view behind maps.DeleteFunc. -/
theorem del_view {D : DataW Value} {f : SMap} {q : ByteArray → Bool} {es : List (Lit × DataW Value)} (hD : D = .map es) (hap : es.Pairwise (fun p q => p.1 ≠ q.1))
    (h2 : ∀ s z, D.atKey (keyL s) z = match f s with | some v => .held v | none => z) : ∀ s z, (Lib.deleteFuncD (pdOf q) D).atKey (keyL s) z = match (if q s = true then none else f s) with | some v => .held v | none => z := by
  subst hD
  intro s z
  by_cases he : ∃ d, (keyL s, d) ∈ es
  · obtain ⟨d, hd⟩ := he
    have e1 := WideAt.atKey_mem z (k := keyL s) trivial hap hd
    by_cases hq : q s = true
    · rw [if_pos hq]
      refine WideAt.atKey_none z (fun p hp e => ?_)
      obtain ⟨h3, h4⟩ := List.mem_filter.1 hp
      rw [show pdOf q p.1 p.2 = true from by rw [e, pdOf_keyL]; exact hq] at h4
      simp at h4
    · rw [if_neg hq, ← h2 s z, e1]
      refine WideAt.atKey_mem z trivial (hap.filter _) (List.mem_filter.2 ⟨hd, ?_⟩)
      rw [pdOf_keyL]; simpa using hq
  · have hno : ∀ p ∈ es, p.1 ≠ keyL s := fun p hp e => he ⟨p.2, by rw [← e]; exact hp⟩
    have e1 := WideAt.atKey_none z hno
    have e2 : (Lib.deleteFuncD (pdOf q) (.map es)).atKey (keyL s) z = z := WideAt.atKey_none z (fun p hp => hno p (List.mem_filter.1 hp).1)
    rw [e2]
    by_cases hq : q s = true
    · rw [if_pos hq]
    · rw [if_neg hq, ← h2 s z, e1]
/-! ### sorted lists of names -/
abbrev bL (s : ByteArray) : List UInt8 := s.data.toList
theorem bL_inj {s t : ByteArray} (h : bL s = bL t) : s = t := ByteArray.ext (Array.toList_inj.1 h)
/-- These names, ascending, each once. -/
structure SrtIs (ks : List ByteArray) (Q : ByteArray → Bool) : Prop where
  up : ks.Pairwise (fun a b => bL a < bL b)
  mem : ∀ s, s ∈ ks ↔ Q s = true
theorem SrtIs.nodup {ks : List ByteArray} {Q : ByteArray → Bool} (h : SrtIs ks Q) : ks.Nodup := h.up.imp (fun {a b} hl e => by subst e; exact List.lt_irrefl _ hl)
theorem SrtIs.unique {ks js : List ByteArray} {Q : ByteArray → Bool} (h : SrtIs ks Q) (h' : SrtIs js Q) : ks = js := by
  refine List.Perm.eq_of_pairwise (le := fun a b => bL a < bL b) (fun a b _ _ h1 h2 => (List.lt_irrefl _ (List.lt_trans h1 h2)).elim) h.up h'.up ((List.perm_ext_iff_of_nodup h.nodup h'.nodup).2 fun s => ?_)
  rw [h.mem, h'.mem]
def sC (ks : List ByteArray) : List Value := ks.map Value.string
theorem sC_length (ks : List ByteArray) : (sC ks).length = ks.length := by simp [sC]
def ofL (l : List UInt8) : ByteArray := ⟨l.toArray⟩
theorem bL_ofL (l : List UInt8) : bL (ofL l) = l := by simp [ofL]
theorem ofL_bL (s : ByteArray) : ofL (bL s) = s := by simp [ofL]

theorem strKeys_mem {P : Program} {k : TypeId} {w : World} {b n : Nat} {D : DataW Value} {f : SMap} (hk : P.underlying k = some .string) (h1 : w.ownsMap P k heldR b n D)
    (h2 : ∀ s z, D.atKey (keyL s) z = match f s with | some v => .held v | none => z) : (strKeys D).Nodup ∧ ∀ l, l ∈ strKeys D ↔ (f (ofL l)).isSome = true := by
  obtain ⟨es, hD, hap, _⟩ := h1.entries (string_keyed hk)
  obtain ⟨es', hD', hks⟩ := h1.keysOf
  subst hD
  cases hD'
  have hstr : ∀ p ∈ es, ∃ x, p.1 = .string x := fun p hp => by
    obtain ⟨key, hkey⟩ := hks p hp
    obtain ⟨x, _, e, _⟩ := Maps.keyOf_str hk hkey
    exact ⟨x, e⟩
  constructor
  · show (es.map fun p => strOf p.1).Nodup
    refine List.pairwise_map.2 (hap.imp_of_mem fun {p q} hp' hq' hne e => hne ?_)
    obtain ⟨a, ha⟩ := hstr p hp'
    obtain ⟨b, hb⟩ := hstr q hq'
    rw [ha, hb] at e ⊢
    exact congrArg _ e
  · intro l
    show l ∈ (es.map fun p => strOf p.1) ↔ _
    rw [List.mem_map]
    have hkl : keyL (ofL l) = .string l := by unfold keyL; rw [show (ofL l).data.toList = l from bL_ofL l]
    constructor
    · rintro ⟨p, hp, e⟩
      obtain ⟨a, ha⟩ := hstr p hp
      rw [ha] at e
      obtain rfl : a = l := e
      have hm : (keyL (ofL a), p.2) ∈ es := by rw [hkl, ← ha]; exact hp
      cases hf : f (ofL a) with
      | some v => rfl
      | none =>
        have e1 := h2 (ofL a) .nil
        have e2 := h2 (ofL a) (.held undef)
        rw [WideAt.atKey_mem _ (by rw [hkl]; trivial) hap hm, hf] at e1 e2
        rw [e1] at e2; cases e2
    · intro hs
      apply Classical.byContradiction
      intro hno
      have hn : ∀ p ∈ es, p.1 ≠ keyL (ofL l) := fun p hp e => hno ⟨p, hp, by rw [e, hkl]; rfl⟩
      obtain ⟨v, hv⟩ := Option.isSome_iff_exists.1 hs
      have e1 := h2 (ofL l) .nil
      rw [WideAt.atKey_none _ hn, hv] at e1
      cases e1
theorem srt_of {ss : List (List UInt8)} {f : SMap} (hnd : ss.Nodup) (hm : ∀ l, l ∈ ss ↔ (f (ofL l)).isSome = true) : SrtIs ((ss.mergeSort fun x y => decide (x ≤ y)).map ofL) (fun s => (f s).isSome) := by
  have tr : ∀ a b c : List UInt8, decide (a ≤ b) = true → decide (b ≤ c) = true → decide (a ≤ c) = true := fun a b c h1 h2 => by simp only [decide_eq_true_eq] at *; exact List.le_trans h1 h2
  have tt : ∀ a b : List UInt8, (decide (a ≤ b) || decide (b ≤ a)) = true := fun a b => by simp only [Bool.or_eq_true, decide_eq_true_eq]; exact List.le_total a b
  have hp := List.mergeSort_perm ss fun x y => decide (x ≤ y)
  have hnd' : (ss.mergeSort fun x y => decide (x ≤ y)).Nodup := hp.nodup_iff.2 hnd
  constructor
  · rw [List.pairwise_map]
    refine ((List.pairwise_mergeSort tr tt ss).and hnd').imp (fun {a b} h => ?_)
    rw [bL_ofL, bL_ofL]
    obtain ⟨h1, h2⟩ := h
    rw [decide_eq_true_eq] at h1
    exact Classical.byContradiction fun h3 => h2 (List.le_antisymm h1 (List.not_lt.1 h3))
  · intro s
    rw [List.mem_map]
    constructor
    · rintro ⟨l, hl, rfl⟩
      exact (hm l).1 (hp.mem_iff.1 hl)
    · intro h
      exact ⟨bL s, hp.mem_iff.2 ((hm _).2 (by rw [ofL_bL]; exact h)), ofL_bL s⟩
end Go.Proofs.YtciokmjhdbcmpaaGreatDoor
namespace Go.Proofs.YtciokmjhdbcmpaaGreatDoor
open Go.RowKit

theorem Tryz.infoStr53 : (Tryz.prog.info? 9).map (fun i => (i.zero, i.size, i.bytes)) = some (some (.string ⟨#[]⟩), 1, 16) := by kernel_rfl

/-! ### Few -/
/-! ### lists of names -/
def kat (ks : List ByteArray) (k : Nat) : ByteArray := ks.getD k ⟨#[]⟩
theorem kat_lt {ks : List ByteArray} {k : Nat} (h : k < ks.length) : kat ks k = ks[k] := by unfold kat; rw [List.getD_eq_getElem?_getD, List.getElem?_eq_getElem h]; rfl
theorem kat_drop {ks : List ByteArray} {k : Nat} (h : k < ks.length) : ks.drop k = kat ks k :: ks.drop (k + 1) := by
  rw [List.drop_eq_getElem_cons h, kat_lt h]
theorem CellsAt.strs {w : World} {ao : Option Addr} {ks : List ByteArray} (h : CellsAt w ao (sC ks)) (h0 : 0 < ks.length) :
    ∃ b o, ao = some ⟨b, o, none⟩ ∧ b < w.heap.size ∧ ∀ j, j < ks.length → w.cell? ⟨b, o + j, none⟩ = some (.string (kat ks j)) := by
  obtain ⟨b, o, e, hl, hc⟩ := h (by rw [sC_length]; omega)
  refine ⟨b, o, e, hl, fun j hj => ?_⟩
  rw [hc j (by rw [sC_length]; exact hj), kat_lt hj, List.getD_eq_getElem?_getD, sC, List.getElem?_map, List.getElem?_eq_getElem hj]; rfl
def hasL (ks : List ByteArray) (s : ByteArray) : Bool := ks.any (fun k => sameB k s)
theorem hasL_iff {ks : List ByteArray} {s : ByteArray} : hasL ks s = true ↔ s ∈ ks := by
  unfold hasL; rw [List.any_eq_true]
  exact ⟨fun ⟨k, h1, h2⟩ => by rw [← sameB_iff.1 h2]; exact h1, fun h => ⟨s, h, sameB_iff.2 rfl⟩⟩
theorem sC_append (a b : List ByteArray) : sC (a ++ b) = sC a ++ sC b := by unfold sC; rw [List.map_append]

/-! ### Put -/
def ltB (a b : ByteArray) : Bool := Op.bytesLess a.toList b.toList
theorem ltB_iff {a b : ByteArray} : ltB a b = true ↔ bL a < bL b := by
  unfold ltB; rw [bytesLess_eq, decide_eq_true_iff, Lib.toList_data, Lib.toList_data]
theorem ltB_no {a b : ByteArray} : ltB a b = false ↔ ¬ bL a < bL b := by
  rw [← Bool.not_eq_true, ltB_iff]
theorem ltB_same {a b : ByteArray} (h : ltB a b = true) : sameB a b = false := by
  rw [sameB_no]; intro e; subst e; exact List.lt_irrefl _ (ltB_iff.1 h)
def putL (s : ByteArray) : Bool → List ByteArray → List ByteArray
  | d, [] => if d = true then [] else [s]
  | d, k :: ks => (if (!d && !ltB k s) = true then [s] else []) ++ ((if sameB k s = true then [] else [k]) ++ putL s (d || !ltB k s) ks)
theorem putL_true (s : ByteArray) (ks : List ByteArray) : putL s true ks = ks.filter (fun k => !sameB k s) := by
  induction ks with
  | nil => rfl
  | cons k ks ih =>
    rw [putL, Bool.true_or, ih, List.filter_cons]
    cases sameB k s <;> rfl
theorem putL_len (s : ByteArray) (d : Bool) (ks : List ByteArray) : (putL s d ks).length ≤ ks.length + 1 := by
  induction ks generalizing d with
  | nil => cases d <;> simp [putL]
  | cons k ks ih =>
    rw [putL]
    have h0 := List.length_filter_le (fun k => !sameB k s) ks
    cases d <;> cases h1 : ltB k s <;> cases h2 : sameB k s <;> simp only [Bool.not_true, Bool.not_false, Bool.false_or, Bool.true_or, Bool.and_true, Bool.and_false, if_true, if_false, List.nil_append, List.length_append, List.length_cons, List.length_nil, Bool.false_eq_true, putL_true] <;> have := ih false <;> have := ih true <;> omega
theorem putL_mem (s t : ByteArray) (ks : List ByteArray) : t ∈ putL s false ks ↔ t ∈ ks ∨ t = s := by
  induction ks with
  | nil => simp [putL]
  | cons k ks ih =>
    rw [putL]
    cases h1 : ltB k s with
    | true =>
      have h2 := ltB_same h1
      simp only [h2, Bool.not_true, Bool.and_false, Bool.false_or, Bool.false_eq_true, if_false, List.nil_append, List.singleton_append, List.mem_cons, ih]
      exact ⟨fun h => by rcases h with h | h | h <;> simp [h], fun h => by rcases h with (h | h) | h <;> simp [h]⟩
    | false =>
      simp only [Bool.not_false, Bool.and_true, Bool.false_or, if_true, List.singleton_append, List.mem_cons, putL_true, List.mem_append, List.mem_filter, Bool.not_eq_true']
      constructor
      · rintro (h | h | h)
        · exact .inr h
        · split at h
          · cases h
          · simp at h; exact .inl (.inl h)
        · exact .inl (.inr h.1)
      · rintro ((h | h) | h)
        · subst h
          cases h2 : sameB t s with
          | true => exact .inl (sameB_iff.1 h2)
          | false => exact .inr (.inl (by simp))
        · cases h2 : sameB t s with
          | true => exact .inl (sameB_iff.1 h2)
          | false => exact .inr (.inr ⟨h, rfl⟩)
        · exact .inl h
theorem putL_up (s : ByteArray) (ks : List ByteArray) (h : ks.Pairwise (fun a b => bL a < bL b)) : (putL s false ks).Pairwise (fun a b => bL a < bL b) := by
  induction ks with
  | nil => simp [putL]
  | cons k ks ih =>
    rw [List.pairwise_cons] at h
    rw [putL]
    cases h1 : ltB k s with
    | true =>
      have h2 := ltB_same h1
      simp only [h2, Bool.not_true, Bool.and_false, Bool.false_or, Bool.false_eq_true, if_false, List.nil_append, List.singleton_append, List.pairwise_cons]
      refine ⟨fun t ht => ?_, ih h.2⟩
      rcases (putL_mem s t ks).1 ht with h3 | h3
      · exact h.1 t h3
      · subst h3; exact ltB_iff.1 h1
    | false =>
      simp only [Bool.not_false, Bool.and_true, Bool.false_or, if_true, List.singleton_append, putL_true]
      have hge := ltB_no.1 h1
      have hf : (ks.filter (fun k => !sameB k s)).Pairwise (fun a b => bL a < bL b) := h.2.sublist List.filter_sublist
      cases h2 : sameB k s with
      | true =>
        obtain rfl := sameB_iff.1 h2
        simp only [if_true, List.nil_append, List.pairwise_cons]
        exact ⟨fun t ht => h.1 t (List.mem_filter.1 ht).1, hf⟩
      | false =>
        simp only [Bool.false_eq_true, if_false, List.singleton_append, List.pairwise_cons, List.mem_cons]
        have hlt : bL s < bL k := by
          rcases Std.le_iff_lt_or_eq.1 (List.not_lt.1 hge) with h4 | h4
          · exact h4
          · exact absurd (bL_inj h4).symm (sameB_no.1 h2)
        refine ⟨fun t ht => ?_, fun t ht => h.1 t (List.mem_filter.1 ht).1, hf⟩
        rcases ht with rfl | ht
        · exact hlt
        · exact List.lt_trans hlt (h.1 t (List.mem_filter.1 ht).1)
theorem SrtIs.put {ks : List ByteArray} {Q Q' : ByteArray → Bool} (h : SrtIs ks Q) (s : ByteArray) (hQ : ∀ t, Q' t = (Q t || sameB s t)) : SrtIs (putL s false ks) Q' :=
  ⟨putL_up s ks h.up, fun t => by rw [putL_mem, h.mem, hQ, Bool.or_eq_true, sameB_iff]; exact ⟨fun h => h.imp id Eq.symm, fun h => h.imp id Eq.symm⟩⟩
end Go.Proofs.YtciokmjhdbcmpaaGreatDoor
namespace Go.Proofs.YtciokmjhdbcmpaaGreatDoor
open Go.RowKit

/-- The library's variables that are read. -/
structure Env (w : World) : Prop where
  m : ∃ m, w.cell? ⟨0, 0, none⟩ = some (.int .i64 m)
  tab : Lib.TabIs Tryz.prog w "internal/strconv.uint64pow10" .u64 Lib.pow10Tab
  syn : ∃ tp p, w.var? Tryz.prog "strconv.ErrSyntax" = some #[.iface tp p]
  rng : ∃ tp p, w.var? Tryz.prog "strconv.ErrRange" = some #[.iface tp p]
theorem var_below {P : Program} {n : String} {w w' : World} {cs : Array Value} (h : w.var? P n = some cs) (hb : Below w.heap.size w w') : w'.var? P n = some cs := by
  unfold World.var? at h ⊢
  cases hg : P.globalNamed n with
  | none => rw [hg] at h; exact absurd h (by simp)
  | some g =>
    rw [hg] at h
    simp only [Option.bind_some] at h ⊢
    have hlt : g < w.heap.size := by
      rcases Nat.lt_or_ge g w.heap.size with h' | h'
      · exact h'
      · rw [Array.getElem?_eq_none h'] at h; cases h
    rw [hb.block g hlt]
    exact h
theorem Env.below {w w' : World} (h : Env w) (hb : Below w.heap.size w w') : Env w' :=
  ⟨by obtain ⟨m, hm⟩ := h.m; exact ⟨m, cellB hb hm (lt_of_cell hm)⟩, var_below h.tab hb, by obtain ⟨a, b, e⟩ := h.syn; exact ⟨a, b, var_below e hb⟩, by obtain ⟨a, b, e⟩ := h.rng; exact ⟨a, b, var_below e hb⟩⟩
theorem itoa_any (n : Int) (w : World) (R : Ending → World → Prop) (h0 : -9223372036854775808 ≤ n) (h1 : n ≤ 9223372036854775807) (hE : Env w) (hR : ∀ w', Below w.heap.size w w' → R (.returned (.string (bsB (Lib.itoa n)))) w') :
    Calls Tryz.prog 58 #[.int .i64 n] w R := by
  refine (Tryz.strconv_Itoa n h0 h1 w hE.tab).mono fun e w' h => ?_
  obtain ⟨rfl, k, os, rfl⟩ := h
  exact hR _ (Lib.below_grow _ _ (Nat.le_refl _) _ _)
theorem infoStr19 : (Tryz.prog.info? 9).map (fun i => (i.zero, i.size, i.bytes)) = some (some (.string ⟨#[]⟩), 1, 16) := by kernel_rfl
def rowS (l : List (List UInt8)) : List Value := sC (l.map bsB)
theorem rowS_app (a b : List (List UInt8)) : rowS (a ++ b) = rowS a ++ rowS b := by unfold rowS; rw [List.map_append, sC_append]
theorem rowS_length (a : List (List UInt8)) : (rowS a).length = a.length := by unfold rowS; rw [sC_length, List.length_map]
theorem wp_appO {P : Program} {w : World} {ops : Array Oper} {rest : List Oper} {o : Oper} {a : Act} {Q : Exit → Act → World → Prop} (hgd : o.guard = none) (s x : Operand) (t : TypeId)
    (ho : o.op = .call { callee := .builtin .append, args := #[s, x], argTypes := #[t, t] })
    (base : Nat) (e : TypeId) {z : Value} {size bytes : Nat} (ht : P.underlying t = some (.slice e)) (hi : (P.info? e).map (fun i => (i.zero, i.size, i.bytes)) = some (some z, size, bytes))
    (hzs : z.cells.size = size) (hsz : 0 < size)
    (v : Value) (n : Nat) (xs : List Value) (hs : a.eval s = v) (hown : w.ownsRow base e size v n xs)
    (ad : Addr) (m c : Nat) (news : List Value) (hm : news.length = m * size) (hx : a.eval x = .slice (some ad) m c) (hc : CellsAt w (some ad) news) (h1 : ∀ u ∈ news, u.oneCell' = true)
    (hn : n + m ≤ 9223372036854775807) (hbytes : (n + m) * bytes ≤ 140737488355328) (hbase : base ≤ w.heap.size)
    (h : ∀ v' w', w'.ownsRow base e size v' (n + m) (xs ++ news) → Below base w w' → wpList P ops Q rest (a.put o.dst v') w') : wpList P ops Q (o :: rest) a w :=
  wp_appendT hgd s x t ho base e ht hi hzs hsz v n xs hs hown ad m c news hm hx hc h1 hn hbytes hbase fun v' w' h2 h3 _ =>
    h v' w' h2 ((Below.refl _ _).grown h3 hbase fun k hk => (hown.lt k hk).1)
/-- The words so far. -/
def hwL (k : Nat) (d : Bool) : List (List UInt8) := wdL k :: (if d = true then [discL] else [])
def wlL (k : Nat) (d : Bool) (t m : Int) (ds : List Dt) (i : Nat) : List (List UInt8) := hwL k d ++ (Lib.itoa t ++ mkL m) :: (ds.take i).map dtL
theorem wdsL_wl (x : Fm) : wdsL x = wlL x.k.toNat x.d x.t x.m x.ds x.ds.length := by
  unfold wdsL wlL hwL tlL
  rw [List.take_length, List.cons_append]
theorem wlL_zero (k : Nat) (d : Bool) (t m : Int) (ds : List Dt) : wlL k d t m ds 0 = hwL k d ++ [Lib.itoa t ++ mkL m] := by unfold wlL; simp
theorem wlL_succ (k : Nat) (d : Bool) (t m : Int) (ds : List Dt) (i : Nat) (h : i < ds.length) : wlL k d t m ds (i + 1) = wlL k d t m ds i ++ [dtL (dtAt ds i)] := by
  unfold wlL
  have e : (ds.take (i + 1)).map dtL = (ds.take i).map dtL ++ [dtL (dtAt ds i)] := by rw [List.take_succ_eq_append_getElem h, List.map_append, dtAt_lt h]; rfl
  rw [e]
  simp
theorem wlL_length (k : Nat) (d : Bool) (t m : Int) (ds : List Dt) (i : Nat) : (wlL k d t m ds i).length ≤ 3 + i := by
  unfold wlL hwL
  rw [List.length_append, List.length_cons, List.length_cons, List.length_map, List.length_take]
  split
  · simp; omega
  · simp; omega
/-- Join of words that are held. -/
theorem join_any (base : Nat) (l : List (List UInt8)) (v : Value) (w : World) (R : Ending → World → Prop) (hown : w.ownsRow base 9 1 v l.length (rowS l)) (h0 : l ≠ []) (hl : l.length ≤ 1000000) (hj : (Lib.join l [32]).length ≤ 1000000)
   (hR : ∀ w', Below w.heap.size w w' → R (.returned (.string (bsB (Lib.join l [32])))) w') :
    Calls Tryz.prog 59 #[v, .string ⟨#[32]⟩] w R := by
  have hp : 0 < l.length := List.length_pos_iff.2 h0
  rcases hown.2 with ⟨_, h⟩ | ⟨g, cap, cur, rfl, _, h3, h4, h5, h6, _⟩
  · omega
  obtain ⟨ao, c, e, hc, _⟩ := ownsRow_read hown
  cases e
  have hmap : (l.map bsB).map (·.data.toList) = l := by
    rw [List.map_map]
    conv => rhs; rw [← List.map_id l]
    exact List.map_congr_left fun a _ => data_bsB a
  have hj2 := Tryz.strings_Join g 0 cap (l.map bsB) ⟨#[32]⟩ w (fun j x hx => by
      have hx' : (rowS l)[j]? = some (.string x) := by unfold rowS sC; rw [List.getElem?_map, hx]; rfl
      exact hc.get rfl hx') (lt_of_block h3) (by rw [List.length_map]; omega) (by rw [List.length_map]; exact h4) (by rw [hmap]; show (Lib.join l [32]).length ≤ _; omega)
  rw [List.length_map, hmap] at hj2
  refine hj2.mono fun e w' h => ?_
  obtain ⟨rfl, hb⟩ := h
  exact hR _ hb
/-- What Text returns. -/
def teS (x : Fm) : ByteArray := if plE x = 0 then bsB (txL x) else ⟨#[]⟩
set_option maxRecDepth 100000 in
set_option maxHeartbeats 4000000 in
theorem rtext_any (x : Fm) (da : Option Addr) (dc : Nat) (w : World) (R : Ending → World → Prop) (hox : FmOk w x da dc)
   (hR : ∀ w', Below w.heap.size w w' → R (.returned (.tuple #[.string (teS x), .int .i64 (plE x)])) w') :
    Calls Tryz.prog 24 #[fmV x da dc] w R := by
  have HR := Lib.hid hR
  have HOX := Lib.hid hox
  obtain ⟨E, hE⟩ : ∃ E, plE x = E := ⟨_, rfl⟩
  have HE := Lib.hid hE
  have hT : Hid (teS x = if E = 0 then bsB (txL x) else ⟨#[]⟩) := by unfold Hid teS; rw [hE]
  rw [hE] at HR
  have HXV : Hid (fmV x da dc = .agg #[.int .i64 x.k, .bool x.d, .int .i64 x.t, .int .i64 x.m, .slice da x.ds.length dc]) := rfl
  rw [HXV.out]
  obtain ⟨w1, E1, HB1, s1, X1⟩ := box_ex w #[.int .i64 x.k, .bool x.d, .int .i64 x.t, .int .i64 x.m, .slice da x.ds.length dc] 31
  clear hR hox hE
  have o0 := cell_at X1.out (j := 0) (v := .int .i64 x.k) rfl
  have o1 := cell_at X1.out (j := 1) (v := .bool x.d) rfl
  have o2 := cell_at X1.out (j := 2) (v := .int .i64 x.t) rfl
  have o3 := cell_at X1.out (j := 3) (v := .int .i64 x.m) rfl
  have o4 := cell_at X1.out (j := 4) (v := .slice da x.ds.length dc) rfl
  go_enter Tryz.func24, Tryz.ntmps24
  go_wp2_with (rw [E1])
  rw [← HXV.out]
  refine rplain_any x da dc _ _ (HOX.out.below HB1.out) fun W1 hb => ?_
  rw [HE.out]
  have BW1 : Hid (Below w.heap.size w W1) := HB1.out.trans (hb.mono (Nat.le_of_lt s1))
  have X2 := Lib.hid ((hb.block _ s1).trans X1.out)
  clear hb o0 o1 o2 o3 o4 E1
  have o0 := cell_at X2.out (j := 0) (v := .int .i64 x.k) rfl
  have o1 := cell_at X2.out (j := 1) (v := .bool x.d) rfl
  have o2 := cell_at X2.out (j := 2) (v := .int .i64 x.t) rfl
  have o3 := cell_at X2.out (j := 3) (v := .int .i64 x.m) rfl
  have o4 := cell_at X2.out (j := 4) (v := .slice da x.ds.length dc) rfl
  by_cases f0 : E = 0
  · subst f0
    have e : Hid (teS x = bsB (txL x)) := hT.out
    rw [e.out] at HR
    go_wp2_with fail
    rw [← HXV.out]
    refine rwritten_any x da dc _ _ (HOX.out.below BW1.out) HE.out fun W2 hb => ?_
    have BW2 : Hid (Below w.heap.size w W2) := BW1.out.trans (hb.mono BW1.out.size)
    clear hb o0 o1 o2 o3 o4
    go_wp2_with fail
    exact HR.out _ BW2.out
  · have K : (E != 0) = true := by simpa using f0
    have e : Hid (teS x = ⟨#[]⟩) := by unfold Hid; rw [hT.out, if_neg f0]
    rw [e.out] at HR
    clear f0
    go_wp2_with fail
    exact HR.out _ BW1.out
set_option maxRecDepth 100000 in
set_option maxHeartbeats 8000000 in
theorem ftext_good (x : Fm) (da : Option Addr) (dc : Nat) (w : World) (R : Ending → World → Prop) (hox : FmOk w x da dc) (hx0 : plE x = 0) (hE : Env w)
   (hR : ∀ w', Below w.heap.size w w' → R (.returned (.tuple #[.string (bsB (txL x)), .int .i64 0])) w') :
    Calls Tryz.prog 23 #[fmV x da dc] w R := by
  have HR := Lib.hid hR
  have HEV := Lib.hid hE
  obtain ⟨k0, k9, t0, t1, m3, hds⟩ := plE_all hx0
  have hl := plE_few hx0
  have hTL := txL_len hx0
  have HW := Lib.hid (wdsL_wl x)
  have HTX : Hid (txL x = Lib.join (wdsL x) [32]) := rfl
  have HOX := Lib.hid hox
  have HX0 := Lib.hid hx0
  have HCD := Lib.hid hox.cells
  obtain ⟨x0, hxx⟩ : ∃ y, x = y := ⟨_, rfl⟩
  have HXX := Lib.hid hxx
  obtain ⟨K, d, t, m, ds⟩ := x
  subst hxx
  obtain ⟨k, rfl⟩ : ∃ k : Nat, K = k := ⟨K.toNat, (Int.toNat_of_nonneg k0).symm⟩
  dsimp only at hl HW HTX k9 t0 t1 m3 hds HCD
  rw [Int.toNat_natCast] at HW
  rw [HTX.out, HW.out] at HR hTL
  have hk9 : k < 9 := by omega
  have HM3 := Lib.hid m3
  have HDS := Lib.hid hds
  obtain ⟨X, hX⟩ : ∃ X : Fm, (⟨(k : Int), d, t, m, ds⟩ : Fm) = X := ⟨_, rfl⟩
  obtain ⟨dn, hdn⟩ : ∃ dn, ds.length = dn := ⟨_, rfl⟩
  have HXV : Hid (fmV X da dc = .agg #[.int .i64 k, .bool d, .int .i64 t, .int .i64 m, .slice da dn dc]) := by unfold Hid fmV; rw [← hX, ← hdn]
  rw [hX] at HOX HX0 ⊢
  have HDN := Lib.hid hdn
  rw [hdn] at hl HR hTL
  rw [HXV.out]
  obtain ⟨V, E2, HB2, s2, X2⟩ := box_ex w #[.int .i64 k, .bool d, .int .i64 t, .int .i64 m, .slice da dn dc] 31
  clear hR hox hx0 hdn hds m3 hE hX HXX HW HTX
  have o0 := cell_at X2.out (j := 0) (v := .int .i64 k) rfl
  have o1 := cell_at X2.out (j := 1) (v := .bool d) rfl
  have o2 := cell_at X2.out (j := 2) (v := .int .i64 t) rfl
  have o3 := cell_at X2.out (j := 3) (v := .int .i64 m) rfl
  have o4 := cell_at X2.out (j := 4) (v := .slice da dn dc) rfl
  go_enter Tryz.func23, Tryz.ntmps23
  go_wp2_with (rw [E2])
  rw [← HXV.out]
  refine plain_any X da dc _ _ (HOX.out.below HB2.out) fun W1 hb => ?_
  rw [HX0.out]
  have BW1 : Hid (Below w.heap.size w W1) := HB2.out.trans (hb.mono (Nat.le_of_lt s2))
  have X3 := Lib.hid ((hb.block _ s2).trans X2.out)
  have hx1 := Nat.lt_of_lt_of_le s2 hb.size
  clear hb o0 o1 o2 o3 o4 E2
  have d0 : W1.drew.cell? ⟨w.heap.size, 0, none⟩ = some (.int .i64 k) := cell_at X3.out rfl
  have BD : Hid (Below W1.heap.size W1 W1.drew) := (Below.refl _ _).drew
  have hwd : (rwAt k).wd = bsB (wdL k) := (bsB_data _).symm
  have hidx : ∀ w, (Instr.index 81 (.agg rwA) (.int .i64 k)).run Tryz.prog w = .ok (.agg #[.string (bsB (wdL k)), .string (rwAt k).on, .string (rwAt k).di, .int .i64 (rwAt k).le, .int .i64 (rwAt k).mo, .bool (rwAt k).ma]) w := fun w => by rw [← hwd]; exact idx_rows k hk9 w
  have hfld : ∀ w, (Instr.field 80 (.agg #[.string (bsB (wdL k)), .string (rwAt k).on, .string (rwAt k).di, .int .i64 (rwAt k).le, .int .i64 (rwAt k).mo, .bool (rwAt k).ma]) 0).run Tryz.prog w = .ok (.string (bsB (wdL k))) w := fun w => by kernel_rfl
  clear hwd
  go_wp2_with fail
  refine regionQ (fun w' => w'.cell? ⟨w.heap.size, 0, none⟩ = some (.int .i64 k)) (by kernel_rfl) (d0) (fun Qn hPQ hQn hS0 => ?_)
  refine takeQ (i := 1) (d := some 14) (v := ?_) rfl rfl (by kernel_rfl) (by kernel_rfl) (by kernel_rfl) hPQ hS0 (by kernel_rfl) ?_ ?_
  rotate_left
  · (intro w hSw; (try dsimp only at hSw); go_simp; (try with_reducible rfl))
  (try simp only [Act.put, List.setIfInBounds_toArray, List.set_cons_zero, List.set_cons_succ])
  refine takeQ (i := 2) (d := some 15) (v := ?_) rfl rfl (by kernel_rfl) (by kernel_rfl) (by kernel_rfl) hPQ hS0 (by kernel_rfl) ?_ ?_
  rotate_left
  · (intro w hSw; (try dsimp only at hSw); go_simp; (try with_reducible rfl))
  (try simp only [Act.put, List.setIfInBounds_toArray, List.set_cons_zero, List.set_cons_succ])
  refine wpAnyH_ready (rs := [0]) (by kernel_rfl) (by simp) ?_
  refine AllReadyH.cons (o := _) rfl (fun K hK => ?_) AllReadyH.nil
  go_simp
  refine rows_any _ _ fun w8 hb => ?_
  have B8 : Hid (Below W1.heap.size W1 w8) := BD.out.trans (hb.mono BD.out.size)
  have e8 := cellB B8.out d0 hx1
  clear hb
  refine hK.out _ _ (e8) (fun hS1 => ?_)
  clear hK K hS0
  (try simp only [Act.put, List.setIfInBounds_toArray, List.set_cons_zero, List.set_cons_succ])
  refine takeQ (i := 3) (d := some 16) (v := ?_) rfl rfl (by kernel_rfl) (by kernel_rfl) (by kernel_rfl) hPQ hS1 (by kernel_rfl) ?_ ?_
  rotate_left
  · (intro w hSw; (try dsimp only at hSw); go_simp; (try with_reducible rfl))
  (try simp only [Act.put, List.setIfInBounds_toArray, List.set_cons_zero, List.set_cons_succ])
  refine takeQ (i := 4) (d := some 17) (v := ?_) rfl rfl (by kernel_rfl) (by kernel_rfl) (by kernel_rfl) hPQ hS1 (by kernel_rfl) ?_ ?_
  rotate_left
  · (intro w hSw; (try dsimp only at hSw); go_simp; (try with_reducible rfl))
  (try simp only [Act.put, List.setIfInBounds_toArray, List.set_cons_zero, List.set_cons_succ])
  refine wpAnyH_ready (rs := [5]) (by kernel_rfl) (by simp) ?_
  refine AllReadyH.cons (o := _) rfl (fun K hK => ?_) AllReadyH.nil
  go_simp
  obtain ⟨w9, E9, HB9, s9, X9⟩ := box_ex w8 #[.string (bsB (wdL k))] 9
  have HO9 : Hid (w9.ownsRow W1.heap.size 9 1 (.slice (some ⟨w8.heap.size, 0, none⟩) 1 1) 1 (rowS [wdL k])) := by unfold Hid; rw [← E9]; exact World.ownsRow_lit w8 #[.string (bsB (wdL k))] 1 B8.out.size (by decide) rfl
  rw [E9]
  have B9 : Hid (Below W1.heap.size W1 w9) := B8.out.trans (HB9.out.mono B8.out.size)
  have e9 := cellB B9.out d0 hx1
  clear E9
  refine hK.out _ _ (e9) (fun hS2 => ?_)
  clear hK K hS1
  (try simp only [Act.put, List.setIfInBounds_toArray, List.set_cons_zero, List.set_cons_succ])
  refine takeQ (i := 6) (d := some 5) (v := ?_) rfl rfl (by kernel_rfl) (by kernel_rfl) (by kernel_rfl) hPQ hS2 (by kernel_rfl) ?_ ?_
  rotate_left
  · (intro w hSw; (try dsimp only at hSw); go_simp; (try with_reducible rfl))
  (try simp only [Act.put, List.setIfInBounds_toArray, List.set_cons_zero, List.set_cons_succ])
  refine wpAnyH_done (by kernel_rfl) (hQn.out _ _ ?_) _
  clear hS2 hPQ hQn Qn
  obtain ⟨v9, hv9⟩ : ∃ v, Value.slice (some ⟨w8.heap.size, 0, none⟩) 1 1 = v := ⟨_, rfl⟩
  rw [hv9] at HO9 ⊢
  have BV9 : Hid (Below w.heap.size w w9) := BW1.out.trans (B9.out.mono BW1.out.size)
  have X4 := Lib.hid ((B9.out.block _ hx1).trans X3.out)
  clear hv9 d0 e8 e9 hidx X9 s9 HB9
  have o0 := cell_at X4.out (j := 0) (v := .int .i64 k) rfl
  have o1 := cell_at X4.out (j := 1) (v := .bool d) rfl
  have o2 := cell_at X4.out (j := 2) (v := .int .i64 t) rfl
  have o3 := cell_at X4.out (j := 3) (v := .int .i64 m) rfl
  have o4 := cell_at X4.out (j := 4) (v := .slice da dn dc) rfl
  cases d with
  | true =>
    go_wp2_with (at_builtin; refine wp_appO rfl (.tmp 21) (.tmp 22) 63 rfl W1.heap.size 9 Tryz.underlying63 infoStr19 rfl (by decide) v9 1 (rowS ([wdL k])) rfl (ownsRow_below HO9.out ((Below.refl _ _).alloc (Nat.le_refl _) _)) ⟨w9.heap.size, 0, none⟩ 1 1 [.string (⟨#[100, 105, 115, 99]⟩)] rfl rfl (CellsAt.new1 _ _ _) (one1 _ rfl) (by omega) (by omega) (by have := B9.out.size; simp; omega) ?_; intro v10 w10 hown hb; have HO10 : Hid (w10.ownsRow W1.heap.size 9 1 v10 (1 + 1) (rowS ([wdL k] ++ [discL]))) := (by unfold Hid; rw [rowS_app]; exact hown); have B10 : Hid (Below W1.heap.size W1 w10) := (B9.out.alloc B9.out.size _).trans hb; clear hown hb)
    have HO : Hid (w10.ownsRow W1.heap.size 9 1 v10 (hwL k true).length (rowS (hwL k true))) := HO10.out
    have X5 := Lib.hid ((B10.out.block _ hx1).trans X3.out)
    have BVd : Hid (Below w.heap.size w w10.drew) := BW1.out.trans (B10.out.drew.mono BW1.out.size)
    have HOd : Hid (w10.drew.ownsRow W1.heap.size 9 1 v10 (hwL k true).length (rowS (hwL k true))) := ownsRow_below HO.out (Below.refl _ _).drew
    have BDd : Hid (Below W1.heap.size W1 w10.drew) := B10.out.drew
    have hhl : (hwL k true).length ≤ 2 := by unfold hwL; simp
    obtain ⟨hn, hhn⟩ : ∃ n, (hwL k true).length = n := ⟨_, rfl⟩
    rw [hhn] at HOd hhl
    have HHN := Lib.hid hhn
    clear hhn HO o0 o1 o2 o3 o4
    have a2 : w10.drew.cell? ⟨w.heap.size, 2, none⟩ = some (.int .i64 t) := cell_at X5.out rfl
    have a3 : w10.drew.cell? ⟨w.heap.size, 3, none⟩ = some (.int .i64 m) := cell_at X5.out rfl
    have a4 : w10.drew.cell? ⟨w.heap.size, 4, none⟩ = some (.slice da dn dc) := cell_at X5.out rfl
    refine regionQ (fun w' => w'.cell? ⟨w.heap.size, 2, none⟩ = some (.int .i64 t) ∧ w'.cell? ⟨w.heap.size, 3, none⟩ = some (.int .i64 m) ∧ w'.cell? ⟨w.heap.size, 4, none⟩ = some (.slice da dn dc)) (by kernel_rfl) (⟨a2, a3, a4⟩) (fun Qn hPQ hQn hS0 => ?_)
    refine takeQ (i := 0) (d := some 24) (v := ?_) rfl rfl (by kernel_rfl) (by kernel_rfl) (by kernel_rfl) hPQ hS0 (by kernel_rfl) ?_ ?_
    rotate_left
    · (intro w hSw; (try dsimp only at hSw); obtain ⟨q2, q3, q4⟩ := hSw; go_simp; (try with_reducible rfl))
    (try simp only [Act.put, List.setIfInBounds_toArray, List.set_cons_zero, List.set_cons_succ])
    refine takeQ (i := 1) (d := some 25) (v := ?_) rfl rfl (by kernel_rfl) (by kernel_rfl) (by kernel_rfl) hPQ hS0 (by kernel_rfl) ?_ ?_
    rotate_left
    · (intro w hSw; (try dsimp only at hSw); obtain ⟨q2, q3, q4⟩ := hSw; go_simp; (try with_reducible rfl))
    (try simp only [Act.put, List.setIfInBounds_toArray, List.set_cons_zero, List.set_cons_succ])
    refine takeQ (i := 2) (d := some 26) (v := ?_) rfl rfl (by kernel_rfl) (by kernel_rfl) (by kernel_rfl) hPQ hS0 (by kernel_rfl) ?_ ?_
    rotate_left
    · (intro w hSw; (try dsimp only at hSw); obtain ⟨q2, q3, q4⟩ := hSw; go_simp; (try with_reducible rfl))
    (try simp only [Act.put, List.setIfInBounds_toArray, List.set_cons_zero, List.set_cons_succ])
    refine takeQ (i := 4) (d := some 28) (v := ?_) rfl rfl (by kernel_rfl) (by kernel_rfl) (by kernel_rfl) hPQ hS0 (by kernel_rfl) ?_ ?_
    rotate_left
    · (intro w hSw; (try dsimp only at hSw); obtain ⟨q2, q3, q4⟩ := hSw; go_simp; (try with_reducible rfl))
    (try simp only [Act.put, List.setIfInBounds_toArray, List.set_cons_zero, List.set_cons_succ])
    refine takeQ (i := 5) (d := some 29) (v := ?_) rfl rfl (by kernel_rfl) (by kernel_rfl) (by kernel_rfl) hPQ hS0 (by kernel_rfl) ?_ ?_
    rotate_left
    · (intro w hSw; (try dsimp only at hSw); obtain ⟨q2, q3, q4⟩ := hSw; go_simp; (try with_reducible rfl))
    (try simp only [Act.put, List.setIfInBounds_toArray, List.set_cons_zero, List.set_cons_succ])
    refine wpAnyH_ready (rs := [3]) (by kernel_rfl) (by simp) ?_
    refine AllReadyH.cons (o := _) rfl (fun K hK => ?_) AllReadyH.nil
    go_simp
    refine itoa_any t _ _ (by omega) (by omega) (HEV.out.below BVd.out) fun w11 hb => ?_
    have B11 : Hid (Below W1.heap.size W1 w11) := BDd.out.trans (hb.mono BDd.out.size)
    have HO11 := Lib.hid (ownsRow_below HOd.out hb)
    have b2 := cellB hb a2 (lt_of_cell a2)
    have b3 := cellB hb a3 (lt_of_cell a3)
    have b4 := cellB hb a4 (lt_of_cell a4)
    clear hb
    refine hK.out _ _ (⟨b2, b3, b4⟩) (fun hS1 => ?_)
    clear hK K hS0
    (try simp only [Act.put, List.setIfInBounds_toArray, List.set_cons_zero, List.set_cons_succ])
    refine wpAnyH_ready (rs := [6]) (by kernel_rfl) (by simp) ?_
    refine AllReadyH.cons (o := _) rfl (fun K hK => ?_) AllReadyH.nil
    go_simp
    refine marked_any (bsB (Lib.itoa t)) m _ _ HM3.out (by rw [Lib.size_eq, data_bsB]; have := itoa_len t0 t1; omega) ?_
    rw [data_bsB]
    refine hK.out _ _ (⟨b2, b3, b4⟩) (fun hS2 => ?_)
    clear hK K hS1
    (try simp only [Act.put, List.setIfInBounds_toArray, List.set_cons_zero, List.set_cons_succ])
    refine wpAnyH_ready (rs := [7]) (by kernel_rfl) (by simp) ?_
    refine AllReadyH.cons (o := _) rfl (fun K hK => ?_) AllReadyH.nil
    go_simp
    obtain ⟨w12, E12, HB12, s12, X12⟩ := box_ex w11 #[.string (bsB (Lib.itoa t ++ mkL m))] 9
    rw [E12]
    have HC12 : Hid (CellsAt w12 (some ⟨w11.heap.size, 0, none⟩) [.string (bsB (Lib.itoa t ++ mkL m))]) := by unfold Hid; rw [← E12]; exact CellsAt.new1 _ _ _
    have B12 : Hid (Below W1.heap.size W1 w12) := B11.out.trans (HB12.out.mono B11.out.size)
    have HO12 := Lib.hid (ownsRow_below HO11.out HB12.out)
    have c2 := cellB HB12.out b2 (lt_of_cell b2)
    have c3 := cellB HB12.out b3 (lt_of_cell b3)
    have c4 := cellB HB12.out b4 (lt_of_cell b4)
    clear E12
    refine hK.out _ _ (⟨c2, c3, c4⟩) (fun hS3 => ?_)
    clear hK K hS2
    (try simp only [Act.put, List.setIfInBounds_toArray, List.set_cons_zero, List.set_cons_succ])
    refine wpAnyH_ready (rs := [8]) (by kernel_rfl) (by simp) ?_
    refine AllReadyH.cons (o := _) rfl (fun K hK => ?_) AllReadyH.nil
    refine step_appendN rfl (.tmp 24) (.tmp 31) 63 (by rfl) W1.heap.size 9 Tryz.underlying63 infoStr19 rfl (by decide) v10 hn (rowS (hwL k true)) (by rfl) HO12.out (some ⟨w11.heap.size, 0, none⟩) 1 1 [.string (bsB (Lib.itoa t ++ mkL m))] (by rfl) rfl HC12.out (one1 _ rfl) (by omega) (by omega) (by have := B12.out.size; omega) ?_
    intro v13 w13 hown hb
    have HO13 : Hid (w13.ownsRow W1.heap.size 9 1 v13 (wlL k true t m ds 0).length (rowS (wlL k true t m ds 0))) := by unfold Hid; rw [wlL_zero, rowS_app, List.length_append, HHN.out]; exact hown
    have B13 : Hid (Below W1.heap.size W1 w13) := B12.out.trans hb
    have g2 := (hb.cell (p := ⟨w.heap.size, 2, none⟩) hx1).trans c2
    have g3 := (hb.cell (p := ⟨w.heap.size, 3, none⟩) hx1).trans c3
    have g4 := (hb.cell (p := ⟨w.heap.size, 4, none⟩) hx1).trans c4
    clear hown hb
    refine hK.out _ _ (⟨g2, g3, g4⟩) (fun hS4 => ?_)
    clear hK K hS3
    (try simp only [Act.put, List.setIfInBounds_toArray])
    refine takeQ (i := 9) (d := some 5) (v := ?_) rfl rfl (by kernel_rfl) (by kernel_rfl) (by kernel_rfl) hPQ hS4 (by kernel_rfl) ?_ ?_
    rotate_left
    · (intro w hSw; (try dsimp only at hSw); obtain ⟨q2, q3, q4⟩ := hSw; go_simp; (try with_reducible rfl))
    (try simp only [Act.put])
    refine wpAnyH_done (by kernel_rfl) (hQn.out _ _ ?_) _
    clear hS4 hPQ hQn Qn
    clear a2 a3 a4 b2 b3 b4 c2 c3 c4 HOd HO11 HO12 HC12
    go_wp2_with fail
    go_loopw [5, 36] (fun s j wr => ∃ i : Nat, i ≤ dn ∧ j = .int .i64 i ∧ Hid (Below W1.heap.size W1 wr) ∧ Hid (wr.ownsRow W1.heap.size 9 1 s (wlL k true t m ds i).length (rowS (wlL k true t m ds i)))) (fun _ j _ => dn - (intOf j).toNat)
    case atStart => exact ⟨0, Nat.zero_le _, rfl, B13, HO13⟩
    case round =>
      clear g2 g3 g4 HO13
      obtain ⟨i, hi, rfl, HB, HOw⟩ := hrel
      have hlen := wlL_length k true t m ds i
      have BWr : Hid (Below w.heap.size w wr) := BW1.out.trans (HB.out.mono BW1.out.size)
      by_cases hlt : i < dn
      · obtain ⟨bd, od, rfl, hbd, hdc⟩ := HCD.out.dts (by have := HDN.out; show 0 < ds.length; omega)
        obtain ⟨h0, h1⟩ := hdc i (by have := HDN.out; show i < ds.length; omega)
        have hd1 := HDS.out (dtAt ds i) (by rw [dtAt_lt (by have := HDN.out; omega)]; exact List.getElem_mem _)
        have hnl := nmE_len hd1.1
        have g0 := cellB BWr.out h0 hbd
        have g1 := cellB BWr.out h1 hbd
        have hdm := Lib.hid hd1.2
        have hsucc : Hid (wlL k true t m ds (i + 1) = wlL k true t m ds i ++ [(dtAt ds i).n.data.toList ++ mkL (dtAt ds i).m]) := wlL_succ _ _ _ _ _ _ (by have := HDN.out; omega)
        obtain ⟨u, hu⟩ : ∃ u, (dtAt ds i).n = u := ⟨_, rfl⟩
        obtain ⟨q, hq⟩ : ∃ q, (dtAt ds i).m = q := ⟨_, rfl⟩
        rw [hu] at g0 hnl hsucc
        rw [hq] at g1 hdm hsucc
        rw [hu, hq] at hd1
        obtain ⟨ln, hln⟩ : ∃ n, (wlL k true t m ds i).length = n := ⟨_, rfl⟩
        rw [hln] at HOw hlen
        obtain ⟨wA, EA, BA, sA, XA⟩ := box_ex wr #[.string u, .int .i64 q] 76
        have x0 := cell_at XA.out (j := 0) (v := .string u) rfl
        have x1 := cell_at XA.out (j := 1) (v := .int .i64 q) rfl
        have HOA := Lib.hid (ownsRow_below HOw.out BA.out)
        have BAW : Hid (Below W1.heap.size W1 wA) := HB.out.trans (BA.out.mono HB.out.size)
        have HLN := Lib.hid hln
        clear hdc h0 h1 hd1 hu hq hln HOw
        go_wp2_with (rw [EA])
        refine marked_any u q _ _ hdm.out (by omega) ?_
        go_wp2_with (at_builtin; refine wp_appO rfl (.tmp 40) (.tmp 46) 63 rfl W1.heap.size 9 Tryz.underlying63 infoStr19 rfl (by decide) u5 ln (rowS (wlL k true t m ds i)) rfl (ownsRow_below HOA.out ((Below.refl _ _).alloc (Nat.le_refl _) _)) ⟨wA.heap.size, 0, none⟩ 1 1 [.string (bsB (u.data.toList ++ mkL q))] rfl rfl (CellsAt.new1 _ _ _) (one1 _ rfl) (by omega) (by omega) (by have := BAW.out.size; simp; omega) ?_; intro vC wC hown hb; have HOC : Hid (wC.ownsRow W1.heap.size 9 1 vC (ln + 1) (rowS (wlL k true t m ds i ++ [u.data.toList ++ mkL q]))) := (by unfold Hid; rw [rowS_app]; exact hown); have BC : Hid (Below W1.heap.size W1 wC) := (BAW.out.alloc BAW.out.size _).trans hb; clear hown hb)
        exact ⟨⟨i + 1, by omega, by go_num, BC, by rw [hsucc.out, List.length_append, HLN.out]; exact HOC.out⟩, by simp [intOf]; omega⟩
      · obtain rfl : i = dn := by omega
        go_wp2_with fail
        refine join_any W1.heap.size (wlL k true t m ds i) _ _ _ HOw.out (by unfold wlL hwL; simp) (by omega) (by omega) fun wE hb => ?_
        have BE : Hid (Below w.heap.size w wE) := BWr.out.trans (hb.mono BWr.out.size)
        clear hb
        go_wp2_with fail
        exact HR.out _ BE.out
  | false =>
    go_wp2_with fail
    have HO : Hid (w9.ownsRow W1.heap.size 9 1 v9 (hwL k false).length (rowS (hwL k false))) := HO9.out
    have X5 := Lib.hid ((B9.out.block _ hx1).trans X3.out)
    have BVd : Hid (Below w.heap.size w w9.drew) := BW1.out.trans (B9.out.drew.mono BW1.out.size)
    have HOd : Hid (w9.drew.ownsRow W1.heap.size 9 1 v9 (hwL k false).length (rowS (hwL k false))) := ownsRow_below HO.out (Below.refl _ _).drew
    have BDd : Hid (Below W1.heap.size W1 w9.drew) := B9.out.drew
    have hhl : (hwL k false).length ≤ 2 := by unfold hwL; simp
    obtain ⟨hn, hhn⟩ : ∃ n, (hwL k false).length = n := ⟨_, rfl⟩
    rw [hhn] at HOd hhl
    have HHN := Lib.hid hhn
    clear hhn HO o0 o1 o2 o3 o4
    have a2 : w9.drew.cell? ⟨w.heap.size, 2, none⟩ = some (.int .i64 t) := cell_at X5.out rfl
    have a3 : w9.drew.cell? ⟨w.heap.size, 3, none⟩ = some (.int .i64 m) := cell_at X5.out rfl
    have a4 : w9.drew.cell? ⟨w.heap.size, 4, none⟩ = some (.slice da dn dc) := cell_at X5.out rfl
    refine regionQ (fun w' => w'.cell? ⟨w.heap.size, 2, none⟩ = some (.int .i64 t) ∧ w'.cell? ⟨w.heap.size, 3, none⟩ = some (.int .i64 m) ∧ w'.cell? ⟨w.heap.size, 4, none⟩ = some (.slice da dn dc)) (by kernel_rfl) (⟨a2, a3, a4⟩) (fun Qn hPQ hQn hS0 => ?_)
    refine takeQ (i := 0) (d := some 24) (v := ?_) rfl rfl (by kernel_rfl) (by kernel_rfl) (by kernel_rfl) hPQ hS0 (by kernel_rfl) ?_ ?_
    rotate_left
    · (intro w hSw; (try dsimp only at hSw); obtain ⟨q2, q3, q4⟩ := hSw; go_simp; (try with_reducible rfl))
    (try simp only [Act.put, List.setIfInBounds_toArray, List.set_cons_zero, List.set_cons_succ])
    refine takeQ (i := 1) (d := some 25) (v := ?_) rfl rfl (by kernel_rfl) (by kernel_rfl) (by kernel_rfl) hPQ hS0 (by kernel_rfl) ?_ ?_
    rotate_left
    · (intro w hSw; (try dsimp only at hSw); obtain ⟨q2, q3, q4⟩ := hSw; go_simp; (try with_reducible rfl))
    (try simp only [Act.put, List.setIfInBounds_toArray, List.set_cons_zero, List.set_cons_succ])
    refine takeQ (i := 2) (d := some 26) (v := ?_) rfl rfl (by kernel_rfl) (by kernel_rfl) (by kernel_rfl) hPQ hS0 (by kernel_rfl) ?_ ?_
    rotate_left
    · (intro w hSw; (try dsimp only at hSw); obtain ⟨q2, q3, q4⟩ := hSw; go_simp; (try with_reducible rfl))
    (try simp only [Act.put, List.setIfInBounds_toArray, List.set_cons_zero, List.set_cons_succ])
    refine takeQ (i := 4) (d := some 28) (v := ?_) rfl rfl (by kernel_rfl) (by kernel_rfl) (by kernel_rfl) hPQ hS0 (by kernel_rfl) ?_ ?_
    rotate_left
    · (intro w hSw; (try dsimp only at hSw); obtain ⟨q2, q3, q4⟩ := hSw; go_simp; (try with_reducible rfl))
    (try simp only [Act.put, List.setIfInBounds_toArray, List.set_cons_zero, List.set_cons_succ])
    refine takeQ (i := 5) (d := some 29) (v := ?_) rfl rfl (by kernel_rfl) (by kernel_rfl) (by kernel_rfl) hPQ hS0 (by kernel_rfl) ?_ ?_
    rotate_left
    · (intro w hSw; (try dsimp only at hSw); obtain ⟨q2, q3, q4⟩ := hSw; go_simp; (try with_reducible rfl))
    (try simp only [Act.put, List.setIfInBounds_toArray, List.set_cons_zero, List.set_cons_succ])
    refine wpAnyH_ready (rs := [3]) (by kernel_rfl) (by simp) ?_
    refine AllReadyH.cons (o := _) rfl (fun K hK => ?_) AllReadyH.nil
    go_simp
    refine itoa_any t _ _ (by omega) (by omega) (HEV.out.below BVd.out) fun w11 hb => ?_
    have B11 : Hid (Below W1.heap.size W1 w11) := BDd.out.trans (hb.mono BDd.out.size)
    have HO11 := Lib.hid (ownsRow_below HOd.out hb)
    have b2 := cellB hb a2 (lt_of_cell a2)
    have b3 := cellB hb a3 (lt_of_cell a3)
    have b4 := cellB hb a4 (lt_of_cell a4)
    clear hb
    refine hK.out _ _ (⟨b2, b3, b4⟩) (fun hS1 => ?_)
    clear hK K hS0
    (try simp only [Act.put, List.setIfInBounds_toArray, List.set_cons_zero, List.set_cons_succ])
    refine wpAnyH_ready (rs := [6]) (by kernel_rfl) (by simp) ?_
    refine AllReadyH.cons (o := _) rfl (fun K hK => ?_) AllReadyH.nil
    go_simp
    refine marked_any (bsB (Lib.itoa t)) m _ _ HM3.out (by rw [Lib.size_eq, data_bsB]; have := itoa_len t0 t1; omega) ?_
    rw [data_bsB]
    refine hK.out _ _ (⟨b2, b3, b4⟩) (fun hS2 => ?_)
    clear hK K hS1
    (try simp only [Act.put, List.setIfInBounds_toArray, List.set_cons_zero, List.set_cons_succ])
    refine wpAnyH_ready (rs := [7]) (by kernel_rfl) (by simp) ?_
    refine AllReadyH.cons (o := _) rfl (fun K hK => ?_) AllReadyH.nil
    go_simp
    obtain ⟨w12, E12, HB12, s12, X12⟩ := box_ex w11 #[.string (bsB (Lib.itoa t ++ mkL m))] 9
    rw [E12]
    have HC12 : Hid (CellsAt w12 (some ⟨w11.heap.size, 0, none⟩) [.string (bsB (Lib.itoa t ++ mkL m))]) := by unfold Hid; rw [← E12]; exact CellsAt.new1 _ _ _
    have B12 : Hid (Below W1.heap.size W1 w12) := B11.out.trans (HB12.out.mono B11.out.size)
    have HO12 := Lib.hid (ownsRow_below HO11.out HB12.out)
    have c2 := cellB HB12.out b2 (lt_of_cell b2)
    have c3 := cellB HB12.out b3 (lt_of_cell b3)
    have c4 := cellB HB12.out b4 (lt_of_cell b4)
    clear E12
    refine hK.out _ _ (⟨c2, c3, c4⟩) (fun hS3 => ?_)
    clear hK K hS2
    (try simp only [Act.put, List.setIfInBounds_toArray, List.set_cons_zero, List.set_cons_succ])
    refine wpAnyH_ready (rs := [8]) (by kernel_rfl) (by simp) ?_
    refine AllReadyH.cons (o := _) rfl (fun K hK => ?_) AllReadyH.nil
    refine step_appendN rfl (.tmp 24) (.tmp 31) 63 (by rfl) W1.heap.size 9 Tryz.underlying63 infoStr19 rfl (by decide) v9 hn (rowS (hwL k false)) (by rfl) HO12.out (some ⟨w11.heap.size, 0, none⟩) 1 1 [.string (bsB (Lib.itoa t ++ mkL m))] (by rfl) rfl HC12.out (one1 _ rfl) (by omega) (by omega) (by have := B12.out.size; omega) ?_
    intro v13 w13 hown hb
    have HO13 : Hid (w13.ownsRow W1.heap.size 9 1 v13 (wlL k false t m ds 0).length (rowS (wlL k false t m ds 0))) := by unfold Hid; rw [wlL_zero, rowS_app, List.length_append, HHN.out]; exact hown
    have B13 : Hid (Below W1.heap.size W1 w13) := B12.out.trans hb
    have g2 := (hb.cell (p := ⟨w.heap.size, 2, none⟩) hx1).trans c2
    have g3 := (hb.cell (p := ⟨w.heap.size, 3, none⟩) hx1).trans c3
    have g4 := (hb.cell (p := ⟨w.heap.size, 4, none⟩) hx1).trans c4
    clear hown hb
    refine hK.out _ _ (⟨g2, g3, g4⟩) (fun hS4 => ?_)
    clear hK K hS3
    (try simp only [Act.put, List.setIfInBounds_toArray])
    refine takeQ (i := 9) (d := some 5) (v := ?_) rfl rfl (by kernel_rfl) (by kernel_rfl) (by kernel_rfl) hPQ hS4 (by kernel_rfl) ?_ ?_
    rotate_left
    · (intro w hSw; (try dsimp only at hSw); obtain ⟨q2, q3, q4⟩ := hSw; go_simp; (try with_reducible rfl))
    (try simp only [Act.put])
    refine wpAnyH_done (by kernel_rfl) (hQn.out _ _ ?_) _
    clear hS4 hPQ hQn Qn
    clear a2 a3 a4 b2 b3 b4 c2 c3 c4 HOd HO11 HO12 HC12
    go_wp2_with fail
    go_loopw [5, 36] (fun s j wr => ∃ i : Nat, i ≤ dn ∧ j = .int .i64 i ∧ Hid (Below W1.heap.size W1 wr) ∧ Hid (wr.ownsRow W1.heap.size 9 1 s (wlL k false t m ds i).length (rowS (wlL k false t m ds i)))) (fun _ j _ => dn - (intOf j).toNat)
    case atStart => exact ⟨0, Nat.zero_le _, rfl, B13, HO13⟩
    case round =>
      clear g2 g3 g4 HO13
      obtain ⟨i, hi, rfl, HB, HOw⟩ := hrel
      have hlen := wlL_length k false t m ds i
      have BWr : Hid (Below w.heap.size w wr) := BW1.out.trans (HB.out.mono BW1.out.size)
      by_cases hlt : i < dn
      · obtain ⟨bd, od, rfl, hbd, hdc⟩ := HCD.out.dts (by have := HDN.out; show 0 < ds.length; omega)
        obtain ⟨h0, h1⟩ := hdc i (by have := HDN.out; show i < ds.length; omega)
        have hd1 := HDS.out (dtAt ds i) (by rw [dtAt_lt (by have := HDN.out; omega)]; exact List.getElem_mem _)
        have hnl := nmE_len hd1.1
        have g0 := cellB BWr.out h0 hbd
        have g1 := cellB BWr.out h1 hbd
        have hdm := Lib.hid hd1.2
        have hsucc : Hid (wlL k false t m ds (i + 1) = wlL k false t m ds i ++ [(dtAt ds i).n.data.toList ++ mkL (dtAt ds i).m]) := wlL_succ _ _ _ _ _ _ (by have := HDN.out; omega)
        obtain ⟨u, hu⟩ : ∃ u, (dtAt ds i).n = u := ⟨_, rfl⟩
        obtain ⟨q, hq⟩ : ∃ q, (dtAt ds i).m = q := ⟨_, rfl⟩
        rw [hu] at g0 hnl hsucc
        rw [hq] at g1 hdm hsucc
        rw [hu, hq] at hd1
        obtain ⟨ln, hln⟩ : ∃ n, (wlL k false t m ds i).length = n := ⟨_, rfl⟩
        rw [hln] at HOw hlen
        obtain ⟨wA, EA, BA, sA, XA⟩ := box_ex wr #[.string u, .int .i64 q] 76
        have x0 := cell_at XA.out (j := 0) (v := .string u) rfl
        have x1 := cell_at XA.out (j := 1) (v := .int .i64 q) rfl
        have HOA := Lib.hid (ownsRow_below HOw.out BA.out)
        have BAW : Hid (Below W1.heap.size W1 wA) := HB.out.trans (BA.out.mono HB.out.size)
        have HLN := Lib.hid hln
        clear hdc h0 h1 hd1 hu hq hln HOw
        go_wp2_with (rw [EA])
        refine marked_any u q _ _ hdm.out (by omega) ?_
        go_wp2_with (at_builtin; refine wp_appO rfl (.tmp 40) (.tmp 46) 63 rfl W1.heap.size 9 Tryz.underlying63 infoStr19 rfl (by decide) u5 ln (rowS (wlL k false t m ds i)) rfl (ownsRow_below HOA.out ((Below.refl _ _).alloc (Nat.le_refl _) _)) ⟨wA.heap.size, 0, none⟩ 1 1 [.string (bsB (u.data.toList ++ mkL q))] rfl rfl (CellsAt.new1 _ _ _) (one1 _ rfl) (by omega) (by omega) (by have := BAW.out.size; simp; omega) ?_; intro vC wC hown hb; have HOC : Hid (wC.ownsRow W1.heap.size 9 1 vC (ln + 1) (rowS (wlL k false t m ds i ++ [u.data.toList ++ mkL q]))) := (by unfold Hid; rw [rowS_app]; exact hown); have BC : Hid (Below W1.heap.size W1 wC) := (BAW.out.alloc BAW.out.size _).trans hb; clear hown hb)
        exact ⟨⟨i + 1, by omega, by go_num, BC, by rw [hsucc.out, List.length_append, HLN.out]; exact HOC.out⟩, by simp [intOf]; omega⟩
      · obtain rfl : i = dn := by omega
        go_wp2_with fail
        refine join_any W1.heap.size (wlL k false t m ds i) _ _ _ HOw.out (by unfold wlL hwL; simp) (by omega) (by omega) fun wE hb => ?_
        have BE : Hid (Below w.heap.size w wE) := BWr.out.trans (hb.mono BWr.out.size)
        clear hb
        go_wp2_with fail
        exact HR.out _ BE.out
set_option maxRecDepth 100000 in
set_option maxHeartbeats 4000000 in
theorem ftext_any (x : Fm) (da : Option Addr) (dc : Nat) (w : World) (R : Ending → World → Prop) (hox : FmOk w x da dc) (hE : Env w)
   (hR : ∀ w', Below w.heap.size w w' → R (.returned (.tuple #[.string (teS x), .int .i64 (plE x)])) w') :
    Calls Tryz.prog 23 #[fmV x da dc] w R := by
  by_cases h0 : plE x = 0
  · refine ftext_good x da dc w R hox h0 hE fun w' hb => ?_
    have h := hR w' hb
    unfold teS at h
    rw [h0, if_pos rfl] at h
    exact h
  · have HR := Lib.hid hR
    have HOX := Lib.hid hox
    have HT : Hid (teS x = ⟨#[]⟩) := if_neg h0
    obtain ⟨E, hEE⟩ : ∃ E, plE x = E := ⟨_, rfl⟩
    have HEE := Lib.hid hEE
    have K : (E != 0) = true := by rw [← hEE]; simpa using h0
    rw [hEE, HT.out] at HR
    have HXV : Hid (fmV x da dc = .agg #[.int .i64 x.k, .bool x.d, .int .i64 x.t, .int .i64 x.m, .slice da x.ds.length dc]) := rfl
    rw [HXV.out]
    obtain ⟨w1, E1, HB1, s1, X1⟩ := box_ex w #[.int .i64 x.k, .bool x.d, .int .i64 x.t, .int .i64 x.m, .slice da x.ds.length dc] 31
    clear hR hox hE hEE h0
    have o0 := cell_at X1.out (j := 0) (v := .int .i64 x.k) rfl
    have o1 := cell_at X1.out (j := 1) (v := .bool x.d) rfl
    have o2 := cell_at X1.out (j := 2) (v := .int .i64 x.t) rfl
    have o3 := cell_at X1.out (j := 3) (v := .int .i64 x.m) rfl
    have o4 := cell_at X1.out (j := 4) (v := .slice da x.ds.length dc) rfl
    go_enter Tryz.func23, Tryz.ntmps23
    go_wp2_with (rw [E1])
    rw [← HXV.out]
    refine plain_any x da dc _ _ (HOX.out.below HB1.out) fun W1 hb => ?_
    rw [HEE.out]
    have BW1 : Hid (Below w.heap.size w W1) := HB1.out.trans (hb.mono (Nat.le_of_lt s1))
    clear hb o0 o1 o2 o3 o4 E1
    go_wp2_with fail
    exact HR.out _ BW1.out
end Go.Proofs.YtciokmjhdbcmpaaGreatDoor
namespace Go.Proofs.YtciokmjhdbcmpaaGreatDoor
open Go.RowKit

theorem dropLast_set {α : Type} {l : List α} (h : l ≠ []) (x : α) : l.dropLast ++ [x] = l.set (l.length - 1) x := by
  obtain ⟨l', a, rfl⟩ : ∃ l' a, l = l' ++ [a] := ⟨l.dropLast, l.getLast h, (List.dropLast_concat_getLast h).symm⟩
  rw [List.dropLast_concat]
  simp
theorem spl_len (s : List UInt8) : (splL s).length ≤ s.length + 1 ∧ ∀ w ∈ splL s, w.length ≤ s.length := by
  induction s with
  | nil => simp [splL]
  | cons c r ih =>
    unfold splL
    split
    · refine ⟨by simp; omega, fun w hw => ?_⟩
      rw [List.mem_cons] at hw
      rcases hw with rfl | hw
      · simp
      · have := ih.2 w hw; simp; omega
    · cases hr : splL r with
      | nil => exact absurd hr (splL_ne r)
      | cons h t =>
        rw [hr] at ih
        refine ⟨by have := ih.1; simp at this ⊢; omega, fun w hw => ?_⟩
        rw [List.mem_cons] at hw
        rcases hw with rfl | hw
        · have := ih.2 h (by simp); simp; omega
        · have := ih.2 w (by simp [hw]); simp; omega
theorem rowS_set (l : List (List UInt8)) (j : Nat) (x : List UInt8) : (rowS l).set j (.string (bsB x)) = rowS (l.set j x) := by unfold rowS sC; rw [List.map_set, List.map_set]
theorem take_snocB (s : ByteArray) (i : Nat) (h : i < s.size) : s.data.toList.take (i + 1) = s.data.toList.take i ++ [s[i]] := by
  rw [List.take_succ_eq_append_getElem (by rw [toList_len]; exact h)]
  rfl
theorem one_ext (s : ByteArray) (i : Nat) (h : i < s.size) : s.extract i (i + 1) = bsB [s[i]] := bsB_eq (by
  have hl : i < s.data.toList.length := by rw [toList_len]; exact h
  have h2 : s.data.toList.drop i = s.data.toList[i] :: s.data.toList.drop (i + 1) := List.drop_eq_getElem_cons hl
  have e : i + 1 - i = 1 := by omega
  rw [data_bsB, Lib.extract_data, e, h2]
  rfl)
set_option maxRecDepth 100000 in
set_option maxHeartbeats 8000000 in
theorem rsplit_any (s : ByteArray) (w : World) (R : Ending → World → Prop) (hs : s.size ≤ 1000000)
   (hR : ∀ v w', Below w.heap.size w w' → w'.ownsRow w.heap.size 9 1 v (splL s.data.toList).length (rowS (splL s.data.toList)) → R (.returned v) w') :
    Calls Tryz.prog 101 #[.string s] w R := by
  have HR := Lib.hid hR
  obtain ⟨w1, E1, HB1, s1, X1⟩ := box_ex w #[.string ⟨#[]⟩] 9
  have HO1 : Hid (w1.ownsRow w.heap.size 9 1 (.slice (some ⟨w.heap.size, 0, none⟩) 1 1) (splL (s.data.toList.take 0)).length (rowS (splL (s.data.toList.take 0)))) := by unfold Hid; rw [← E1]; exact World.ownsRow_lit w #[.string ⟨#[]⟩] 1 (Nat.le_refl _) (by decide) rfl
  clear hR
  go_enter Tryz.func101, Tryz.ntmps101
  go_wp2_with (rw [E1])
  go_loopw [3, 4] (fun u j wr => ∃ i : Nat, i ≤ s.size ∧ j = .int .i64 i ∧ Hid (Below w.heap.size w wr) ∧ Hid (wr.ownsRow w.heap.size 9 1 u (splL (s.data.toList.take i)).length (rowS (splL (s.data.toList.take i))))) (fun _ j _ => s.size - (intOf j).toNat)
  case atStart => exact ⟨0, Nat.zero_le _, rfl, HB1, HO1⟩
  case round =>
    clear HO1
    obtain ⟨i, hi, rfl, HB, HOw⟩ := hrel
    by_cases hlt : i < s.size
    · have hsn : Hid (splL (s.data.toList.take (i + 1)) = if s[i] = 32 then splL (s.data.toList.take i) ++ [[]] else (splL (s.data.toList.take i)).dropLast ++ [(splL (s.data.toList.take i)).getLastD [] ++ [s[i]]]) := by
        unfold Hid
        rw [take_snocB s i hlt, splL_snoc]
      have hne := splL_ne (s.data.toList.take i)
      have hln := spl_len (s.data.toList.take i)
      have htl : (s.data.toList.take i).length ≤ 1000000 := by rw [List.length_take, toList_len]; omega
      have hx1 := one_ext s i hlt
      obtain ⟨c, hc⟩ : ∃ c, s[i] = c := ⟨_, rfl⟩
      rw [hc] at hsn hx1
      have hcc : ((s[i].toNat : Int)) = (c.toNat : Int) := by rw [hc]
      obtain ⟨L, hL⟩ : ∃ L, splL (s.data.toList.take i) = L := ⟨_, rfl⟩
      rw [hL] at hsn hne hln HOw
      have hLl : L.length ≤ 1000001 := by have := hln.1; omega
      by_cases h32 : c = 32
      · have K : ((c.toNat : Int) == 32) = true := by rw [h32]; rfl
        have hst : Hid (splL (s.data.toList.take (i + 1)) = L ++ [[]]) := by unfold Hid; rw [hsn.out, if_pos h32]
        obtain ⟨ln, hl⟩ : ∃ n, L.length = n := ⟨_, rfl⟩
        have HL := Lib.hid hl
        rw [hl] at HOw hLl
        clear hc hL hsn hne hln htl h32 hl hx1
        go_wp2_with (at_builtin; refine wp_appO rfl (.tmp 16) (.tmp 17) 63 rfl w.heap.size 9 Tryz.underlying63 infoStr19 rfl (by decide) u3 ln (rowS L) rfl (ownsRow_below HOw.out ((Below.refl _ _).alloc (Nat.le_refl _) _)) ⟨wr.heap.size, 0, none⟩ 1 1 [.string ⟨#[]⟩] rfl rfl (CellsAt.new1 _ _ _) (one1 _ rfl) (by omega) (by omega) (by have := HB.out.size; simp; omega) ?_; intro v2 w2 hown hb; have HO2 : Hid (w2.ownsRow w.heap.size 9 1 v2 (ln + 1) (rowS (L ++ [[]]))) := (by unfold Hid; rw [rowS_app]; exact hown); have B2 : Hid (Below w.heap.size w w2) := (HB.out.alloc HB.out.size _).trans hb; clear hown hb)
        exact ⟨⟨i + 1, by omega, by go_num, B2, by rw [hst.out, List.length_append, HL.out]; exact HO2.out⟩, by simp [intOf]; omega⟩
      · have K : ((c.toNat : Int) == 32) = false := by
          rw [beq_eq_false_iff_ne]
          intro e
          exact h32 (UInt8.toNat_inj.1 (by have : c.toNat = 32 := by omega
                                           exact this))
        obtain ⟨nl, hnl⟩ : ∃ nl, L.length - 1 = nl := ⟨_, rfl⟩
        have hpos : 0 < L.length := List.length_pos_iff.2 hne
        obtain ⟨la, hla⟩ : ∃ la, L.getLastD [] = la := ⟨_, rfl⟩
        have hget : L[nl]? = some la := by
          rw [← hla, ← hnl, List.getElem?_eq_getElem (by omega)]
          rw [List.getLastD_eq_getLast?, List.getLast?_eq_getElem?, List.getElem?_eq_getElem (by omega)]
          rfl
        have hlal : la.length ≤ 1000000 := by
          have := hln.2 la (List.mem_of_getElem? hget)
          omega
        have hst : Hid (splL (s.data.toList.take (i + 1)) = L.set nl (la ++ [c])) := by unfold Hid; rw [hsn.out, if_neg h32, hla, dropLast_set hne, hnl]
        have HGT := Lib.hid hget
        obtain ⟨ln, hl⟩ : ∃ n, L.length = n := ⟨_, rfl⟩
        have HL := Lib.hid hl
        rw [hl] at HOw hLl hpos hnl
        rcases HOw.out.2 with ⟨_, h⟩ | ⟨g, cap, cur, rfl, hg1, hg2, hg3, _⟩
        · omega
        obtain ⟨ao, c2, e, hcells, _⟩ := ownsRow_read HOw.out
        cases e
        have hlc : wr.cell? ⟨g, 0 + nl, none⟩ = some (.string (bsB la)) := hcells.get rfl (by unfold rowS sC; rw [List.getElem?_map, List.getElem?_map, HGT.out]; rfl)
        rw [Nat.zero_add] at hlc
        have hfz : wr.frozen? ⟨g, nl, none⟩ = false := frozen_at hg2 nl
        have hlcd : wr.drew.cell? ⟨g, nl, none⟩ = some (.string (bsB la)) := hlc
        have hfzd : wr.drew.frozen? ⟨g, nl, none⟩ = false := hfz
        have hw : IntKind.i64.wrap ((ln : Int) - 1) = (nl : Int) := by rw [IntKind.wrap_i64]; omega
        have hnl0 : (0 : Int) ≤ (nl : Int) := by omega
        have hnl1 : (nl : Int) < (ln : Int) := by omega
        have had := add_l (P := Tryz.prog) la [c] (by simp; omega)
        have hg2' : Hid (wr.drew.heap[g]? = some (.cells cur 9 (0, 0))) := hg2
        have hst2 := World.ownsRow.stored HOw.out nl (.string (bsB (la ++ [c])))
        have HST := Lib.hid (ownsRow_below hst2.1 (Below.refl _ _).drew)
        have BST : Hid (Below w.heap.size w (wr.setCell ⟨g, nl, none⟩ (.string (bsB (la ++ [c])))).drew) := (HB.out.setCell hg1 _).drew
        have g1 : IntKind.i64.wrap ((i : Int) + 1) = (i : Int) + 1 := by rw [IntKind.wrap_i64]; omega
        have g2 : (0 : Int) ≤ (i : Int) + 1 := by omega
        have g3 : (i : Int) + 1 ≤ (s.size : Int) := by omega
        have g4 : (i : Int) ≤ (i : Int) + 1 := by omega
        have g5 : ((i : Int) + 1).toNat = i + 1 := by omega
        clear hc hL hsn hne hln htl h32 hl hget hla hcells hg2 hst2 hlc hfz
        go_wp2_with fail
        refine regionQ (fun _ => True) (by kernel_rfl) (trivial) (fun Qn hPQ hQn hS0 => ?_)
        refine takeQ (i := 0) (d := some 19) (v := ?_) rfl rfl (by kernel_rfl) (by kernel_rfl) (by kernel_rfl) hPQ hS0 (by kernel_rfl) ?_ ?_
        rotate_left
        · (intro w hSw; (try dsimp only at hSw); go_simp; (try with_reducible rfl))
        (try simp only [Act.put, List.setIfInBounds_toArray, List.set_cons_zero, List.set_cons_succ])
        refine takeQ (i := 1) (d := some 20) (v := ?_) rfl rfl (by kernel_rfl) (by kernel_rfl) (by kernel_rfl) hPQ hS0 (by kernel_rfl) ?_ ?_
        rotate_left
        · (intro w hSw; (try dsimp only at hSw); go_simp; (try with_reducible rfl))
        (try simp only [Act.put, List.setIfInBounds_toArray, List.set_cons_zero, List.set_cons_succ])
        refine takeQ (i := 2) (d := some 21) (v := ?_) rfl rfl (by kernel_rfl) (by kernel_rfl) (by kernel_rfl) hPQ hS0 (by kernel_rfl) ?_ ?_
        rotate_left
        · (intro w hSw; (try dsimp only at hSw); go_simp; (try with_reducible rfl))
        (try simp only [Act.put, List.setIfInBounds_toArray, List.set_cons_zero, List.set_cons_succ])
        refine takeQ (i := 3) (d := some 22) (v := ?_) rfl rfl (by kernel_rfl) (by kernel_rfl) (by kernel_rfl) hPQ hS0 (by kernel_rfl) ?_ ?_
        rotate_left
        · (intro w hSw; (try dsimp only at hSw); go_simp; (try with_reducible rfl))
        (try simp only [Act.put, List.setIfInBounds_toArray, List.set_cons_zero, List.set_cons_succ])
        refine takeQ (i := 4) (d := some 23) (v := ?_) rfl rfl (by kernel_rfl) (by kernel_rfl) (by kernel_rfl) hPQ hS0 (by kernel_rfl) ?_ ?_
        rotate_left
        · (intro w hSw; (try dsimp only at hSw); go_simp; (try with_reducible rfl))
        (try simp only [Act.put, List.setIfInBounds_toArray, List.set_cons_zero, List.set_cons_succ])
        refine takeQ (i := 6) (d := some 25) (v := ?_) rfl rfl (by kernel_rfl) (by kernel_rfl) (by kernel_rfl) hPQ hS0 (by kernel_rfl) ?_ ?_
        rotate_left
        · (intro w hSw; (try dsimp only at hSw); go_simp; (try with_reducible rfl))
        (try simp only [Act.put, List.setIfInBounds_toArray, List.set_cons_zero, List.set_cons_succ])
        refine takeQ (i := 7) (d := some 26) (v := ?_) rfl rfl (by kernel_rfl) (by kernel_rfl) (by kernel_rfl) hPQ hS0 (by kernel_rfl) ?_ ?_
        rotate_left
        · (intro w hSw; (try dsimp only at hSw); go_simp; (try with_reducible rfl))
        (try simp only [Act.put, List.setIfInBounds_toArray, List.set_cons_zero, List.set_cons_succ])
        refine takeQ (i := 8) (d := some 27) (v := ?_) rfl rfl (by kernel_rfl) (by kernel_rfl) (by kernel_rfl) hPQ hS0 (by kernel_rfl) ?_ ?_
        rotate_left
        · (intro w hSw; (try dsimp only at hSw); go_simp; (try with_reducible rfl))
        (try simp only [Act.put, List.setIfInBounds_toArray, List.set_cons_zero, List.set_cons_succ])
        refine takeQ (i := 9) (d := some 28) (v := ?_) rfl rfl (by kernel_rfl) (by kernel_rfl) (by kernel_rfl) hPQ hS0 (by kernel_rfl) ?_ ?_
        rotate_left
        · (intro w hSw; (try dsimp only at hSw); go_simp; (try with_reducible rfl))
        (try simp only [Act.put, List.setIfInBounds_toArray, List.set_cons_zero, List.set_cons_succ])
        refine takeQ (i := 10) (d := some 29) (v := ?_) rfl rfl (by kernel_rfl) (by kernel_rfl) (by kernel_rfl) hPQ hS0 (by kernel_rfl) ?_ ?_
        rotate_left
        · (intro w hSw; (try dsimp only at hSw); go_simp; (try with_reducible rfl))
        (try simp only [Act.put, List.setIfInBounds_toArray, List.set_cons_zero, List.set_cons_succ])
        refine wpAnyH_ready (rs := [5]) (by kernel_rfl) (by simp) ?_
        refine AllReadyH.cons (o := _) rfl (fun K hK => ?_) AllReadyH.nil
        go_simp
        refine hK.out _ _ (trivial) (fun hS1 => ?_)
        clear hK K hS0
        (try simp only [Act.put, List.setIfInBounds_toArray, List.set_cons_zero, List.set_cons_succ])
        refine takeQ (i := 11) (d := some 30) (v := ?_) rfl rfl (by kernel_rfl) (by kernel_rfl) (by kernel_rfl) hPQ hS1 (by kernel_rfl) ?_ ?_
        rotate_left
        · (intro w hSw; (try dsimp only at hSw); go_simp; (try with_reducible rfl))
        (try simp only [Act.put, List.setIfInBounds_toArray, List.set_cons_zero, List.set_cons_succ])
        refine takeQ (i := 12) (d := some 31) (v := ?_) rfl rfl (by kernel_rfl) (by kernel_rfl) (by kernel_rfl) hPQ hS1 (by kernel_rfl) ?_ ?_
        rotate_left
        · (intro w hSw; (try dsimp only at hSw); go_simp; (try with_reducible rfl))
        (try simp only [Act.put, List.setIfInBounds_toArray, List.set_cons_zero, List.set_cons_succ])
        refine wpAnyH_ready (rs := [13]) (by kernel_rfl) (by simp) ?_
        refine AllReadyH.cons (o := _) rfl (fun K hK => ?_) AllReadyH.nil
        go_simp
        refine hK.out _ _ (trivial) (fun hS2 => ?_)
        clear hK K hS1
        (try simp only [Act.put, List.setIfInBounds_toArray, List.set_cons_zero, List.set_cons_succ])
        refine wpAnyH_done (by kernel_rfl) (hQn.out _ _ ?_) _
        clear hS2 hPQ hQn Qn
        go_wp2_with fail
        exact ⟨⟨i + 1, by omega, by go_num, BST, by rw [hst.out, List.length_set, HL.out, ← rowS_set]; exact HST.out⟩, by simp [intOf]; omega⟩
    · obtain rfl : i = s.size := by omega
      have ht : s.data.toList.take s.size = s.data.toList := List.take_of_length_le (by rw [toList_len]; exact Nat.le_refl _)
      have ho := HOw.out
      rw [ht] at ho
      have HO3 := Lib.hid ho
      clear ho ht HOw
      go_wp2_with fail
      exact HR.out _ _ HB.out HO3.out
end Go.Proofs.YtciokmjhdbcmpaaGreatDoor
