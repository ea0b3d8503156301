/- Maps keyed by strings: entries struck; their keys, sorted. -/
import Derived.Lib.SlMapFilter
import Derived.Sort.KeysCollected
import Derived.Test.YtfamennpajjajaaRe
namespace Go.Proofs.Ytfamennpajjajaa
open Go.RowKit Go.Maps

def pdOf {H : Type} (q : ByteArray → Bool) : Lit → DataW H → Bool
  | .string l, _ => q ⟨l.toArray⟩
  | _, _ => false
theorem pdOf_keyL {H : Type} (q : ByteArray → Bool) (s : ByteArray) (d : DataW H) : pdOf q (keyL s) d = q s := by
  unfold keyL pdOf; simp
/-- The view behind maps.DeleteFunc. -/
theorem del_view {D : DataW Value} {f : SMap} {q : ByteArray → Bool} {es : List (Lit × DataW Value)} (hD : D = .map es) (hap : es.Pairwise (fun p q => p.1 ≠ q.1))
    (h2 : ∀ s z, D.atKey (keyL s) z = match f s with | some v => .held v | none => z) : ∀ s z, (Lib.deleteFuncD (pdOf q) D).atKey (keyL s) z = match (if q s = true then none else f s) with | some v => .held v | none => z := by
  subst hD
  intro s z
  by_cases he : ∃ d, (keyL s, d) ∈ es
  · obtain ⟨d, hd⟩ := he
    have e1 := WideAt.atKey_mem z (k := keyL s) trivial hap hd
    by_cases hq : q s = true
    · rw [if_pos hq]
      refine WideAt.atKey_none z (fun p hp e => ?_)
      obtain ⟨h3, h4⟩ := List.mem_filter.1 hp
      rw [show pdOf q p.1 p.2 = true from by rw [e, pdOf_keyL]; exact hq] at h4
      simp at h4
    · rw [if_neg hq, ← h2 s z, e1]
      refine WideAt.atKey_mem z trivial (hap.filter _) (List.mem_filter.2 ⟨hd, ?_⟩)
      rw [pdOf_keyL]; simpa using hq
  · have hno : ∀ p ∈ es, p.1 ≠ keyL s := fun p hp e => he ⟨p.2, by rw [← e]; exact hp⟩
    have e1 := WideAt.atKey_none z hno
    have e2 : (Lib.deleteFuncD (pdOf q) (.map es)).atKey (keyL s) z = z := WideAt.atKey_none z (fun p hp => hno p (List.mem_filter.1 hp).1)
    rw [e2]
    by_cases hq : q s = true
    · rw [if_pos hq]
    · rw [if_neg hq, ← h2 s z, e1]
/-! ### sorted lists of names -/
abbrev bL (s : ByteArray) : List UInt8 := s.data.toList
theorem bL_inj {s t : ByteArray} (h : bL s = bL t) : s = t := ByteArray.ext (Array.toList_inj.1 h)
/-- These names, ascending, each once. -/
structure SrtIs (ks : List ByteArray) (Q : ByteArray → Bool) : Prop where
  up : ks.Pairwise (fun a b => bL a < bL b)
  mem : ∀ s, s ∈ ks ↔ Q s = true
theorem SrtIs.nodup {ks : List ByteArray} {Q : ByteArray → Bool} (h : SrtIs ks Q) : ks.Nodup := h.up.imp (fun {a b} hl e => by subst e; exact List.lt_irrefl _ hl)
theorem SrtIs.unique {ks js : List ByteArray} {Q : ByteArray → Bool} (h : SrtIs ks Q) (h' : SrtIs js Q) : ks = js := by
  refine List.Perm.eq_of_pairwise (le := fun a b => bL a < bL b) (fun a b _ _ h1 h2 => (List.lt_irrefl _ (List.lt_trans h1 h2)).elim) h.up h'.up ((List.perm_ext_iff_of_nodup h.nodup h'.nodup).2 fun s => ?_)
  rw [h.mem, h'.mem]
def sC (ks : List ByteArray) : List Value := ks.map Value.string
theorem sC_length (ks : List ByteArray) : (sC ks).length = ks.length := by simp [sC]
def ofL (l : List UInt8) : ByteArray := ⟨l.toArray⟩
theorem bL_ofL (l : List UInt8) : bL (ofL l) = l := by simp [ofL]
theorem ofL_bL (s : ByteArray) : ofL (bL s) = s := by simp [ofL]

theorem strKeys_mem {P : Program} {k : TypeId} {w : World} {b n : Nat} {D : DataW Value} {f : SMap} (hk : P.underlying k = some .string) (h1 : w.ownsMap P k heldR b n D)
    (h2 : ∀ s z, D.atKey (keyL s) z = match f s with | some v => .held v | none => z) : (strKeys D).Nodup ∧ ∀ l, l ∈ strKeys D ↔ (f (ofL l)).isSome = true := by
  obtain ⟨es, hD, hap, _⟩ := h1.entries (string_keyed hk)
  obtain ⟨es', hD', hks⟩ := h1.keysOf
  subst hD
  cases hD'
  have hstr : ∀ p ∈ es, ∃ x, p.1 = .string x := fun p hp => by
    obtain ⟨key, hkey⟩ := hks p hp
    obtain ⟨x, _, e, _⟩ := Maps.keyOf_str hk hkey
    exact ⟨x, e⟩
  constructor
  · show (es.map fun p => strOf p.1).Nodup
    refine List.pairwise_map.2 (hap.imp_of_mem fun {p q} hp' hq' hne e => hne ?_)
    obtain ⟨a, ha⟩ := hstr p hp'
    obtain ⟨b, hb⟩ := hstr q hq'
    rw [ha, hb] at e ⊢
    exact congrArg _ e
  · intro l
    show l ∈ (es.map fun p => strOf p.1) ↔ _
    rw [List.mem_map]
    have hkl : keyL (ofL l) = .string l := by unfold keyL; rw [show (ofL l).data.toList = l from bL_ofL l]
    constructor
    · rintro ⟨p, hp, e⟩
      obtain ⟨a, ha⟩ := hstr p hp
      rw [ha] at e
      obtain rfl : a = l := e
      have hm : (keyL (ofL a), p.2) ∈ es := by rw [hkl, ← ha]; exact hp
      cases hf : f (ofL a) with
      | some v => rfl
      | none =>
        have e1 := h2 (ofL a) .nil
        have e2 := h2 (ofL a) (.held undef)
        rw [WideAt.atKey_mem _ (by rw [hkl]; trivial) hap hm, hf] at e1 e2
        rw [e1] at e2; cases e2
    · intro hs
      apply Classical.byContradiction
      intro hno
      have hn : ∀ p ∈ es, p.1 ≠ keyL (ofL l) := fun p hp e => hno ⟨p, hp, by rw [e, hkl]; rfl⟩
      obtain ⟨v, hv⟩ := Option.isSome_iff_exists.1 hs
      have e1 := h2 (ofL l) .nil
      rw [WideAt.atKey_none _ hn, hv] at e1
      cases e1
theorem srt_of {ss : List (List UInt8)} {f : SMap} (hnd : ss.Nodup) (hm : ∀ l, l ∈ ss ↔ (f (ofL l)).isSome = true) : SrtIs ((ss.mergeSort fun x y => decide (x ≤ y)).map ofL) (fun s => (f s).isSome) := by
  have tr : ∀ a b c : List UInt8, decide (a ≤ b) = true → decide (b ≤ c) = true → decide (a ≤ c) = true := fun a b c h1 h2 => by simp only [decide_eq_true_eq] at *; exact List.le_trans h1 h2
  have to : ∀ a b : List UInt8, (decide (a ≤ b) || decide (b ≤ a)) = true := fun a b => by simp only [Bool.or_eq_true, decide_eq_true_eq]; exact List.le_total a b
  have hp := List.mergeSort_perm ss fun x y => decide (x ≤ y)
  have hnd' : (ss.mergeSort fun x y => decide (x ≤ y)).Nodup := hp.nodup_iff.2 hnd
  constructor
  · rw [List.pairwise_map]
    refine ((List.pairwise_mergeSort tr to ss).and hnd').imp (fun {a b} h => ?_)
    rw [bL_ofL, bL_ofL]
    obtain ⟨h1, h2⟩ := h
    rw [decide_eq_true_eq] at h1
    exact Classical.byContradiction fun h3 => h2 (List.le_antisymm h1 (List.not_lt.1 h3))
  · intro s
    rw [List.mem_map]
    constructor
    · rintro ⟨l, hl, rfl⟩
      exact (hm l).1 (hp.mem_iff.1 hl)
    · intro h
      exact ⟨bL s, hp.mem_iff.2 ((hm _).2 (by rw [ofL_bL]; exact h)), ofL_bL s⟩
end Go.Proofs.Ytfamennpajjajaa
