/- What Far of the reference computes: over names, and over places. No program in sight. Ways, possible, placed, distances of the reference are those of the program. No program in sight. The walks of Far, Way, Possible and Span of the reference. Drawn regions, operation by operation, with the post kept out of sight. -/
import Derived.Test.YtlgjhjgdmomfoaaMck
import Derived.Test.YtlgjhjgdmomfoaaMda
import Derived.Test.YtlgjhjgdmomfoaaMdh
import Derived.Test.YtlgjhjgdmomfoaaMdq
import Derived.Deep.RegionHeld3
import Derived.Test.YtlgjhjgdmomfoaaMcm
import Derived.Deep.AppendLies
import Derived.Deep.Upon
import Derived.Test.YtlgjhjgdmomfoaaMlib
namespace Go.Proofs.Ytlgjhjgdmomfoaa
open Go.RowKit Go.Maps

/-- The step of number k. -/
def stp (k : Nat) : Sp := ⟨((k / 2 : Nat) : Int), k % 2 == 1⟩
theorem stp_i (k : Nat) : (stp k).i.toNat = k / 2 := Int.toNat_natCast _
def faS (vs : List Dm) (ax : Int) (s : ByteArray) (P : List ByteArray) (f : ByteArray → Int × Bool) (k : Nat) (r : Int × Bool) : Int × Bool :=
  if ((dAt vs (k / 2)).x == ax) = true then
    if sameD (enF vs (stp k)) s = true then
      if hasL P (enT vs (stp k)) = true then r
      else if ((f (enT vs (stp k))).2 && (!r.2 || decide (enA vs (stp k) + (f (enT vs (stp k))).1 < r.1))) = true then (enA vs (stp k) + (f (enT vs (stp k))).1, true) else r
    else r
  else r
def faF (vs : List Dm) (ax : Int) (s : ByteArray) (P : List ByteArray) (f : ByteArray → Int × Bool) : Nat → Int × Bool
  | 0 => (0, false)
  | k + 1 => faS vs ax s P f k (faF vs ax s P f k)
/-- Far of the reference; m: how deep. -/
def faN (vs : List Dm) (ax : Int) (t : ByteArray) : Nat → ByteArray → List ByteArray → Int × Bool
  | 0, s, _ => (0, sameD s t)
  | m + 1, s, P => if sameD s t = true then (0, true) else faF vs ax s P (fun b => faN vs ax t m b (P ++ [b])) (2 * vs.length)
theorem stp_kn {vs : List Dm} {k : Nat} (h : k < 2 * vs.length) : knS vs.length (stp k) = true :=
  knS_iff.2 ⟨Int.natCast_nonneg _, by show ((k / 2 : Nat) : Int) < _; omega⟩
theorem faF_bd {vs : List Dm} {ax : Int} {s : ByteArray} {P : List ByteArray} {f : ByteArray → Int × Bool} {B : Int} (hva : ∀ j, j < vs.length → vaE (dAt vs j) = 0) (h0 : 0 ≤ B) (hf : ∀ b, -B ≤ (f b).1 ∧ (f b).1 ≤ B) :
    ∀ k, k ≤ 2 * vs.length → -(B + 100000) ≤ (faF vs ax s P f k).1 ∧ (faF vs ax s P f k).1 ≤ B + 100000
  | 0, _ => ⟨by show -(B + 100000) ≤ 0; omega, by show (0 : Int) ≤ _; omega⟩
  | k + 1, hk => by
    have ih := faF_bd (ax := ax) (s := s) (P := P) hva h0 hf k (by omega)
    have hb := enA_bounds hva (stp_kn (show k < 2 * vs.length by omega))
    have hq := hf (enT vs (stp k))
    rw [faF, faS]
    split
    · split
      · split
        · exact ih
        · split
          · exact ⟨by show -(B + 100000) ≤ enA vs (stp k) + _; omega, by show enA vs (stp k) + _ ≤ _; omega⟩
          · exact ih
      · exact ih
    · exact ih
theorem faN_bd {vs : List Dm} {ax : Int} {t : ByteArray} (hva : ∀ j, j < vs.length → vaE (dAt vs j) = 0) : ∀ (m : Nat) (s : ByteArray) (P : List ByteArray), -(100000 * (m : Int)) ≤ (faN vs ax t m s P).1 ∧ (faN vs ax t m s P).1 ≤ 100000 * (m : Int)
  | 0, s, P => ⟨by show _ ≤ (0 : Int); omega, by show (0 : Int) ≤ _; omega⟩
  | m + 1, s, P => by
    rw [faN]
    split
    · exact ⟨by show _ ≤ (0 : Int); omega, by show (0 : Int) ≤ _; omega⟩
    · have h := faF_bd (ax := ax) (s := s) (P := P) (f := fun b => faN vs ax t m b (P ++ [b])) (B := 100000 * (m : Int)) hva (by omega) (fun b => faN_bd hva m b _) (2 * vs.length) (Nat.le_refl _)
      omega
theorem faF_none {vs : List Dm} {ax : Int} {s : ByteArray} {P : List ByteArray} {f : ByteArray → Int × Bool} (h : ∀ k, k < 2 * vs.length → (dAt vs (k / 2)).x = ax → hasL P (enT vs (stp k)) = true) : ∀ k, k ≤ 2 * vs.length → faF vs ax s P f k = (0, false)
  | 0, _ => rfl
  | k + 1, hk => by
    rw [faF, faF_none h k (by omega), faS]
    split
    · rename_i hx
      rw [if_pos (h k (by omega) (by simpa using hx))]
      split <;> rfl
    · rfl
theorem enT_in {vs : List Dm} {ax : Int} {k : Nat} (hk : k < 2 * vs.length) (hx : (dAt vs (k / 2)).x = ax) : enT vs (stp k) ∈ nmG vs ax ∧ enF vs (stp k) ∈ nmG vs ax := by
  obtain ⟨_, h2, h3⟩ := onA_names (onD_iff.1 (show onD vs ax (k / 2) from ⟨by omega, hx⟩))
  unfold enT enF
  rw [stp_i]
  split
  · exact ⟨h2, h3⟩
  · exact ⟨h3, h2⟩
/-- How many names are not passed yet. -/
def rmG (vs : List Dm) (ax : Int) (P : List ByteArray) : Nat := ((nmG vs ax).filter fun x => !(hasL P x)).length
theorem rmG_le (vs : List Dm) (ax : Int) (P : List ByteArray) : rmG vs ax P ≤ (nmG vs ax).length := List.length_filter_le _ _
theorem filter_less {α : Type} (p q : α → Bool) (hpq : ∀ x, q x = true → p x = true) {b : α} (hp : p b = true) (hq : q b = false) : ∀ (L : List α), (L.filter q).length ≤ (L.filter p).length ∧ (b ∈ L → (L.filter q).length < (L.filter p).length)
  | [] => ⟨Nat.le_refl _, fun h => absurd h (by simp)⟩
  | y :: L => by
    obtain ⟨h1, h2⟩ := filter_less p q hpq hp hq L
    have hy : (q y = true → p y = true) := hpq y
    refine ⟨?_, fun hm => ?_⟩
    · rw [List.filter_cons, List.filter_cons]
      cases e1 : q y <;> cases e2 : p y <;> simp_all <;> omega
    · rcases List.mem_cons.1 hm with rfl | hm
      · rw [List.filter_cons, List.filter_cons, hp, hq]; simp; omega
      · have := h2 hm
        rw [List.filter_cons, List.filter_cons]
        cases e1 : q y <;> cases e2 : p y <;> simp_all <;> omega
theorem rmG_step {vs : List Dm} {ax : Int} {P : List ByteArray} {b : ByteArray} (hb : b ∈ nmG vs ax) (hP : hasL P b = false) : rmG vs ax (P ++ [b]) < rmG vs ax P :=
  (filter_less (fun x => !(hasL P x)) (fun x => !(hasL (P ++ [b]) x)) (fun x h => by
    have h' : hasL (P ++ [b]) x = false := by simpa using h
    have : hasL P x = false := by
      rw [← Bool.not_eq_true, hasL_iff] at h' ⊢
      exact fun hx => h' (List.mem_append.2 (.inl hx))
    simp [this]) (b := b) (by simp [hP]) (by
      have : hasL (P ++ [b]) b = true := hasL_iff.2 (by simp)
      simp [this]) (nmG vs ax)).2 hb
theorem rmG_zero {vs : List Dm} {ax : Int} {P : List ByteArray} (h : rmG vs ax P = 0) {b : ByteArray} (hb : b ∈ nmG vs ax) : hasL P b = true := by
  have h2 := List.filter_eq_nil_iff.1 (List.length_eq_zero_iff.1 h) b hb
  simpa using h2

/-! ### over places -/
def opR (o : Option Int) : Int × Bool := (o.getD 0, o.isSome)
theorem range_flat (u v : Nat → Ar) : ∀ (L : List Nat), (List.range (2 * L.length)).map (fun j => if j % 2 = 0 then u (nAt L (j / 2)) else v (nAt L (j / 2))) = L.flatMap fun i => [u i, v i]
  | [] => rfl
  | i :: L => by
    rw [List.flatMap_cons, ← range_flat u v L, List.length_cons, show 2 * (L.length + 1) = 2 + 2 * L.length by omega, List.range_add, List.map_append, List.map_map]
    congr 1
    refine List.map_congr_left fun j _ => ?_
    have h1 : (2 + j) % 2 = j % 2 := by omega
    have h2 : (2 + j) / 2 = j / 2 + 1 := by omega
    simp only [Function.comp_apply, h1, h2]
    rfl
def uAr (vs : List Dm) (ax : Int) (i : Nat) : Ar := ⟨i, false, pF vs ax i, pT vs ax i, (dAt vs i).h⟩
def vAr (vs : List Dm) (ax : Int) (i : Nat) : Ar := ⟨i, true, pT vs ax i, pF vs ax i, -(dAt vs i).l⟩
def arP (vs : List Dm) (ax : Int) (k : Nat) : List Ar := (onA vs ax k).flatMap fun i => [uAr vs ax i, vAr vs ax i]
theorem arX_flat (vs : List Dm) (ax : Int) : arX vs ax = arP vs ax vs.length := range_flat (uAr vs ax) (vAr vs ax) (onA vs ax vs.length)
theorem faS_is {vs : List Dm} {ax : Int} {s : ByteArray} {P : List ByteArray} {f : ByteArray → Int × Bool} {g : Ar → Option Int} (hs : s ∈ nmG vs ax) (hP : ∀ p ∈ P, p ∈ nmG vs ax)
    {x : Ar} {k : Nat} (hk : k < 2 * vs.length) (hx : (dAt vs (k / 2)).x = ax) (ha : x.a = pos (nmG vs ax) (enF vs (stp k))) (hb : x.b = pos (nmG vs ax) (enT vs (stp k))) (hw : x.w = enA vs (stp k))
    (hf : f (enT vs (stp k)) = opR (g x)) (o : Option Int) :
    faS vs ax s P f k (opR o) = opR (frS (fun x => if x.a = pos (nmG vs ax) s ∧ x.b ∉ P.map (pos (nmG vs ax)) then g x else none) o x) := by
  obtain ⟨hT, hF⟩ := enT_in hk hx
  have e1 : sameD (enF vs (stp k)) s = true ↔ x.a = pos (nmG vs ax) s := by
    rw [ha]
    refine ⟨fun h => by rw [sameB_iff.1 h], fun h => sameB_iff.2 (pos_inj hF hs h)⟩
  have e2 : hasL P (enT vs (stp k)) = true ↔ x.b ∈ P.map (pos (nmG vs ax)) := by
    rw [hb, hasL_iff, List.mem_map]
    exact ⟨fun h => ⟨_, h, rfl⟩, fun ⟨p, h1, h2⟩ => by rw [← pos_inj (hP p h1) hT h2]; exact h1⟩
  unfold faS frS
  dsimp only
  rw [if_pos (by rw [hx]; simp)]
  by_cases h1 : x.a = pos (nmG vs ax) s
  · rw [if_pos (e1.2 h1)]
    by_cases h2 : x.b ∈ P.map (pos (nmG vs ax))
    · have hc : (if x.a = pos (nmG vs ax) s ∧ x.b ∉ P.map (pos (nmG vs ax)) then g x else none) = none := if_neg fun h => h.2 h2
      rw [if_pos (e2.2 h2), hc]
    · have hc : (if x.a = pos (nmG vs ax) s ∧ x.b ∉ P.map (pos (nmG vs ax)) then g x else none) = g x := if_pos ⟨h1, h2⟩
      rw [if_neg (fun h => h2 (e2.1 h)), hc, hf, ← hw]
      cases hg : g x with
      | none => simp [opR]
      | some r =>
        cases o with
        | none => simp [opR, mnO]
        | some d =>
          by_cases h3 : x.w + r < d
          · simp [opR, mnO, h3]
          · simp [opR, mnO, h3]
  · have hc : (if x.a = pos (nmG vs ax) s ∧ x.b ∉ P.map (pos (nmG vs ax)) then g x else none) = none := if_neg fun h => h1 h.1
    rw [if_neg (fun h => h1 (e1.1 h)), hc]
theorem faF_fold {vs : List Dm} {ax : Int} {s : ByteArray} {P : List ByteArray} {f : ByteArray → Int × Bool} {g : Ar → Option Int} (hs : s ∈ nmG vs ax) (hP : ∀ p ∈ P, p ∈ nmG vs ax)
    (hf : ∀ x ∈ arX vs ax, f (kAt (nmG vs ax) x.b) = opR (g x)) :
    ∀ k, k ≤ vs.length → faF vs ax s P f (2 * k) = opR ((arP vs ax k).foldl (frS fun x => if x.a = pos (nmG vs ax) s ∧ x.b ∉ P.map (pos (nmG vs ax)) then g x else none) none)
  | 0, _ => rfl
  | k + 1, hk => by
    have ih := faF_fold (g := g) hs hP hf k (by omega)
    rw [show 2 * (k + 1) = 2 * k + 1 + 1 by omega, faF, faF, ih]
    unfold arP
    rw [onA]
    have k0 : 2 * k / 2 = k := by omega
    have k1 : (2 * k + 1) / 2 = k := by omega
    by_cases hx : (dAt vs k).x = ax
    · rw [if_pos (by simpa using hx), List.flatMap_append, List.foldl_append]
      have hon : onD vs ax k := ⟨by omega, hx⟩
      obtain ⟨_, h2, h3⟩ := onA_names (onD_iff.1 hon)
      have s0 : stp (2 * k) = ⟨(k : Int), false⟩ := by
        unfold stp; rw [k0, show 2 * k % 2 = 0 by omega]; rfl
      have s1 : stp (2 * k + 1) = ⟨(k : Int), true⟩ := by
        unfold stp; rw [k1, show (2 * k + 1) % 2 = 1 by omega]; rfl
      rw [faS_is (x := uAr vs ax k) (g := g) hs hP (by omega) (by rw [k0]; exact hx) (by rw [s0]; rfl) (by rw [s0]; rfl) (by rw [s0]; rfl)
        (by
          have h := hf (uAr vs ax k) (arX_mem.2 ⟨k, hon, .inl rfl⟩)
          rw [← h, s0]
          exact congrArg f (kAt_pos h3).symm)]
      rw [faS_is (x := vAr vs ax k) (g := g) hs hP (by omega) (by rw [k1]; exact hx) (by rw [s1]; rfl) (by rw [s1]; rfl) (by rw [s1]; rfl)
        (by
          have h := hf (vAr vs ax k) (arX_mem.2 ⟨k, hon, .inr rfl⟩)
          rw [← h, s1]
          exact congrArg f (kAt_pos h2).symm)]
      rfl
    · have hx' : ((dAt vs k).x == ax) = false := by rw [beq_eq_false_iff_ne]; exact hx
      rw [hx', if_neg (by simp)]
      unfold faS
      rw [k0, k1, hx', if_neg (by simp), if_neg (by simp)]
theorem faN_is {vs : List Dm} {ax : Int} {t : ByteArray} (ht : t ∈ nmG vs ax) : ∀ (m : Nat) (s : ByteArray) (P : List ByteArray), s ∈ nmG vs ax → (∀ p ∈ P, p ∈ nmG vs ax) →
    faN vs ax t m s P = opR (frF (arX vs ax) m (pos (nmG vs ax) s) (pos (nmG vs ax) t) (P.map (pos (nmG vs ax))))
  | 0, s, P, hs, hP => by
    rw [faN, frF]
    by_cases e : s = t
    · subst e
      have : sameD s s = true := sameB_iff.2 rfl
      rw [if_pos rfl, this]; rfl
    · rw [if_neg (fun h => e (pos_inj hs ht h))]
      have : sameD s t = false := sameB_no.2 e
      rw [this]; rfl
  | m + 1, s, P, hs, hP => by
    rw [faN, frF]
    by_cases e : s = t
    · subst e
      have : sameD s s = true := sameB_iff.2 rfl
      rw [if_pos this, if_pos rfl]; rfl
    · have hne : ¬ (sameD s t = true) := fun h => e (sameB_iff.1 h)
      rw [if_neg hne, if_neg (fun h => e (pos_inj hs ht h))]
      rw [faF_fold (g := fun x => frF (arX vs ax) m x.b (pos (nmG vs ax) t) (P.map (pos (nmG vs ax)) ++ [x.b])) hs hP (fun x hx => by
        have hb := (arX_within vs ax x hx).2
        have hm := kAt_mem hb
        have h := faN_is ht m (kAt (nmG vs ax) x.b) (P ++ [kAt (nmG vs ax) x.b]) hm (fun p hp => by
          rcases List.mem_append.1 hp with hp | hp
          · exact hP p hp
          · obtain rfl : p = _ := by simpa using hp
            exact hm)
        rw [List.map_append, List.map_cons, List.map_nil, pos_kAt (nmG_nodup vs ax) hb] at h
        exact h) vs.length (Nat.le_refl _), arX_flat]
/-- Way of the reference. -/
def waV (vs : List Dm) (ax : Int) (s t : ByteArray) : Int := (faN vs ax t (nmG vs ax).length s [s]).1
theorem waV_is {vs : List Dm} {ax : Int} {s t : ByteArray} (hs : s ∈ nmG vs ax) (ht : t ∈ nmG vs ax) : waV vs ax s t = wayN (arX vs ax) (nmG vs ax).length (pos (nmG vs ax) s) (pos (nmG vs ax) t) := by
  unfold waV
  rw [faN_is ht _ s [s] hs (fun p hp => by
    obtain rfl : p = s := by simpa using hp
    exact hs)]
  rfl
theorem waV_bd {vs : List Dm} {ax : Int} {s t : ByteArray} (hl : vs.length ≤ 256) (hva : ∀ j, j < vs.length → vaE (dAt vs j) = 0) : -51200000 ≤ waV vs ax s t ∧ waV vs ax s t ≤ 51200000 := by
  have h := faN_bd (ax := ax) (t := t) hva (nmG vs ax).length s [s]
  have h2 := nmG_len (ax := ax) hl
  unfold waV
  omega
end Go.Proofs.Ytlgjhjgdmomfoaa
namespace Go.Proofs.Ytlgjhjgdmomfoaa
open Go.RowKit Go.Maps

theorem CnP.walk {vs : List Dm} {ax : Int} {u v : Nat} (h : CnP vs ax u v) : ∃ k c, Wk (arX vs ax) u v k c := by
  induction h with
  | refl => exact ⟨0, 0, Wk.nil _⟩
  | @fwd i _ hi ih =>
    obtain ⟨k, c, h1⟩ := ih
    exact ⟨_, _, h1.append (Wk.one (x := uAr vs ax i) (arX_mem.2 ⟨i, hi, .inl rfl⟩))⟩
  | @bwd i _ hi ih =>
    obtain ⟨k, c, h1⟩ := ih
    exact ⟨_, _, h1.append (Wk.one (x := vAr vs ax i) (arX_mem.2 ⟨i, hi, .inr rfl⟩))⟩
theorem frR_way {vs : List Dm} {ax : Int} {s t : ByteArray} (hE : cfE vs ax = true) (hs : s ∈ nmG vs ax) (ht : t ∈ nmG vs ax) (h : CnN vs ax s t) : (frR vs ax (pos (nmG vs ax) s)).1.f (pos (nmG vs ax) t) = waV vs ax s t := by
  obtain ⟨k, c, h1⟩ := h.places.walk
  rw [waV_is hs ht]
  exact rx_far ((cfE_iff vs ax).1 hE) (arX_within vs ax) (pos_lt hs) h1
/-- The distance by the ways of the reference. -/
theorem spH_way {vs : List Dm} {ax : Int} {s t : ByteArray} (hE : cfE vs ax = true) (h : jnX vs ax s t = true) : spH vs ax s t = waV vs ax s t := by
  obtain ⟨hs, ht, hc⟩ := jnX_iff.1 h
  exact frR_way hE hs ht hc
theorem spL_way {vs : List Dm} {ax : Int} {s t : ByteArray} (hE : cfE vs ax = true) (h : jnX vs ax s t = true) : spL vs ax s t = -waV vs ax t s := by
  obtain ⟨hs, ht, hc⟩ := jnX_iff.1 h
  unfold spL
  rw [frR_way hE ht hs hc.symm]
/-- A dimension does not contradict the ways. -/
def poQ (vs : List Dm) (ax : Int) (k : Nat) : Bool := !((dAt vs k).x == ax) || (decide (0 ≤ (dAt vs k).h + waV vs ax (dAt vs k).t (dAt vs k).f) && decide (0 ≤ -(dAt vs k).l + waV vs ax (dAt vs k).f (dAt vs k).t))
theorem poQ_iff {vs : List Dm} {ax : Int} (hva : ∀ j, j < vs.length → vaE (dAt vs j) = 0) : (∀ k, k < vs.length → poQ vs ax k = true) ↔ cfE vs ax = true := by
  rw [cfE_iff, ← possible_iff (arX_within vs ax) (arX_both vs ax) (arX_loose hva ax)]
  constructor
  · intro h x hx
    obtain ⟨i, hi, e⟩ := arX_mem.1 hx
    obtain ⟨_, h2, h3⟩ := onA_names (onD_iff.1 hi)
    have hq := h i hi.1
    unfold poQ at hq
    rw [show ((dAt vs i).x == ax) = true by simpa using hi.2, Bool.not_true, Bool.false_or, Bool.and_eq_true, decide_eq_true_iff, decide_eq_true_iff] at hq
    rw [waV_is h3 h2, waV_is h2 h3] at hq
    rcases e with rfl | rfl
    · exact hq.1
    · exact hq.2
  · intro h k hk
    unfold poQ
    by_cases hx : (dAt vs k).x = ax
    · have hon : onD vs ax k := ⟨hk, hx⟩
      obtain ⟨_, h2, h3⟩ := onA_names (onD_iff.1 hon)
      rw [show ((dAt vs k).x == ax) = true by simpa using hx, Bool.not_true, Bool.false_or, Bool.and_eq_true, decide_eq_true_iff, decide_eq_true_iff]
      rw [waV_is h3 h2, waV_is h2 h3]
      exact ⟨h _ (arX_mem.2 ⟨k, hon, .inl rfl⟩), h _ (arX_mem.2 ⟨k, hon, .inr rfl⟩)⟩
    · rw [show ((dAt vs k).x == ax) = false by rw [beq_eq_false_iff_ne]; exact hx]; rfl
theorem cfE_all {vs : List Dm} {ax : Int} (hva : ∀ j, j < vs.length → vaE (dAt vs j) = 0) (h : ∀ k, k < vs.length → poQ vs ax k = true) : cfE vs ax = true := (poQ_iff hva).1 h
theorem cfE_not {vs : List Dm} {ax : Int} (hva : ∀ j, j < vs.length → vaE (dAt vs j) = 0) {k : Nat} (hk : k < vs.length) (h : poQ vs ax k = false) : cfE vs ax = false := by
  rw [← Bool.not_eq_true, ← poQ_iff hva]
  intro h2; rw [h2 k hk] at h; cases h
/-- The positions of the reference. -/
def plP (vs : List Dm) (ax : Int) (v : Nat) : Ps := ⟨kAt (nmG vs ax) v, waV vs ax (kAt (rcA vs ax (kAt (nmG vs ax) v)) 0) (kAt (nmG vs ax) v)⟩
def plX (vs : List Dm) (ax : Int) : Nat → List Ps
  | 0 => []
  | k + 1 => plX vs ax k ++ [plP vs ax k]
theorem plX_len (vs : List Dm) (ax : Int) : ∀ k, (plX vs ax k).length = k
  | 0 => rfl
  | k + 1 => by rw [plX, List.length_append, plX_len vs ax k]; rfl
theorem rcA_first {vs : List Dm} {ax : Int} {v : Nat} (hv : v < (nmG vs ax).length) : kAt (rcA vs ax (kAt (nmG vs ax) v)) 0 = kAt (nmG vs ax) (nAt (grG vs ax) v) := by
  rw [rcA_group hv, gmL_first (grG_lt hv) (grG_idem hv)]
theorem plP_is {vs : List Dm} {ax : Int} {v : Nat} (hE : cfE vs ax = true) (hv : v < (nmG vs ax).length) : plP vs ax v = poP vs ax v := by
  unfold plP poP
  rw [rcA_first hv]
  have h1 := grG_lt hv
  have h := frR_way hE (kAt_mem h1) (kAt_mem hv) ((CnP.names ((grG_eq h1 hv).1 (grG_idem hv))))
  rw [pos_kAt (nmG_nodup vs ax) h1, pos_kAt (nmG_nodup vs ax) hv] at h
  rw [h]
theorem plX_is {vs : List Dm} {ax : Int} (hE : cfE vs ax = true) : ∀ k, k ≤ (nmG vs ax).length → plX vs ax k = (List.range k).map (poP vs ax)
  | 0, _ => rfl
  | k + 1, h => by rw [plX, plX_is hE k (by omega), plP_is hE (by omega), List.range_succ, List.map_append]; rfl
theorem plX_all {vs : List Dm} {ax : Int} (hE : cfE vs ax = true) : plX vs ax (nmG vs ax).length = soX vs ax := plX_is hE _ (Nat.le_refl _)
end Go.Proofs.Ytlgjhjgdmomfoaa
namespace Go.Proofs.Ytlgjhjgdmomfoaa
open Go.RowKit Go.Maps

theorem sC_oneC (ks : List ByteArray) : ∀ u ∈ sC ks, u.oneCell' = true := by
  intro u hu
  unfold sC at hu
  obtain ⟨s, _, rfl⟩ := List.mem_map.1 hu
  rfl
/-- append, as wp_appendT; what lay below stays. -/
theorem wp_appendF {P : Program} {w : World} {ops : Array Oper} {rest : List Oper} {o : Oper} {a : Act} {Q : Exit → Act → World → Prop} (hgd : o.guard = none) (s x : Operand) (t : TypeId)
    (ho : o.op = .call { callee := .builtin .append, args := #[s, x], argTypes := #[t, t] })
    (base : Nat) (e : TypeId) {z : Value} {size bytes : Nat} (ht : P.underlying t = some (.slice e)) (hi : (P.info? e).map (fun i => (i.zero, i.size, i.bytes)) = some (some z, size, bytes))
    (hzs : z.cells.size = size) (hsz : 0 < size)
    (v : Value) (n : Nat) (xs : List Value) (hs : a.eval s = v) (hown : w.ownsRow base e size v n xs)
    (ad : Addr) (m c : Nat) (news : List Value) (hm : news.length = m * size) (hx : a.eval x = .slice (some ad) m c) (hc : CellsAt w (some ad) news) (h1 : ∀ u ∈ news, u.oneCell' = true)
    (hn : n + m ≤ 9223372036854775807) (hbytes : (n + m) * bytes ≤ 140737488355328) (hbase : base ≤ w.heap.size)
    (h : ∀ v' w', w'.ownsRow base e size v' (n + m) (xs ++ news) → Below base w w' → wpList P ops Q rest (a.put o.dst v') w') : wpList P ops Q (o :: rest) a w :=
  wp_appendT hgd s x t ho base e ht hi hzs hsz v n xs hs hown ad m c news hm hx hc h1 hn hbytes hbase fun v' w' h2 h3 _ =>
    h v' w' h2 ((Below.refl base w).grown h3 hbase (fun j e => (hown.lt j e).1))
set_option maxRecDepth 100000 in
set_option maxHeartbeats 16000000 in
theorem far_step (ao : Option Addr) (vs : List Dm) (c : Nat) (ax : Int) (s t : ByteArray) (P : List ByteArray) (ap : Addr) (cp : Nat) (f : ByteArray → Int × Bool) (B : Int) (w : World) (R : Ending → World → Prop) (hl : vs.length ≤ 256) (hP : P.length ≤ 1000) (hc : CellsAt w ao (dC vs)) (hva : ∀ j, j < vs.length → vaE (dAt vs j) = 0)
   (hp : CellsAt w (some ap) (sC P)) (hB : 0 ≤ B ∧ B ≤ 100000000) (hf : ∀ b, -B ≤ (f b).1 ∧ (f b).1 ≤ B)
   (hrec : ∀ (b : ByteArray) (ap' : Addr) (cp' : Nat) (w' : World) (R' : Ending → World → Prop), b ∈ nmG vs ax → hasL P b = false → CellsAt w' ao (dC vs) → CellsAt w' (some ap') (sC (P ++ [b])) → (∀ w'', Below w'.heap.size w' w'' → R' (.returned (.tuple #[.int .i64 (f b).1, .bool (f b).2])) w'') →
     Calls Try.prog 76 #[.slice ao vs.length c, .int .i64 ax, .string b, .string t, .slice (some ap') (P.length + 1) cp'] w' R')
   (X : Int × Bool) (hX : X = if sameD s t = true then (0, true) else faF vs ax s P f (2 * vs.length))
   (hR : ∀ w', Below w.heap.size w w' → R (.returned (.tuple #[.int .i64 X.1, .bool X.2])) w') :
    Calls Try.prog 76 #[.slice ao vs.length c, .int .i64 ax, .string s, .string t, .slice (some ap) P.length cp] w R := by
  have HR := Lib.hid hR
  have HC := Lib.hid hc
  have HP := Lib.hid hp
  have HVA := Lib.hid hva
  have HF := Lib.hid hf
  have HREC := Lib.hid hrec
  have HX := Lib.hid hX
  have HB' := Lib.hid hB
  clear hR hc hp hva hf hrec hX hB
  obtain ⟨b1, hb1⟩ : ∃ b1, sameD s t = b1 := ⟨_, rfl⟩
  rw [hb1] at HX
  have hst : Hid (sameD s t = b1) := hb1
  unfold sameD at hb1
  cases b1 with
  | true =>
    have hX2 := HX.out
    rw [if_pos rfl] at hX2
    subst hX2
    go_enter Try.func76, Try.ntmps76
    go_wp2_with fail
    exact HR.out w (Below.refl _ _)
  | false =>
    have hX2 := HX.out
    rw [if_neg (by simp)] at hX2
    have HX2 := Lib.hid hX2
    have hm2 : IntKind.i64.wrap (2 * (vs.length : Int)) = 2 * (vs.length : Int) := by rw [IntKind.wrap_i64]; omega
    clear hX2 HX
    go_enter Try.func76, Try.ntmps76
    go_wp2_with fail
    go_loopw [14, 12, 13] (fun j v x wr => ∃ (k : Nat), k ≤ 2 * vs.length ∧ j = .int .i64 k ∧ v = .int .i64 (faF vs ax s P f k).1 ∧ x = .bool (faF vs ax s P f k).2 ∧ Hid (Below w.heap.size w wr)) (fun j _ _ _ => 2 * vs.length - (intOf j).toNat)
    case atStart => exact ⟨0, Nat.zero_le _, rfl, rfl, rfl, Below.refl _ _⟩
    case round =>
      obtain ⟨k, hk, rfl, rfl, rfl, HB⟩ := hrel
      have sB := HB.out.size
      by_cases hlt : k < 2 * vs.length
      · have hki : k / 2 < vs.length := by omega
        obtain ⟨b, o, rfl, hbb, hcell⟩ := HC.out.dms (by omega)
        obtain ⟨_, _, c2, _, _⟩ := hcell (k / 2) hki
        have d2 := cellB HB.out c2 hbb
        have hE := enA_bounds HVA.out (stp_kn hlt)
        have hin := Lib.hid (fun hx => (enT_in (ax := ax) hlt hx).1)
        have hS : Hid (faF vs ax s P f (k + 1) = faS vs ax s P f k (faF vs ax s P f k)) := rfl
        have hbd := faF_bd (ax := ax) (s := s) (P := P) HVA.out HB'.out.1 HF.out k (by omega)
        have hsi := stp_i k
        have hagg : Hid (Value.agg #[.int .i64 ((k : Int) / 2), .bool ((k : Int) % 2 == 1)] = Value.agg #[.int .i64 (stp k).i, .bool (stp k).b]) := by
          have e1 : (k : Int) / 2 = ((k / 2 : Nat) : Int) := by omega
          have e2 : ((k : Int) % 2 == 1) = (k % 2 == 1) := by rw [Bool.eq_iff_iff, beq_iff_eq, beq_iff_eq]; omega
          unfold Hid
          rw [e1, e2]; rfl
        unfold faS at hS
        obtain ⟨u, hu⟩ : ∃ u, dAt vs (k / 2) = u := ⟨_, rfl⟩
        obtain ⟨⟨r1, r2⟩, hr⟩ : ∃ r, faF vs ax s P f k = r := ⟨_, rfl⟩
        rw [hu] at d2 hS hin
        rw [hr] at hS hbd ⊢
        dsimp only at hbd ⊢
        have hkn := Lib.hid (stp_kn hlt)
        clear hu hr hcell c2
        cases hx : (u.x == ax) with
        | false =>
          have K : (u.x != ax) = true := by rw [bne, hx]; rfl
          have hS2 : Hid (faF vs ax s P f (k + 1) = (r1, r2)) := by unfold Hid; rw [hS.out, hx, if_neg (by simp)]
          clear hx hS
          go_wp2_with fail
          exact ⟨⟨k + 1, by omega, by go_num, by rw [hS2.out], by rw [hS2.out], HB⟩, by simp [intOf]; omega⟩
        | true =>
          have K : (u.x != ax) = false := by rw [bne, hx]; rfl
          have hT := Lib.hid (hin.out (by simpa using hx))
          have hS2 := hS.out
          rw [hx, if_pos rfl] at hS2
          have HS2 := Lib.hid hS2
          clear hx hS hS2 hin
          go_wp2_with fail
          rw [hagg.out]
          refine rends_any (some ⟨b, o, none⟩) vs c (stp k) _ _ (HC.out.below HB.out) hkn.out hE.2.2 ?_
          intro w1 hb1
          have HB1 : Hid (Below w.heap.size w w1) := HB.out.trans (hb1.mono sB)
          have sB1 := HB1.out.size
          clear hb1
          have hA := Lib.hid (And.intro hE.1 hE.2.1)
          obtain ⟨F, hF⟩ : ∃ F, enF vs (stp k) = F := ⟨_, rfl⟩
          obtain ⟨T, hT'⟩ : ∃ T, enT vs (stp k) = T := ⟨_, rfl⟩
          obtain ⟨A, hA'⟩ : ∃ A, enA vs (stp k) = A := ⟨_, rfl⟩
          rw [hF, hT', hA'] at HS2 ⊢
          rw [hT'] at hT
          rw [hA'] at hA
          clear hF hT' hA' hE hsi hagg
          cases h1 : sameD F s with
          | false =>
            have K1 : (F.toList == s.toList) = false := h1
            have hS3 : Hid (faF vs ax s P f (k + 1) = (r1, r2)) := by unfold Hid; rw [HS2.out, h1, if_neg (by simp)]
            clear HS2 h1
            go_wp2_with fail
            exact ⟨⟨k + 1, by omega, by go_num, by rw [hS3.out], by rw [hS3.out], HB1⟩, by simp [intOf]; omega⟩
          | true =>
            have K1 : (F.toList == s.toList) = true := h1
            have hS3 := HS2.out
            rw [h1, if_pos rfl] at hS3
            have HS3 := Lib.hid hS3
            clear HS2 h1 hS3
            cases h2 : hasL P T with
            | true =>
              have hS4 : Hid (faF vs ax s P f (k + 1) = (r1, r2)) := by unfold Hid; rw [HS3.out, h2, if_pos rfl]
              go_wp2_with fail
              refine rhas_any (some ap) P cp T _ _ (by omega) (HP.out.below HB1.out) ?_
              rw [h2]
              intro w2 hd2
              have HB2 : Hid (Below w.heap.size w w2) := HB1.out.trans (hd2.below _)
              clear hd2 HS3 h2
              go_wp2_with fail
              exact ⟨⟨k + 1, by omega, by go_num, by rw [hS4.out], by rw [hS4.out], HB2⟩, by simp [intOf]; omega⟩
            | false =>
              have H2 := Lib.hid h2
              have hS4 := HS3.out
              rw [h2, if_neg (by simp)] at hS4
              have HS4 := Lib.hid hS4
              clear HS3 h2 hS4
              go_wp2_with fail
              refine rhas_any (some ap) P cp T _ _ (by omega) (HP.out.below HB1.out) ?_
              rw [H2.out]
              intro w2 hd2
              have HB2 : Hid (Below w.heap.size w w2) := HB1.out.trans (hd2.below _)
              have sB2 := HB2.out.size
              clear hd2
              go_wp2_with (first
                | (at_builtin; refine wp_appendF rfl (.tmp 63) (.tmp 64) 60 rfl w2.heap.size 9 Try.underlying60 Try.infoStr53 rfl (by decide) _ 0 [] rfl (World.ownsRow_lit w2 #[] 0 (Nat.le_refl _) (by decide) rfl) ap P.length cp (sC P) (by rw [sC_length, Nat.mul_one]) rfl ((HP.out.below HB2.out).below ((Below.refl _ _).alloc (Nat.le_refl _) _)) (sC_oneC P) (by omega) (by omega) (by simp only [World.size_alloc]; omega) ?_; intro v3 w3 hown hb; have O3 := Lib.hid hown; have HB3 : Hid (Below w2.heap.size w2 w3) := ((Below.refl _ w2).alloc (Nat.le_refl _) _).trans hb; have s3 := HB3.out.size; clear hown hb)
                | (at_builtin; refine wp_appendF rfl (.tmp 65) (.tmp 67) 60 rfl w2.heap.size 9 Try.underlying60 Try.infoStr53 rfl (by decide) v3 (0 + P.length) ([] ++ sC P) rfl (ownsRow_below O3.out ((Below.refl _ _).alloc (Nat.le_refl _) _)) ⟨w3.heap.size, 0, none⟩ 1 1 [.string T] rfl rfl (by have h := cells_one w3 (.string T) 9; simpa using h) (one1 _ rfl) (by omega) (by omega) (by simp only [World.size_alloc]; omega) ?_; intro v4 w4 hown hb; have O4 := Lib.hid hown; have HB4 : Hid (Below w2.heap.size w2 w4) := (HB3.out.alloc s3 _).trans hb; have s4 := HB4.out.size; clear hown hb))
              have hO4 := O4.out
              rw [List.nil_append, show [Value.string T] = sC [T] from rfl, ← sC_append, Nat.zero_add] at hO4
              obtain ⟨a5, c5, rfl, h5, _⟩ := ownsRow_read hO4
              obtain ⟨b5, o5, rfl, _, _⟩ := h5 (by rw [sC_length]; simp)
              have H5 := Lib.hid h5
              have HB5 : Hid (Below w.heap.size w w4) := HB2.out.trans (HB4.out.mono sB2)
              have sB5 := HB5.out.size
              clear hO4 h5 O4 O3
              refine HREC.out T ⟨b5, o5, none⟩ c5 _ _ hT.out H2.out (HC.out.below HB5.out) H5.out ?_
              intro w6 hb6
              have HB6 : Hid (Below w.heap.size w w6) := HB5.out.trans (hb6.mono sB5)
              clear hb6
              have hq := HF.out T
              obtain ⟨⟨q1, q2⟩, hq'⟩ : ∃ q, f T = q := ⟨_, rfl⟩
              rw [hq'] at HS4 hq ⊢
              dsimp only at hq
              have hw1 : IntKind.i64.wrap (A + q1) = A + q1 := by have := hA.out; have := HB'.out; rw [IntKind.wrap_i64]; omega
              clear hq'
              cases q2 with
              | false =>
                have hS5 : Hid (faF vs ax s P f (k + 1) = (r1, r2)) := by unfold Hid; rw [HS4.out]; simp
                clear HS4
                go_wp2_with fail
                exact ⟨⟨k + 1, by omega, by go_num, by rw [hS5.out], by rw [hS5.out], HB6⟩, by simp [intOf]; omega⟩
              | true =>
                cases r2 with
                | false =>
                  have hS5 : Hid (faF vs ax s P f (k + 1) = (A + q1, true)) := by unfold Hid; rw [HS4.out]; simp
                  clear HS4
                  go_wp2_with fail
                  exact ⟨⟨k + 1, by omega, by go_num, by rw [hS5.out], by rw [hS5.out], HB6⟩, by simp [intOf]; omega⟩
                | true =>
                  by_cases h3 : A + q1 < r1
                  · have hS5 : Hid (faF vs ax s P f (k + 1) = (A + q1, true)) := by unfold Hid; rw [HS4.out]; simp [h3]
                    clear HS4
                    go_wp2_with fail
                    exact ⟨⟨k + 1, by omega, by go_num, by rw [hS5.out], by rw [hS5.out], HB6⟩, by simp [intOf]; omega⟩
                  · have hS5 : Hid (faF vs ax s P f (k + 1) = (r1, true)) := by unfold Hid; rw [HS4.out]; simp [h3]
                    clear HS4
                    go_wp2_with fail
                    exact ⟨⟨k + 1, by omega, by go_num, by rw [hS5.out], by rw [hS5.out], HB6⟩, by simp [intOf]; omega⟩
      · obtain rfl : k = 2 * vs.length := by omega
        go_wp2_with fail
        have h := HR.out wr HB.out
        rw [HX2.out] at h; exact h
/-- Far of the reference. -/
theorem far_any (ao : Option Addr) (vs : List Dm) (c : Nat) (ax : Int) (t : ByteArray) (hl : vs.length ≤ 256) (hva : ∀ j, j < vs.length → vaE (dAt vs j) = 0) : ∀ (m : Nat) (s : ByteArray) (P : List ByteArray) (ap : Addr) (cp : Nat) (w : World) (R : Ending → World → Prop),
   rmG vs ax P ≤ m → m + P.length ≤ 1000 → CellsAt w ao (dC vs) → CellsAt w (some ap) (sC P) →
   (∀ w', Below w.heap.size w w' → R (.returned (.tuple #[.int .i64 (faN vs ax t m s P).1, .bool (faN vs ax t m s P).2])) w') →
    Calls Try.prog 76 #[.slice ao vs.length c, .int .i64 ax, .string s, .string t, .slice (some ap) P.length cp] w R
  | 0, s, P, ap, cp, w, R, hm, hP, hc, hp, hR =>
    far_step ao vs c ax s t P ap cp (fun _ => (0, false)) 0 w R hl (by omega) hc hva hp ⟨by decide, by decide⟩ (fun _ => ⟨by simp, by simp⟩)
      (fun b ap' cp' w' R' hb hPb _ _ _ => by rw [rmG_zero (by omega) hb] at hPb; cases hPb)
      (faN vs ax t 0 s P) (by
        rw [faF_none (fun k hk hx => rmG_zero (by omega) (enT_in hk hx).1) _ (Nat.le_refl _), faN]
        cases sameD s t <;> rfl) hR
  | m + 1, s, P, ap, cp, w, R, hm, hP, hc, hp, hR =>
    far_step ao vs c ax s t P ap cp (fun b => faN vs ax t m b (P ++ [b])) (100000 * (m : Int)) w R hl (by omega) hc hva hp ⟨by omega, by omega⟩ (fun b => faN_bd hva m b _)
      (fun b ap' cp' w' R' hb hPb hc' hp' hR' => by
        have h := far_any ao vs c ax t hl hva m b (P ++ [b]) ap' cp' w' R' (by have := rmG_step hb hPb; omega) (by rw [List.length_append, List.length_singleton]; omega) hc' hp' hR'
        rw [List.length_append, List.length_singleton] at h; exact h)
      (faN vs ax t (m + 1) s P) rfl hR
set_option maxRecDepth 100000 in
set_option maxHeartbeats 4000000 in
theorem way_any (ao : Option Addr) (vs : List Dm) (n c : Nat) (ax : Int) (s t : ByteArray) (w : World) (R : Ending → World → Prop) (hn : vs.length = n) (hl : vs.length ≤ 256) (hc : CellsAt w ao (dC vs)) (hva : ∀ j, j < vs.length → vaE (dAt vs j) = 0)
   (hR : ∀ w', Below w.heap.size w w' → R (.returned (.int .i64 (waV vs ax s t))) w') :
    Calls Try.prog 62 #[.slice ao n c, .int .i64 ax, .string s, .string t] w R := by
  subst hn
  have HR := Lib.hid hR
  have HC := Lib.hid hc
  have HVA := Lib.hid hva
  clear hR hc hva
  obtain ⟨wA, hwA⟩ : ∃ wA, w.alloc (.cells #[.string s] 9) = wA := ⟨_, rfl⟩
  have hcell : CellsAt wA (some ⟨w.heap.size, 0, none⟩) (sC [s]) := by rw [← hwA]; exact cells_one w (.string s) 9
  have hbA : Below w.heap.size w wA := by rw [← hwA]; exact (Below.refl _ _).alloc (Nat.le_refl _) _
  have HCe := Lib.hid hcell
  have HBA := Lib.hid hbA
  have sA := hbA.size
  clear hcell hbA
  go_enter Try.func62, Try.ntmps62
  go_wp2_with (rw [hwA])
  refine far_any ao vs c ax t hl HVA.out (nmG vs ax).length s [s] ⟨w.heap.size, 0, none⟩ 1 _ _ (rmG_le vs ax [s]) (by have := nmG_len (ax := ax) hl; simp; omega) (HC.out.below HBA.out) HCe.out ?_
  intro w1 hb
  have HB1 := Lib.hid (HBA.out.trans (hb.mono sA))
  clear hb
  have hX : Hid ((faN vs ax t (nmG vs ax).length s [s]).1 = waV vs ax s t) := rfl
  go_wp2_with fail
  have h := HR.out w1 HB1.out
  exact h
end Go.Proofs.Ytlgjhjgdmomfoaa
namespace Go.Proofs.Ytlgjhjgdmomfoaa
open Go.RowKit
section
variable {P : Program} {ops : Array Oper} {Q : Exit → Act → World → Prop} {md : Region.Mode} {S : World → Prop}
/-- What a post says of a panic does not hang on the frame. -/
def Calm (Q : Exit → Act → World → Prop) : Prop := ∀ c a a' w, Q (.panic c) a w → Q (.panic c) a' w
theorem regionQ {id : Nat} {a : Act} {w : World} (S : World → Prop) (hm : P.follows .mixedOrders = true) (hS : S w.drew)
    (h : ∀ Q' : Exit → Act → World → Prop, Calm Q' → Shut (∀ a w, Q .normal a w → Q' .normal a w) → S w.drew → wpAnyH P .any ops Q' S ops.size (Array.replicate ops.size false) a w.drew) : (Code.region id ops true).wp P Q a w :=
  wp_region_noPanic (wp_region_held_drew hm hS (h (NoPanic Q) (fun _ _ _ _ h => h) (fun _ _ h => NoPanic.normal h)))
theorem takeQ {i : Nat} {oi : Oper} {d : Option Tmp} {v : Value} {fuel : Nat} {listed : Array Bool} {a : Act} {w : World} (hi : ops[i]? = some oi) (hd : oi.dst = d)
    (hs : Region.noSelect ops = true) (hf : Region.free md ops listed i = true) (hr : (Region.ready md ops listed).contains i = true)
    (hQ : Calm Q) (hS : S w) (hw : Region.wanted oi (yielded ops a.tmps) = true) (hy : ∀ w, S w → (execOp a.eval oi).run P w = .ok (.value v) w)
    (h : wpAnyH P md ops Q S fuel (listed.setIfInBounds i true) (a.put d v) w) : wpAnyH P md ops Q S (fuel + 1) listed a w := by
  subst hd
  exact wpAnyH_take hi hs hf hr (fun c a w h => hQ c _ _ w h) (Or.inl ⟨hw, hy⟩) hS h
theorem skipQ {i : Nat} {oi : Oper} {d : Option Tmp} {fuel : Nat} {listed : Array Bool} {a : Act} {w : World} (hi : ops[i]? = some oi) (hd : oi.dst = d)
    (hs : Region.noSelect ops = true) (hf : Region.free md ops listed i = true) (hr : (Region.ready md ops listed).contains i = true)
    (hQ : Calm Q) (hS : S w) (hw : Region.wanted oi (yielded ops a.tmps) = false)
    (h : wpAnyH P md ops Q S fuel (listed.setIfInBounds i true) (a.put d undef) w) : wpAnyH P md ops Q S (fuel + 1) listed a w := by
  subst hd
  exact wpAnyH_take hi hs hf hr (fun c a w h => hQ c _ _ w h) (Or.inr ⟨hw, rfl⟩) hS h
/-- append of nothing, at a step of a drawn region. -/
theorem step_none {w : World} {o : Oper} {a : Act} {K : Act → World → Prop} {E : Prop} (hgd : o.guard = none) (s x : Operand) (t : TypeId)
    (ho : o.op = .call { callee := .builtin .append, args := #[s, x], argTypes := #[t, t] }) (e : TypeId) (i : TypeInfo) (ht : P.underlying t = some (.slice e)) (hi : P.info? e = some i)
    (b : Option Addr) (n c : Nat) (hle : n ≤ c) (hs : a.eval s = .slice b n c) (a2 : Option Addr) (c2 : Nat) (hx : a.eval x = .slice a2 0 c2) (h : K (a.put o.dst (.slice b n c)) w) :
    if Region.wanted o (yielded ops a.tmps) = true then Oper.wp P o a w K Q else E := by
  have hw : Region.wanted o (yielded ops a.tmps) = true := by simp [Region.wanted, hgd]
  rw [if_pos hw]
  have hr : (Builtin.append_ #[t, t] o.type #[.slice b n c, .slice a2 0 c2]).run P w = .ok (.slice b n c) w := by
    refine run_append_nothing w t t o.type e i ht hi b n c hle _ ?_
    cases a2 with
    | some ad => exact Src.ofSlice w ht ad 0 c2 [] (by simp) (by simp) (by simp)
    | none =>
      exact Src.ofNil w ht c2
  unfold Oper.wp execOp
  simp only [ho, resolve, invoke, builtin, Sem.run_bind, Sem.run_pure, Result.andThen_ok, List.map_toArray, List.map_cons, List.map_nil, hs, hx, hr]
  exact h
/-- append of as many as there are, at a step of a drawn region. -/
theorem step_appendN {w : World} {o : Oper} {a : Act} {K : Act → World → Prop} {E : Prop} (hgd : o.guard = none) (s x : Operand) (t : TypeId)
    (ho : o.op = .call { callee := .builtin .append, args := #[s, x], argTypes := #[t, t] })
    (base : Nat) (e : TypeId) {z : Value} {size bytes : Nat} (ht : P.underlying t = some (.slice e)) (hi : (P.info? e).map (fun i => (i.zero, i.size, i.bytes)) = some (some z, size, bytes))
    (hzs : z.cells.size = size) (hsz : 0 < size)
    (v : Value) (n : Nat) (xs : List Value) (hs : a.eval s = v) (hown : w.ownsRow base e size v n xs)
    (ad : Option Addr) (m c : Nat) (news : List Value) (hx : a.eval x = .slice ad m c) (hl : news.length = m * size) (hc : CellsAt w ad news) (h1 : ∀ u ∈ news, u.oneCell' = true)
    (h63 : n + m ≤ 9223372036854775807) (hbytes : (n + m) * bytes ≤ 140737488355328) (hbase : base ≤ w.heap.size)
    (h : ∀ v' w', w'.ownsRow base e size v' (n + m) (xs ++ news) → Below base w w' → K (a.put o.dst v') w') :
    if Region.wanted o (yielded ops a.tmps) = true then Oper.wp P o a w K Q else E := by
  obtain ⟨i, q1, q2, q3, q4⟩ := info_parts hi
  by_cases h0 : m = 0
  · subst h0
    obtain rfl : news = [] := List.length_eq_zero_iff.1 (by simpa using hl)
    have hK := h v w (by simpa using hown) (Below.refl _ _)
    rcases hown.2 with ⟨rfl, _⟩ | ⟨g, cap, cur, rfl, _, _, hnc, _⟩
    · exact step_none hgd s x t ho e i ht q1 none 0 0 (Nat.le_refl _) hs ad c hx hK
    · exact step_none hgd s x t ho e i ht q1 (some ⟨g, 0, none⟩) n cap hnc hs ad c hx hK
  · obtain ⟨b, o', e', _, _⟩ := hc (by rw [hl]; exact Nat.mul_pos (by omega) hsz)
    subst e'
    refine step_append_lies w hgd s x t ho base e i z size bytes ht q1 q2 q3 q4 hzs hsz v n xs hs hown ⟨b, o', none⟩ m c news hx hl ?_ h1 (by omega) (by unfold maxLen; omega) hbytes hbase w.heap.size rfl ?_
    · intro j u hj
      have hadd : (⟨b, o', none⟩ : Addr).add j = ⟨b, o' + j, none⟩ := by unfold Addr.add; split <;> simp_all
      rw [hadd]; exact hc.get rfl hj
    · intro g cap w' h2 h3 _ _
      exact h _ w' h2 ((Below.refl base w).grown h3 hbase (fun j e => (hown.lt j e).1))
end
end Go.Proofs.Ytlgjhjgdmomfoaa
