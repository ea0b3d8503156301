/- Groups of places and of names: what is reached from where. A region that draws inside a round, out of one outside of it that holds cells; marks of ranges over functions; arcs and ways in memory. A region that draws and makes memory in several places: by what holds whatever has come up. slices.Reverse of an own list of steps; append inside a fence. -/
import Derived.Test.YtgngllgknimgkaaMci
import Derived.Test.YtgngllgknimgkaaMct
import Derived.Deep.RegionHeld3
import Derived.Laws.Rows
import Derived.Laws.MakeOwn
import Derived.OwnWalkIn
import Derived.Shelf.SlicesQ.Reverse
import Derived.Test.YtgngllgknimgkaaMcb
namespace Go.Proofs.Ytgngllgknimgkaa
open Go.RowKit Go.Maps

/-- Reached through dimensions: p, q: their ends. -/
inductive Cn {α : Type} (p q : Nat → α) (D : Nat → Prop) (a : α) : α → Prop
  | refl : Cn p q D a a
  | fwd {i : Nat} (h : Cn p q D a (p i)) (hi : D i) : Cn p q D a (q i)
  | bwd {i : Nat} (h : Cn p q D a (q i)) (hi : D i) : Cn p q D a (p i)
section
variable {α : Type} {p q : Nat → α} {D D' : Nat → Prop} {a b c : α}
theorem Cn.trans (h : Cn p q D a b) (h2 : Cn p q D b c) : Cn p q D a c := by
  induction h2 with
  | refl => exact h
  | fwd _ hi ih => exact ih.fwd hi
  | bwd _ hi ih => exact ih.bwd hi
theorem Cn.symm (h : Cn p q D a b) : Cn p q D b a := by
  induction h with
  | refl => exact .refl
  | @fwd i _ hi ih => exact (Cn.bwd .refl hi : Cn p q D (q i) (p i)).trans ih
  | @bwd i _ hi ih => exact (Cn.fwd .refl hi : Cn p q D (p i) (q i)).trans ih
theorem Cn.mono (h : Cn p q D a b) (hD : ∀ i, D i → D' i) : Cn p q D' a b := by
  induction h with
  | refl => exact .refl
  | fwd _ hi ih => exact ih.fwd (hD _ hi)
  | bwd _ hi ih => exact ih.bwd (hD _ hi)
/-- A set that is shut holds whatever is reached from a member. -/
theorem Cn.shut {S : α → Prop} (h : Cn p q D a b) (ha : S a) (hs : ∀ i, D i → (S (p i) ↔ S (q i))) : S b := by
  induction h with
  | refl => exact ha
  | fwd _ hi ih => exact (hs _ hi).1 ih
  | bwd _ hi ih => exact (hs _ hi).2 ih
end
/-! ### the least places -/
structure GInv (p q : Nat → Nat) (n : Nat) (D : Nat → Prop) (L : List Nat) : Prop where
  len : L.length = n
  le : ∀ u, u < n → nAt L u ≤ u
  cn : ∀ u, u < n → Cn p q D u (nAt L u)
  eq : ∀ u v, u < n → Cn p q D u v → nAt L u = nAt L v
theorem nAt_map {L : List Nat} {f : Nat → Nat} {u : Nat} (h : u < L.length) : nAt (L.map f) u = f (nAt L u) := by
  rw [nAt_lt (by simpa using h), nAt_lt h]; simp
theorem mrg_same (a b : Nat) : mrg a b a = mrg a b b := by unfold mrg; simp
theorem GInv.step {p q : Nat → Nat} {n : Nat} {D D' : Nat → Prop} {L : List Nat} {i : Nat} (h : GInv p q n D L) (hp : p i < n) (hq : q i < n) (hD : ∀ j, D' j ↔ D j ∨ j = i) (hr : ∀ j, D j → p j < n ∧ q j < n) :
    GInv p q n D' (L.map (mrg (nAt L (p i)) (nAt L (q i)))) := by
  have hmono : ∀ {u v}, Cn p q D u v → Cn p q D' u v := fun h => h.mono fun j hj => (hD j).2 (.inl hj)
  have hi : D' i := (hD i).2 (.inr rfl)
  have hab : Cn p q D' (nAt L (p i)) (nAt L (q i)) := (hmono (h.cn _ hp)).symm.trans ((Cn.fwd .refl hi).trans (hmono (h.cn _ hq)))
  refine ⟨by simp [h.len], fun u hu => ?_, fun u hu => ?_, fun u v hu hc => ?_⟩
  · rw [nAt_map (by rw [h.len]; exact hu)]
    have := h.le u hu
    unfold mrg; split
    · rename_i e; rcases e with e | e <;> omega
    · exact this
  · rw [nAt_map (by rw [h.len]; exact hu)]
    have h1 := hmono (h.cn u hu)
    unfold mrg
    split
    · rename_i e
      rcases Nat.le_total (nAt L (p i)) (nAt L (q i)) with h2 | h2
      · rw [Nat.min_eq_left h2]
        rcases e with e | e
        · rw [← e]; exact h1
        · rw [e] at h1; exact h1.trans hab.symm
      · rw [Nat.min_eq_right h2]
        rcases e with e | e
        · rw [e] at h1; exact h1.trans hab
        · rw [← e]; exact h1
    · exact h1
  · have key : v < n ∧ nAt (L.map (mrg (nAt L (p i)) (nAt L (q i)))) u = nAt (L.map (mrg (nAt L (p i)) (nAt L (q i)))) v := by
      induction hc with
      | refl => exact ⟨hu, rfl⟩
      | @fwd j _ hj ih =>
        obtain ⟨h1, h2⟩ := ih
        rcases (hD j).1 hj with h3 | rfl
        · obtain ⟨_, h4⟩ := hr j h3
          refine ⟨h4, h2.trans ?_⟩
          rw [nAt_map (by rw [h.len]; exact h1), nAt_map (by rw [h.len]; exact h4), h.eq _ _ h1 (Cn.fwd .refl h3)]
        · refine ⟨hq, h2.trans ?_⟩
          rw [nAt_map (by rw [h.len]; exact h1), nAt_map (by rw [h.len]; exact hq)]; exact mrg_same _ _
      | @bwd j _ hj ih =>
        obtain ⟨h1, h2⟩ := ih
        rcases (hD j).1 hj with h3 | rfl
        · obtain ⟨h4, _⟩ := hr j h3
          refine ⟨h4, h2.trans ?_⟩
          rw [nAt_map (by rw [h.len]; exact h1), nAt_map (by rw [h.len]; exact h4), h.eq _ _ h1 (Cn.bwd .refl h3)]
        · refine ⟨hp, h2.trans ?_⟩
          rw [nAt_map (by rw [h.len]; exact h1), nAt_map (by rw [h.len]; exact hp)]; exact (mrg_same _ _).symm
    exact key.2
theorem GInv.all {p q : Nat → Nat} {n : Nat} : ∀ (is : List Nat) (D : Nat → Prop) (L : List Nat), GInv p q n D L → (∀ j, D j → p j < n ∧ q j < n) → (∀ j ∈ is, p j < n ∧ q j < n) → GInv p q n (fun j => D j ∨ j ∈ is) (grp p q L is)
  | [], D, L, h, _, _ => by
    have e : (fun j => D j ∨ j ∈ ([] : List Nat)) = D := by funext j; simp
    rw [e]; exact h
  | i :: is, D, L, h, hr, hs => by
    have hi := hs i (by simp)
    have h1 := h.step (D' := fun j => D j ∨ j = i) hi.1 hi.2 (fun _ => Iff.rfl) hr
    have h2 := GInv.all is _ _ h1 (fun j hj => by
      rcases hj with hj | rfl
      · exact hr j hj
      · exact hi) (fun j hj => hs j (by simp [hj]))
    have e : (fun j => D j ∨ j ∈ i :: is) = (fun j => (D j ∨ j = i) ∨ j ∈ is) := by funext j; simp [or_assoc]
    rw [e]; exact h2
theorem range_nAt {n u : Nat} (h : u < n) : nAt (List.range n) u = u := by rw [nAt_lt (by simpa using h)]; simp
theorem GInv.start (p q : Nat → Nat) (n : Nat) : GInv p q n (fun _ => False) (List.range n) :=
  ⟨by simp, fun u hu => by rw [range_nAt hu]; exact Nat.le_refl _, fun u hu => by rw [range_nAt hu]; exact .refl, fun u v hu h => by
    have : u = v := by
      cases h with
      | refl => rfl
      | fwd _ hi => exact hi.elim
      | bwd _ hi => exact hi.elim
    rw [this]⟩

/-! ### the groups of a list along an axis -/
/-- The dimensions along an axis. -/
def onD (vs : List Dm) (ax : Int) (i : Nat) : Prop := i < vs.length ∧ (dAt vs i).x = ax
/-- Places, names reached. -/
def CnP (vs : List Dm) (ax : Int) : Nat → Nat → Prop := Cn (pF vs ax) (pT vs ax) (onD vs ax)
def CnN (vs : List Dm) (ax : Int) : ByteArray → ByteArray → Prop := Cn (fun i => (dAt vs i).f) (fun i => (dAt vs i).t) (onD vs ax)
theorem onD_iff {vs : List Dm} {ax : Int} {i : Nat} : onD vs ax i ↔ i ∈ onA vs ax vs.length := (onA_mem vs ax i vs.length).symm
theorem onD_pos {vs : List Dm} {ax : Int} {i : Nat} (h : onD vs ax i) : pF vs ax i < (nmG vs ax).length ∧ pT vs ax i < (nmG vs ax).length := by
  obtain ⟨_, h2, h3⟩ := onA_names (onD_iff.1 h)
  exact ⟨pos_lt h2, pos_lt h3⟩
theorem grG_inv (vs : List Dm) (ax : Int) : GInv (pF vs ax) (pT vs ax) (nmG vs ax).length (onD vs ax) (grG vs ax) := by
  have h := GInv.all (onA vs ax vs.length) _ _ (GInv.start (pF vs ax) (pT vs ax) (nmG vs ax).length) (fun _ h => h.elim) (fun j hj => onD_pos (onD_iff.2 hj))
  have e : (fun j => False ∨ j ∈ onA vs ax vs.length) = onD vs ax := by funext j; rw [false_or]; exact propext onD_iff.symm
  rw [e] at h; exact h
theorem CnP.lt {vs : List Dm} {ax : Int} {u v : Nat} (h : CnP vs ax u v) (hu : u < (nmG vs ax).length) : v < (nmG vs ax).length := by
  cases h with
  | refl => exact hu
  | fwd _ hi => exact (onD_pos hi).2
  | bwd _ hi => exact (onD_pos hi).1
theorem grG_eq {vs : List Dm} {ax : Int} {u v : Nat} (hu : u < (nmG vs ax).length) (hv : v < (nmG vs ax).length) : nAt (grG vs ax) u = nAt (grG vs ax) v ↔ CnP vs ax u v :=
  ⟨fun e => ((grG_inv vs ax).cn u hu).trans (e ▸ ((grG_inv vs ax).cn v hv).symm), fun h => (grG_inv vs ax).eq u v hu h⟩
theorem grG_least {vs : List Dm} {ax : Int} {u v : Nat} (hu : u < (nmG vs ax).length) (h : CnP vs ax u v) : nAt (grG vs ax) u ≤ v := by
  rw [(grG_inv vs ax).eq u v hu h]; exact (grG_inv vs ax).le v (h.lt hu)
theorem grG_lt {vs : List Dm} {ax : Int} {u : Nat} (hu : u < (nmG vs ax).length) : nAt (grG vs ax) u < (nmG vs ax).length := Nat.lt_of_le_of_lt ((grG_inv vs ax).le u hu) hu
theorem grG_idem {vs : List Dm} {ax : Int} {u : Nat} (hu : u < (nmG vs ax).length) : nAt (grG vs ax) (nAt (grG vs ax) u) = nAt (grG vs ax) u :=
  ((grG_inv vs ax).eq u _ hu ((grG_inv vs ax).cn u hu)).symm
theorem pF_name {vs : List Dm} {ax : Int} {i : Nat} (h : onD vs ax i) : kAt (nmG vs ax) (pF vs ax i) = (dAt vs i).f := kAt_pos (onA_names (onD_iff.1 h)).2.1
theorem pT_name {vs : List Dm} {ax : Int} {i : Nat} (h : onD vs ax i) : kAt (nmG vs ax) (pT vs ax i) = (dAt vs i).t := kAt_pos (onA_names (onD_iff.1 h)).2.2
theorem CnP.names {vs : List Dm} {ax : Int} {u v : Nat} (h : CnP vs ax u v) : CnN vs ax (kAt (nmG vs ax) u) (kAt (nmG vs ax) v) := by
  induction h with
  | refl => exact .refl
  | fwd _ hi ih => rw [pT_name hi]; rw [pF_name hi] at ih; exact Cn.fwd (p := fun i => (dAt vs i).f) (q := fun i => (dAt vs i).t) ih hi
  | bwd _ hi ih => rw [pF_name hi]; rw [pT_name hi] at ih; exact Cn.bwd (p := fun i => (dAt vs i).f) (q := fun i => (dAt vs i).t) ih hi
theorem CnN.places {vs : List Dm} {ax : Int} {s t : ByteArray} (h : CnN vs ax s t) : CnP vs ax (pos (nmG vs ax) s) (pos (nmG vs ax) t) := by
  induction h with
  | refl => exact .refl
  | fwd _ hi ih => exact Cn.fwd (p := pF vs ax) (q := pT vs ax) ih hi
  | bwd _ hi ih => exact Cn.bwd (p := pF vs ax) (q := pT vs ax) ih hi
theorem CnN.mem {vs : List Dm} {ax : Int} {s t : ByteArray} (h : CnN vs ax s t) (hne : s ≠ t) : s ∈ nmG vs ax ∧ t ∈ nmG vs ax := by
  have h2 := h.symm
  constructor
  · cases h2 with
    | refl => exact absurd rfl hne
    | fwd _ hi => exact (onA_names (onD_iff.1 hi)).2.2
    | bwd _ hi => exact (onA_names (onD_iff.1 hi)).2.1
  · cases h with
    | refl => exact absurd rfl hne
    | fwd _ hi => exact (onA_names (onD_iff.1 hi)).2.2
    | bwd _ hi => exact (onA_names (onD_iff.1 hi)).2.1
theorem pos_inj {ks : List ByteArray} {s t : ByteArray} (hs : s ∈ ks) (ht : t ∈ ks) (e : pos ks s = pos ks t) : s = t := by rw [← kAt_pos hs, e, kAt_pos ht]
theorem cnP_iff {vs : List Dm} {ax : Int} {s t : ByteArray} (hs : s ∈ nmG vs ax) (ht : t ∈ nmG vs ax) : CnP vs ax (pos (nmG vs ax) s) (pos (nmG vs ax) t) ↔ CnN vs ax s t :=
  ⟨fun h => by have := h.names; rw [kAt_pos hs, kAt_pos ht] at this; exact this, CnN.places⟩
/-- Joined: two names of the graph, one reached from the other. -/
theorem jnX_iff {vs : List Dm} {ax : Int} {s t : ByteArray} : jnX vs ax s t = true ↔ s ∈ nmG vs ax ∧ t ∈ nmG vs ax ∧ CnN vs ax s t := by
  unfold jnX
  rw [Bool.and_eq_true, Bool.and_eq_true, inK_iff, inK_iff, beq_iff_eq, and_assoc]
  refine and_congr_right fun hs => and_congr_right fun ht => ?_
  rw [grG_eq (pos_lt hs) (pos_lt ht)]; exact cnP_iff hs ht

/-! ### what the reference reaches -/
def rcI (vs : List Dm) (ax : Int) (out : List ByteArray) : Nat → List ByteArray
  | 0 => out
  | k + 1 => if ((dAt vs k).x == ax && (hasL (rcI vs ax out k) (dAt vs k).f != hasL (rcI vs ax out k) (dAt vs k).t)) = true then putL (dAt vs k).t false (putL (dAt vs k).f false (rcI vs ax out k)) else rcI vs ax out k
def rcR (vs : List Dm) (ax : Int) (s : ByteArray) : Nat → List ByteArray
  | 0 => [s]
  | r + 1 => rcI vs ax (rcR vs ax s r) vs.length
/-- The names reached from one. -/
def rcA (vs : List Dm) (ax : Int) (s : ByteArray) : List ByteArray := rcR vs ax s vs.length
theorem rcI_up {vs : List Dm} {ax : Int} {out : List ByteArray} (h : out.Pairwise fun a b => bL a < bL b) : ∀ k, (rcI vs ax out k).Pairwise fun a b => bL a < bL b
  | 0 => h
  | k + 1 => by
    have ih := rcI_up (vs := vs) (ax := ax) h k
    rw [rcI]
    split
    · exact putL_up _ _ (putL_up _ _ ih)
    · exact ih
theorem rcI_sub {vs : List Dm} {ax : Int} {out : List ByteArray} {t : ByteArray} (h : t ∈ out) : ∀ k, t ∈ rcI vs ax out k
  | 0 => h
  | k + 1 => by
    have ih := rcI_sub (vs := vs) (ax := ax) h k
    rw [rcI]
    split
    · rw [putL_mem, putL_mem]; exact .inl (.inl ih)
    · exact ih
theorem rcI_len {vs : List Dm} {ax : Int} {out : List ByteArray} : ∀ k, (rcI vs ax out k).length ≤ out.length + 2 * k
  | 0 => Nat.le_refl _
  | k + 1 => by
    have h := rcI_len (vs := vs) (ax := ax) (out := out) k
    have h1 := putL_len (dAt vs k).f false (rcI vs ax out k)
    have h2 := putL_len (dAt vs k).t false (putL (dAt vs k).f false (rcI vs ax out k))
    rw [rcI]
    split <;> omega
theorem rcI_sound {vs : List Dm} {ax : Int} {out : List ByteArray} {s : ByteArray} (h : ∀ t ∈ out, CnN vs ax s t) : ∀ k, k ≤ vs.length → ∀ t ∈ rcI vs ax out k, CnN vs ax s t
  | 0, _ => h
  | k + 1, hk => by
    have ih := rcI_sound h k (by omega)
    rw [rcI]
    split
    · rename_i e
      rw [Bool.and_eq_true, beq_iff_eq, bne_iff_ne] at e
      obtain ⟨h1, h2⟩ := e
      have hD : onD vs ax k := ⟨by omega, h1⟩
      intro t ht
      rw [putL_mem, putL_mem] at ht
      cases hf : hasL (rcI vs ax out k) (dAt vs k).f with
      | true =>
        have h3 := ih _ (hasL_iff.1 hf)
        rcases ht with (ht | rfl) | rfl
        · exact ih t ht
        · exact h3
        · exact Cn.fwd (p := fun i => (dAt vs i).f) (q := fun i => (dAt vs i).t) h3 hD
      | false =>
        have hT : hasL (rcI vs ax out k) (dAt vs k).t = true := by
          cases h4 : hasL (rcI vs ax out k) (dAt vs k).t with
          | true => rfl
          | false => rw [hf, h4] at h2; exact absurd rfl h2
        have h3 := ih _ (hasL_iff.1 hT)
        rcases ht with (ht | rfl) | rfl
        · exact ih t ht
        · exact Cn.bwd (p := fun i => (dAt vs i).f) (q := fun i => (dAt vs i).t) h3 hD
        · exact h3
    · exact ih
/-- How many of the first dimensions have both ends in a list. -/
def bothN (vs : List Dm) (out : List ByteArray) : Nat := ((List.range vs.length).filter fun i => hasL out (dAt vs i).f && hasL out (dAt vs i).t).length
theorem filter_lt {P Q : Nat → Bool} : ∀ {l : List Nat}, (∀ i ∈ l, P i = true → Q i = true) → (∃ i ∈ l, P i = false ∧ Q i = true) → (l.filter P).length < (l.filter Q).length
  | [], _, h => by obtain ⟨i, hi, _⟩ := h; cases hi
  | x :: l, hs, hx => by
    have hle : ∀ {l : List Nat}, (∀ i ∈ l, P i = true → Q i = true) → (l.filter P).length ≤ (l.filter Q).length := by
      intro l
      induction l with
      | nil => intro _; exact Nat.le_refl _
      | cons y l ih =>
        intro h
        have h1 := ih (fun i hi => h i (by simp [hi]))
        cases hp : P y with
        | true => rw [List.filter_cons_of_pos hp, List.filter_cons_of_pos (h y (by simp) hp)]; simp; exact h1
        | false =>
          rw [List.filter_cons_of_neg (by simp [hp])]
          cases hq : Q y with
          | true => rw [List.filter_cons_of_pos hq]; simp; omega
          | false => rw [List.filter_cons_of_neg (by simp [hq])]; exact h1
    have h1 := hle (l := l) (fun i hi => hs i (by simp [hi]))
    obtain ⟨i, hi, hp, hq⟩ := hx
    by_cases e : i = x
    · subst e
      rw [List.filter_cons_of_neg (by simp [hp]), List.filter_cons_of_pos hq]; simp; omega
    · have h2 := filter_lt (P := P) (Q := Q) (l := l) (fun i hi => hs i (by simp [hi])) ⟨i, (List.mem_cons.1 hi).resolve_left e, hp, hq⟩
      cases hpx : P x with
      | true => rw [List.filter_cons_of_pos hpx, List.filter_cons_of_pos (hs x (by simp) hpx)]; simp; exact h2
      | false =>
        rw [List.filter_cons_of_neg (by simp [hpx])]
        cases hqx : Q x with
        | true => rw [List.filter_cons_of_pos hqx]; simp; omega
        | false => rw [List.filter_cons_of_neg (by simp [hqx])]; exact h2
/-- Shut: each dimension has both ends in it, or none. -/
def ShutL (vs : List Dm) (ax : Int) (out : List ByteArray) : Prop := ∀ i, onD vs ax i → ((dAt vs i).f ∈ out ↔ (dAt vs i).t ∈ out)
theorem hasL_same {ks : List ByteArray} {s t : ByteArray} : (hasL ks s != hasL ks t) = false ↔ (s ∈ ks ↔ t ∈ ks) := by
  rw [← hasL_iff, ← hasL_iff]
  cases hasL ks s <;> cases hasL ks t <;> simp
theorem rcI_shut {vs : List Dm} {ax : Int} {out : List ByteArray} (h : ShutL vs ax out) : ∀ k, k ≤ vs.length → rcI vs ax out k = out
  | 0, _ => rfl
  | k + 1, hk => by
    rw [rcI, rcI_shut h k (by omega), if_neg]
    intro e
    rw [Bool.and_eq_true, beq_iff_eq] at e
    rw [(hasL_same).2 (h k ⟨by omega, e.1⟩)] at e
    cases e.2
/-- A round leaves a list that is shut, or uses up a dimension. -/
theorem rcI_grow {vs : List Dm} {ax : Int} {out : List ByteArray} (h : ¬ ShutL vs ax out) : bothN vs out < bothN vs (rcI vs ax out vs.length) := by
  unfold bothN
  refine filter_lt (fun i _ hp => ?_) ?_
  · rw [Bool.and_eq_true, hasL_iff, hasL_iff] at hp ⊢
    exact ⟨rcI_sub hp.1 _, rcI_sub hp.2 _⟩
  · -- the first dimension with one end in it
    obtain ⟨i, hi, hne⟩ : ∃ i, onD vs ax i ∧ ¬ ((dAt vs i).f ∈ out ↔ (dAt vs i).t ∈ out) := Classical.byContradiction fun hn => h fun i hi => Classical.byContradiction fun e => hn ⟨i, hi, e⟩
    have hboth : ∀ k, i < k → k ≤ vs.length → (dAt vs i).f ∈ rcI vs ax out k ∧ (dAt vs i).t ∈ rcI vs ax out k := by
      intro k
      induction k with
      | zero => intro hk; omega
      | succ k ih =>
        intro hk hkl
        by_cases e : i = k
        · subst e
          by_cases e2 : ((dAt vs i).f ∈ rcI vs ax out i ↔ (dAt vs i).t ∈ rcI vs ax out i)
          · have h3 : (dAt vs i).f ∈ rcI vs ax out i ∧ (dAt vs i).t ∈ rcI vs ax out i := by
              by_cases hf : (dAt vs i).f ∈ out
              · have := rcI_sub (vs := vs) (ax := ax) hf i; exact ⟨this, e2.1 this⟩
              · by_cases ht : (dAt vs i).t ∈ out
                · have := rcI_sub (vs := vs) (ax := ax) ht i; exact ⟨e2.2 this, this⟩
                · exact absurd ⟨fun h => absurd h hf, fun h => absurd h ht⟩ hne
            rw [rcI, if_neg (by rw [hasL_same.2 e2]; simp)]
            exact h3
          · have e3 : (hasL (rcI vs ax out i) (dAt vs i).f != hasL (rcI vs ax out i) (dAt vs i).t) = true := by
              cases h4 : (hasL (rcI vs ax out i) (dAt vs i).f != hasL (rcI vs ax out i) (dAt vs i).t) with
              | true => rfl
              | false => exact absurd (hasL_same.1 h4) e2
            rw [rcI, if_pos (by rw [e3, Bool.and_true, beq_iff_eq]; exact hi.2)]
            rw [putL_mem, putL_mem, putL_mem, putL_mem]
            exact ⟨.inl (.inr rfl), .inr rfl⟩
        · obtain ⟨h1, h2⟩ := ih (by omega) (by omega)
          rw [rcI]
          split
          · rw [putL_mem, putL_mem, putL_mem, putL_mem]; exact ⟨.inl (.inl h1), .inl (.inl h2)⟩
          · exact ⟨h1, h2⟩
    obtain ⟨h1, h2⟩ := hboth vs.length hi.1 (Nat.le_refl _)
    refine ⟨i, List.mem_range.2 hi.1, ?_, by rw [Bool.and_eq_true, hasL_iff, hasL_iff]; exact ⟨h1, h2⟩⟩
    rw [← Bool.not_eq_true, Bool.and_eq_true, hasL_iff, hasL_iff]
    exact fun ⟨a, b⟩ => hne ⟨fun _ => b, fun _ => a⟩
theorem bothN_le (vs : List Dm) (out : List ByteArray) : bothN vs out ≤ vs.length := by
  unfold bothN
  exact Nat.le_trans (List.length_filter_le _ _) (by simp)
theorem rcR_shut (vs : List Dm) (ax : Int) (s : ByteArray) : ∀ r, ShutL vs ax (rcR vs ax s r) ∨ r ≤ bothN vs (rcR vs ax s r)
  | 0 => .inr (Nat.zero_le _)
  | r + 1 => by
    rcases rcR_shut vs ax s r with h | h
    · refine .inl ?_
      show ShutL vs ax (rcI vs ax (rcR vs ax s r) vs.length)
      rw [rcI_shut h _ (Nat.le_refl _)]; exact h
    · by_cases e : ShutL vs ax (rcR vs ax s r)
      · refine .inl ?_
        show ShutL vs ax (rcI vs ax (rcR vs ax s r) vs.length)
        rw [rcI_shut e _ (Nat.le_refl _)]; exact e
      · have := rcI_grow e
        refine .inr ?_
        show r + 1 ≤ bothN vs (rcI vs ax (rcR vs ax s r) vs.length)
        omega
theorem filter_all {P : Nat → Bool} : ∀ {l : List Nat}, l.length ≤ (l.filter P).length → ∀ i ∈ l, P i = true
  | [], _, i, hi => by cases hi
  | x :: l, h, i, hi => by
    cases hp : P x with
    | true =>
      rw [List.filter_cons_of_pos hp] at h
      rcases List.mem_cons.1 hi with rfl | hi
      · exact hp
      · exact filter_all (l := l) (by simpa using h) i hi
    | false =>
      rw [List.filter_cons_of_neg (by simp [hp])] at h
      have := List.length_filter_le P l
      simp at h; omega
theorem rcA_shut (vs : List Dm) (ax : Int) (s : ByteArray) : ShutL vs ax (rcA vs ax s) := by
  rcases rcR_shut vs ax s vs.length with h | h
  · exact h
  · intro i hi
    have h2 := filter_all (P := fun i => hasL (rcA vs ax s) (dAt vs i).f && hasL (rcA vs ax s) (dAt vs i).t) (l := List.range vs.length) (by rw [List.length_range]; exact h) i (List.mem_range.2 hi.1)
    rw [Bool.and_eq_true, hasL_iff, hasL_iff] at h2
    exact ⟨fun _ => h2.2, fun _ => h2.1⟩
theorem rcR_keeps (vs : List Dm) (ax : Int) (s : ByteArray) : ∀ r, s ∈ rcR vs ax s r ∧ (rcR vs ax s r).Pairwise (fun a b => bL a < bL b) ∧ (∀ t ∈ rcR vs ax s r, CnN vs ax s t)
  | 0 => ⟨by simp [rcR], by simp [rcR], fun t ht => by obtain rfl : t = s := by simpa [rcR] using ht
                                                       exact .refl⟩
  | r + 1 => by
    obtain ⟨h1, h2, h3⟩ := rcR_keeps vs ax s r
    exact ⟨rcI_sub h1 _, rcI_up h2 _, rcI_sound h3 _ (Nat.le_refl _)⟩
theorem rcR_len (vs : List Dm) (ax : Int) (s : ByteArray) : ∀ r, (rcR vs ax s r).length ≤ 1 + 2 * vs.length * r
  | 0 => by simp [rcR]
  | r + 1 => by
    have h1 := rcR_len vs ax s r
    have h2 := rcI_len (vs := vs) (ax := ax) (out := rcR vs ax s r) vs.length
    show (rcI vs ax (rcR vs ax s r) vs.length).length ≤ _
    rw [Nat.mul_succ]; omega
theorem rcA_mem {vs : List Dm} {ax : Int} {s t : ByteArray} : t ∈ rcA vs ax s ↔ CnN vs ax s t :=
  ⟨(rcR_keeps vs ax s vs.length).2.2 t, fun h => h.shut (S := fun t => t ∈ rcA vs ax s) (rcR_keeps vs ax s vs.length).1 (rcA_shut vs ax s)⟩
theorem rcA_up (vs : List Dm) (ax : Int) (s : ByteArray) : (rcA vs ax s).Pairwise fun a b => bL a < bL b := (rcR_keeps vs ax s vs.length).2.1
end Go.Proofs.Ytgngllgknimgkaa
namespace Go.Proofs.Ytgngllgknimgkaa
open Go.RowKit Go.Maps

section
variable {n : Nat} {P : Program} {md : Region.Mode} {ops : Array Oper} {Q : Exit → Act → World → Prop}
theorem rows_wide {n : Nat} {row : String} {args : Array Value} {w : World} {R : Value → World → Prop} (h : Rows P row args w R) : RowsIn Fence.wide n P row args w R :=
  fun c cs _ => let ⟨v, w', r, s⟩ := h c cs; ⟨v, w', r, stepsIn_wide.2 s⟩
theorem oper_wide {l : Nat} {o : Oper} {a : Act} {w : World} {K : Act → World → Prop} (hd : ∀ c, o.op ≠ Op.defer c) (h : o.wp P a w K Q) : o.wpIn (Fence.wide.inRound l) n P a w K Q := by
  unfold Oper.wpIn
  refine ⟨fun _ _ => trivial, ?_⟩
  rw [Oper.semAt_eq _ _ _ hd]
  unfold Oper.wp at h
  generalize (execOp a.eval o).run P w = r at *
  cases r with
  | ok x w' =>
    cases x with
    | enter f args => exact ⟨(fun h => by cases h), callsIn_wide.2 h⟩
    | row r args => exact ⟨(fun h => by cases h), rows_wide h⟩
    | _ => first | exact h | exact h.elim
  | halt x w' => cases x <;> first | exact h | exact h.elim
theorem wpAnyIn_wide {l : Nat} (hq : ¬ LetsOut Q) (hd : ∀ (j : Nat) (o : Oper) (c : Call), ops[j]? = some o → o.op ≠ Op.defer c) : ∀ (fuel : Nat) (listed : Array Bool) (a : Act) (w : World),
    wpAny P md ops Q fuel listed a w → wpAnyIn (Fence.wide.inRound l) n P md ops Q fuel listed a w
  | 0, _, _, _, h => h
  | fuel + 1, listed, a, w, h => by
    refine ⟨h.1, fun i hi => ?_⟩
    have h1 := h.2 i hi
    unfold wpOpIn
    unfold wpOp at h1
    split
    · rename_i ho
      simp only [ho] at h1
      exact wpAnyIn_wide hq hd fuel _ _ _ h1
    · rename_i o ho
      simp only [ho] at h1
      split
      · rename_i hw
        simp only [hw, if_true] at h1
        rcases h1 with h1 | ⟨_, h1⟩
        · exact Oper.wpIn_mono (fun a' w' h' => wpAnyIn_wide hq hd fuel _ _ _ h') (oper_wide (fun c => hd i o c ho) h1)
        · exact absurd h1 hq
      · rename_i hw
        simp only [hw] at h1
        exact ⟨fun _ _ => trivial, wpAnyIn_wide hq hd fuel _ _ _ h1⟩
/-- A region that draws inside a round: walked as outside of one, holding S. -/
theorem region_round_held {l id : Nat} {a : Act} {w : World} (S : World → Prop) (hm : P.follows .mixedOrders = true) (hd : noDefer ops = true) (hq : ¬ LetsOut Q) (hS : S w.drew)
    (h : S w.drew → wpAnyH P .any ops Q S ops.size (Array.replicate ops.size false) a w.drew) : (Code.region id ops true).wpIn (Fence.wide.inRound l) n P Q a w :=
  wpIn_region_any hm (wpAnyIn_wide hq (noDefer_all hd) _ _ _ _ (wpAny_of_held _ _ _ _ (h hS)))
end

/-! ### marks -/
def mkD (D : Nat) : Deferred := { target := .collected D, args := #[] }
structure Marks (B : Nat) (w : World) (L : List Nat) : Prop where
  nd : L.Nodup
  lo : ∀ D ∈ L, B ≤ D
  blk : ∀ D ∈ L, w.heap[D]? = some (.deferred (some []))
theorem Marks.nil (B : Nat) (w : World) : Marks B w [] := ⟨List.nodup_nil, fun _ h => absurd h (by simp), fun _ h => absurd h (by simp)⟩
theorem Marks.lt {B : Nat} {w : World} {L : List Nat} (h : Marks B w L) {D : Nat} (hD : D ∈ L) : D < w.heap.size := lt_of_block (h.blk D hD)
theorem Marks.keep {B : Nat} {w w' : World} {L : List Nat} (h : Marks B w L) (hk : ∀ D ∈ L, w'.heap[D]? = w.heap[D]?) : Marks B w' L := ⟨h.nd, h.lo, fun D hD => (hk D hD).trans (h.blk D hD)⟩
theorem Marks.below {B : Nat} {w w' : World} {L : List Nat} (h : Marks B w L) (hb : Below w.heap.size w w') : Marks B w' L := h.keep fun D hD => hb.block D (h.lt hD)
theorem Marks.up {B : Nat} {w w' : World} {L : List Nat} (h : Marks B w L) (hb : KeepsUp B w w') : Marks B w' L := h.keep fun D hD => hb.block D (h.lo D hD) (h.lt hD)
theorem Marks.cons {B N : Nat} {w : World} {L : List Nat} (h : Marks B w L) (hN : ∀ D ∈ L, D < N) {D : Nat} (hD : N ≤ D) (hB : B ≤ N) (hk : w.heap[D]? = some (.deferred (some []))) : Marks B w (D :: L) :=
  ⟨List.nodup_cons.2 ⟨fun hm => by have := hN D hm; omega, h.nd⟩, fun x hx => by rcases List.mem_cons.1 hx with rfl | hx; · omega
                                                                                 · exact h.lo x hx, fun x hx => by rcases List.mem_cons.1 hx with rfl | hx; · exact hk
                                                                                                                   · exact h.blk x hx⟩
theorem leaves_marks {F : Fence} {n : Nat} {P : Program} {fn : Func} {R : Ending → World → Prop} {tmps : Array Value} {v : Value} {B : Nat} : ∀ (L : List Nat) (V : World), Marks B V L →
    (∀ w', Below B V w' → (results fn tmps).run P w' = .ok v w') → (∀ w', Below B V w' → R (.returned v) w') → LeavesInM F n P fn tmps R (L.map mkD) .returning V
  | [], V, _, hr, hR => ⟨_, hr V (Below.refl _ _), hR V (Below.refl _ _)⟩
  | D :: L, V, hm, hr, hR => by
    have hK := hm.blk D (by simp)
    have hb : Below B V (V.putObj D (.deferred none)) := ⟨rfl, rfl, rfl, by simp, fun k hk => World.putObj_heap_other (by have := hm.lo D (by simp); omega)⟩
    refine ⟨by simp, .inl ⟨D, _, rfl, run_takeDeferred hK, ?_⟩⟩
    refine leaves_marks L _ ⟨(List.nodup_cons.1 hm.nd).2, fun x hx => hm.lo x (by simp [hx]), fun x hx => ?_⟩ (fun w' h => hr w' (hb.trans h)) (fun w' h => hR w' (hb.trans h))
    exact (World.putObj_heap_other (by rintro rfl; exact (List.nodup_cons.1 hm.nd).1 hx)).trans (hm.blk x (by simp [hx]))

/-! ### the arcs -/
def Ar.cells (x : Ar) : List Value := [.int .i64 x.ix, .bool x.bk, .int .i64 x.a, .int .i64 x.b, .int .i64 x.w]
def aC (xs : List Ar) : List Value := xs.flatMap Ar.cells
def arcV (vs : List Dm) (ax : Int) (j : Nat) : Ar :=
  let i := arcI (onA vs ax vs.length) j
  if j % 2 = 0 then ⟨i, false, pF vs ax i, pT vs ax i, (dAt vs i).h⟩ else ⟨i, true, pT vs ax i, pF vs ax i, -(dAt vs i).l⟩
theorem arcEnc_is (vs : List Dm) (ax : Int) (j : Nat) : arcEnc vs ax j = .agg (arcV vs ax j).cells.toArray := by
  unfold arcEnc arcV
  dsimp only
  split <;> rfl
/-- All arcs of a list along an axis. -/
def arX (vs : List Dm) (ax : Int) : List Ar := (List.range (2 * (onA vs ax vs.length).length)).map (arcV vs ax)
theorem arX_len (vs : List Dm) (ax : Int) : (arX vs ax).length = 2 * (onA vs ax vs.length).length := by simp [arX]
theorem arX_mem {vs : List Dm} {ax : Int} {x : Ar} : x ∈ arX vs ax ↔ ∃ i, onD vs ax i ∧ (x = ⟨i, false, pF vs ax i, pT vs ax i, (dAt vs i).h⟩ ∨ x = ⟨i, true, pT vs ax i, pF vs ax i, -(dAt vs i).l⟩) := by
  unfold arX
  rw [List.mem_map]
  constructor
  · rintro ⟨j, hj, rfl⟩
    have hj' := List.mem_range.1 hj
    have hm : nAt (onA vs ax vs.length) (j / 2) ∈ onA vs ax vs.length := by rw [nAt_lt (by omega)]; exact List.getElem_mem _
    refine ⟨_, onD_iff.2 hm, ?_⟩
    unfold arcV arcI
    dsimp only
    split
    · exact .inl rfl
    · exact .inr rfl
  · rintro ⟨i, hi, h⟩
    obtain ⟨m, hm, e⟩ := List.getElem_of_mem (onD_iff.1 hi)
    have e' : nAt (onA vs ax vs.length) m = i := by rw [nAt_lt hm]; exact e
    rcases h with rfl | rfl
    · refine ⟨2 * m, List.mem_range.2 (by omega), ?_⟩
      unfold arcV arcI
      dsimp only
      rw [if_pos (by omega), show 2 * m / 2 = m from by omega, e']
    · refine ⟨2 * m + 1, List.mem_range.2 (by omega), ?_⟩
      unfold arcV arcI
      dsimp only
      rw [if_neg (by omega), show (2 * m + 1) / 2 = m from by omega, e']
theorem arX_within (vs : List Dm) (ax : Int) : Within (nmG vs ax).length (arX vs ax) := fun x hx => by
  obtain ⟨i, hi, rfl | rfl⟩ := arX_mem.1 hx
  · exact onD_pos hi
  · exact ⟨(onD_pos hi).2, (onD_pos hi).1⟩
theorem arX_both (vs : List Dm) (ax : Int) : Both (arX vs ax) := fun x hx => by
  obtain ⟨i, hi, rfl | rfl⟩ := arX_mem.1 hx
  · exact ⟨_, arX_mem.2 ⟨i, hi, .inr rfl⟩, rfl, rfl⟩
  · exact ⟨_, arX_mem.2 ⟨i, hi, .inl rfl⟩, rfl, rfl⟩
theorem aC_length (xs : List Ar) : (aC xs).length = xs.length * 5 := by
  induction xs with
  | nil => rfl
  | cons b bs ih => show (b.cells ++ aC bs).length = _; rw [List.length_append, ih]; simp [Ar.cells]; omega
def aAt (xs : List Ar) (i : Nat) : Ar := xs.getD i Ar.zero
theorem aC_get (xs : List Ar) : ∀ (i : Nat), i < xs.length → (aC xs)[i * 5]? = some (.int .i64 (aAt xs i).ix) ∧ (aC xs)[i * 5 + 1]? = some (.bool (aAt xs i).bk) ∧ (aC xs)[i * 5 + 2]? = some (.int .i64 (aAt xs i).a) ∧ (aC xs)[i * 5 + 3]? = some (.int .i64 (aAt xs i).b) ∧ (aC xs)[i * 5 + 4]? = some (.int .i64 (aAt xs i).w) := by
  induction xs with
  | nil => intro i hi; exact absurd hi (by simp)
  | cons b bs ih =>
    intro i hi
    cases i with
    | zero => exact ⟨rfl, rfl, rfl, rfl, rfl⟩
    | succ i =>
      have h := ih i (by simpa using hi)
      rw [show (i + 1) * 5 = i * 5 + 5 from by omega]
      exact h
theorem aC_set (xs : List Ar) : ∀ (i : Nat) (x : Ar), i < xs.length → (((((aC xs).set (i * 5) (.int .i64 x.ix)).set (i * 5 + 1) (.bool x.bk)).set (i * 5 + 2) (.int .i64 x.a)).set (i * 5 + 3) (.int .i64 x.b)).set (i * 5 + 4) (.int .i64 x.w) = aC (xs.set i x) := by
  induction xs with
  | nil => intro i x hi; exact absurd hi (by simp)
  | cons b bs ih =>
    intro i x hi
    cases i with
    | zero => rfl
    | succ i =>
      have h := ih i x (by simpa using hi)
      rw [show (i + 1) * 5 = i * 5 + 5 from by omega]
      show b.cells ++ _ = b.cells ++ aC (bs.set i x)
      rw [← h]; rfl
theorem I64s_set (l : List Int) (i : Nat) (x : Int) : (I64s l).set i (.int .i64 x) = I64s (l.set i x) := by simp [I64s, List.map_set]
def boC (l : List Bool) : List Value := l.map Value.bool
theorem boC_length (l : List Bool) : (boC l).length = l.length := by simp [boC]

/-! ### the ways in memory -/
/-- How many values are farther than so. -/
def Fb (s : Bf) (B : Nat) : Prop := ∀ v, -(B : Int) ≤ s.f v ∧ s.f v ≤ B
def Near (A : List Ar) : Prop := ∀ x ∈ A, -100000 ≤ x.w ∧ x.w ≤ 100000
structure WyAt (W : World) (b7 b8 gf gb gs sc n : Nat) (s : Bf) : Prop where
  ok : s.Ok n
  box : W.heap[b7]? = some (.cells #[.slice (some ⟨gf, 0, none⟩) n n, .slice (some ⟨gb, 0, none⟩) n n, .slice (some ⟨gs, 0, none⟩) n sc] 87 (0, 0))
  last : W.heap[b8]? = some (.cells #[.int .i64 s.last] 3 (0, 0))
  far : W.heap[gf]? = some (.cells (I64s s.far).toArray 3 (0, 0))
  by_ : W.heap[gb]? = some (.cells (aC s.by_).toArray 113 (0, 0))
  seen : ∃ cur : Array Value, W.heap[gs]? = some (.cells cur 4 (0, 0)) ∧ n ≤ cur.size ∧ ∀ j, j < n → cur[j]? = some (.bool (s.s j))
section
variable {W W' : World} {b7 b8 gf gb gs sc n : Nat} {s : Bf}
theorem WyAt.keep (h : WyAt W b7 b8 gf gb gs sc n s) (hk : ∀ k, k = b7 ∨ k = b8 ∨ k = gf ∨ k = gb ∨ k = gs → W'.heap[k]? = W.heap[k]?) : WyAt W' b7 b8 gf gb gs sc n s :=
  ⟨h.ok, (hk _ (.inl rfl)).trans h.box, (hk _ (.inr (.inl rfl))).trans h.last, (hk _ (.inr (.inr (.inl rfl)))).trans h.far, (hk _ (.inr (.inr (.inr (.inl rfl))))).trans h.by_,
    by obtain ⟨cur, h1, h2⟩ := h.seen; exact ⟨cur, (hk _ (.inr (.inr (.inr (.inr rfl))))).trans h1, h2⟩⟩
theorem WyAt.lt (h : WyAt W b7 b8 gf gb gs sc n s) : b7 < W.heap.size ∧ b8 < W.heap.size ∧ gf < W.heap.size ∧ gb < W.heap.size ∧ gs < W.heap.size :=
  ⟨lt_of_block h.box, lt_of_block h.last, lt_of_block h.far, lt_of_block h.by_, by obtain ⟨cur, h1, _⟩ := h.seen; exact lt_of_block h1⟩
theorem WyAt.below (h : WyAt W b7 b8 gf gb gs sc n s) (hb : Below W.heap.size W W') : WyAt W' b7 b8 gf gb gs sc n s := by
  obtain ⟨h1, h2, h3, h4, h5⟩ := h.lt
  exact h.keep fun k hk => hb.block k (by omega)
theorem WyAt.cFar (h : WyAt W b7 b8 gf gb gs sc n s) {v : Nat} (hv : v < n) : W.cell? ⟨gf, v, none⟩ = some (.int .i64 (s.f v)) := by
  refine cell_of h.far ?_
  have hl : v < s.far.length := by rw [h.ok.far]; exact hv
  have : (I64s s.far)[v]? = some (.int .i64 (s.f v)) := by
    unfold I64s Bf.f
    rw [List.getElem?_map, List.getElem?_eq_getElem hl, List.getD_eq_getElem?_getD, List.getElem?_eq_getElem hl]; rfl
  simpa using this
theorem WyAt.cSeen (h : WyAt W b7 b8 gf gb gs sc n s) {v : Nat} (hv : v < n) : W.cell? ⟨gs, v, none⟩ = some (.bool (s.s v)) := by
  obtain ⟨cur, h1, _, h3⟩ := h.seen
  exact cell_of h1 (h3 v hv)
theorem WyAt.cBy (h : WyAt W b7 b8 gf gb gs sc n s) {v : Nat} (hv : v < n) : W.cell? ⟨gb, v * 5, none⟩ = some (.int .i64 (s.y v).ix) ∧ W.cell? ⟨gb, v * 5 + 1, none⟩ = some (.bool (s.y v).bk) ∧ W.cell? ⟨gb, v * 5 + 2, none⟩ = some (.int .i64 (s.y v).a) ∧ W.cell? ⟨gb, v * 5 + 3, none⟩ = some (.int .i64 (s.y v).b) ∧ W.cell? ⟨gb, v * 5 + 4, none⟩ = some (.int .i64 (s.y v).w) := by
  obtain ⟨h1, h2, h3, h4, h5⟩ := aC_get s.by_ v (by rw [h.ok.by_]; exact hv)
  have e : aAt s.by_ v = s.y v := rfl
  rw [e] at h1 h2 h3 h4 h5
  exact ⟨cell_of h.by_ (by simpa using h1), cell_of h.by_ (by simpa using h2), cell_of h.by_ (by simpa using h3), cell_of h.by_ (by simpa using h4), cell_of h.by_ (by simpa using h5)⟩
theorem WyAt.setLast (h : WyAt W b7 b8 gf gb gs sc n s) (hne : b8 ≠ b7 ∧ b8 ≠ gf ∧ b8 ≠ gb ∧ b8 ≠ gs) (x : Int) : WyAt (W.setCell ⟨b8, 0, none⟩ (.int .i64 x)) b7 b8 gf gb gs sc n { s with last := x } := by
  obtain ⟨h1, h2, h3, h4⟩ := hne
  have hk : ∀ k, k ≠ b8 → (W.setCell ⟨b8, 0, none⟩ (.int .i64 x)).heap[k]? = W.heap[k]? := fun k hk => Below.heap_setCell _ _ _ _ hk
  obtain ⟨cur, c1, c2⟩ := h.seen
  exact ⟨⟨h.ok.far, h.ok.seen, h.ok.by_⟩, (hk _ h1.symm).trans h.box, heap_setCell_same W b8 0 _ _ _ h.last, (hk _ h2.symm).trans h.far, (hk _ h3.symm).trans h.by_, cur, (hk _ h4.symm).trans c1, c2⟩
/-- All stores of an update. -/
theorem WyAt.put (h : WyAt W b7 b8 gf gb gs sc n s) (hne : b7 ≠ b8 ∧ b7 ≠ gf ∧ b7 ≠ gb ∧ b7 ≠ gs ∧ b8 ≠ gf ∧ b8 ≠ gb ∧ b8 ≠ gs ∧ gf ≠ gb ∧ gf ≠ gs ∧ gb ≠ gs) {x : Ar} (hx : x.b < n) :
    WyAt (((((((((W.setCell ⟨gs, x.b, none⟩ (.bool true)).setCell ⟨gf, x.b, none⟩ (.int .i64 (s.f x.a + x.w))).setCell ⟨gb, x.b * 5, none⟩ (.int .i64 x.ix)).setCell ⟨gb, x.b * 5 + 1, none⟩ (.bool x.bk)).setCell ⟨gb, x.b * 5 + 2, none⟩ (.int .i64 x.a)).setCell ⟨gb, x.b * 5 + 3, none⟩ (.int .i64 x.b)).setCell ⟨gb, x.b * 5 + 4, none⟩ (.int .i64 x.w)).setCell ⟨b8, 0, none⟩ (.int .i64 x.b)))
      b7 b8 gf gb gs sc n (s.put x) := by
  obtain ⟨n1, n2, n3, n4, n5, n6, n7, n8, n9, n10⟩ := hne
  obtain ⟨cur, c1, c2, c3⟩ := h.seen
  have hso : (s.put x).Ok n := ⟨by simp [Bf.put, h.ok.far], by simp [Bf.put, h.ok.seen], by simp [Bf.put, h.ok.by_]⟩
  have hk : ∀ (w : World) (p : Addr) (u : Value) (k : Nat), k ≠ p.block → (w.setCell p u).heap[k]? = w.heap[k]? := fun w p u k hk => Below.heap_setCell w p u k hk
  refine ⟨hso, ?_, ?_, ?_, ?_, ?_⟩
  · rw [hk _ _ _ _ n1, hk _ _ _ _ n3, hk _ _ _ _ n3, hk _ _ _ _ n3, hk _ _ _ _ n3, hk _ _ _ _ n3, hk _ _ _ _ n2, hk _ _ _ _ n4]; exact h.box
  · refine heap_setCell_same _ b8 0 #[.int .i64 s.last] _ _ ?_
    rw [hk _ _ _ _ n6, hk _ _ _ _ n6, hk _ _ _ _ n6, hk _ _ _ _ n6, hk _ _ _ _ n6, hk _ _ _ _ n5, hk _ _ _ _ n7]; exact h.last
  · rw [hk _ _ _ _ n5.symm, hk _ _ _ _ n8, hk _ _ _ _ n8, hk _ _ _ _ n8, hk _ _ _ _ n8, hk _ _ _ _ n8]
    have := heap_setCell_same (W.setCell ⟨gs, x.b, none⟩ (.bool true)) gf x.b (I64s s.far).toArray _ (.int .i64 (s.f x.a + x.w)) (by rw [hk _ _ _ _ n9]; exact h.far)
    rw [this, List.setIfInBounds_toArray, I64s_set]; rfl
  · rw [hk _ _ _ _ n6.symm]
    have g0 : ((W.setCell ⟨gs, x.b, none⟩ (.bool true)).setCell ⟨gf, x.b, none⟩ (.int .i64 (s.f x.a + x.w))).heap[gb]? = some (.cells (aC s.by_).toArray 113 (0, 0)) := by rw [hk _ _ _ _ n8.symm, hk _ _ _ _ n10]; exact h.by_
    have g1 := heap_setCell_same _ gb (x.b * 5) _ _ (.int .i64 x.ix) g0
    have g2 := heap_setCell_same _ gb (x.b * 5 + 1) _ _ (.bool x.bk) g1
    have g3 := heap_setCell_same _ gb (x.b * 5 + 2) _ _ (.int .i64 x.a) g2
    have g4 := heap_setCell_same _ gb (x.b * 5 + 3) _ _ (.int .i64 x.b) g3
    have g5 := heap_setCell_same _ gb (x.b * 5 + 4) _ _ (.int .i64 x.w) g4
    rw [g5]
    simp only [List.setIfInBounds_toArray]
    rw [aC_set _ _ _ (by rw [h.ok.by_]; exact hx)]; rfl
  · refine ⟨cur.setIfInBounds x.b (.bool true), ?_, by simpa using c2, fun j hj => ?_⟩
    · rw [hk _ _ _ _ n7.symm, hk _ _ _ _ n10.symm, hk _ _ _ _ n10.symm, hk _ _ _ _ n10.symm, hk _ _ _ _ n10.symm, hk _ _ _ _ n10.symm, hk _ _ _ _ n9.symm]
      exact heap_setCell_same _ gs x.b _ _ _ c1
    · rw [Bf.put_s h.ok hx, Array.getElem?_setIfInBounds]
      by_cases e : x.b = j
      · subst e; rw [if_pos rfl, if_pos (by omega), if_pos rfl]
      · rw [if_neg e, if_neg (fun e2 => e e2.symm)]; exact c3 j hj
end
theorem Fb.rel {s : Bf} {n B : Nat} (h : Fb s B) (hO : s.Ok n) {x : Ar} (hb : x.b < n) (hx : -100000 ≤ x.w ∧ x.w ≤ 100000) : Fb (s.rel x) (B + 100000) := by
  unfold Bf.rel
  split
  · intro v
    rw [Bf.put_f hO hb]
    have h1 := h v
    have h2 := h x.a
    split <;> omega
  · intro v; have := h v; omega
theorem Fb.fold {n : Nat} {A : List Ar} (hA : Within n A) (hN : Near A) : ∀ (L : List Ar) (s : Bf) (B : Nat), Fb s B → s.Ok n → (∀ x ∈ L, x ∈ A) → Fb (L.foldl Bf.rel s) (B + 100000 * L.length)
  | [], s, B, h, _, _ => h
  | x :: L, s, B, h, hO, hs => by
    have hx := hs x (by simp)
    have h1 := h.rel hO (hA x hx).2 (hN x hx)
    have h2 := Fb.fold hA hN L (s.rel x) _ h1 (hO.rel x) (fun y hy => hs y (by simp [hy]))
    rw [show B + 100000 * (x :: L).length = B + 100000 + 100000 * L.length from by simp [List.length_cons]; omega]
    exact h2
theorem Fb.mono {s : Bf} {B B' : Nat} (h : Fb s B) (hB : B ≤ B') : Fb s B' := fun v => by have := h v; omega
end Go.Proofs.Ytgngllgknimgkaa
namespace Go.Proofs.Ytgngllgknimgkaa
open Go.RowKit Go.Maps

section
variable {P : Program} {md : Region.Mode} {ops : Array Oper} {Q : Exit → Act → World → Prop}
def unl (ops : Array Oper) (listed : Array Bool) : Nat := ((List.range ops.size).filter fun i => !(listed.getD i true)).length
theorem unl_set {listed : Array Bool} {i : Nat} (hi : i < ops.size) (h : listed.getD i true = false) : unl ops (listed.setIfInBounds i true) < unl ops listed := by
  unfold unl
  refine filter_lt (fun j _ hj => ?_) ⟨i, List.mem_range.2 hi, ?_, by rw [h]; rfl⟩
  · by_cases e : i = j
    · subst e; rw [h]; rfl
    · rw [getD_set_ne true e] at hj; exact hj
  · have hs : i < listed.size := by
      by_cases e : i < listed.size
      · exact e
      · simp [e] at h
    simp [hs]
/-- Operations wait for earlier ones alone. -/
def depsLow (ops : Array Oper) : Bool := (List.range ops.size).all fun j => match ops[j]? with | some o => o.after.all (fun e => decide (e.on < j)) | none => true
theorem all_listed {listed : Array Bool} (hd : depsLow ops = true) (hz : listed.size = ops.size) (hr : Region.ready md ops listed = []) : ∀ j, j < ops.size → listed.getD j false = true := by
  intro j
  induction j using Nat.strongRecOn with
  | ind j ih =>
    intro hj
    have ho : ops[j]? = some ops[j] := Array.getElem?_eq_getElem hj
    cases h : listed.getD j true with
    | true => simp [hz, hj] at h ⊢; exact h
    | false =>
      exfalso
      have : j ∈ Region.ready md ops listed := mem_ready.2 ⟨h, _, ho, fun e he _ => by
        unfold depsLow at hd
        rw [List.all_eq_true] at hd
        have h1 := hd j (List.mem_range.2 hj)
        rw [ho] at h1
        dsimp only at h1
        rw [Array.all_eq_true'] at h1
        have h2 := h1 e he
        have h3 : e.on < j := by simpa using h2
        exact ih e.on h3 (by omega)⟩
      rw [hr] at this; cases this
theorem wpAny_inv (Inv : Array Bool → Act → World → Prop)
    (hs : ∀ (listed : Array Bool) (a : Act) (w : World) (i : Nat) (o : Oper), Inv listed a w → ops[i]? = some o → i < ops.size → listed.getD i true = false → (∀ e ∈ o.after, Region.binds md e = true → listed.getD e.on false = true) →
      (∀ (j : Nat) (o' : Oper), ops[j]? = some o' → (∃ e ∈ o'.after, Region.binds md e = true ∧ e.on = i) → ¬ (listed.getD j false = true)) →
      ∀ K : Act → World → Prop, (∀ a' w', Inv (listed.setIfInBounds i true) a' w' → K a' w') → if Region.wanted o (yielded ops a.tmps) = true then o.wp P a w K Q else K (a.put o.dst undef) w)
    (hd : ∀ (listed : Array Bool) (a : Act) (w : World), Inv listed a w → Region.ready md ops listed = [] → Q .normal a w) :
    ∀ (fuel : Nat) (listed : Array Bool) (a : Act) (w : World), Inv listed a w → (∀ (j : Nat) (o' : Oper), ops[j]? = some o' → listed.getD j false = true → ∀ e ∈ o'.after, Region.binds md e = true → listed.getD e.on false = true) → unl ops listed ≤ fuel → wpAny P md ops Q fuel listed a w
  | 0, listed, a, w, h, _, hu => by
    have hr : Region.ready md ops listed = [] := by
      cases hq : Region.ready md ops listed with
      | nil => rfl
      | cons i rs =>
        exfalso
        have hi : i ∈ Region.ready md ops listed := by rw [hq]; simp
        obtain ⟨h1, o, h2, _⟩ := mem_ready.1 hi
        have hlt : i < ops.size := (Array.getElem?_eq_some_iff.1 h2).1
        have := unl_set hlt h1
        omega
    exact ⟨hr, hd listed a w h hr⟩
  | fuel + 1, listed, a, w, h, hcl, hu => by
    refine ⟨fun hr => hd listed a w h hr, fun i hi => ?_⟩
    obtain ⟨h1, o, h2, h3⟩ := mem_ready.1 hi
    have hlt : i < ops.size := (Array.getElem?_eq_some_iff.1 h2).1
    have hno : ¬ (listed.getD i false = true) := fun e => by
      by_cases hs : i < listed.size
      · simp [hs] at h1 e; rw [h1] at e; cases e
      · simp [hs] at e
    exact wpOp_step h2 (fun K hK => hs listed a w i o h h2 hlt h1 h3 (fun j o' hj ⟨e, he, hb, hon⟩ hl => hno (hon ▸ hcl j o' hj hl e he hb)) K (fun a' w' h4 => hK a' w' (wpAny_inv Inv hs hd fuel _ a' w' h4 (fun j o' hj hl e he hb => by
      by_cases hij : i = j
      · subst hij
        rw [h2] at hj; cases hj
        exact getD_set_true (h3 e he hb)
      · rw [getD_set_ne false hij] at hl
        exact getD_set_true (hcl j o' hj hl e he hb)) (by have := unl_set hlt h1; omega))))
theorem region_inv {id : Nat} {a : Act} {w : World} (hm : P.follows .mixedOrders = true) (Inv : Array Bool → Act → World → Prop) (h0 : Inv (Array.replicate ops.size false) a w.drew)
    (hs : ∀ (listed : Array Bool) (a : Act) (w : World) (i : Nat) (o : Oper), Inv listed a w → ops[i]? = some o → i < ops.size → listed.getD i true = false → (∀ e ∈ o.after, Region.binds .any e = true → listed.getD e.on false = true) →
      (∀ (j : Nat) (o' : Oper), ops[j]? = some o' → (∃ e ∈ o'.after, Region.binds .any e = true ∧ e.on = i) → ¬ (listed.getD j false = true)) →
      ∀ K : Act → World → Prop, (∀ a' w', Inv (listed.setIfInBounds i true) a' w' → K a' w') → if Region.wanted o (yielded ops a.tmps) = true then o.wp P a w K Q else K (a.put o.dst undef) w)
    (hd : ∀ (listed : Array Bool) (a : Act) (w : World), Inv listed a w → Region.ready .any ops listed = [] → Q .normal a w) : (Code.region id ops true).wp P Q a w :=
  wp_region_any hm (wpAny_inv Inv hs hd _ _ _ _ h0 (fun j o' _ hl => by
    simp [Array.getElem?_replicate] at hl
    split at hl <;> simp at hl) (by
    unfold unl
    refine Nat.le_trans (List.length_filter_le _ _) ?_
    rw [List.length_range]; exact Nat.le_refl _))
/-- What is known of operation j, if it has come up. -/
def Up (listed : Array Bool) (j : Nat) (p : Prop) : Prop := listed.getD j false = true → p
theorem Up.start {k j : Nat} {p : Prop} : Up (Array.replicate k false) j p := fun h => by
  simp [Array.getElem?_replicate] at h
  split at h <;> simp at h
theorem Up.set {listed : Array Bool} {i j : Nat} {p p' : Prop} (h : Up listed j p) (hp : p → p') (hi : i = j → p') : Up (listed.setIfInBounds i true) j p' := fun hl => by
  by_cases e : i = j
  · exact hi e
  · rw [getD_set_ne false e] at hl; exact hp (h hl)
end

/-! ### rows that relaxed makes -/
theorem make_arcs (n : Nat) (hn : n ≤ 512) (w : World) :
    (Instr.makeSlice 85 (.int .i64 (n : Int)) (.int .i64 (n : Int))).run Try.prog w = .ok (.slice (some ⟨w.heap.size, 0, none⟩) n n) (w.alloc (.cells (aC (List.replicate n Ar.zero)).toArray 113)) := by
  have hi : (Try.prog.info? 113).map (fun i => (i.zero, i.size, i.bytes)) = some (some (.agg #[.int .i64 0, .bool false, .int .i64 0, .int .i64 0, .int .i64 0]), 5, 40) := by kernel_rfl
  obtain ⟨i0, h1, h2, h3, h4⟩ := info_parts hi
  rw [run_make (P := Try.prog) w 85 113 i0 _ Try.underlying85 h1 h2 .i64 .i64 n n (by omega) (by omega) (by rw [h4]; omega) (by omega), h3]
  have : madeCells (Value.cells (.agg #[.int .i64 0, .bool false, .int .i64 0, .int .i64 0, .int .i64 0])) ((n : Int).toNat * 5) = (aC (List.replicate n Ar.zero)).toArray := by
    apply Array.toList_inj.1
    apply List.ext_getElem?
    intro i
    rw [Int.toNat_natCast]
    show _ = (aC (List.replicate n Ar.zero))[i]?
    have hl : (aC (List.replicate n Ar.zero)).length = n * 5 := by rw [aC_length]; simp
    by_cases h : i < n * 5
    · have hg := aC_get (List.replicate n Ar.zero) (i / 5) (by simp; omega)
      have hz : aAt (List.replicate n Ar.zero) (i / 5) = Ar.zero := by
        unfold aAt; rw [List.getD_eq_getElem?_getD, List.getElem?_replicate, if_pos (by omega)]; rfl
      rw [hz] at hg
      have e : (aC (List.replicate n Ar.zero))[i]? = (#[Value.int .i64 0, .bool false, .int .i64 0, .int .i64 0, .int .i64 0])[i % 5]? := by
        have h5 : i % 5 < 5 := Nat.mod_lt _ (by decide)
        have hi5 : i = i / 5 * 5 + i % 5 := by omega
        obtain ⟨g0, g1, g2, g3, g4⟩ := hg
        generalize i % 5 = r at *
        rw [hi5]
        have hr : r = 0 ∨ r = 1 ∨ r = 2 ∨ r = 3 ∨ r = 4 := by omega
        rcases hr with rfl | rfl | rfl | rfl | rfl
        · exact g0
        · exact g1
        · exact g2
        · exact g3
        · exact g4
      rw [e]
      unfold madeCells
      have h5 : i % 5 < 5 := Nat.mod_lt _ (by decide)
      have hc : Value.cells (.agg #[.int .i64 0, .bool false, .int .i64 0, .int .i64 0, .int .i64 0]) = #[.int .i64 0, .bool false, .int .i64 0, .int .i64 0, .int .i64 0] := rfl
      rw [hc]
      simp only [Array.toList_map, List.getElem?_map, Array.toList_range, List.getElem?_range h, Option.map_some]
      show some ((#[Value.int .i64 0, .bool false, .int .i64 0, .int .i64 0, .int .i64 0])[i % 5]!) = _
      generalize i % 5 = r at h5
      have hr : r = 0 ∨ r = 1 ∨ r = 2 ∨ r = 3 ∨ r = 4 := by omega
      rcases hr with rfl | rfl | rfl | rfl | rfl <;> rfl
    · rw [List.getElem?_eq_none (by rw [Array.length_toList, size_madeCells]; omega), List.getElem?_eq_none (by omega)]
  rw [this]; simp
theorem make_zeros (n : Nat) (hn : n ≤ 512) (w : World) :
    (Instr.makeSlice 63 (.int .i64 (n : Int)) (.int .i64 (n : Int))).run Try.prog w = .ok (.slice (some ⟨w.heap.size, 0, none⟩) n n) (w.alloc (.cells (I64s (List.replicate n 0)).toArray 3)) := by
  rw [make_row (P := Try.prog) (t := 63) Try.underlying63 Try.infoI22 rfl n (by omega) (by omega) w]
  have : reps n (Value.int .i64 0) = I64s (List.replicate n 0) := by simp [reps, I64s]
  rw [this]
theorem arBs_old {w : World} {Bl b : Nat} {da ao : Option Addr} {vs : List Dm} {is : List Nat} (h : b + 1 < w.heap.size) (hd : CellsAt w da (dI is)) (hl : CellsAt w ao (dC vs)) : ∀ k ∈ arBs Bl b da ao vs is, k = Bl ∨ k < w.heap.size := by
  intro x hx
  unfold arBs at hx
  rcases List.mem_append.1 hx with hx | hx
  · simp at hx
    rcases hx with rfl | rfl | rfl
    · exact .inl rfl
    · exact .inr h
    · exact .inr (by omega)
  · rcases List.mem_append.1 hx with hx | hx
    · by_cases e : is.length = 0
      · rw [if_pos e] at hx; cases hx
      · rw [if_neg e] at hx
        obtain ⟨b2, o, rfl, hb2, _⟩ := hd (by rw [dI_length]; omega)
        rw [List.mem_singleton.1 hx]; exact .inr hb2
    · by_cases e : vs.length = 0
      · rw [if_pos e] at hx; cases hx
      · rw [if_neg e] at hx
        obtain ⟨b2, o, rfl, hb2, _⟩ := hl (by rw [dC_length]; omega)
        rw [List.mem_singleton.1 hx]; exact .inr hb2
end Go.Proofs.Ytgngllgknimgkaa
namespace Go.Proofs.Ytgngllgknimgkaa
open Go.RowKit Go.Sort

instance : Inhabited Sp := ⟨Sp.zero⟩
theorem wpIn_appendT {F : Fence} {nf : Nat} {P : Program} {w : World} {ops : Array Oper} {rest : List Oper} {o : Oper} {a : Act} {Q : Exit → Act → World → Prop} (hgd : o.guard = none) (s x : Operand) (t : TypeId)
    (ho : o.op = .call { callee := .builtin .append, args := #[s, x], argTypes := #[t, t] })
    (base : Nat) (e : TypeId) {z : Value} {size bytes : Nat} (ht : P.underlying t = some (.slice e)) (hi : (P.info? e).map (fun i => (i.zero, i.size, i.bytes)) = some (some z, size, bytes))
    (hzs : z.cells.size = size) (hsz : 0 < size)
    (v : Value) (n : Nat) (xs : List Value) (hs : a.eval s = v) (hown : w.ownsRow base e size v n xs)
    (ad : Addr) (m c : Nat) (news : List Value) (hm : news.length = m * size) (hx : a.eval x = .slice (some ad) m c) (hc : CellsAt w (some ad) news) (h1 : ∀ u ∈ news, u.oneCell' = true)
    (hn : n + m ≤ 9223372036854775807) (hbytes : (n + m) * bytes ≤ 140737488355328) (hbase : base ≤ w.heap.size)
    (h : ∀ v' w', w'.ownsRow base e size v' (n + m) (xs ++ news) → w.grownBy w' v.ownBlock → (v' = .slice none 0 0 ↔ v = .slice none 0 0 ∧ m = 0) → wpListIn F nf P ops Q rest (a.put o.dst v') w') : wpListIn F nf P ops Q (o :: rest) a w := by
  obtain ⟨i0, q1, q2, q3, q4⟩ := info_parts hi
  refine wpListIn_append_own w hgd s x t ho base e i0 z size bytes ht q1 q2 q3 q4 hzs hsz v n xs hs hown ad m c news hx hm ?_ h1 (by unfold maxLen; omega) hbytes hbase h
  intro j u hj
  obtain ⟨hlt, _⟩ := List.getElem?_eq_some_iff.1 hj
  obtain ⟨b, o, e, _, _⟩ := hc (by omega)
  cases e
  have : (⟨b, o, none⟩ : Addr).add j = ⟨b, o + j, none⟩ := by unfold Addr.add; split <;> simp_all
  rw [this]; exact hc.get rfl hj
def rev_ren : Go.Shelf.Ren := ⟨fun | 35 => 50 | n => n, fun | 0 => 0 | 3 => 3 | 4 => 4 | 22 => 67 | 23 => 111 | n => n, fun | n => n⟩
theorem rev_lays : Go.Proofs.SlLaysE0.n35 Try.prog rev_ren := {
  mixed := by kernel_rfl
  f35 := ⟨Try.f50.name, by decide, Try.func50.trans (congrArg some (by kernel_rfl))⟩
  t0 := Try.underlying0
  a0 := Try.isAgg0
  z0 := Try.sizeOf0
  v0 := Try.zeroValue0
  t3 := Try.underlying3
  a3 := Try.isAgg3
  z3 := Try.sizeOf3
  v3 := Try.zeroValue3
  t4 := Try.underlying4
  a4 := Try.isAgg4
  z4 := Try.sizeOf4
  v4 := Try.zeroValue4
  t22 := Try.underlying67
  a22 := Try.isAgg67
  z22 := Try.sizeOf67
  v22 := Try.zeroValue67 }
theorem flat_sp (ls : List Sp) : (flatK Sp.cells 2 ls.toArray).toList = pC ls := by
  apply List.ext_getElem?
  intro t
  by_cases h : t < ls.length * 2
  · have hs : t < (flatK Sp.cells 2 ls.toArray).size := by simpa using h
    have h1 := get_flatK Sp.cells 2 ls.toArray t (by simpa using h)
    rw [getElem!_pos _ t hs] at h1
    have h2 : (flatK Sp.cells 2 ls.toArray).toList[t]? = some ((Sp.cells ls.toArray[t / 2]!)[t % 2]!) := by
      rw [Array.getElem?_toList, Array.getElem?_eq_getElem hs, h1]
    rw [h2]
    have h3 : ls.toArray[t / 2]! = pAt ls (t / 2) := by
      have hl : t / 2 < ls.length := by omega
      rw [pAt_lt hl]; simp [hl]
    rw [h3]
    obtain ⟨g0, g1⟩ := pC_get ls (t / 2) (by omega)
    have ht : t = t / 2 * 2 + t % 2 := by omega
    have hr : t % 2 = 0 ∨ t % 2 = 1 := by omega
    rcases hr with hr | hr
    · rw [hr] at ht ⊢
      rw [ht]
      simp only [Nat.add_zero] at *
      rw [show t / 2 * 2 / 2 = t / 2 from by omega, g0]; rfl
    · rw [hr] at ht ⊢
      rw [ht]
      rw [show (t / 2 * 2 + 1) / 2 = t / 2 from by omega, g1]; rfl
  · rw [List.getElem?_eq_none (by simp; omega), List.getElem?_eq_none (by rw [pC_length]; omega)]
theorem pC_one (ls : List Sp) : ∀ u ∈ pC ls, u.oneCell' = true := by
  intro u hu
  obtain ⟨x, _, hx⟩ := List.mem_flatMap.1 hu
  simp [Sp.cells] at hx
  rcases hx with rfl | rfl <;> rfl
theorem revS_any (base : Nat) (ls : List Sp) (v : Value) (w : World) (R : Ending → World → Prop) (hl : ls.length ≤ 1000000) (h0 : 0 < ls.length) (ho : w.ownsRow base 111 2 v ls.length (pC ls))
   (hR : ∀ w', w.grownBy w' v.ownBlock → w'.ownsRow base 111 2 v ls.length (pC ls.reverse) → R (.returned (.tuple #[])) w') :
    Calls Try.prog 50 #[v] w R := by
  have HR := Lib.hid hR
  clear hR
  rcases ho.2 with ⟨rfl, hz⟩ | ⟨g, cap, cur, rfl, hb, hgg, h1, h2, h3, h4⟩
  · omega
  · have hH : HoldsK Sp.cells 2 w g 0 ls.toArray := by
      intro j hj
      have hj' : j < ls.length * 2 := by simpa using hj
      refine ⟨?_, frozen_of hgg _⟩
      have e : (pC ls)[j]? = some ((flatK Sp.cells 2 ls.toArray)[j]!) := by
        rw [← flat_sp, Array.getElem?_toList, Array.getElem?_eq_getElem hj, getElem!_pos _ j hj]
      rw [Nat.zero_add]
      refine cell_of hgg ?_
      rw [← h4, List.getElem?_take, if_pos hj'] at e
      simpa using e
    have hc := AnyQ.slices_Reverse rev_lays 2 (fun w => by kernel_rfl) (fun w => by kernel_rfl) Sp.cells (fun _ => rfl) (fun x u hu => by
      simp [Sp.cells] at hu
      rcases hu with rfl | rfl <;> rfl) g 0 cap ls.toArray w hH (by simp; omega)
    rw [List.size_toArray] at hc
    refine hc.mono ?_
    rintro e w' ⟨rfl, n, rfl⟩
    have hrev : ls.toArray.reverse = ls.reverse.toArray := by simp
    rw [hrev]
    have hF := flat_sp ls.reverse
    have hFs : (flatK Sp.cells 2 ls.reverse.toArray).size = ls.length * 2 := by simp
    unfold putRowK putRow
    obtain ⟨F, hFe⟩ : ∃ F, flatK Sp.cells 2 ls.reverse.toArray = F := ⟨_, rfl⟩
    rw [hFe] at hF hFs ⊢
    have hg : (mapBlock (Sort.ahead w n) g (putCells id 0 F)).heap[g]? = some (.cells (putCells id 0 F cur) 111 (0, 0)) := by
      have hgg' : (Sort.ahead w n).heap[g]? = some (.cells cur 111 (0, 0)) := hgg
      simp only [mapBlock, Array.getElem?_modify, hgg']
      rfl
    have hgr : w.grownBy (mapBlock (Sort.ahead w n) g (putCells id 0 F)) (some g) := by
      refine ⟨rfl, rfl, rfl, by simp [mapBlock, Sort.ahead], fun k hk hne => ?_⟩
      have : g ≠ k := fun e => hne (by rw [e])
      simp [mapBlock, Sort.ahead, Array.getElem?_modify, this]
    refine HR.out _ hgr ⟨by rw [pC_length, List.length_reverse], .inr ⟨g, cap, putCells id 0 F cur, rfl, hb, hg, h1, h2, by simpa [putCells] using h3, ?_⟩⟩
    apply List.ext_getElem?
    intro j
    rw [List.getElem?_take, ← hF]
    by_cases hj : j < ls.length * 2
    · rw [if_pos hj]
      have hjc : j < cur.size := by
        have := Nat.mul_le_mul_right 2 h1
        omega
      have hjF : j < F.size := by omega
      simp [putCells, hjc, hjF]
    · rw [if_neg hj, List.getElem?_eq_none (by simp [hFs]; omega)]
end Go.Proofs.Ytgngllgknimgkaa
