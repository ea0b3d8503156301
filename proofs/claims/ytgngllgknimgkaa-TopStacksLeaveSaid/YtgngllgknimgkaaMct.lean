/- Shortest ways in a list of arcs: walks, simple ways, rounds of relaxations. No program in sight. Loops that contradict: the arcs by which places were reached, followed back. No program in sight. The search of the reference for shortest ways; where no loop contradicts. No program in sight. The walk of Put of the reference. The walk of All of reference 22. Names of reference 22; its names are the graph's. -/
import Derived.Test.YtgngllgknimgkaaMce
import Derived.Deep.RegionHeld3
import Derived.Test.YtgngllgknimgkaaMci
namespace Go.Proofs.Ytgngllgknimgkaa

/-- A step between places: its number, whether it goes back, from where, to where, how far. -/
structure Ar where
  ix : Nat
  bk : Bool
  a : Nat
  b : Nat
  w : Int
def Ar.zero : Ar := ⟨0, false, 0, 0, 0⟩
/-- A walk: from, to, how many steps, how far. -/
inductive Wk (A : List Ar) : Nat → Nat → Nat → Int → Prop
  | nil (a : Nat) : Wk A a a 0 0
  | cons {x : Ar} (hx : x ∈ A) {b k : Nat} {c : Int} (h : Wk A x.b b k c) : Wk A x.a b (k + 1) (x.w + c)
theorem Wk.append {A : List Ar} {a b d k m : Nat} {c e : Int} (h : Wk A a b k c) (h2 : Wk A b d m e) : Wk A a d (k + m) (c + e) := by
  induction h with
  | nil a => rw [Nat.zero_add, Int.zero_add]; exact h2
  | cons hx h ih =>
    have := Wk.cons hx (ih h2)
    rw [show ∀ k : Nat, k + 1 + m = k + m + 1 from fun k => by omega, Int.add_assoc]
    exact this
theorem Wk.one {A : List Ar} {x : Ar} (hx : x ∈ A) : Wk A x.a x.b 1 x.w := by
  have := Wk.cons hx (Wk.nil x.b)
  rw [Int.add_zero] at this
  exact this
theorem Wk.snoc {A : List Ar} {a k : Nat} {c : Int} {x : Ar} (h : Wk A a x.a k c) (hx : x ∈ A) : Wk A a x.b (k + 1) (c + x.w) := h.append (Wk.one hx)
/-- No loop comes back below where it began. -/
def NoNeg (A : List Ar) : Prop := ∀ a k c, Wk A a a k c → 0 ≤ c
/-- A simple way: the places behind the first one; none comes twice. -/
inductive Sq (A : List Ar) : Nat → List Nat → Nat → Int → Prop
  | nil (a : Nat) : Sq A a [] a 0
  | cons {x : Ar} (hx : x ∈ A) {L : List Nat} {b : Nat} {c : Int} (h : Sq A x.b L b c) (hn : x.a ∉ x.b :: L) : Sq A x.a (x.b :: L) b (x.w + c)
theorem Sq.walk {A : List Ar} {a b : Nat} {L : List Nat} {c : Int} (h : Sq A a L b c) : Wk A a b L.length c := by
  induction h with
  | nil a => exact Wk.nil a
  | cons hx h hn ih => exact Wk.cons hx ih
theorem Sq.nodup {A : List Ar} {a b : Nat} {L : List Nat} {c : Int} (h : Sq A a L b c) : (a :: L).Nodup := by
  induction h with
  | nil a => simp
  | cons hx h hn ih => exact List.nodup_cons.2 ⟨hn, ih⟩
theorem Sq.last {A : List Ar} {a b : Nat} {L : List Nat} {c : Int} (h : Sq A a L b c) : b ∈ a :: L := by
  induction h with
  | nil a => simp
  | cons hx h hn ih => exact List.mem_cons_of_mem _ ih
/-- From a place of a simple way on. -/
theorem Sq.split {A : List Ar} {a b : Nat} {L : List Nat} {c : Int} (h : Sq A a L b c) : ∀ d, d ∈ a :: L → ∃ L2 c1 c2 k, Wk A a d k c1 ∧ Sq A d L2 b c2 ∧ c = c1 + c2 := by
  induction h with
  | nil a =>
    intro d hd
    obtain rfl : d = a := by simpa using hd
    exact ⟨[], 0, 0, 0, Wk.nil _, Sq.nil _, rfl⟩
  | cons hx h hn ih =>
    intro d hd
    rcases List.mem_cons.1 hd with rfl | hd
    · exact ⟨_, 0, _, 0, Wk.nil _, Sq.cons hx h hn, by rw [Int.zero_add]⟩
    · obtain ⟨L2, c1, c2, k, h1, h2, rfl⟩ := ih d hd
      exact ⟨L2, _, c2, _, Wk.cons hx h1, h2, by rw [Int.add_assoc]⟩
/-- Where no loop contradicts, a walk is no shorter than some simple way. -/
theorem Wk.simple {A : List Ar} (hN : NoNeg A) {a b k : Nat} {c : Int} (h : Wk A a b k c) : ∃ L c', Sq A a L b c' ∧ c' ≤ c := by
  induction h with
  | nil a => exact ⟨[], 0, Sq.nil a, Int.le_refl _⟩
  | @cons x hx b k c h ih =>
    obtain ⟨L, c', h1, h2⟩ := ih
    by_cases hm : x.a ∈ x.b :: L
    · obtain ⟨L2, c1, c2, m, h3, h4, rfl⟩ := h1.split _ hm
      have h5 := hN _ _ _ (Wk.cons hx h3)
      exact ⟨L2, c2, h4, by omega⟩
    · exact ⟨_, _, Sq.cons hx h1 hm, by omega⟩
theorem nodup_lt {n : Nat} : ∀ {l : List Nat}, l.Nodup → (∀ x ∈ l, x < n) → l.length ≤ n := by
  induction n with
  | zero =>
    intro l _ h
    cases l with
    | nil => simp
    | cons x l => exact absurd (h x (by simp)) (by omega)
  | succ n ih =>
    intro l hl h
    have h1 := ih (l := l.erase n) (hl.erase n) (fun x hx => by
      have h2 := h x (List.mem_of_mem_erase hx)
      have h3 : x ≠ n := fun e => by subst e; exact (List.Nodup.not_mem_erase hl) hx
      omega)
    have h4 := List.length_erase (a := n) (l := l)
    split at h4 <;> omega
/-- The places of the arcs. -/
def Within (n : Nat) (A : List Ar) : Prop := ∀ x ∈ A, x.a < n ∧ x.b < n
theorem Sq.short {A : List Ar} {n a b : Nat} {L : List Nat} {c : Int} (hA : Within n A) (ha : a < n) (h : Sq A a L b c) : L.length < n := by
  have h1 := h.nodup
  have h2 : ∀ x ∈ a :: L, x < n := by
    clear h1
    induction h with
    | nil a => intro x hx; obtain rfl : x = a := by simpa using hx
               exact ha
    | cons hx h hn ih =>
      intro y hy
      rcases List.mem_cons.1 hy with rfl | hy
      · exact ha
      · exact ih (hA _ hx).2 y hy
  have := nodup_lt h1 h2
  simp only [List.length_cons] at this
  omega

/-! ### relaxations -/
/-- How far each place is, whether it was seen, by which arc; the last place that changed. -/
structure Bf where
  far : List Int
  seen : List Bool
  by_ : List Ar
  last : Int
def Bf.f (s : Bf) (v : Nat) : Int := s.far.getD v 0
def Bf.s (s : Bf) (v : Nat) : Bool := s.seen.getD v false
/-- An arc is of use. -/
def Bf.hit (s : Bf) (x : Ar) : Bool := s.s x.a && !(s.s x.b && decide (s.f x.b ≤ s.f x.a + x.w))
def Bf.put (s : Bf) (x : Ar) : Bf := ⟨s.far.set x.b (s.f x.a + x.w), s.seen.set x.b true, s.by_.set x.b x, x.b⟩
def Bf.rel (s : Bf) (x : Ar) : Bf := if s.hit x = true then s.put x else s
def Bf.round (A : List Ar) (s : Bf) : Bf := A.foldl Bf.rel { s with last := -1 }
def Bf.run (A : List Ar) : Nat → Bf → Bf × Bool
  | 0, s => (s, false)
  | m + 1, s => if (s.round A).last < 0 then (s.round A, true) else Bf.run A m (s.round A)
structure Bf.Ok (n : Nat) (s : Bf) : Prop where
  far : s.far.length = n
  seen : s.seen.length = n
  by_ : s.by_.length = n
theorem Bf.Ok.rel {n : Nat} {s : Bf} (h : s.Ok n) (x : Ar) : (s.rel x).Ok n := by
  unfold Bf.rel
  split
  · exact ⟨by simp [Bf.put, h.far], by simp [Bf.put, h.seen], by simp [Bf.put, h.by_]⟩
  · exact h
theorem Bf.put_f {n : Nat} {s : Bf} (h : s.Ok n) {x : Ar} (hb : x.b < n) (v : Nat) : (s.put x).f v = if v = x.b then s.f x.a + x.w else s.f v := by
  unfold Bf.f Bf.put
  simp only [List.getD_eq_getElem?_getD, List.getElem?_set]
  by_cases e : x.b = v
  · subst e; rw [if_pos rfl, if_pos (by rw [h.far]; exact hb), if_pos rfl]; rfl
  · rw [if_neg e, if_neg (fun e2 => e e2.symm)]
theorem Bf.put_s {n : Nat} {s : Bf} (h : s.Ok n) {x : Ar} (hb : x.b < n) (v : Nat) : (s.put x).s v = if v = x.b then true else s.s v := by
  unfold Bf.s Bf.put
  simp only [List.getD_eq_getElem?_getD, List.getElem?_set]
  by_cases e : x.b = v
  · subst e; rw [if_pos rfl, if_pos (by rw [h.seen]; exact hb), if_pos rfl]; rfl
  · rw [if_neg e, if_neg (fun e2 => e e2.symm)]
/-- What was seen stays seen, and comes no farther. -/
def Bf.Le (s s' : Bf) : Prop := ∀ v, s.s v = true → s'.s v = true ∧ s'.f v ≤ s.f v
theorem Bf.Le.refl (s : Bf) : Bf.Le s s := fun _ h => ⟨h, Int.le_refl _⟩
theorem Bf.Le.trans {s t u : Bf} (h : Bf.Le s t) (h2 : Bf.Le t u) : Bf.Le s u := fun v hv => by
  obtain ⟨a, b⟩ := h v hv
  obtain ⟨c, d⟩ := h2 v a
  exact ⟨c, by omega⟩
theorem Bf.hit_iff {s : Bf} {x : Ar} : s.hit x = true ↔ s.s x.a = true ∧ (s.s x.b = true → s.f x.a + x.w < s.f x.b) := by
  unfold Bf.hit
  rw [Bool.and_eq_true, Bool.not_eq_true', Bool.and_eq_false_iff, decide_eq_false_iff_not]
  refine and_congr Iff.rfl ⟨fun h h2 => ?_, fun h => ?_⟩
  · rcases h with h | h
    · rw [h] at h2; cases h2
    · omega
  · cases e : s.s x.b with
    | false => exact .inl rfl
    | true => have := h e; exact .inr (by omega)
theorem Bf.rel_le {n : Nat} {s : Bf} (h : s.Ok n) {x : Ar} (hb : x.b < n) : Bf.Le s (s.rel x) := by
  unfold Bf.rel
  split
  · rename_i hh
    obtain ⟨_, h2⟩ := Bf.hit_iff.1 hh
    intro v hv
    rw [Bf.put_f h hb, Bf.put_s h hb]
    by_cases e : v = x.b
    · subst e; rw [if_pos rfl, if_pos rfl]; have := h2 hv; exact ⟨rfl, by omega⟩
    · rw [if_neg e, if_neg e]; exact ⟨hv, Int.le_refl _⟩
  · exact Bf.Le.refl s
/-- Behind an arc. -/
theorem Bf.rel_arc {n : Nat} {s : Bf} (h : s.Ok n) {x : Ar} (hb : x.b < n) (ha : s.s x.a = true) : (s.rel x).s x.b = true ∧ (s.rel x).f x.b ≤ s.f x.a + x.w := by
  unfold Bf.rel
  split
  · rw [Bf.put_f h hb, Bf.put_s h hb, if_pos rfl, if_pos rfl]; exact ⟨rfl, Int.le_refl _⟩
  · rename_i hh
    have h1 : ¬ (s.s x.b = true → s.f x.a + x.w < s.f x.b) := fun h2 => hh (Bf.hit_iff.2 ⟨ha, h2⟩)
    cases e : s.s x.b with
    | false => exact absurd (fun h2 => by rw [e] at h2; cases h2) h1
    | true => exact ⟨rfl, by have : ¬ (s.f x.a + x.w < s.f x.b) := fun h2 => h1 (fun _ => h2); omega⟩
theorem Bf.fold {n : Nat} : ∀ (A : List Ar) (s : Bf), s.Ok n → Within n A → (A.foldl Bf.rel s).Ok n ∧ Bf.Le s (A.foldl Bf.rel s) ∧ ∀ x ∈ A, s.s x.a = true → (A.foldl Bf.rel s).s x.b = true ∧ (A.foldl Bf.rel s).f x.b ≤ s.f x.a + x.w
  | [], s, h, _ => ⟨h, Bf.Le.refl s, fun x hx => absurd hx (by simp)⟩
  | y :: A, s, h, hA => by
    have hy := hA y (by simp)
    obtain ⟨h1, h2, h3⟩ := Bf.fold A (s.rel y) (h.rel y) (fun x hx => hA x (by simp [hx]))
    have h4 := Bf.rel_le h hy.2
    refine ⟨h1, h4.trans h2, fun x hx ha => ?_⟩
    rcases List.mem_cons.1 hx with rfl | hx
    · obtain ⟨h5, h6⟩ := Bf.rel_arc h hy.2 ha
      obtain ⟨h7, h8⟩ := h2 _ h5
      exact ⟨h7, by show (A.foldl Bf.rel (s.rel x)).f x.b ≤ _; omega⟩
    · obtain ⟨h5, h6⟩ := h4 _ ha
      obtain ⟨h7, h8⟩ := h3 x hx h5
      exact ⟨h7, by show (A.foldl Bf.rel (s.rel y)).f x.b ≤ _; omega⟩
/-- Each value is that of a walk. -/
def Bf.Real (A : List Ar) (S : Nat → Prop) (s : Bf) : Prop := ∀ v, s.s v = true → ∃ a k, S a ∧ Wk A a v k (s.f v)
theorem Bf.Real.fold {n : Nat} {A : List Ar} {S : Nat → Prop} : ∀ (B : List Ar) (s : Bf), s.Ok n → Within n B → (∀ x ∈ B, x ∈ A) → s.Real A S → (B.foldl Bf.rel s).Real A S
  | [], _, _, _, _, h => h
  | y :: B, s, hO, hB, hs, h => by
    refine Bf.Real.fold B (s.rel y) (hO.rel y) (fun x hx => hB x (by simp [hx])) (fun x hx => hs x (by simp [hx])) ?_
    unfold Bf.rel
    split
    · rename_i hh
      obtain ⟨ha, _⟩ := Bf.hit_iff.1 hh
      intro v hv
      rw [Bf.put_f hO (hB y (by simp)).2]
      by_cases e : v = y.b
      · subst e
        rw [if_pos rfl]
        obtain ⟨a, k, h1, h2⟩ := h _ ha
        exact ⟨a, _, h1, h2.snoc (hs y (by simp))⟩
      · rw [if_neg e]
        rw [Bf.put_s hO (hB y (by simp)).2, if_neg e] at hv
        exact h v hv
    · exact h
theorem Bf.last_stays : ∀ (A : List Ar) (s : Bf), 0 ≤ s.last → 0 ≤ (A.foldl Bf.rel s).last
  | [], _, h => h
  | y :: A, s, h => by
    refine Bf.last_stays A (s.rel y) ?_
    unfold Bf.rel
    split
    · show (0 : Int) ≤ (y.b : Int); omega
    · exact h
/-- A round without a change: no arc is of use. -/
theorem Bf.still : ∀ (A : List Ar) (s : Bf), (A.foldl Bf.rel s).last < 0 → A.foldl Bf.rel s = s ∧ ∀ x ∈ A, s.hit x = false
  | [], s, _ => ⟨rfl, fun x hx => absurd hx (by simp)⟩
  | y :: A, s, h => by
    cases hh : s.hit y with
    | true =>
      exfalso
      have e : s.rel y = s.put y := by unfold Bf.rel; rw [if_pos hh]
      have : 0 ≤ (A.foldl Bf.rel (s.rel y)).last := Bf.last_stays A _ (by rw [e]; show (0 : Int) ≤ (y.b : Int); omega)
      have h2 : (A.foldl Bf.rel (s.rel y)).last < 0 := h
      omega
    | false =>
      have e : s.rel y = s := by unfold Bf.rel; rw [if_neg (by rw [hh]; simp)]
      have h2 : (A.foldl Bf.rel s).last < 0 := by have h3 : (A.foldl Bf.rel (s.rel y)).last < 0 := h; rw [e] at h3; exact h3
      obtain ⟨h3, h4⟩ := Bf.still A s h2
      refine ⟨by show A.foldl Bf.rel (s.rel y) = s; rw [e]; exact h3, fun x hx => ?_⟩
      rcases List.mem_cons.1 hx with rfl | hx
      · exact hh
      · exact h4 x hx
theorem Bf.quiet : ∀ (A : List Ar) (s : Bf), (∀ x ∈ A, s.hit x = false) → A.foldl Bf.rel s = s
  | [], _, _ => rfl
  | y :: A, s, h => by
    have e : s.rel y = s := by unfold Bf.rel; rw [if_neg (by rw [h y (by simp)]; simp)]
    show A.foldl Bf.rel (s.rel y) = s
    rw [e]
    exact Bf.quiet A s fun x hx => h x (by simp [hx])
/-- No arc is of use: along each walk. -/
theorem Bf.closed {A : List Ar} {s : Bf} (h : ∀ x ∈ A, s.hit x = false) {a b k : Nat} {c : Int} (hw : Wk A a b k c) : s.s a = true → s.s b = true ∧ s.f b ≤ s.f a + c := by
  induction hw with
  | nil a => intro ha; exact ⟨ha, by omega⟩
  | @cons x hx b k c hw ih =>
    intro ha
    have h1 := h x hx
    have h2 : ¬ (s.s x.b = true → s.f x.a + x.w < s.f x.b) := fun h3 => by rw [Bf.hit_iff.2 ⟨ha, h3⟩] at h1; cases h1
    cases e : s.s x.b with
    | false => exact absurd (fun h3 => by rw [e] at h3; cases h3) h2
    | true =>
      have h4 : ¬ (s.f x.a + x.w < s.f x.b) := fun h3 => h2 fun _ => h3
      obtain ⟨h5, h6⟩ := ih e
      exact ⟨h5, by omega⟩
/-- All walks of at most r steps are known. -/
def Bf.Knows (A : List Ar) (S : Nat → Prop) (r : Nat) (s : Bf) : Prop := ∀ a b k c, S a → k ≤ r → Wk A a b k c → s.s b = true ∧ s.f b ≤ c
theorem Wk.zero {A : List Ar} {a b m : Nat} {c : Int} (h : Wk A a b m c) (hm : m = 0) : b = a ∧ c = 0 := by
  cases h with
  | nil => exact ⟨rfl, rfl⟩
  | cons hx h => cases hm
theorem Wk.split_last {A : List Ar} {a b k : Nat} {c : Int} (h : Wk A a b (k + 1) c) : ∃ x d, x ∈ A ∧ Wk A a x.a k d ∧ b = x.b ∧ c = d + x.w := by
  have key : ∀ {a b m : Nat} {c : Int}, Wk A a b m c → ∀ k, m = k + 1 → ∃ x d, x ∈ A ∧ Wk A a x.a k d ∧ b = x.b ∧ c = d + x.w := by
    intro a b m c h
    induction h with
    | nil a => intro k hk; cases hk
    | @cons x hx b m c h ih =>
      intro k hk
      obtain rfl : m = k := by omega
      cases m with
      | zero =>
        obtain ⟨h1, h2⟩ := Wk.zero h rfl
        subst h1 h2
        exact ⟨x, 0, hx, Wk.nil _, rfl, by omega⟩
      | succ m =>
        obtain ⟨y, d, h1, h2, h3, h4⟩ := ih m rfl
        exact ⟨y, x.w + d, h1, Wk.cons hx h2, h3, by omega⟩
  exact key h k rfl
theorem Bf.Knows.round {n : Nat} {A : List Ar} {S : Nat → Prop} {r : Nat} {s : Bf} (hO : s.Ok n) (hA : Within n A) (h : s.Knows A S r) : (s.round A).Knows A S (r + 1) := by
  have hO' : ({ s with last := -1 } : Bf).Ok n := ⟨hO.far, hO.seen, hO.by_⟩
  obtain ⟨_, h2, h3⟩ := Bf.fold A { s with last := -1 } hO' hA
  intro a b k c ha hk hw
  by_cases e : k ≤ r
  · exact (fun ⟨p, q⟩ => by obtain ⟨u, v⟩ := h2 b p; exact ⟨u, Int.le_trans v q⟩) (h a b k c ha e hw)
  · obtain rfl : k = r + 1 := by omega
    obtain ⟨x, d, hx, h4, rfl, rfl⟩ := hw.split_last
    obtain ⟨h5, h6⟩ := h a x.a r d ha (Nat.le_refl _) h4
    obtain ⟨h7, h8⟩ := h3 x hx h5
    exact ⟨h7, Int.le_trans h8 (by have : ({ s with last := -1 } : Bf).f x.a = s.f x.a := rfl; omega)⟩
theorem Bf.round_ok {n : Nat} {A : List Ar} {s : Bf} (hO : s.Ok n) (hA : Within n A) : (s.round A).Ok n := (Bf.fold A { s with last := -1 } ⟨hO.far, hO.seen, hO.by_⟩ hA).1
theorem Bf.round_real {n : Nat} {A : List Ar} {S : Nat → Prop} {s : Bf} (hO : s.Ok n) (hA : Within n A) (h : s.Real A S) : (s.round A).Real A S :=
  Bf.Real.fold A { s with last := -1 } ⟨hO.far, hO.seen, hO.by_⟩ hA (fun _ hx => hx) h
theorem Bf.round_le {n : Nat} {A : List Ar} {s : Bf} (hO : s.Ok n) (hA : Within n A) : Bf.Le s (s.round A) := (Bf.fold A { s with last := -1 } ⟨hO.far, hO.seen, hO.by_⟩ hA).2.1
/-- Where no loop contradicts, what is known of the walks of less than n steps is known of all. -/
theorem Bf.Knows.all {n : Nat} {A : List Ar} {S : Nat → Prop} {s : Bf} (hN : NoNeg A) (hA : Within n A) (hS : ∀ a, S a → a < n) (h : s.Knows A S (n - 1)) : ∀ a b k c, S a → Wk A a b k c → s.s b = true ∧ s.f b ≤ c := by
  intro a b k c ha hw
  obtain ⟨L, c', h1, h2⟩ := hw.simple hN
  have h3 := h1.short hA (hS a ha)
  obtain ⟨h4, h5⟩ := h a b _ c' ha (by omega) h1.walk
  exact ⟨h4, by omega⟩
/-- .. and then nothing changes any more. -/
theorem Bf.settled {n : Nat} {A : List Ar} {S : Nat → Prop} {s : Bf} (hN : NoNeg A) (hA : Within n A) (hS : ∀ a, S a → a < n) (hr : s.Real A S) (h : s.Knows A S (n - 1)) : ∀ x ∈ A, s.hit x = false := by
  intro x hx
  cases hh : s.hit x with
  | false => rfl
  | true =>
    exfalso
    obtain ⟨ha, h2⟩ := Bf.hit_iff.1 hh
    obtain ⟨a, k, h3, h4⟩ := hr _ ha
    obtain ⟨h5, h6⟩ := h.all hN hA hS a x.b _ _ h3 (h4.snoc hx)
    have := h2 h5
    omega
theorem Bf.run_ends {n : Nat} {A : List Ar} {S : Nat → Prop} (hN : NoNeg A) (hA : Within n A) (hS : ∀ a, S a → a < n) : ∀ (m r : Nat) (s : Bf), s.Ok n → s.Real A S → s.Knows A S r → n ≤ r + m → (Bf.run A (m + 1) s).2 = true
  | 0, r, s, _, hr, hk, hm => by
    have h1 : ∀ x ∈ A, s.hit x = false := Bf.settled hN hA hS hr (fun a b k c ha hkk hw => hk a b k c ha (by omega) hw)
    have h2 : s.round A = { s with last := -1 } := Bf.quiet A _ h1
    unfold Bf.run
    rw [h2, if_pos (show (-1 : Int) < 0 from by decide)]
  | m + 1, r, s, hO, hr, hk, hm => by
    unfold Bf.run
    split
    · rfl
    · exact Bf.run_ends hN hA hS m (r + 1) (s.round A) (Bf.round_ok hO hA) (Bf.round_real hO hA hr) (hk.round hO hA) (by omega)
theorem Bf.run_keeps {n : Nat} {A : List Ar} {S : Nat → Prop} (hA : Within n A) : ∀ (m : Nat) (s : Bf), s.Ok n → s.Real A S → (Bf.run A m s).1.Ok n ∧ (Bf.run A m s).1.Real A S ∧ Bf.Le s (Bf.run A m s).1
  | 0, s, hO, hr => ⟨hO, hr, Bf.Le.refl s⟩
  | m + 1, s, hO, hr => by
    have h1 := Bf.round_ok hO hA
    have h2 := Bf.round_real hO hA hr
    have h3 := Bf.round_le hO hA
    unfold Bf.run
    split
    · exact ⟨h1, h2, h3⟩
    · obtain ⟨a, b, c⟩ := Bf.run_keeps hA m (s.round A) h1 h2
      exact ⟨a, b, h3.trans c⟩
theorem Bf.run_closed {A : List Ar} : ∀ (m : Nat) (s : Bf), (Bf.run A m s).2 = true → ∀ x ∈ A, (Bf.run A m s).1.hit x = false
  | 0, s, h => by cases h
  | m + 1, s, h => by
    unfold Bf.run at h ⊢
    split
    · rename_i hl
      obtain ⟨h1, h2⟩ := Bf.still A { s with last := -1 } hl
      have e : s.round A = { s with last := -1 } := h1
      rw [e]; exact h2
    · rename_i hl
      rw [if_neg hl] at h
      exact Bf.run_closed m (s.round A) h
end Go.Proofs.Ytgngllgknimgkaa
namespace Go.Proofs.Ytgngllgknimgkaa

def Bf.y (s : Bf) (v : Nat) : Ar := s.by_.getD v Ar.zero
/-- The place before. -/
def Bf.p (s : Bf) (v : Nat) : Nat := (s.y v).a
theorem Bf.put_y {n : Nat} {s : Bf} (h : s.Ok n) {x : Ar} (hb : x.b < n) (v : Nat) : (s.put x).y v = if v = x.b then x else s.y v := by
  unfold Bf.y Bf.put
  simp only [List.getD_eq_getElem?_getD, List.getElem?_set]
  by_cases e : x.b = v
  · subst e; rw [if_pos rfl, if_pos (by rw [h.by_]; exact hb), if_pos rfl]; rfl
  · rw [if_neg e, if_neg (fun e2 => e e2.symm)]
/-- k places back. -/
def Bf.bk (s : Bf) : Nat → Nat → Nat
  | 0, v => v
  | k + 1, v => Bf.bk s k (s.p v)
theorem Bf.bk_add (s : Bf) : ∀ (k m v : Nat), s.bk (k + m) v = s.bk m (s.bk k v)
  | 0, m, v => by rw [Nat.zero_add]; rfl
  | k + 1, m, v => by
    rw [show k + 1 + m = (k + m) + 1 from by omega]
    exact Bf.bk_add s k m (s.p v)
theorem Bf.bk_succ (s : Bf) (k v : Nat) : s.bk (k + 1) v = s.p (s.bk k v) := by rw [Bf.bk_add]; rfl
/-- Not of use: the ways around an update of another place. -/
theorem Bf.hit_no {s : Bf} {x : Ar} : s.hit x = false ↔ (s.s x.a = true → s.s x.b = true ∧ s.f x.b ≤ s.f x.a + x.w) := by
  rw [← Bool.not_eq_true, Bf.hit_iff]
  constructor
  · intro h ha
    cases e : s.s x.b with
    | false => exact absurd ⟨ha, fun h2 => by rw [e] at h2; cases h2⟩ h
    | true => exact ⟨rfl, by have : ¬ (s.f x.a + x.w < s.f x.b) := fun h2 => h ⟨ha, fun _ => h2⟩; omega⟩
  · rintro h ⟨ha, h2⟩
    obtain ⟨h3, h4⟩ := h ha
    have := h2 h3
    omega
theorem Bf.no_put {n : Nat} {s : Bf} (hO : s.Ok n) {x y : Ar} (hy : y.b < n) (hh : s.hit y = true) (hx : s.hit x = false) (hne : x.a ≠ y.b) : (s.put y).hit x = false := by
  obtain ⟨h1, h2⟩ := Bf.hit_iff.1 hh
  rw [Bf.hit_no] at hx ⊢
  rw [Bf.put_s hO hy, Bf.put_s hO hy, Bf.put_f hO hy, Bf.put_f hO hy, if_neg hne, if_neg hne]
  intro ha
  obtain ⟨h3, h4⟩ := hx ha
  by_cases e : x.b = y.b
  · rw [if_pos e, if_pos e]
    rw [e] at h3 h4
    have := h2 h3
    exact ⟨rfl, by omega⟩
  · rw [if_neg e, if_neg e]; exact ⟨h3, h4⟩
theorem Bf.no_self {n : Nat} {s : Bf} (hO : s.Ok n) {y : Ar} (hy : y.b < n) (hne : y.a ≠ y.b) : (s.put y).hit y = false := by
  rw [Bf.hit_no, Bf.put_s hO hy, Bf.put_s hO hy, Bf.put_f hO hy, Bf.put_f hO hy, if_neg hne, if_neg hne, if_pos rfl, if_pos rfl]
  exact fun _ => ⟨rfl, Int.le_refl _⟩
/-- In round r (L: the last round in which a place changed). -/
structure Gh (A : List Ar) (n r : Nat) (dn : List Ar) (s : Bf) (L : Nat → Nat) : Prop where
  ok : s.Ok n
  old : ∀ x ∈ A, L x.a + 1 < r → s.hit x = false
  new : ∀ x ∈ dn, L x.a < r → s.hit x = false
  ptr : ∀ v, 0 < L v → v < n ∧ s.y v ∈ A ∧ (s.y v).b = v ∧ L v ≤ L (s.p v) + 1
  top : ∀ v, L v ≤ r
  last : 0 ≤ s.last → ∃ v : Nat, s.last = v ∧ v < n ∧ L v = r
theorem Gh.rel {A : List Ar} {n r : Nat} {dn : List Ar} {s : Bf} {L : Nat → Nat} (hA : Within n A) (h : Gh A n r dn s L) {y : Ar} (hy : y ∈ A) (_hr : 0 < r) : ∃ L', Gh A n r (dn ++ [y]) (s.rel y) L' := by
  have hyb := (hA y hy).2
  unfold Bf.rel
  cases hh : s.hit y with
  | false =>
    rw [if_neg (by simp)]
    refine ⟨L, h.ok, h.old, fun x hx hl => ?_, h.ptr, h.top, h.last⟩
    rcases List.mem_append.1 hx with hx | hx
    · exact h.new x hx hl
    · obtain rfl : x = y := by simpa using hx
      exact hh
  | true =>
    rw [if_pos rfl]
    have hL : r ≤ L y.a + 1 := by
      by_cases e : L y.a + 1 < r
      · rw [h.old y hy e] at hh; cases hh
      · omega
    refine ⟨fun v => if v = y.b then r else L v, ?_, ?_, ?_, ?_, ?_, ?_⟩
    · exact ⟨by simp [Bf.put, h.ok.far], by simp [Bf.put, h.ok.seen], by simp [Bf.put, h.ok.by_]⟩
    · intro x hx hl
      by_cases e : x.a = y.b
      · simp only [if_pos e] at hl; omega
      · simp only [if_neg e] at hl
        exact Bf.no_put h.ok hyb hh (h.old x hx hl) e
    · intro x hx hl
      by_cases e : x.a = y.b
      · simp only [if_pos e] at hl; omega
      · simp only [if_neg e] at hl
        rcases List.mem_append.1 hx with hx | hx
        · exact Bf.no_put h.ok hyb hh (h.new x hx hl) e
        · obtain rfl : x = y := by simpa using hx
          exact Bf.no_self h.ok hyb e
    · intro v hv
      have hp : (s.put y).p v = if v = y.b then y.a else s.p v := by unfold Bf.p; rw [Bf.put_y h.ok hyb]; split <;> rfl
      rw [hp, Bf.put_y h.ok hyb]
      by_cases e : v = y.b
      · subst e
        simp only [if_pos]
        refine ⟨hyb, hy, trivial, ?_⟩
        split <;> omega
      · simp only [if_neg e] at hv ⊢
        obtain ⟨h1, h2, h3, h4⟩ := h.ptr v hv
        refine ⟨h1, h2, h3, ?_⟩
        have := h.top v
        split <;> omega
    · intro v
      show (if v = y.b then r else L v) ≤ r
      have := h.top v
      split <;> omega
    · intro _
      exact ⟨y.b, rfl, hyb, by simp⟩
theorem Gh.fold {A : List Ar} {n r : Nat} (hA : Within n A) (hr : 0 < r) : ∀ (B dn : List Ar) (s : Bf) (L : Nat → Nat), Gh A n r dn s L → (∀ x ∈ B, x ∈ A) → ∃ L', Gh A n r (dn ++ B) (B.foldl Bf.rel s) L'
  | [], dn, s, L, h, _ => ⟨L, by simpa using h⟩
  | y :: B, dn, s, L, h, hs => by
    obtain ⟨L1, h1⟩ := h.rel hA (hs y (by simp)) hr
    obtain ⟨L2, h2⟩ := Gh.fold hA hr B (dn ++ [y]) _ L1 h1 (fun x hx => hs x (by simp [hx]))
    exact ⟨L2, by simpa using h2⟩
/-- Behind r rounds. -/
def Gq (A : List Ar) (n r : Nat) (s : Bf) : Prop := ∃ L, Gh A n (r + 1) [] { s with last := -1 } L ∧ (∀ v, L v ≤ r) ∧ (0 < r → 0 ≤ s.last → ∃ v : Nat, s.last = v ∧ v < n ∧ L v = r)
theorem Gq.round {A : List Ar} {n r : Nat} {s : Bf} (hA : Within n A) (h : Gq A n r s) : Gq A n (r + 1) (s.round A) := by
  obtain ⟨L, h1, h2, _⟩ := h
  obtain ⟨L', h4⟩ := Gh.fold hA (by omega) A [] _ L h1 (fun x hx => hx)
  rw [List.nil_append] at h4
  refine ⟨L', ⟨⟨h4.ok.far, h4.ok.seen, h4.ok.by_⟩, fun x hx hl => h4.new x hx (by omega), fun x hx => absurd hx (by simp), h4.ptr, fun v => by have := h4.top v; omega, fun h => absurd h (by show ¬ (0 : Int) ≤ -1; decide)⟩, h4.top, fun _ => h4.last⟩
theorem Gq.run {A : List Ar} {n : Nat} (hA : Within n A) : ∀ (m r : Nat) (s : Bf), Gq A n r s → (Bf.run A m s).2 = false → 0 < m → 0 ≤ (Bf.run A m s).1.last ∧ Gq A n (r + m) (Bf.run A m s).1
  | 0, r, s, _, _, h => absurd h (by omega)
  | m + 1, r, s, hq, h, _ => by
    unfold Bf.run at h ⊢
    split
    · rename_i hl
      rw [if_pos hl] at h; cases h
    · rename_i hl
      rw [if_neg hl] at h
      have h1 := hq.round hA
      by_cases hm : 0 < m
      · obtain ⟨h2, h3⟩ := Gq.run hA m (r + 1) _ h1 h hm
        exact ⟨h2, by rw [show r + (m + 1) = r + 1 + m from by omega]; exact h3⟩
      · obtain rfl : m = 0 := by omega
        exact ⟨by show 0 ≤ (s.round A).last; omega, h1⟩
theorem Gq.start {A : List Ar} {n : Nat} {s : Bf} (h : s.Ok n) : Gq A n 0 s :=
  ⟨fun _ => 0, ⟨⟨h.far, h.seen, h.by_⟩, fun x _ hl => absurd hl (by omega), fun x hx => absurd hx (by simp), fun v hv => absurd hv (by omega), fun v => by omega, fun h => absurd h (by show ¬ (0 : Int) ≤ -1; decide)⟩, fun v => Nat.le_refl _, fun h => absurd h (by omega)⟩
/-- What is wanted of a loop: back from v on, all places were reached by arcs. -/
structure Lp (A : List Ar) (n : Nat) (s : Bf) (v m : Nat) : Prop where
  ptr : ∀ k, s.bk k v < n ∧ s.y (s.bk k v) ∈ A ∧ (s.y (s.bk k v)).b = s.bk k v
  pos : 0 < m
  len : m ≤ n
  back : s.bk m v = v
  first : ∀ k, 0 < k → k < m → s.bk k v ≠ v
theorem pigeon {n : Nat} (g : Nat → Nat) (h : ∀ k, k ≤ n → g k < n) : ∃ i j, i < j ∧ j ≤ n ∧ g i = g j := by
  by_cases hd : ((List.range (n + 1)).map g).Nodup
  · have h1 := nodup_lt hd (n := n) (fun x hx => by
      obtain ⟨k, hk, rfl⟩ := List.mem_map.1 hx
      have := List.mem_range.1 hk
      exact h k (by omega))
    simp at h1
    omega
  · by_cases he : ∃ i j, i < j ∧ j ≤ n ∧ g i = g j
    · exact he
    · exfalso
      apply hd
      rw [List.nodup_iff_pairwise_ne, List.pairwise_map]
      rw [List.pairwise_iff_getElem]
      intro i j hi hj hij e
      simp at hi hj e
      exact he ⟨i, j, hij, by omega, e⟩
theorem least_pos (Q : Nat → Prop) [DecidablePred Q] : ∀ m, 0 < m → Q m → ∃ k, 0 < k ∧ k ≤ m ∧ Q k ∧ ∀ j, 0 < j → j < k → ¬ Q j := by
  intro m
  induction m using Nat.strongRecOn with
  | ind m ih =>
    intro hm hq
    by_cases h : ∃ j, 0 < j ∧ j < m ∧ Q j
    · obtain ⟨j, h1, h2, h3⟩ := h
      obtain ⟨k, h4, h5, h6, h7⟩ := ih j h2 h1 h3
      exact ⟨k, h4, by omega, h6, h7⟩
    · exact ⟨m, hm, Nat.le_refl _, hq, fun j h1 h2 h3 => h ⟨j, h1, h2, h3⟩⟩
/-- A run that does not end leaves a loop. -/
theorem Bf.loops {A : List Ar} {n : Nat} {s : Bf} (hA : Within n A) (h : s.Ok n) (hr : (Bf.run A (n + 1) s).2 = false) :
    ∃ v0 : Nat, (Bf.run A (n + 1) s).1.last = v0 ∧ (∀ k, k ≤ n → (Bf.run A (n + 1) s).1.bk k v0 < n) ∧ ∃ m, Lp A n (Bf.run A (n + 1) s).1 ((Bf.run A (n + 1) s).1.bk n v0) m := by
  obtain ⟨h1, L, hG, _, h3⟩ := Gq.run hA (n + 1) 0 s (Gq.start h) hr (by omega)
  rw [Nat.zero_add] at h3 hG
  obtain ⟨v0, hv, hvn, hL⟩ := h3 (by omega) h1
  obtain ⟨t, ht⟩ : ∃ t, (Bf.run A (n + 1) s).1 = t := ⟨_, rfl⟩
  rw [ht] at hv hG ⊢
  have hptr : ∀ v, 0 < L v → v < n ∧ t.y v ∈ A ∧ (t.y v).b = v ∧ L v ≤ L (t.p v) + 1 := hG.ptr
  have hk : ∀ k, k ≤ n → n + 1 ≤ L (t.bk k v0) + k := by
    intro k
    induction k with
    | zero => intro _; show n + 1 ≤ L v0 + 0; omega
    | succ k ih =>
      intro hkn
      have h4 := ih (by omega)
      obtain ⟨_, _, _, h5⟩ := hptr (t.bk k v0) (by omega)
      rw [Bf.bk_succ]; omega
  have hb : ∀ k, k ≤ n → t.bk k v0 < n := fun k h => (hptr _ (by have := hk k h; omega)).1
  refine ⟨v0, hv, hb, ?_⟩
  obtain ⟨i, j, hij, hjn, he⟩ := pigeon (fun k => t.bk k v0) hb
  have he' : t.bk i v0 = t.bk j v0 := he
  -- behind i the places come again
  have hper : ∀ k, i ≤ k → t.bk (k + (j - i)) v0 = t.bk k v0 := fun k hik => by
    rw [show k + (j - i) = j + (k - i) from by omega, Bf.bk_add, ← he', ← Bf.bk_add, show i + (k - i) = k from by omega]
  have hall : ∀ k, i ≤ k → ∃ k', k' ≤ n ∧ t.bk k v0 = t.bk k' v0 := by
    intro k
    induction k using Nat.strongRecOn with
    | ind k ih =>
      intro hik
      by_cases e : k ≤ n
      · exact ⟨k, e, rfl⟩
      · obtain ⟨k', h4, h5⟩ := ih (k - (j - i)) (by omega) (by omega)
        refine ⟨k', h4, ?_⟩
        rw [← h5]
        have := hper (k - (j - i)) (by omega)
        rw [← this]
        congr 1; omega
  have hbackn : t.bk (j - i) (t.bk n v0) = t.bk n v0 := by rw [← Bf.bk_add]; exact hper n (by omega)
  obtain ⟨m, hm1, hm2, hm3, hm4⟩ := least_pos (fun k => t.bk k (t.bk n v0) = t.bk n v0) (j - i) (by omega) hbackn
  refine ⟨m, fun k => ?_, hm1, by omega, hm3, hm4⟩
  rw [← Bf.bk_add]
  obtain ⟨k', h4, h5⟩ := hall (n + k) (by omega)
  rw [h5]
  obtain ⟨h6, h7, h8, _⟩ := hptr (t.bk k' v0) (by have := hk k' h4; omega)
  exact ⟨h6, h7, h8⟩

/-! ### such loops contradict -/
/-- k arcs back from v to u, and their sum. -/
def Bf.sm (s : Bf) : Nat → Nat → Int
  | 0, _ => 0
  | k + 1, v => (s.y v).w + Bf.sm s k (s.p v)
/-- The places' arcs are real, and no place is nearer than by its arc. -/
structure Dn (A : List Ar) (n : Nat) (s : Bf) (T : Nat → Bool) : Prop where
  ok : s.Ok n
  ptr : ∀ v, T v = true → v < n ∧ s.y v ∈ A ∧ (s.y v).b = v ∧ s.s v = true ∧ s.s (s.p v) = true ∧ s.f (s.p v) + (s.y v).w ≤ s.f v
  neg : ∀ v k, 0 < k → (∀ j, j < k → T (s.bk j v) = true) → s.bk k v = v → s.sm k v < 0
theorem Bf.sm_add (s : Bf) : ∀ (k m v : Nat), s.sm (k + m) v = s.sm k v + s.sm m (s.bk k v)
  | 0, m, v => by rw [Nat.zero_add, Bf.sm, Int.zero_add]; rfl
  | k + 1, m, v => by
    rw [show k + 1 + m = (k + m) + 1 from by omega, Bf.sm, Bf.sm, Bf.sm_add s k m (s.p v), Int.add_assoc]; rfl
theorem Dn.below {A : List Ar} {n : Nat} {s : Bf} {T : Nat → Bool} (h : Dn A n s T) : ∀ k v, (∀ j, j < k → T (s.bk j v) = true) → s.f (s.bk k v) + s.sm k v ≤ s.f v
  | 0, v, _ => by show s.f v + 0 ≤ _; omega
  | k + 1, v, hT => by
    have h1 := (h.ptr v (hT 0 (by omega))).2.2.2.2.2
    have h2 := Dn.below h k (s.p v) (fun j hj => hT (j + 1) (by omega))
    show s.f (s.bk k (s.p v)) + ((s.y v).w + s.sm k (s.p v)) ≤ _
    omega
theorem Dn.rel {A : List Ar} {n : Nat} {s : Bf} {T : Nat → Bool} (hA : Within n A) (hS : ∀ x ∈ A, x.a ≠ x.b) (h : Dn A n s T) {y : Ar} (hy : y ∈ A) (hh : s.hit y = true) : Dn A n (s.put y) (fun v => decide (v = y.b) || T v) := by
  have hyb := (hA y hy).2
  have hne := hS y hy
  obtain ⟨hsa, hsb⟩ := Bf.hit_iff.1 hh
  have py : ∀ v, (s.put y).y v = if v = y.b then y else s.y v := Bf.put_y h.ok hyb
  have pp : ∀ v, (s.put y).p v = if v = y.b then y.a else s.p v := fun v => by unfold Bf.p; rw [py]; split <;> rfl
  have pf : ∀ v, (s.put y).f v = if v = y.b then s.f y.a + y.w else s.f v := Bf.put_f h.ok hyb
  have ps : ∀ v, (s.put y).s v = if v = y.b then true else s.s v := Bf.put_s h.ok hyb
  have hle : ∀ v, s.s v = true → (s.put y).f v ≤ s.f v := fun v hv => by
    rw [pf]
    by_cases e : v = y.b
    · rw [if_pos e]; subst e; have := hsb hv; omega
    · rw [if_neg e]; exact Int.le_refl _
  have hse : ∀ v, s.s v = true → (s.put y).s v = true := fun v hv => by rw [ps]; split <;> first | rfl | exact hv
  have hptr : ∀ v, (decide (v = y.b) || T v) = true → v < n ∧ (s.put y).y v ∈ A ∧ ((s.put y).y v).b = v ∧ (s.put y).s v = true ∧ (s.put y).s ((s.put y).p v) = true ∧ (s.put y).f ((s.put y).p v) + ((s.put y).y v).w ≤ (s.put y).f v := by
    intro v hv
    rw [py, pp]
    by_cases e : v = y.b
    · subst e
      rw [if_pos rfl, if_pos rfl]
      refine ⟨hyb, hy, rfl, by rw [ps, if_pos rfl], hse _ hsa, ?_⟩
      rw [pf, pf, if_neg hne, if_pos rfl]; exact Int.le_refl _
    · rw [if_neg e, if_neg e]
      have hT : T v = true := by simpa [e] using hv
      obtain ⟨h1, h2, h3, h4, h5, h6⟩ := h.ptr v hT
      refine ⟨h1, h2, h3, hse _ h4, hse _ h5, ?_⟩
      have := hle _ h5
      rw [pf v, if_neg e]; omega
  have hw : ∀ v k, 0 < k → (∀ j, j < k → (decide ((s.put y).bk j v = y.b) || T ((s.put y).bk j v)) = true) → (s.put y).f ((s.put y).bk k v) + (s.put y).sm k v ≤ (s.put y).f v := by
    intro v k hk
    clear hk
    induction k generalizing v with
    | zero => intro _; show (s.put y).f v + 0 ≤ _; omega
    | succ k ih =>
      intro hT
      have h1 := (hptr v (hT 0 (by omega))).2.2.2.2.2
      have h2 := ih ((s.put y).p v) (fun j hj => hT (j + 1) (by omega))
      show (s.put y).f ((s.put y).bk k ((s.put y).p v)) + (((s.put y).y v).w + (s.put y).sm k ((s.put y).p v)) ≤ _
      omega
  -- a way back that comes to y.b: strictly
  have hst : ∀ k v, 0 < k → (∀ j, j < k → (decide ((s.put y).bk j v = y.b) || T ((s.put y).bk j v)) = true) → (s.put y).bk k v = y.b → (s.put y).f y.b + (s.put y).sm k v < (s.put y).f v := by
    intro k v hk hT he
    obtain ⟨m, rfl⟩ : ∃ m, k = m + 1 := ⟨k - 1, by omega⟩
    obtain ⟨x, hx⟩ : ∃ x, (s.put y).bk m v = x := ⟨_, rfl⟩
    have hTx := hT m (by omega)
    rw [hx] at hTx
    have hpx : (s.put y).p x = y.b := by rw [← hx, ← Bf.bk_succ]; exact he
    have hxb : x ≠ y.b := fun e => by rw [pp, if_pos e] at hpx; exact hne hpx
    have hT' : T x = true := by simpa [hxb] using hTx
    obtain ⟨h1, h2, h3, h4, h5, h6⟩ := h.ptr x hT'
    rw [pp, if_neg hxb] at hpx
    have h7 : (s.put y).f x = s.f x := by rw [pf, if_neg hxb]
    have h8 : (s.put y).y x = s.y x := by rw [py, if_neg hxb]
    rw [hpx] at h5 h6
    have h9 := hsb h5
    have h10 : (s.put y).f y.b = s.f y.a + y.w := by rw [pf, if_pos rfl]
    have h11 := hw v m
    have hsm : (s.put y).sm (m + 1) v = (s.put y).sm m v + (s.y x).w := by
      rw [Bf.sm_add, hx, Bf.sm, Bf.sm, h8]; omega
    rw [hsm]
    by_cases hm : 0 < m
    · have h12 := h11 hm (fun j hj => hT j (by omega))
      rw [hx] at h12; omega
    · obtain rfl : m = 0 := by omega
      have hxv : v = x := hx
      have : (s.put y).sm 0 v = 0 := rfl
      rw [hxv] at this ⊢
      omega
  refine ⟨⟨by simp [Bf.put, h.ok.far], by simp [Bf.put, h.ok.seen], by simp [Bf.put, h.ok.by_]⟩, hptr, ?_⟩
  intro v k hk hT he
  by_cases hex : ∃ j, j < k ∧ (s.put y).bk j v = y.b
  · obtain ⟨j, hj, hjb⟩ := hex
    -- from v to y.b and on to v
    have e1 : (s.put y).bk (k - j) y.b = v := by rw [← hjb, ← Bf.bk_add, show j + (k - j) = k from by omega]; exact he
    have e2 : (s.put y).sm k v = (s.put y).sm j v + (s.put y).sm (k - j) y.b := by
      have := Bf.sm_add (s.put y) j (k - j) v
      rw [show j + (k - j) = k from by omega, hjb] at this; exact this
    have h2 := hw y.b (k - j) (by omega) (fun i hi => by have := hT (j + i) (by omega); rw [Bf.bk_add, hjb] at this; exact this)
    rw [e1] at h2
    by_cases hj0 : j = 0
    · subst hj0
      obtain rfl : v = y.b := hjb
      have h3 := hst k y.b (by omega) hT he
      omega
    · have h1 := hst j v (by omega) (fun i hi => hT i (by omega)) hjb
      omega
  · have hall : ∀ j, j ≤ k → (s.put y).bk j v = s.bk j v := by
      intro j
      induction j with
      | zero => intro _; rfl
      | succ j ih =>
        intro hj
        rw [Bf.bk_succ, Bf.bk_succ, ih (by omega), pp, if_neg]
        intro e
        exact hex ⟨j, by omega, by rw [ih (by omega)]; exact e⟩
    have hsm : ∀ j v', (∀ i, i < j → (s.put y).bk i v' ≠ y.b) → (s.put y).sm j v' = s.sm j v' := by
      intro j
      induction j with
      | zero => intro _ _; rfl
      | succ j ih =>
        intro v' hi
        have h0 : v' ≠ y.b := hi 0 (by omega)
        have hp : (s.put y).p v' = s.p v' := by rw [pp, if_neg h0]
        rw [Bf.sm, Bf.sm, py, if_neg h0, hp, ih (s.p v') (fun i hi' => by have := hi (i + 1) (by omega); rw [show (s.put y).bk (i + 1) v' = (s.put y).bk i ((s.put y).p v') from rfl, hp] at this; exact this)]
    rw [hsm k v (fun i hi e => hex ⟨i, hi, e⟩)]
    refine h.neg v k hk (fun j hj => ?_) (by rw [← hall k (Nat.le_refl _)]; exact he)
    have h1 := hT j hj
    rw [hall j (by omega)] at h1
    have h2 : s.bk j v ≠ y.b := fun e => hex ⟨j, hj, by rw [hall j (by omega)]; exact e⟩
    simpa [h2] using h1
theorem Dn.fold {A : List Ar} {n : Nat} (hA : Within n A) (hS : ∀ x ∈ A, x.a ≠ x.b) : ∀ (B : List Ar) (s : Bf) (T : Nat → Bool), Dn A n s T → (∀ x ∈ B, x ∈ A) → (∀ v, s.y v ∈ A → v < n → (s.y v).b = v → T v = true) → ∃ T', Dn A n (B.foldl Bf.rel s) T' ∧ ∀ v, (B.foldl Bf.rel s).y v ∈ A → v < n → ((B.foldl Bf.rel s).y v).b = v → T' v = true
  | [], s, T, h, _, h2 => ⟨T, h, h2⟩
  | y :: B, s, T, h, hs, h2 => by
    have hy := hs y (by simp)
    cases hh : s.hit y with
    | false =>
      have e : s.rel y = s := by unfold Bf.rel; rw [hh]; rfl
      obtain ⟨T', h3⟩ := Dn.fold hA hS B s T h (fun x hx => hs x (by simp [hx])) h2
      exact ⟨T', by show Dn A n (B.foldl Bf.rel (s.rel y)) T' ∧ ∀ v, (B.foldl Bf.rel (s.rel y)).y v ∈ A → v < n → ((B.foldl Bf.rel (s.rel y)).y v).b = v → T' v = true; rw [e]; exact h3⟩
    | true =>
      have e : s.rel y = s.put y := by unfold Bf.rel; rw [hh]; rfl
      obtain ⟨T', h3⟩ := Dn.fold hA hS B (s.put y) _ (h.rel hA hS hy hh) (fun x hx => hs x (by simp [hx])) (fun v h3 h4 h5 => by
        rw [Bf.put_y h.ok (hA y hy).2] at h3 h5
        by_cases ev : v = y.b
        · simp [ev]
        · rw [if_neg ev] at h3 h5
          simp [h2 v h3 h4 h5])
      exact ⟨T', by show Dn A n (B.foldl Bf.rel (s.rel y)) T' ∧ ∀ v, (B.foldl Bf.rel (s.rel y)).y v ∈ A → v < n → ((B.foldl Bf.rel (s.rel y)).y v).b = v → T' v = true; rw [e]; exact h3⟩
def Dq (A : List Ar) (n : Nat) (s : Bf) : Prop := ∃ T, Dn A n s T ∧ ∀ v, s.y v ∈ A → v < n → (s.y v).b = v → T v = true
theorem bk_keep {s t : Bf} (h : ∀ v, s.y v = t.y v) : ∀ k v, s.bk k v = t.bk k v
  | 0, _ => rfl
  | k + 1, v => by
    show s.bk k (s.p v) = t.bk k (t.p v)
    unfold Bf.p
    rw [h v]; exact bk_keep h k _
theorem sm_keep {s t : Bf} (h : ∀ v, s.y v = t.y v) : ∀ k v, s.sm k v = t.sm k v
  | 0, _ => rfl
  | k + 1, v => by
    show (s.y v).w + s.sm k (s.p v) = (t.y v).w + t.sm k (t.p v)
    unfold Bf.p
    rw [h v, sm_keep h k _]
theorem Dq.round {A : List Ar} {n : Nat} {s : Bf} (hA : Within n A) (hS : ∀ x ∈ A, x.a ≠ x.b) (h : Dq A n s) : Dq A n (s.round A) := by
  obtain ⟨T, h1, h2⟩ := h
  exact Dn.fold hA hS A { s with last := -1 } T ⟨⟨h1.ok.far, h1.ok.seen, h1.ok.by_⟩, h1.ptr, fun v k hk hT he => by
    have e1 : ∀ k v, ({ s with last := -1 } : Bf).bk k v = s.bk k v := bk_keep fun _ => rfl
    have e2 : ∀ k v, ({ s with last := -1 } : Bf).sm k v = s.sm k v := sm_keep fun _ => rfl
    have h3 := h1.neg v k hk (fun j hj => by have h4 := hT j hj; rw [e1 j v] at h4; exact h4) (by rw [← e1 k v]; exact he)
    rw [← e2 k v] at h3; exact h3⟩ (fun x hx => hx) h2
theorem Dq.run {A : List Ar} {n : Nat} (hA : Within n A) (hS : ∀ x ∈ A, x.a ≠ x.b) : ∀ (m : Nat) (s : Bf), Dq A n s → Dq A n (Bf.run A m s).1
  | 0, s, h => h
  | m + 1, s, h => by
    unfold Bf.run
    split
    · exact h.round hA hS
    · exact Dq.run hA hS m _ (h.round hA hS)
/-- The loop's sum is below 0. -/
theorem Lp.neg {A : List Ar} {n : Nat} {s : Bf} {v m : Nat} (h : Lp A n s v m) (hd : Dq A n s) : s.sm m v < 0 := by
  obtain ⟨T, h1, h2⟩ := hd
  exact h1.neg v m h.pos (fun j _ => by obtain ⟨a, b, c⟩ := h.ptr j; exact h2 _ b a c) h.back
theorem Dq.start {A : List Ar} {n : Nat} {s : Bf} (h : s.Ok n) (hz : ∀ v, v < n → (s.y v ∈ A → (s.y v).b ≠ v)) : Dq A n s :=
  ⟨fun _ => false, ⟨h, fun v (hv : false = true) => absurd hv (by simp), fun v k hk hT => absurd (hT 0 hk) (by simp)⟩, fun v h1 h2 h3 => absurd h3 (hz v h2 h1)⟩
end Go.Proofs.Ytgngllgknimgkaa
namespace Go.Proofs.Ytgngllgknimgkaa

def mnO (best : Option Int) (c : Int) : Option Int := match best with | none => some c | some b => if c < b then some c else some b
def frS (f : Ar → Option Int) (best : Option Int) (x : Ar) : Option Int := match f x with | some r => mnO best (x.w + r) | none => best
/-- How far it is at least from a to b, past none of P; m: how deep to look. -/
def frF (A : List Ar) : Nat → Nat → Nat → List Nat → Option Int
  | 0, a, b, _ => if a = b then some 0 else none
  | m + 1, a, b, P => if a = b then some 0 else A.foldl (frS fun x => if x.a = a ∧ x.b ∉ P then frF A m x.b b (P ++ [x.b]) else none) none
theorem mnO_le (best : Option Int) (c : Int) : ∃ d, mnO best c = some d ∧ d ≤ c ∧ (∀ b, best = some b → d ≤ b) := by
  cases best with
  | none => exact ⟨c, rfl, Int.le_refl _, fun b h => by cases h⟩
  | some b =>
    unfold mnO
    by_cases h : c < b
    · exact ⟨c, by simp [h], Int.le_refl _, fun b' e => by cases e; omega⟩
    · exact ⟨b, by simp [h], by omega, fun b' e => by cases e; omega⟩
theorem mnO_or (best : Option Int) (c d : Int) (h : mnO best c = some d) : d = c ∨ best = some d := by
  cases best with
  | none => exact .inl (by cases h; rfl)
  | some b =>
    unfold mnO at h
    by_cases e : c < b
    · simp [e] at h; exact .inl h.symm
    · simp [e] at h; exact .inr (by rw [h])
theorem frS_fold (f : Ar → Option Int) : ∀ (A : List Ar) (best : Option Int) (d : Int), A.foldl (frS f) best = some d → best = some d ∨ ∃ x r, x ∈ A ∧ f x = some r ∧ d = x.w + r
  | [], best, d, h => .inl h
  | y :: A, best, d, h => by
    rcases frS_fold f A (frS f best y) d h with h1 | ⟨x, r, h1, h2, h3⟩
    · unfold frS at h1
      cases hf : f y with
      | none => rw [hf] at h1; exact .inl h1
      | some r =>
        rw [hf] at h1
        rcases mnO_or best _ d h1 with h2 | h2
        · exact .inr ⟨y, r, by simp, hf, h2⟩
        · exact .inl h2
    · exact .inr ⟨x, r, by simp [h1], h2, h3⟩
theorem frS_fold_le (f : Ar → Option Int) : ∀ (A : List Ar) (best : Option Int), (∀ b, best = some b → ∃ d, A.foldl (frS f) best = some d ∧ d ≤ b) ∧ (∀ x r, x ∈ A → f x = some r → ∃ d, A.foldl (frS f) best = some d ∧ d ≤ x.w + r)
  | [], best => ⟨fun b h => ⟨b, h, Int.le_refl _⟩, fun x r hx => absurd hx (by simp)⟩
  | y :: A, best => by
    obtain ⟨h1, h2⟩ := frS_fold_le f A (frS f best y)
    refine ⟨fun b hb => ?_, fun x r hx hf => ?_⟩
    · subst hb
      show ∃ d, A.foldl (frS f) (frS f (some b) y) = some d ∧ d ≤ b
      cases hf : f y with
      | none => exact h1 b (by unfold frS; rw [hf])
      | some r =>
        obtain ⟨d, e1, e2, e3⟩ := mnO_le (some b) (y.w + r)
        obtain ⟨d', e4, e5⟩ := h1 d (by unfold frS; rw [hf]; exact e1)
        exact ⟨d', e4, by have := e3 b rfl; omega⟩
    · show ∃ d, A.foldl (frS f) (frS f best y) = some d ∧ d ≤ x.w + r
      rcases List.mem_cons.1 hx with rfl | hx
      · obtain ⟨d, e1, e2, e3⟩ := mnO_le best (x.w + r)
        obtain ⟨d', e4, e5⟩ := h1 d (by unfold frS; rw [hf]; exact e1)
        exact ⟨d', e4, by omega⟩
      · exact h2 x r hx hf
theorem frF_some {A : List Ar} : ∀ (m a b : Nat) (P : List Nat) (c : Int), a ∈ P → frF A m a b P = some c → ∃ L, Sq A a L b c ∧ ∀ x ∈ L, x ∉ P := by
  intro m
  induction m with
  | zero =>
    intro a b P c _ h
    unfold frF at h
    by_cases e : a = b
    · rw [if_pos e] at h; cases h; subst e; exact ⟨[], Sq.nil a, by simp⟩
    · rw [if_neg e] at h; cases h
  | succ m ih =>
    intro a b P c ha h
    unfold frF at h
    by_cases e : a = b
    · rw [if_pos e] at h; cases h; subst e; exact ⟨[], Sq.nil a, by simp⟩
    · rw [if_neg e] at h
      rcases frS_fold _ A none c h with h1 | ⟨x, r, h1, h2, h3⟩
      · cases h1
      · by_cases hc : x.a = a ∧ x.b ∉ P
        · rw [if_pos hc] at h2
          obtain ⟨h4, h5⟩ := hc
          obtain ⟨L, h6, h7⟩ := ih x.b b (P ++ [x.b]) r (by simp) h2
          subst h3 h4
          refine ⟨x.b :: L, Sq.cons h1 h6 ?_, ?_⟩
          · intro hm
            rcases List.mem_cons.1 hm with hm | hm
            · exact h5 (hm ▸ ha)
            · exact h7 _ hm (by simp [ha])
          · intro z hz
            rcases List.mem_cons.1 hz with rfl | hz
            · exact h5
            · intro hp; exact h7 z hz (by simp [hp])
        · rw [if_neg hc] at h2; cases h2
theorem Sq.uncons {A : List Ar} {a b : Nat} {L : List Nat} {c : Int} (h : Sq A a L b c) (hne : a ≠ b) : ∃ x L' c', x ∈ A ∧ x.a = a ∧ L = x.b :: L' ∧ Sq A x.b L' b c' ∧ c = x.w + c' ∧ a ∉ L := by
  cases h with
  | nil => exact absurd rfl hne
  | cons hx h hn => exact ⟨_, _, _, hx, rfl, rfl, h, rfl, hn⟩
theorem frF_le {A : List Ar} : ∀ (m a b : Nat) (P L : List Nat) (c : Int), Sq A a L b c → (∀ x ∈ L, x ∉ P) → L.length ≤ m → ∃ d, frF A m a b P = some d ∧ d ≤ c := by
  intro m
  induction m with
  | zero =>
    intro a b P L c h _ hl
    by_cases e : a = b
    · subst e
      unfold frF; rw [if_pos rfl]
      refine ⟨0, rfl, ?_⟩
      cases h with
      | nil => exact Int.le_refl _
      | cons hx h hn => simp at hl
    · obtain ⟨x, L', c', _, _, rfl, _⟩ := h.uncons e
      simp at hl
  | succ m ih =>
    intro a b P L c h hP hl
    unfold frF
    by_cases e : a = b
    · subst e
      rw [if_pos rfl]
      refine ⟨0, rfl, ?_⟩
      have hn := h.nodup
      cases h with
      | nil => exact Int.le_refl _
      | cons hx h hn' => exact absurd h.last hn'
    · rw [if_neg e]
      obtain ⟨x, L', c', h1, h2, rfl, h3, rfl, h4⟩ := h.uncons e
      have hxb : x.b ∉ P := hP _ (by simp)
      have hn := h3.nodup
      obtain ⟨d, h5, h6⟩ := ih x.b b (P ++ [x.b]) L' c' h3 (fun z hz hp => by
        rcases List.mem_append.1 hp with hp | hp
        · exact hP z (by simp [hz]) hp
        · obtain rfl : z = x.b := by simpa using hp
          exact (List.nodup_cons.1 hn).1 hz) (by simpa using hl)
      obtain ⟨d', h7, h8⟩ := (frS_fold_le (fun x => if x.a = a ∧ x.b ∉ P then frF A m x.b b (P ++ [x.b]) else none) A none).2 x d h1 (by rw [if_pos ⟨h2, hxb⟩]; exact h5)
      exact ⟨d', h7, by omega⟩
/-- The least way, if there is one. -/
def wayF (A : List Ar) (n a b : Nat) : Option Int := frF A n a b [a]
def wayN (A : List Ar) (n a b : Nat) : Int := (wayF A n a b).getD 0
theorem wayF_walk {A : List Ar} {n a b : Nat} {c : Int} (h : wayF A n a b = some c) : ∃ k, Wk A a b k c := by
  obtain ⟨L, h1, _⟩ := frF_some n a b [a] c (by simp) h
  exact ⟨_, h1.walk⟩
theorem wayF_simple {A : List Ar} {n a b : Nat} {L : List Nat} {c : Int} (hA : Within n A) (ha : a < n) (h : Sq A a L b c) : ∃ d, wayF A n a b = some d ∧ d ≤ c :=
  frF_le n a b [a] L c h (fun x hx e => by
    obtain rfl : x = a := by simpa using e
    exact (List.nodup_cons.1 h.nodup).1 hx) (Nat.le_of_lt (h.short hA ha))
theorem wayF_min {A : List Ar} {n a b k : Nat} {c : Int} (hN : NoNeg A) (hA : Within n A) (ha : a < n) (h : Wk A a b k c) : ∃ d, wayF A n a b = some d ∧ d ≤ c := by
  obtain ⟨L, c', h1, h2⟩ := h.simple hN
  obtain ⟨d, h3, h4⟩ := wayF_simple hA ha h1
  exact ⟨d, h3, by omega⟩
theorem wayF_is {A : List Ar} {n a b : Nat} {g : Int} (hN : NoNeg A) (hA : Within n A) (ha : a < n) (h1 : ∃ k, Wk A a b k g) (h2 : ∀ k c, Wk A a b k c → g ≤ c) : wayF A n a b = some g := by
  obtain ⟨k, h1⟩ := h1
  obtain ⟨d, h3, h4⟩ := wayF_min hN hA ha h1
  obtain ⟨k', h5⟩ := wayF_walk h3
  have := h2 _ _ h5
  rw [h3]; congr 1; omega

/-! ### where no loop contradicts -/
theorem Sq.split2 {A : List Ar} {a b : Nat} {L : List Nat} {c : Int} (h : Sq A a L b c) : ∀ d, d ∈ a :: L → ∃ L2 c1 c2 k, Wk A a d k c1 ∧ Sq A d L2 b c2 ∧ c = c1 + c2 ∧ k + L2.length = L.length := by
  induction h with
  | nil a =>
    intro d hd
    obtain rfl : d = a := by simpa using hd
    exact ⟨[], 0, 0, 0, Wk.nil _, Sq.nil _, rfl, rfl⟩
  | cons hx h hn ih =>
    intro d hd
    rcases List.mem_cons.1 hd with rfl | hd
    · exact ⟨_, 0, _, 0, Wk.nil _, Sq.cons hx h hn, by rw [Int.zero_add], by rw [Nat.zero_add]⟩
    · obtain ⟨L2, c1, c2, k, h1, h2, rfl, h3⟩ := ih d hd
      exact ⟨L2, _, c2, _, Wk.cons hx h1, h2, by rw [Int.add_assoc], by simp only [List.length_cons]; omega⟩
theorem Wk.simple2 {A : List Ar} {K : Nat} (hN : ∀ a k c, Wk A a a k c → k < K → 0 ≤ c) {a b k : Nat} {c : Int} (h : Wk A a b k c) : k < K → ∃ L c', Sq A a L b c' ∧ c' ≤ c ∧ L.length ≤ k := by
  induction h with
  | nil a => intro _; exact ⟨[], 0, Sq.nil a, Int.le_refl _, Nat.le_refl _⟩
  | @cons x hx b k c h ih =>
    intro hK
    obtain ⟨L, c', h1, h2, h0⟩ := ih (by omega)
    by_cases hm : x.a ∈ x.b :: L
    · obtain ⟨L2, c1, c2, m, h3, h4, rfl, h6⟩ := h1.split2 _ hm
      have h5 := hN _ _ _ (Wk.cons hx h3) (by omega)
      exact ⟨L2, c2, h4, by omega, by omega⟩
    · exact ⟨_, _, Sq.cons hx h1 hm, by omega, by simp only [List.length_cons]; omega⟩
theorem Wk.uncons {A : List Ar} {a b k : Nat} {c : Int} (h : Wk A a b k c) (hk : 0 < k) : ∃ x k' c', x ∈ A ∧ x.a = a ∧ k = k' + 1 ∧ Wk A x.b b k' c' ∧ c = x.w + c' := by
  cases h with
  | nil => omega
  | cons hx h => exact ⟨_, _, _, hx, rfl, rfl, h, rfl⟩
theorem neg_least {A : List Ar} : ∀ (k a : Nat) (c : Int), Wk A a a k c → c < 0 → ∃ k' a' c', Wk A a' a' k' c' ∧ c' < 0 ∧ ∀ a k c, Wk A a a k c → k < k' → 0 ≤ c := by
  intro k
  induction k using Nat.strongRecOn with
  | ind k ih =>
    intro a c h hc
    by_cases he : ∀ a j c, Wk A a a j c → j < k → 0 ≤ c
    · exact ⟨k, a, c, h, hc, he⟩
    · obtain ⟨a', j, c', h1, h2, h3⟩ : ∃ a j c, Wk A a a j c ∧ j < k ∧ c < 0 := by
        refine Classical.byContradiction fun hn => he fun a j c h1 h2 => ?_
        by_cases h3 : 0 ≤ c
        · exact h3
        · exact absurd ⟨a, j, c, h1, h2, by omega⟩ hn
      exact ih j h2 a' c' h1 h3
/-- Each arc has one back. -/
def Both (A : List Ar) : Prop := ∀ x ∈ A, ∃ y ∈ A, y.a = x.b ∧ y.b = x.a
def Loose (A : List Ar) : Prop := ∀ x ∈ A, x.a ≠ x.b
theorem possible_iff {A : List Ar} {n : Nat} (hA : Within n A) (hB : Both A) (_hL : Loose A) : (∀ x ∈ A, 0 ≤ x.w + wayN A n x.b x.a) ↔ NoNeg A := by
  constructor
  · intro h a k c hw
    refine Classical.byContradiction fun hc => ?_
    obtain ⟨k', a', c', h1, h2, h3⟩ := neg_least k a c hw (by omega)
    by_cases hk : 0 < k'
    · obtain ⟨x, j, c2, hx, rfl, rfl, h4, rfl⟩ := h1.uncons hk
      obtain ⟨L, c3, h5, h6, _⟩ := h4.simple2 h3 (by omega)
      obtain ⟨d, h7, h8⟩ := wayF_simple hA (hA x hx).2 h5
      have h9 := h x hx
      unfold wayN at h9
      rw [h7, Option.getD_some] at h9
      omega
    · obtain ⟨_, h5⟩ := Wk.zero h1 (by omega)
      omega
  · intro hN x hx
    obtain ⟨y, hy, h1, h2⟩ := hB x hx
    have h3 : Wk A x.b x.a 1 y.w := by rw [← h1, ← h2]; exact Wk.one hy
    obtain ⟨d, h4, _⟩ := wayF_min hN hA (hA x hx).2 h3
    obtain ⟨k, h5⟩ := wayF_walk h4
    unfold wayN
    rw [h4]
    exact hN _ _ _ (Wk.cons hx h5)

/-! ### what the relaxations find -/
def Bf.begin (S : List Bool) : Bf := ⟨List.replicate S.length 0, S, List.replicate S.length Ar.zero, -1⟩
theorem Bf.begin_ok (S : List Bool) : (Bf.begin S).Ok S.length := ⟨by simp [Bf.begin], rfl, by simp [Bf.begin]⟩
theorem Bf.begin_f (S : List Bool) (v : Nat) : (Bf.begin S).f v = 0 := by
  unfold Bf.begin Bf.f
  rw [List.getD_eq_getElem?_getD, List.getElem?_replicate]
  split <;> rfl
theorem Bf.begin_y (S : List Bool) (v : Nat) : (Bf.begin S).y v = Ar.zero := by
  unfold Bf.begin Bf.y
  rw [List.getD_eq_getElem?_getD, List.getElem?_replicate]
  split <;> rfl
theorem Bf.begin_real (A : List Ar) (S : List Bool) : (Bf.begin S).Real A (fun a => S.getD a false = true) := fun v hv => ⟨v, 0, hv, by rw [Bf.begin_f]; exact Wk.nil v⟩
theorem Bf.begin_knows (A : List Ar) (S : List Bool) : (Bf.begin S).Knows A (fun a => S.getD a false = true) 0 := by
  intro a b k c ha hk hw
  obtain ⟨rfl, rfl⟩ := Wk.zero hw (by omega)
  exact ⟨ha, by rw [Bf.begin_f]; exact Int.le_refl _⟩
/-- The relaxations from some places. -/
def rxR (A : List Ar) (S : List Bool) : Bf × Bool := Bf.run A (S.length + 1) (Bf.begin S)
theorem getD_lt {S : List Bool} {a : Nat} (h : S.getD a false = true) : a < S.length := by
  by_cases e : a < S.length
  · exact e
  · rw [List.getD_eq_getElem?_getD, List.getElem?_eq_none (by omega)] at h; cases h
theorem rx_ends {A : List Ar} {S : List Bool} (hN : NoNeg A) (hA : Within S.length A) : (rxR A S).2 = true :=
  Bf.run_ends hN hA (fun _ h => getD_lt h) S.length 0 _ (Bf.begin_ok S) (Bf.begin_real A S) (Bf.begin_knows A S) (by omega)
theorem rx_noNeg {A : List Ar} {n : Nat} (hA : Within n A) (h : (rxR A (List.replicate n true)).2 = true) : NoNeg A := by
  have hl : (List.replicate n true).length = n := by simp
  obtain ⟨h1, h2, h3⟩ := Bf.run_keeps (by rw [hl]; exact hA) ((List.replicate n true).length + 1) (Bf.begin (List.replicate n true)) (Bf.begin_ok _) (Bf.begin_real A _)
  have h4 := Bf.run_closed _ _ h
  intro a k c hw
  by_cases hk : 0 < k
  · obtain ⟨x, j, c2, hx, rfl, rfl, h4', rfl⟩ := hw.uncons hk
    have ha : (Bf.begin (List.replicate n true)).s x.a = true := by
      show (List.replicate n true).getD x.a false = true
      rw [List.getD_eq_getElem?_getD, List.getElem?_replicate, if_pos (hA x hx).1]; rfl
    have := (Bf.closed h4 hw (h3 _ ha).1).2
    omega
  · obtain ⟨_, h5⟩ := Wk.zero hw (by omega)
    omega
/-- From one place: the least ways. -/
def oneS (n a : Nat) : List Bool := (List.replicate n false).set a true
theorem oneS_len (n a : Nat) : (oneS n a).length = n := by simp [oneS]
theorem oneS_iff {n a : Nat} (ha : a < n) (v : Nat) : (oneS n a).getD v false = true ↔ v = a := by
  unfold oneS
  rw [List.getD_eq_getElem?_getD, List.getElem?_set]
  by_cases e : a = v
  · subst e; rw [if_pos rfl, if_pos (by simpa using ha)]; simp
  · rw [if_neg e, List.getElem?_replicate]
    refine ⟨fun h => ?_, fun h => absurd h.symm e⟩
    split at h <;> cases h
theorem rx_far {A : List Ar} {n a b k : Nat} {c : Int} (hN : NoNeg A) (hA : Within n A) (ha : a < n) (hw : Wk A a b k c) : (rxR A (oneS n a)).1.f b = wayN A n a b := by
  have hl := oneS_len n a
  have hA' : Within (oneS n a).length A := by rw [hl]; exact hA
  obtain ⟨h1, h2, h3⟩ := Bf.run_keeps hA' ((oneS n a).length + 1) (Bf.begin (oneS n a)) (Bf.begin_ok _) (Bf.begin_real A _)
  have h4 := Bf.run_closed _ _ (rx_ends hN hA')
  have hs : (Bf.begin (oneS n a)).s a = true := (oneS_iff ha a).2 rfl
  obtain ⟨h5, h6⟩ := h3 _ hs
  rw [Bf.begin_f] at h6
  have h7 := Bf.closed h4 hw h5
  obtain ⟨a', k', h8, h9⟩ := h2 _ h7.1
  obtain rfl := (oneS_iff ha a').1 h8
  have h10 : wayF A n a' b = some ((rxR A (oneS n a')).1.f b) := wayF_is hN hA ha ⟨k', h9⟩ fun k c hk => by
    have := (Bf.closed h4 hk h5).2
    show (Bf.run A ((oneS n a').length + 1) (Bf.begin (oneS n a'))).1.f b ≤ c
    omega
  unfold wayN
  rw [h10]; rfl
end Go.Proofs.Ytgngllgknimgkaa
namespace Go.Proofs.Ytgngllgknimgkaa
open Go.RowKit

theorem putL_steps (s : ByteArray) (d : Bool) {ks : List ByteArray} {k : Nat} (h : k < ks.length) : putL s d (ks.drop k) = (if (!d && !ltB (kat ks k) s) = true then [s] else []) ++ ((if sameB (kat ks k) s = true then [] else [kat ks k]) ++ putL s (d || !ltB (kat ks k) s) (ks.drop (k + 1))) := by
  rw [kat_drop h, putL]

end Go.Proofs.Ytgngllgknimgkaa
namespace Go.Proofs.Ytgngllgknimgkaa
open Go.RowKit Go.Maps

def alN (vs : List Dm) (ax : Int) : Nat → List ByteArray
  | 0 => []
  | k + 1 => if ((dAt vs k).x == ax) = true then putL (dAt vs k).t false (putL (dAt vs k).f false (alN vs ax k)) else alN vs ax k
theorem alN_len (vs : List Dm) (ax : Int) : ∀ k, (alN vs ax k).length ≤ 2 * k
  | 0 => Nat.le_refl _
  | k + 1 => by
    have h := alN_len vs ax k
    have h1 := putL_len (dAt vs k).f false (alN vs ax k)
    have h2 := putL_len (dAt vs k).t false (putL (dAt vs k).f false (alN vs ax k))
    rw [alN]
    split <;> omega
end Go.Proofs.Ytgngllgknimgkaa
namespace Go.Proofs.Ytgngllgknimgkaa
open Go.RowKit Go.Maps

open Classical in
theorem alN_srt (vs : List Dm) (ax : Int) : ∀ k, SrtIs (alN vs ax k) (fun s => decide (s ∈ rawN vs ax k))
  | 0 => ⟨List.Pairwise.nil, fun s => by simp [alN, rawN]⟩
  | k + 1 => by
    have ih := alN_srt vs ax k
    rw [alN]
    by_cases h : ((dAt vs k).x == ax) = true
    · rw [if_pos h]
      have e : rawN vs ax (k + 1) = rawN vs ax k ++ [(dAt vs k).f, (dAt vs k).t] := by rw [rawN, if_pos h]
      refine (ih.put (dAt vs k).f (Q' := fun s => decide (s ∈ rawN vs ax k ++ [(dAt vs k).f])) fun t => ?_).put (dAt vs k).t fun t => ?_
      · rw [Bool.eq_iff_iff, Bool.or_eq_true, sameB_iff]; simp; exact or_congr Iff.rfl eq_comm
      · rw [Bool.eq_iff_iff, Bool.or_eq_true, sameB_iff, e]; simp; rw [or_assoc]; exact or_congr Iff.rfl (or_congr Iff.rfl eq_comm)
    · rw [if_neg h]
      have e : rawN vs ax (k + 1) = rawN vs ax k := by rw [rawN, if_neg h]
      rw [e]; exact ih
theorem alN_eq (vs : List Dm) (ax : Int) : alN vs ax vs.length = nmG vs ax := by
  classical
  exact (alN_srt vs ax vs.length).unique (sortU_srt (rawN vs ax vs.length) _ (fun s => by simp))
end Go.Proofs.Ytgngllgknimgkaa
