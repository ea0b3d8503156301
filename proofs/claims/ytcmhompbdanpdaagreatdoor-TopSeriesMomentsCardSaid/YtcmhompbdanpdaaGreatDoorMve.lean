/- Sums of distributions: in whatever order, turned round. No program in sight. The ends of distributions and of their sums; probabilities between limits. No program in sight. The shortest limits with a probability: all pairs of ends (the reference) and a window that moves (the package) find the same. No program in sight. Parts with a value: the first choice in lexicographic order (the reference) and the one that looks ahead (the package). No program in sight. When a series varies; the centered capability and the capability. No program in sight. The distribution of a series: what TopSeriesMoments compares. No program in sight. Histograms and runs, as both sides make them. No program in sight. Words compared from the top; numbers told by their words. No program in sight. -/
import Derived.Test.YtcmhompbdanpdaaGreatDoorMwa
namespace Go.Proofs.YtcmhompbdanpdaaGreatDoor

theorem momW_congr {f g : Int → Int} {l : List Wt} (h : ∀ x ∈ l, f x.1 = g x.1) : momW f l = momW g l := by
  induction l with
  | nil => rfl
  | cons x l ih => rw [momW_cons, momW_cons, h x List.mem_cons_self, ih fun y hy => h y (List.mem_cons_of_mem _ hy)]
theorem momW_zero (l : List Wt) : momW (fun _ => 0) l = 0 := by
  induction l with
  | nil => rfl
  | cons x l ih => rw [momW_cons, ih]; omega
theorem wAt_mom (l : List Wt) (n : Int) : wAt l n = momW (fun v => if v = n then 1 else 0) l := by
  induction l with
  | nil => rfl
  | cons x l ih =>
    rw [wAt_cons, momW_cons, ih]
    split <;> omega
theorem momW_swap (h : Int → Int → Int) (a b : List Wt) : momW (fun u => momW (fun v => h u v) b) a = momW (fun v => momW (fun u => h u v) a) b := by
  induction a with
  | nil =>
    show (0 : Int) = momW (fun _ => 0) b
    rw [momW_zero]
  | cons x a ih =>
    rw [momW_cons, ih]
    have e : (fun v => momW (fun u => h u v) (x :: a)) = fun v => x.2 * h x.1 v + momW (fun u => h u v) a := by funext v; rfl
    rw [e, momW_add, momW_mul]
theorem momW_jn (g : Int → Int) (a b : List Wt) : momW g (jnW a b) = momW (fun u => momW (fun v => g (u + v)) b) a := (momW_gat g _).trans (momW_sums g a b)
theorem jnW_comm (a b : List Wt) : jnW a b = jnW b a := by
  refine UpW.ext (jnW_up a b) (jnW_up b a) (fun n => ?_) (fun n => ?_)
  · rw [jnW_key, jnW_key]
    constructor
    · rintro ⟨x, hx, y, hy, e⟩; exact ⟨y, hy, x, hx, by omega⟩
    · rintro ⟨x, hx, y, hy, e⟩; exact ⟨y, hy, x, hx, by omega⟩
  · rw [wAt_mom, wAt_mom, momW_jn, momW_jn, momW_swap]
    refine momW_congr fun x _ => momW_congr fun y _ => ?_
    rw [Int.add_comm]
theorem jnW_assoc (a b c : List Wt) : jnW (jnW a b) c = jnW a (jnW b c) := by
  refine UpW.ext (jnW_up _ _) (jnW_up _ _) (fun n => ?_) (fun n => ?_)
  · rw [jnW_key, jnW_key]
    constructor
    · rintro ⟨x, hx, y, hy, e⟩
      obtain ⟨u, hu, v, hv, e2⟩ := (jnW_key x.1).1 ⟨x, hx, rfl⟩
      obtain ⟨z, hz, e3⟩ := (jnW_key (a := b) (b := c) (v.1 + y.1)).2 ⟨v, hv, y, hy, rfl⟩
      exact ⟨u, hu, z, hz, by omega⟩
    · rintro ⟨x, hx, y, hy, e⟩
      obtain ⟨u, hu, v, hv, e2⟩ := (jnW_key y.1).1 ⟨y, hy, rfl⟩
      obtain ⟨z, hz, e3⟩ := (jnW_key (a := a) (b := b) (x.1 + u.1)).2 ⟨x, hx, u, hu, rfl⟩
      exact ⟨z, hz, v, hv, by omega⟩
  · rw [wAt_mom, wAt_mom, momW_jn, momW_jn, momW_jn]
    refine momW_congr fun x _ => ?_
    rw [momW_jn]
    refine momW_congr fun y _ => momW_congr fun z _ => ?_
    rw [Int.add_assoc]
/-- A distribution turned round, or not. -/
def mvW (s : Int) (l : List Wt) : List Wt := if s < 0 then (l.map fun x => (-x.1, x.2)).reverse else l
theorem mvW_mem {s : Int} {l : List Wt} {z : Wt} : z ∈ mvW s l ↔ ∃ x ∈ l, z = ((if s < 0 then -x.1 else x.1), x.2) := by
  unfold mvW
  by_cases h : s < 0
  · simp only [if_pos h, List.mem_reverse, List.mem_map]
    constructor
    · rintro ⟨x, hx, e⟩; exact ⟨x, hx, e.symm⟩
    · rintro ⟨x, hx, e⟩; exact ⟨x, hx, e.symm⟩
  · simp only [if_neg h]
    constructor
    · intro hz; exact ⟨z, hz, rfl⟩
    · rintro ⟨x, hx, rfl⟩; exact hx
theorem mvW_up {s : Int} {l : List Wt} (h : UpW l) : UpW (mvW s l) := by
  unfold mvW
  by_cases hs : s < 0
  · rw [if_pos hs]
    unfold UpW
    rw [List.pairwise_reverse, List.pairwise_map]
    exact h.imp fun hab => by show -_ < -_; omega
  · rw [if_neg hs]; exact h
theorem mvW_pos {s : Int} {l : List Wt} (h : PosW l) : PosW (mvW s l) := by
  intro z hz
  obtain ⟨x, hx, rfl⟩ := mvW_mem.1 hz
  exact h x hx
theorem momW_map (f : Int → Int) (g : Int → Int) (l : List Wt) : momW g (l.map fun x => (f x.1, x.2)) = momW (fun v => g (f v)) l := by
  induction l with
  | nil => rfl
  | cons x l ih => rw [List.map_cons, momW_cons, ih, momW_cons]
theorem momW_rev (g : Int → Int) (l : List Wt) : momW g l.reverse = momW g l := by
  induction l with
  | nil => rfl
  | cons x l ih =>
    have e : momW g [x] = x.2 * g x.1 := by show _ + 0 = _; omega
    have e2 := momW_cons g x l
    rw [List.reverse_cons, momW_append, ih, e]; omega
theorem momW_mv (s : Int) (g : Int → Int) (l : List Wt) : momW g (mvW s l) = momW (fun v => g (if s < 0 then -v else v)) l := by
  unfold mvW
  by_cases h : s < 0
  · rw [if_pos h, momW_rev, momW_map (fun v => -v)]
    refine momW_congr fun x _ => ?_
    rw [if_pos h]
  · rw [if_neg h]
    refine momW_congr fun x _ => ?_
    rw [if_neg h]
/-- What reference 26 gathers of moved elements. -/
theorem gat_moved {s : Int} {l : List Wt} (hs : s = 1 ∨ s = -1) (h : UpW l) : gatW (l.map fun x => (s * x.1 + 0, x.2)) = mvW s l := by
  obtain ⟨h1, h2, h3⟩ := gatW_spec (l.map fun x => (s * x.1 + 0, x.2))
  have e : ∀ v : Int, s * v + 0 = if s < 0 then -v else v := fun v => by
    rcases hs with rfl | rfl
    · rw [if_neg (by decide)]; omega
    · rw [if_pos (by decide)]; omega
  refine UpW.ext h1 (mvW_up h) (fun n => ?_) (fun n => ?_)
  · rw [h3]
    constructor
    · rintro ⟨y, hy, ey⟩
      obtain ⟨x, hx, rfl⟩ := List.mem_map.1 hy
      exact ⟨_, mvW_mem.2 ⟨x, hx, rfl⟩, by rw [← ey]; exact (e x.1).symm⟩
    · rintro ⟨y, hy, ey⟩
      obtain ⟨x, hx, rfl⟩ := mvW_mem.1 hy
      exact ⟨_, List.mem_map.2 ⟨x, hx, rfl⟩, by rw [← ey]; exact e x.1⟩
  · rw [h2, wAt_mom, wAt_mom, momW_map (fun v => s * v + 0), momW_mv]
    refine momW_congr fun x _ => ?_
    rw [e]
/-- Turned round, a sum is the sum of what is turned round. -/
theorem mv_jn (a b : List Wt) : mvW (-1) (jnW a b) = jnW (mvW (-1) a) (mvW (-1) b) := by
  refine UpW.ext (mvW_up (jnW_up a b)) (jnW_up _ _) (fun n => ?_) (fun n => ?_)
  · rw [jnW_key]
    constructor
    · rintro ⟨y, hy, e⟩
      obtain ⟨x, hx, rfl⟩ := mvW_mem.1 hy
      obtain ⟨u, hu, v, hv, e2⟩ := (jnW_key x.1).1 ⟨x, hx, rfl⟩
      rw [if_pos (by decide)] at e
      exact ⟨_, mvW_mem.2 ⟨u, hu, rfl⟩, _, mvW_mem.2 ⟨v, hv, rfl⟩, by simp only [if_pos (show (-1 : Int) < 0 by decide)]; omega⟩
    · rintro ⟨y, hy, z, hz, e⟩
      obtain ⟨u, hu, rfl⟩ := mvW_mem.1 hy
      obtain ⟨v, hv, rfl⟩ := mvW_mem.1 hz
      obtain ⟨x, hx, e2⟩ := (jnW_key (a := a) (b := b) (u.1 + v.1)).2 ⟨u, hu, v, hv, rfl⟩
      simp only [if_pos (show (-1 : Int) < 0 by decide)] at e
      exact ⟨_, mvW_mem.2 ⟨x, hx, rfl⟩, by rw [if_pos (by decide)]; omega⟩
  · rw [wAt_mom, wAt_mom, momW_mv, momW_jn, momW_jn, momW_mv]
    refine momW_congr fun x _ => ?_
    rw [momW_mv]
    refine momW_congr fun y _ => ?_
    have hn : ((-1 : Int) < 0) = True := eq_true (by decide)
    simp only [hn, if_true]
    by_cases h : -(x.1 + y.1) = n
    · rw [if_pos h, if_pos (by omega)]
    · rw [if_neg h, if_neg (by omega)]
theorem mv_mv {s : Int} (hs : s = 1 ∨ s = -1) (l : List Wt) : mvW (-1) (mvW s l) = mvW (-s) l := by
  rcases hs with rfl | rfl
  · rfl
  · unfold mvW
    rw [if_pos (by decide), if_pos (by decide), if_neg (by decide)]
    rw [List.map_reverse, List.reverse_reverse, List.map_map]
    have : ((fun x : Wt => (-x.1, x.2)) ∘ fun x : Wt => (-x.1, x.2)) = id := by
      funext x
      show (- -x.1, x.2) = x
      rw [Int.neg_neg]
    rw [this, List.map_id]
/-- A stack: the distributions, each turned by its sign, added up. -/
def stW : List (Int × List Wt) → List Wt
  | [] => [(0, 1)]
  | [x] => mvW x.1 x.2
  | x :: y :: r => jnW (mvW x.1 x.2) (stW (y :: r))
/-- The same from the left, as both sides do it. -/
def stL (o : List Wt) (l : List (Int × List Wt)) : List Wt := l.foldl (fun o x => jnW o (mvW x.1 x.2)) o
theorem stL_jn (a b : List Wt) (l : List (Int × List Wt)) : stL (jnW a b) l = jnW a (stL b l) := by
  induction l generalizing b with
  | nil => rfl
  | cons x l ih =>
    show stL (jnW (jnW a b) (mvW x.1 x.2)) l = jnW a (stL (jnW b (mvW x.1 x.2)) l)
    rw [jnW_assoc, ih]
theorem stL_eq (x : Int × List Wt) (l : List (Int × List Wt)) : stL (mvW x.1 x.2) l = stW (x :: l) := by
  induction l generalizing x with
  | nil => rfl
  | cons y l ih =>
    show stL (jnW (mvW x.1 x.2) (mvW y.1 y.2)) l = jnW (mvW x.1 x.2) (stW (y :: l))
    rw [stL_jn, ih]
theorem stW_snoc (l : List (Int × List Wt)) (x : Int × List Wt) (h : l ≠ []) : stW (l ++ [x]) = jnW (stW l) (mvW x.1 x.2) := by
  match l, h with
  | y :: r, _ =>
    rw [List.cons_append, ← stL_eq, ← stL_eq]
    unfold stL
    rw [List.foldl_append]
    rfl
/-- The order of the distributions does not matter. -/
theorem stW_reverse (l : List (Int × List Wt)) : stW l.reverse = stW l := by
  induction l with
  | nil => rfl
  | cons x l ih =>
    match l with
    | [] => rfl
    | y :: r =>
      rw [List.reverse_cons, stW_snoc _ _ (by simp), ih, jnW_comm]
      rfl
/-- All signs turned, the stack is turned round. -/
theorem stW_turned (l : List (Int × List Wt)) (h0 : l ≠ []) (hs : ∀ x ∈ l, x.1 = 1 ∨ x.1 = -1) : stW (l.map fun x => (-x.1, x.2)) = mvW (-1) (stW l) := by
  induction l with
  | nil => exact absurd rfl h0
  | cons x l ih =>
    match l with
    | [] => exact (mv_mv (hs x List.mem_cons_self) x.2).symm
    | y :: r =>
      have h1 := ih (by simp) fun z hz => hs z (List.mem_cons_of_mem _ hz)
      show jnW (mvW (-x.1) x.2) (stW ((y :: r).map fun x => (-x.1, x.2))) = mvW (-1) (jnW (mvW x.1 x.2) (stW (y :: r)))
      rw [h1, mv_jn, mv_mv (hs x List.mem_cons_self)]
end Go.Proofs.YtcmhompbdanpdaaGreatDoor
namespace Go.Proofs.YtcmhompbdanpdaaGreatDoor

def loW (l : List Wt) : Int := (l.headD (0, 0)).1
def hiW (l : List Wt) : Int := (l.getLastD (0, 0)).1
def IsLo (l : List Wt) (m : Int) : Prop := (∃ x ∈ l, x.1 = m) ∧ ∀ x ∈ l, m ≤ x.1
def IsHi (l : List Wt) (m : Int) : Prop := (∃ x ∈ l, x.1 = m) ∧ ∀ x ∈ l, x.1 ≤ m
theorem IsLo.eq {l : List Wt} {m n : Int} (h : IsLo l m) (h' : IsLo l n) : m = n := by
  obtain ⟨⟨x, hx, e⟩, h2⟩ := h
  obtain ⟨⟨y, hy, e2⟩, h3⟩ := h'
  have a := h2 y hy
  have b := h3 x hx
  omega
theorem IsHi.eq {l : List Wt} {m n : Int} (h : IsHi l m) (h' : IsHi l n) : m = n := by
  obtain ⟨⟨x, hx, e⟩, h2⟩ := h
  obtain ⟨⟨y, hy, e2⟩, h3⟩ := h'
  have a := h2 y hy
  have b := h3 x hx
  omega
theorem loW_is {l : List Wt} (h : UpW l) (h0 : l ≠ []) : IsLo l (loW l) := by
  match l, h0 with
  | x :: l, _ => exact ⟨⟨x, List.mem_cons_self, rfl⟩, h.head_le⟩
theorem hiW_is {l : List Wt} (h : UpW l) (h0 : l ≠ []) : IsHi l (hiW l) := by
  rcases List.eq_nil_or_concat l with e | ⟨a, x, e⟩
  · exact absurd e h0
  · rw [List.concat_eq_append] at e
    subst e
    have e2 : hiW (a ++ [x]) = x.1 := by simp [hiW]
    rw [e2]
    exact ⟨⟨x, by simp, rfl⟩, h.le_last⟩
theorem isLo_jn {a b : List Wt} {m n : Int} (ha : IsLo a m) (hb : IsLo b n) : IsLo (jnW a b) (m + n) := by
  obtain ⟨⟨x, hx, e⟩, h2⟩ := ha
  obtain ⟨⟨y, hy, e2⟩, h3⟩ := hb
  refine ⟨(jnW_key _).2 ⟨x, hx, y, hy, by omega⟩, fun z hz => ?_⟩
  obtain ⟨u, hu, v, hv, e3⟩ := (jnW_key z.1).1 ⟨z, hz, rfl⟩
  have p := h2 u hu
  have q := h3 v hv
  omega
theorem isHi_jn {a b : List Wt} {m n : Int} (ha : IsHi a m) (hb : IsHi b n) : IsHi (jnW a b) (m + n) := by
  obtain ⟨⟨x, hx, e⟩, h2⟩ := ha
  obtain ⟨⟨y, hy, e2⟩, h3⟩ := hb
  refine ⟨(jnW_key _).2 ⟨x, hx, y, hy, by omega⟩, fun z hz => ?_⟩
  obtain ⟨u, hu, v, hv, e3⟩ := (jnW_key z.1).1 ⟨z, hz, rfl⟩
  have p := h2 u hu
  have q := h3 v hv
  omega
theorem jnW_ne {a b : List Wt} (ha : a ≠ []) (hb : b ≠ []) : jnW a b ≠ [] := by
  match a, b, ha, hb with
  | x :: a, y :: b, _, _ =>
    intro e
    obtain ⟨z, hz, _⟩ := (jnW_key (a := x :: a) (b := y :: b) (x.1 + y.1)).2 ⟨x, List.mem_cons_self, y, List.mem_cons_self, rfl⟩
    rw [e] at hz; cases hz
theorem lo_jn {a b : List Wt} (ha : UpW a) (hb : UpW b) (a0 : a ≠ []) (b0 : b ≠ []) : loW (jnW a b) = loW a + loW b := (loW_is (jnW_up a b) (jnW_ne a0 b0)).eq (isLo_jn (loW_is ha a0) (loW_is hb b0))
theorem hi_jn {a b : List Wt} (ha : UpW a) (hb : UpW b) (a0 : a ≠ []) (b0 : b ≠ []) : hiW (jnW a b) = hiW a + hiW b := (hiW_is (jnW_up a b) (jnW_ne a0 b0)).eq (isHi_jn (hiW_is ha a0) (hiW_is hb b0))
theorem mvW_ne {s : Int} {l : List Wt} (h : l ≠ []) : mvW s l ≠ [] := by
  unfold mvW
  split
  · intro e
    have : l.map (fun x => (-x.1, x.2)) = [] := by simpa using e
    exact h (by simpa using this)
  · exact h
theorem mv_ends {s : Int} {l : List Wt} (h : UpW l) (h0 : l ≠ []) : loW (mvW s l) = (if s < 0 then -hiW l else loW l) ∧ hiW (mvW s l) = if s < 0 then -loW l else hiW l := by
  obtain ⟨⟨x, hx, e⟩, h2⟩ := loW_is h h0
  obtain ⟨⟨y, hy, e2⟩, h3⟩ := hiW_is h h0
  have hl := loW_is (mvW_up (s := s) h) (mvW_ne h0)
  have hh := hiW_is (mvW_up (s := s) h) (mvW_ne h0)
  by_cases hs : s < 0
  · rw [if_pos hs, if_pos hs]
    refine ⟨hl.eq ⟨⟨_, mvW_mem.2 ⟨y, hy, rfl⟩, by rw [if_pos hs]; omega⟩, fun z hz => ?_⟩, hh.eq ⟨⟨_, mvW_mem.2 ⟨x, hx, rfl⟩, by rw [if_pos hs]; omega⟩, fun z hz => ?_⟩⟩
    · obtain ⟨u, hu, rfl⟩ := mvW_mem.1 hz
      rw [if_pos hs]
      have := h3 u hu; omega
    · obtain ⟨u, hu, rfl⟩ := mvW_mem.1 hz
      rw [if_pos hs]
      have := h2 u hu; omega
  · rw [if_neg hs, if_neg hs]
    have e3 : mvW s l = l := by unfold mvW; rw [if_neg hs]
    rw [e3]; exact ⟨rfl, rfl⟩
theorem momW_le {f g : Int → Int} {l : List Wt} (hp : PosW l) (h : ∀ x ∈ l, f x.1 ≤ g x.1) : momW f l ≤ momW g l := by
  induction l with
  | nil => exact Int.le_refl _
  | cons x l ih =>
    have h1 := ih (fun y hy => hp y (List.mem_cons_of_mem _ hy)) fun y hy => h y (List.mem_cons_of_mem _ hy)
    have h2 := Int.mul_le_mul_of_nonneg_left (h x List.mem_cons_self) (Int.le_of_lt (hp x List.mem_cons_self))
    rw [momW_cons, momW_cons]; omega
/-- Between limits that hold all values the probability is 1. -/
theorem prob_all {l : List Wt} {lo hi : Int} (hT : totW l ≠ 0) (h : ∀ x ∈ l, lo ≤ x.1 ∧ x.1 ≤ hi) : probW l lo hi = 1 := by
  have e : momW (fun v => if lo ≤ v ∧ v ≤ hi then 1 else 0) l = totW l := momW_congr fun x hx => by rw [if_pos (h x hx)]
  unfold probW
  rw [e, Rat.divInt_eq_div]
  have h0 : (totW l : Rat) ≠ 0 := fun e => hT (Rat.intCast_inj.1 (show (totW l : Rat) = ((0 : Int) : Rat) from e))
  obtain ⟨T, hTT⟩ : ∃ T : Rat, (totW l : Rat) = T := ⟨_, rfl⟩
  rw [hTT] at h0 ⊢
  grind
/-- Wider limits have no lesser probability. -/
theorem prob_mono {l : List Wt} {lo hi lo' hi' : Int} (hp : PosW l) (hT : 0 < totW l) (h1 : lo' ≤ lo) (h2 : hi ≤ hi') : probW l lo hi ≤ probW l lo' hi' := by
  have h : momW (fun v => if lo ≤ v ∧ v ≤ hi then 1 else 0) l ≤ momW (fun v => if lo' ≤ v ∧ v ≤ hi' then 1 else 0) l := momW_le hp fun x _ => by
    by_cases e : lo ≤ x.1 ∧ x.1 ≤ hi
    · rw [if_pos e, if_pos ⟨by omega, by omega⟩]; exact Int.le_refl _
    · rw [if_neg e]; split <;> decide
  unfold probW
  rw [Rat.divInt_eq_div, Rat.divInt_eq_div]
  have hT2 : (0 : Rat) < (totW l : Rat) := Rat.intCast_pos.2 hT
  rw [Rat.div_def, Rat.div_def]
  exact Rat.mul_le_mul_of_nonneg_right (Rat.intCast_le_intCast.2 h) (Rat.le_of_lt (Rat.inv_pos.2 hT2))
end Go.Proofs.YtcmhompbdanpdaaGreatDoor
namespace Go.Proofs.YtcmhompbdanpdaaGreatDoor

/-- The first end (its last index) with which the window from i is enough. -/
def fstE (P : Nat → Nat → Bool) (i : Nat) : Nat → Option Nat
  | 0 => none
  | m + 1 => match fstE P i m with
    | some k => some k
    | none => if i ≤ m ∧ P i (m + 1) = true then some m else none
theorem fstE_succ (P : Nat → Nat → Bool) (i m : Nat) : fstE P i (m + 1) = match fstE P i m with
    | some k => some k
    | none => if i ≤ m ∧ P i (m + 1) = true then some m else none := rfl
theorem fstE_some {P : Nat → Nat → Bool} {i m k : Nat} (h : fstE P i m = some k) : i ≤ k ∧ k < m ∧ P i (k + 1) = true := by
  induction m with
  | zero => cases h
  | succ m ih =>
    rw [fstE_succ] at h
    cases e : fstE P i m with
    | some j =>
      rw [e] at h
      simp only [Option.some.injEq] at h
      subst h
      obtain ⟨a, b, c⟩ := ih e
      exact ⟨a, by omega, c⟩
    | none =>
      rw [e] at h
      simp only at h
      by_cases c : i ≤ m ∧ P i (m + 1) = true
      · rw [if_pos c] at h
        cases h
        exact ⟨c.1, by omega, c.2⟩
      · rw [if_neg c] at h; cases h
theorem fstE_none {P : Nat → Nat → Bool} {i m : Nat} (h : ∀ e, i < e → e ≤ m → P i e = false) : fstE P i m = none := by
  induction m with
  | zero => rfl
  | succ m ih =>
    rw [fstE_succ]
    rw [ih fun e h1 h2 => h e h1 (by omega)]
    simp only
    rw [if_neg]
    rintro ⟨h1, h2⟩
    rw [h (m + 1) (by omega) (Nat.le_refl _)] at h2; cases h2
theorem fstE_first {P : Nat → Nat → Bool} {i k m : Nat} (hi : i ≤ k) (hk : k < m) (hP : P i (k + 1) = true) (h : ∀ e, i < e → e ≤ k → P i e = false) : fstE P i m = some k := by
  induction m with
  | zero => omega
  | succ m ih =>
    rw [fstE_succ]
    by_cases e : k = m
    · subst e
      rw [fstE_none h]
      simp only
      rw [if_pos ⟨hi, hP⟩]
    · rw [ih (by omega)]
/-- One start more. -/
def stepB (v : Nat → Int) (P : Nat → Nat → Bool) (n : Nat) (best : Int × Int) (i : Nat) : Int × Int :=
  match fstE P i n with
  | none => best
  | some k => if v k - v i < best.2 - best.1 then (v i, v k) else best
/-- The best limits after m starts. -/
def bestB (v : Nat → Int) (P : Nat → Nat → Bool) (n m : Nat) : Int × Int := (List.range m).foldl (stepB v P n) (v 0, v (n - 1))
theorem bestB_succ (v : Nat → Int) (P : Nat → Nat → Bool) (n m : Nat) : bestB v P n (m + 1) = stepB v P n (bestB v P n m) m := by
  unfold bestB
  rw [List.range_succ, List.foldl_append]; rfl
/-- One end more, as the reference tries it. -/
def tryB (v : Nat → Int) (P : Nat → Nat → Bool) (i : Nat) (best : Int × Int) (k : Nat) : Int × Int :=
  if i ≤ k ∧ P i (k + 1) = true ∧ v k - v i < best.2 - best.1 then (v i, v k) else best
def triedB (v : Nat → Int) (P : Nat → Nat → Bool) (i : Nat) (best : Int × Int) (m : Nat) : Int × Int := (List.range m).foldl (tryB v P i) best
theorem triedB_succ (v : Nat → Int) (P : Nat → Nat → Bool) (i : Nat) (best : Int × Int) (m : Nat) : triedB v P i best (m + 1) = tryB v P i (triedB v P i best m) m := by
  unfold triedB
  rw [List.range_succ, List.foldl_append]; rfl
/-- Ends before the start change nothing. -/
theorem triedB_low {v : Nat → Int} {P : Nat → Nat → Bool} {i m : Nat} {best : Int × Int} (h : m ≤ i) : triedB v P i best m = best := by
  induction m with
  | zero => rfl
  | succ m ih =>
    rw [triedB_succ, ih (by omega)]
    unfold tryB
    rw [if_neg (by omega)]
theorem triedB_eq {v : Nat → Int} {P : Nat → Nat → Bool} {n i : Nat} {best : Int × Int} (hv : ∀ a b, a < b → b < n → v a < v b) {m : Nat} (hm : m ≤ n) :
    triedB v P i best m = match fstE P i m with
      | none => best
      | some k => if v k - v i < best.2 - best.1 then (v i, v k) else best := by
  induction m with
  | zero => rfl
  | succ m ih =>
    rw [triedB_succ, ih (by omega), fstE_succ]
    cases e : fstE P i m with
    | some k =>
      simp only
      obtain ⟨h1, h2, h3⟩ := fstE_some e
      have h4 := hv k m h2 (by omega)
      by_cases c : v k - v i < best.2 - best.1
      · rw [if_pos c]
        unfold tryB
        rw [if_neg]
        rintro ⟨_, _, h5⟩
        simp only at h5
        omega
      · rw [if_neg c]
        unfold tryB
        rw [if_neg]
        rintro ⟨_, _, h5⟩
        omega
    | none =>
      simp only
      unfold tryB
      by_cases c : i ≤ m ∧ P i (m + 1) = true
      · rw [if_pos c]
        by_cases d : v m - v i < best.2 - best.1
        · rw [if_pos ⟨c.1, c.2, d⟩]; simp only; rw [if_pos d]
        · rw [if_neg fun h => d h.2.2]; simp only; rw [if_neg d]
      · rw [if_neg c, if_neg fun h => c ⟨h.1, h.2.1⟩]
theorem triedB_step {v : Nat → Int} {P : Nat → Nat → Bool} {n i : Nat} {best : Int × Int} (hv : ∀ a b, a < b → b < n → v a < v b) : triedB v P i best n = stepB v P n best i := triedB_eq hv (Nat.le_refl _)
/-- The window that moves: what it knows. -/
structure WinI (v : Nat → Int) (P : Nat → Nat → Bool) (n i e : Nat) (best : Int × Int) : Prop where
  lo : i ≤ e
  hi : e ≤ n
  bst : best = bestB v P n i
  few : ∀ f, i < f → f < e → P i f = false
theorem WinI.more {v : Nat → Int} {P : Nat → Nat → Bool} {n i e : Nat} {best : Int × Int} (h : WinI v P n i e best) (he : e < n) (hn : ¬ (P i e = true ∧ i < e)) : WinI v P n i (e + 1) best := by
  refine ⟨by have := h.lo; omega, he, h.bst, fun f h1 h2 => ?_⟩
  by_cases c : f = e
  · subst c
    cases hp : P i f with
    | false => rfl
    | true => exact absurd ⟨hp, h1⟩ hn
  · exact h.few f h1 (by omega)
/-- The window is enough: the start is done. -/
theorem WinI.hit {v : Nat → Int} {P : Nat → Nat → Bool} {n i e : Nat} {best : Int × Int} (h : WinI v P n i e best) (_hin : i < n) (hP : P i e = true) (hlt : i < e) (hanti : ∀ f, i + 1 < f → P i f = false → P (i + 1) f = false) :
    WinI v P n (i + 1) e (if v (e - 1) - v i < best.2 - best.1 then (v i, v (e - 1)) else best) := by
  have hf : fstE P i n = some (e - 1) := by
    refine fstE_first (by omega) (by have := h.hi; omega) (by rw [show e - 1 + 1 = e by omega]; exact hP) fun f h1 h2 => h.few f h1 (by omega)
  refine ⟨by omega, h.hi, ?_, fun f h1 h2 => hanti f h1 (h.few f (by omega) h2)⟩
  rw [bestB_succ, ← h.bst]
  unfold stepB
  rw [hf]
/-- No window from here is enough: the start is done. -/
theorem WinI.miss {v : Nat → Int} {P : Nat → Nat → Bool} {n i : Nat} {best : Int × Int} (h : WinI v P n i n best) (hin : i < n) (hP : P i n = false) (hanti : ∀ f, i + 1 < f → P i f = false → P (i + 1) f = false) : WinI v P n (i + 1) n best := by
  have hf : fstE P i n = none := fstE_none fun e h1 h2 => by
    by_cases c : e = n
    · subst c; exact hP
    · exact h.few e h1 (by omega)
  refine ⟨by omega, Nat.le_refl _, ?_, fun f h1 h2 => hanti f h1 (h.few f (by omega) h2)⟩
  rw [bestB_succ, ← h.bst]
  unfold stepB
  rw [hf]
end Go.Proofs.YtcmhompbdanpdaaGreatDoor
namespace Go.Proofs.YtcmhompbdanpdaaGreatDoor

/-- All choices, in lexicographic order. -/
def chs : List (List Int) → List (List Int)
  | [] => [[]]
  | xs :: r => xs.flatMap fun x => (chs r).map fun c => x :: c
/-- As the reference builds them: one list more at the end. -/
def chsL (out : List (List Int)) (l : List (List Int)) : List (List Int) := l.foldl (fun out xs => out.flatMap fun o => xs.map fun x => o ++ [x]) out
theorem chsL_eq (l : List (List Int)) : ∀ out, chsL out l = out.flatMap fun o => (chs l).map fun c => o ++ c := by
  induction l with
  | nil =>
    intro out
    show out = _
    induction out with
    | nil => rfl
    | cons o out ih => rw [List.flatMap_cons, ← ih]; simp [chs]
  | cons xs l ih =>
    intro out
    show chsL (out.flatMap fun o => xs.map fun x => o ++ [x]) l = _
    rw [ih]
    induction out with
    | nil => rfl
    | cons o out ih2 =>
      rw [List.flatMap_cons, List.flatMap_append, ih2, List.flatMap_cons]
      congr 1
      rw [show chs (xs :: l) = xs.flatMap fun x => (chs l).map fun c => x :: c from rfl, List.map_flatMap, List.flatMap_map]
      congr 1
      funext x
      rw [List.map_map]
      congr 1
      funext c
      simp
theorem chs_all (l : List (List Int)) : chsL [[]] l = chs l := by
  rw [chsL_eq]; simp
/-- The value of a choice. -/
def valC : List Int → List Int → Int
  | s :: ss, c :: cs => s * c + valC ss cs
  | _, _ => 0
theorem chs_len {l : List (List Int)} {c : List Int} (h : c ∈ chs l) : c.length = l.length := by
  induction l generalizing c with
  | nil => rw [List.mem_singleton.1 h]; rfl
  | cons xs l ih =>
    obtain ⟨x, hx, h2⟩ := List.mem_flatMap.1 h
    obtain ⟨d, hd, rfl⟩ := List.mem_map.1 h2
    rw [List.length_cons, List.length_cons, ih hd]
theorem chs_mem {l : List (List Int)} {c : List Int} (h : c ∈ chs l) {k : Nat} (hk : k < l.length) : ∃ x ∈ l.getD k [], c.getD k 0 = x := by
  induction l generalizing c k with
  | nil => cases hk
  | cons xs l ih =>
    obtain ⟨x, hx, h2⟩ := List.mem_flatMap.1 h
    obtain ⟨d, hd, rfl⟩ := List.mem_map.1 h2
    match k with
    | 0 => exact ⟨x, by simpa using hx, by simp⟩
    | k + 1 =>
      have := ih hd (k := k) (by rw [List.length_cons] at hk; omega)
      simpa using this
/-- A choice with a value: the first element behind which the rest can be reached. -/
def chooseL : List (Int × List Int) → Int → Option (List Int)
  | [], v => if v = 0 then some [] else none
  | x :: r, v => x.2.findSome? fun y => (chooseL r (v - x.1 * y)).map fun c => y :: c
theorem find_map {α β : Type} (f : α → β) (p : β → Bool) (l : List α) : (l.map f).find? p = (l.find? fun x => p (f x)).map f := by
  induction l with
  | nil => rfl
  | cons x l ih =>
    rw [List.map_cons, List.find?_cons, List.find?_cons]
    cases h : p (f x) with
    | true => rfl
    | false => exact ih
theorem find_flat {α β : Type} (f : α → List β) (p : β → Bool) (l : List α) : (l.flatMap f).find? p = l.findSome? fun x => (f x).find? p := by
  induction l with
  | nil => rfl
  | cons x l ih =>
    rw [List.flatMap_cons, List.find?_append, List.findSome?_cons, ih]
    cases (f x).find? p <;> rfl
/-- Both find the same. -/
theorem choose_find (l : List (Int × List Int)) : ∀ v, (chs (l.map fun x => x.2)).find? (fun c => valC (l.map fun x => x.1) c == v) = chooseL l v := by
  induction l with
  | nil =>
    intro v
    show List.find? _ [[]] = if v = 0 then some [] else none
    by_cases h : v = 0
    · subst h; rfl
    · rw [if_neg h]
      rw [List.find?_cons]
      have : (valC [] [] == v) = false := by
        show ((0 : Int) == v) = false
        simpa using fun e => h e.symm
      simp only [List.map_nil, this]
      rfl
  | cons x l ih =>
    intro v
    show List.find? _ (x.2.flatMap fun y => (chs (l.map fun x => x.2)).map fun c => y :: c) = _
    rw [find_flat]
    unfold chooseL
    congr 1
    funext y
    rw [find_map, ← ih]
    congr 1
    congr 1
    funext c
    show (x.1 * y + valC (l.map fun x => x.1) c == v) = (valC (l.map fun x => x.1) c == v - x.1 * y)
    by_cases h : valC (l.map fun x => x.1) c = v - x.1 * y
    · rw [h, show x.1 * y + (v - x.1 * y) = v by omega, beq_self_eq_true, beq_self_eq_true]
    · have h2 : ¬ x.1 * y + valC (l.map fun x => x.1) c = v := fun e => h (by omega)
      rw [show (x.1 * y + valC (l.map fun x => x.1) c == v) = false by simpa using h2, show (valC (l.map fun x => x.1) c == v - x.1 * y) = false by simpa using h]
theorem choose_val {l : List (Int × List Int)} {v : Int} {c : List Int} (h : chooseL l v = some c) : c ∈ chs (l.map fun x => x.2) ∧ valC (l.map fun x => x.1) c = v := by
  rw [← choose_find] at h
  exact ⟨List.mem_of_find?_eq_some h, by simpa using List.find?_some h⟩
theorem choose_none {l : List (Int × List Int)} {v : Int} : chooseL l v = none ↔ ∀ c ∈ chs (l.map fun x => x.2), valC (l.map fun x => x.1) c ≠ v := by
  rw [← choose_find, List.find?_eq_none]
  constructor
  · intro h c hc e
    exact absurd (by simpa using e) (h c hc)
  · intro h c hc e
    exact h c hc (by simpa using e)
/-- The values of a stack are those of its choices. -/
theorem stack_values (l : List (Int × List Wt)) (hs : ∀ x ∈ l, x.1 = 1 ∨ x.1 = -1) (v : Int) : (∃ z ∈ stW l, z.1 = v) ↔ ∃ c ∈ chs (l.map fun x => x.2.map fun y => y.1), valC (l.map fun x => x.1) c = v := by
  have hm : ∀ (x : Int × List Wt), x.1 = 1 ∨ x.1 = -1 → ∀ n, (∃ z ∈ mvW x.1 x.2, z.1 = n) ↔ ∃ y ∈ x.2, x.1 * y.1 = n := by
    intro x hx n
    have e : ∀ k : Int, (if x.1 < 0 then -k else k) = x.1 * k := fun k => by
      rcases hx with h | h <;> rw [h]
      · rw [if_neg (by decide)]; omega
      · rw [if_pos (by decide)]; omega
    constructor
    · rintro ⟨z, hz, e2⟩
      obtain ⟨y, hy, rfl⟩ := mvW_mem.1 hz
      exact ⟨y, hy, by rw [← e]; exact e2⟩
    · rintro ⟨y, hy, e2⟩
      exact ⟨_, mvW_mem.2 ⟨y, hy, rfl⟩, by rw [← e2]; exact e y.1⟩
  induction l generalizing v with
  | nil =>
    constructor
    · rintro ⟨z, hz, e⟩
      rw [List.mem_singleton.1 hz] at e
      exact ⟨[], List.mem_singleton.2 rfl, e⟩
    · rintro ⟨c, hc, e⟩
      rw [List.mem_singleton.1 hc] at e
      exact ⟨(0, 1), List.mem_singleton.2 rfl, e⟩
  | cons x l ih =>
    have hx := hs x List.mem_cons_self
    match l, ih with
    | [], _ =>
      show (∃ z ∈ mvW x.1 x.2, z.1 = v) ↔ _
      rw [hm x hx]
      constructor
      · rintro ⟨y, hy, e⟩
        refine ⟨[y.1], List.mem_flatMap.2 ⟨y.1, List.mem_map.2 ⟨y, hy, rfl⟩, List.mem_map.2 ⟨[], List.mem_singleton.2 rfl, rfl⟩⟩, ?_⟩
        show x.1 * y.1 + 0 = v
        omega
      · rintro ⟨c, hc, e⟩
        obtain ⟨u, hu, h2⟩ := List.mem_flatMap.1 hc
        obtain ⟨d, hd, rfl⟩ := List.mem_map.1 h2
        obtain ⟨y, hy, rfl⟩ := List.mem_map.1 hu
        rw [List.mem_singleton.1 hd] at e
        have e2 : x.1 * y.1 + 0 = v := e
        exact ⟨y, hy, by omega⟩
    | w :: r, ih =>
      have h1 := ih fun z hz => hs z (List.mem_cons_of_mem _ hz)
      show (∃ z ∈ jnW (mvW x.1 x.2) (stW (w :: r)), z.1 = v) ↔ _
      rw [jnW_key]
      constructor
      · rintro ⟨p, hp, q, hq, e⟩
        obtain ⟨y, hy, e2⟩ := (hm x hx p.1).1 ⟨p, hp, rfl⟩
        obtain ⟨c, hc, e3⟩ := (h1 q.1).1 ⟨q, hq, rfl⟩
        refine ⟨y.1 :: c, List.mem_flatMap.2 ⟨y.1, List.mem_map.2 ⟨y, hy, rfl⟩, List.mem_map.2 ⟨c, hc, rfl⟩⟩, ?_⟩
        show x.1 * y.1 + valC _ c = v
        rw [e2, e3]; exact e
      · rintro ⟨c, hc, e⟩
        obtain ⟨u, hu, h2⟩ := List.mem_flatMap.1 hc
        obtain ⟨d, hd, rfl⟩ := List.mem_map.1 h2
        obtain ⟨y, hy, rfl⟩ := List.mem_map.1 hu
        obtain ⟨p, hp, e2⟩ := (hm x hx (x.1 * y.1)).2 ⟨y, hy, rfl⟩
        obtain ⟨q, hq, e3⟩ := (h1 (valC ((w :: r).map fun x => x.1) d)).2 ⟨d, hd, rfl⟩
        refine ⟨p, hp, q, hq, ?_⟩
        rw [e2, e3]; exact e
end Go.Proofs.YtcmhompbdanpdaaGreatDoor
namespace Go.Proofs.YtcmhompbdanpdaaGreatDoor
open Go.Lib

/-- The squares of the distances to x. -/
def dsI (x : Int) (l : List Int) : Int := l.foldr (fun y s => (x - y) * (x - y) + s) 0
theorem sq_nonneg (x : Int) : 0 ≤ x * x := by
  by_cases hx : 0 ≤ x
  · exact Int.mul_nonneg hx hx
  · rw [← Int.neg_mul_neg]; exact Int.mul_nonneg (by omega) (by omega)
theorem dsI_nonneg (x : Int) (l : List Int) : 0 ≤ dsI x l := by
  induction l with
  | nil => exact Int.le_refl _
  | cons y l ih =>
    show 0 ≤ (x - y) * (x - y) + dsI x l
    have := sq_nonneg (x - y)
    omega
theorem dsI_zero {x : Int} {l : List Int} (h : dsI x l = 0) : ∀ y ∈ l, y = x := by
  induction l with
  | nil => intro y hy; cases hy
  | cons z l ih =>
    have h' : (x - z) * (x - z) + dsI x l = 0 := h
    have h1 := sq_nonneg (x - z)
    have h2 := dsI_nonneg x l
    intro y hy
    rcases List.mem_cons.1 hy with rfl | hy
    · have h3 : (x - y) * (x - y) = 0 := by omega
      rcases Int.mul_eq_zero.1 h3 with h4 | h4 <;> omega
    · exact ih (by omega) y hy
theorem dsI_eq (x : Int) (l : List Int) : dsI x l = (l.length : Int) * (x * x) - 2 * x * sumI l + sqI l := by
  induction l with
  | nil => simp [dsI, sumI, sqI]
  | cons y l ih =>
    show (x - y) * (x - y) + dsI x l = _
    rw [ih, sumI_cons, sqI_cons, List.length_cons]
    push_cast
    grind
/-- n times the sum of the squares, less the square of the sum. -/
def csI (l : List Int) : Int := (l.length : Int) * sqI l - sumI l * sumI l
theorem csI_cons (x : Int) (l : List Int) : csI (x :: l) = csI l + dsI x l := by
  unfold csI
  rw [dsI_eq, sumI_cons, sqI_cons, List.length_cons]
  push_cast
  grind
theorem csI_nonneg (l : List Int) : 0 ≤ csI l := by
  induction l with
  | nil => exact Int.le_refl _
  | cons x l ih => rw [csI_cons]; have := dsI_nonneg x l; omega
theorem csI_zero {l : List Int} : csI l = 0 ↔ ∀ x ∈ l, ∀ y ∈ l, x = y := by
  induction l with
  | nil => exact ⟨fun _ x hx => (by cases hx), fun _ => rfl⟩
  | cons x l ih =>
    have h1 := csI_nonneg l
    have h2 := dsI_nonneg x l
    rw [csI_cons]
    constructor
    · intro h
      have h3 := dsI_zero (x := x) (l := l) (by omega)
      have key : ∀ y ∈ x :: l, y = x := fun y hy => by
        rcases List.mem_cons.1 hy with rfl | hy
        · rfl
        · exact h3 y hy
      intro a ha b hb
      rw [key a ha, key b hb]
    · intro h
      have h3 : csI l = 0 := ih.2 (fun a ha b hb => h a (List.mem_cons_of_mem _ ha) b (List.mem_cons_of_mem _ hb))
      have h4 : dsI x l = 0 := by
        have key : ∀ y ∈ l, y = x := fun y hy => h y (List.mem_cons_of_mem _ hy) x List.mem_cons_self
        clear h ih h1 h2 h3
        induction l with
        | nil => rfl
        | cons y l ih =>
          show (x - y) * (x - y) + dsI x l = 0
          rw [ih (fun z hz => key z (List.mem_cons_of_mem _ hz)), key y List.mem_cons_self]; simp
      omega
theorem len2_pos {l : List Int} (h : 2 ≤ l.length) : 0 < (l.length : Int) * ((l.length : Int) - 1) := Int.mul_pos (by omega) (by omega)
theorem varS_pos {l : List Int} (h : 2 ≤ l.length) (hv : ∃ x ∈ l, ∃ y ∈ l, x ≠ y) : 0 < varS l := by
  have hne : csI l ≠ 0 := fun e => by
    obtain ⟨x, hx, y, hy, hxy⟩ := hv
    exact hxy (csI_zero.1 e x hx y hy)
  have hp : 0 < csI l := by have := csI_nonneg l; omega
  unfold varS
  rw [Rat.divInt_eq_div, Rat.lt_div_iff (Rat.intCast_pos.2 (len2_pos h)), Rat.zero_mul]
  exact Rat.intCast_pos.2 hp
theorem varS_zero {l : List Int} (h : 2 ≤ l.length) : varS l = 0 ↔ ∀ x ∈ l, ∀ y ∈ l, x = y := by
  constructor
  · intro h0 x hx y hy
    apply Classical.byContradiction
    intro hne
    have := varS_pos h ⟨x, hx, y, hy, hne⟩
    rw [h0] at this
    exact Rat.lt_irrefl this
  · intro h1
    have h2 : csI l = 0 := csI_zero.2 h1
    unfold varS
    show Rat.divInt (csI l) _ = 0
    rw [h2, Rat.zero_divInt]
/-! ### the two capabilities -/
def capS (l : List Int) (lo hi : Int) : Rat := ((hi - lo : Int) : Rat) * ((hi - lo : Int) : Rat) / (36 * varS l)
/-- The distance of the mean to the limits, times the number of values. -/
def farI (l : List Int) (lo hi : Int) : Int := min ((l.length : Int) * hi - sumI l) (sumI l - (l.length : Int) * lo)
def farS (l : List Int) (lo hi : Int) : Rat := Rat.divInt (farI l lo hi) l.length
def cenS (l : List Int) (lo hi : Int) : Rat := farS l lo hi * farS l lo hi / (9 * varS l)
theorem mean_lt {l : List Int} (h : 0 < l.length) (z : Int) : (meanS l < (z : Rat) ↔ sumI l < (l.length : Int) * z) ∧ ((z : Rat) < meanS l ↔ (l.length : Int) * z < sumI l) := by
  rw [meanS_eq]
  have hp : (0 : Rat) < (l.length : Rat) := Rat.natCast_pos.2 h
  constructor
  · rw [Rat.div_lt_iff hp, Int.mul_comm]
    have e : (z : Rat) * (l.length : Rat) = ((z * (l.length : Int) : Int) : Rat) := by rw [Rat.intCast_mul]; rfl
    rw [e, Rat.intCast_lt_intCast]
  · rw [Rat.lt_div_iff hp, Int.mul_comm]
    have e : (z : Rat) * (l.length : Rat) = ((z * (l.length : Int) : Int) : Rat) := by rw [Rat.intCast_mul]; rfl
    rw [e, Rat.intCast_lt_intCast]
theorem far_sign {l : List Int} (h : 0 < l.length) (lo hi : Int) : (0 < farI l lo hi ↔ (lo : Rat) < meanS l ∧ meanS l < (hi : Rat)) ∧ (farI l lo hi < 0 ↔ meanS l < (lo : Rat) ∨ (hi : Rat) < meanS l) := by
  rw [(mean_lt h lo).1, (mean_lt h lo).2, (mean_lt h hi).1, (mean_lt h hi).2]
  unfold farI
  constructor <;> omega
theorem far_eq {l : List Int} (h : 0 < l.length) (lo hi : Int) : farS l lo hi = min ((hi : Rat) - meanS l) (meanS l - (lo : Rat)) := by
  have hp : (l.length : Rat) ≠ 0 := fun e => by
    have := Rat.natCast_inj.1 (show (l.length : Rat) = ((0 : Nat) : Rat) from e)
    omega
  have e1 : (hi : Rat) - meanS l = Rat.divInt ((l.length : Int) * hi - sumI l) l.length := by
    rw [meanS_eq, Rat.divInt_eq_div, Rat.intCast_sub, Rat.intCast_mul]
    have en : (((l.length : Nat) : Int) : Rat) = (l.length : Rat) := rfl
    rw [en]
    grind
  have e2 : meanS l - (lo : Rat) = Rat.divInt (sumI l - (l.length : Int) * lo) l.length := by
    rw [meanS_eq, Rat.divInt_eq_div, Rat.intCast_sub, Rat.intCast_mul]
    have en : (((l.length : Nat) : Int) : Rat) = (l.length : Rat) := rfl
    rw [en]
    grind
  have hpos : (0 : Rat) < (l.length : Rat) := Rat.natCast_pos.2 h
  have hle : (hi : Rat) - meanS l ≤ meanS l - (lo : Rat) ↔ (l.length : Int) * hi - sumI l ≤ sumI l - (l.length : Int) * lo := by
    have h1 := (mean_lt h hi)
    rw [e1, e2, Rat.divInt_eq_div, Rat.divInt_eq_div]
    have en : (((l.length : Nat) : Int) : Rat) = (l.length : Rat) := rfl
    rw [en, ← Rat.not_lt, ← Rat.not_lt.trans Rat.intCast_le_intCast, Rat.div_lt_iff hpos]
    rw [Rat.div_mul_cancel hp]
  unfold farS farI
  by_cases hc : (l.length : Int) * hi - sumI l ≤ sumI l - (l.length : Int) * lo
  · rw [Int.min_eq_left hc, ← e1]
    exact (if_pos (hle.2 hc)).symm
  · rw [Int.min_eq_right (by omega), ← e2]
    exact (if_neg (fun h => hc (hle.1 h))).symm
/-- The centered capability is at most the capability, and is it just in the middle. -/
theorem cen_cap {l : List Int} (h : 2 ≤ l.length) (hv : 0 < varS l) (lo hi : Int) (h0 : 0 ≤ farI l lo hi) : cenS l lo hi ≤ capS l lo hi ∧ (cenS l lo hi = capS l lo hi ↔ meanS l = ((lo + hi : Int) : Rat) / 2) := by
  have hl : 0 < l.length := by omega
  have hf := far_eq hl lo hi
  obtain ⟨m, hm⟩ : ∃ m, meanS l = m := ⟨_, rfl⟩
  obtain ⟨L, hL⟩ : ∃ m : Rat, (lo : Rat) = m := ⟨_, rfl⟩
  obtain ⟨H, hH⟩ : ∃ m : Rat, (hi : Rat) = m := ⟨_, rfl⟩
  obtain ⟨v, hvv⟩ : ∃ v, varS l = v := ⟨_, rfl⟩
  obtain ⟨f, hff⟩ : ∃ v, farS l lo hi = v := ⟨_, rfl⟩
  have hf0 : 0 ≤ f := by
    rw [← hff]
    unfold farS
    exact Rat.divInt_nonneg h0 (by omega)
  unfold cenS capS
  rw [Rat.intCast_sub, Rat.intCast_add, hm, hL, hH, hvv, hff]
  rw [hff, hm, hL, hH] at hf
  rw [hvv] at hv
  have hv0 : v ≠ 0 := fun e => by rw [e] at hv; exact Rat.lt_irrefl hv
  have ha : f ≤ H - m ∧ f ≤ m - L ∧ (f = H - m ∨ f = m - L) := by
    rw [hf]
    by_cases hc : H - m ≤ m - L
    · have e : min (H - m) (m - L) = H - m := if_pos hc
      rw [e]; exact ⟨Rat.le_refl, hc, .inl rfl⟩
    · have e : min (H - m) (m - L) = m - L := if_neg hc
      rw [e]; exact ⟨by rcases Rat.le_total (a := H - m) (b := m - L) with h1 | h1; exact absurd h1 hc; exact h1, Rat.le_refl, .inr rfl⟩
  clear hf hm hL hH hvv hff h0 hl h
  obtain ⟨ha1, ha2, ha3⟩ := ha
  have e1 : f * f / (9 * v) = (4 * (f * f)) / (36 * v) := by grind
  have hpos : 0 < 36 * v := Rat.mul_pos (by decide) hv
  rw [e1]
  have hd : 2 * f ≤ H - L := by grind
  have hsq : (H - L) * (H - L) - 4 * (f * f) = (H - L - 2 * f) * (H - L + 2 * f) := by grind
  have hs2 : 0 ≤ H - L - 2 * f := by grind
  have hs3 : 0 ≤ H - L + 2 * f := by grind
  have hnn : 0 ≤ (H - L) * (H - L) - 4 * (f * f) := by rw [hsq]; exact Rat.mul_nonneg hs2 hs3
  have hdiff : (H - L) * (H - L) / (36 * v) - 4 * (f * f) / (36 * v) = ((H - L) * (H - L) - 4 * (f * f)) * (36 * v)⁻¹ := by grind
  have hinv : 0 < (36 * v)⁻¹ := Rat.inv_pos.2 hpos
  constructor
  · rw [Rat.le_iff_sub_nonneg, hdiff]
    exact Rat.mul_nonneg hnn (Rat.le_of_lt hinv)
  · constructor
    · intro he
      have h1 : ((H - L) * (H - L) - 4 * (f * f)) * (36 * v)⁻¹ = 0 := by rw [← hdiff, he]; grind
      rcases Rat.mul_eq_zero.1 h1 with h2 | h2
      · rw [hsq] at h2
        rcases Rat.mul_eq_zero.1 h2 with h3 | h3
        · grind
        · grind
      · rw [h2] at hinv; exact absurd hinv Rat.lt_irrefl
    · intro he
      have h1 : H - m = m - L := by rw [he]; grind
      have h2 : 2 * f = H - L := by grind
      have h3 : 4 * (f * f) = (H - L) * (H - L) := by grind
      rw [h3]
end Go.Proofs.YtcmhompbdanpdaaGreatDoor
namespace Go.Proofs.YtcmhompbdanpdaaGreatDoor

/-- A series as elements of weight 1, and its distribution. -/
def oneW (l : List Int) : List Wt := l.map fun n => (n, 1)
def serW (l : List Int) : List Wt := gatW (oneW l)
theorem one_pos (l : List Int) : PosW (oneW l) := by
  intro x hx
  obtain ⟨n, _, rfl⟩ := List.mem_map.1 hx
  show (0 : Int) < 1
  decide
theorem ser_up (l : List Int) : UpW (serW l) := (gatW_spec _).1
theorem ser_pos (l : List Int) : PosW (serW l) := gat_pos (one_pos l)
theorem mom_one (l : List Int) : momW (fun _ => 1) (oneW l) = l.length ∧ momW (fun v => v) (oneW l) = sumI l ∧ momW (fun v => v * v) (oneW l) = sqI l := by
  induction l with
  | nil => exact ⟨rfl, by simp [oneW, momW, sumI], by simp [oneW, momW, sqI]⟩
  | cons x l ih =>
    obtain ⟨h1, h2, h3⟩ := ih
    have e : oneW (x :: l) = (x, 1) :: oneW l := rfl
    rw [e, momW_cons, momW_cons, momW_cons, h1, h2, h3, List.length_cons, sumI_cons, sqI_cons]
    refine ⟨?_, ?_, ?_⟩
    · push_cast; omega
    · omega
    · show 1 * (x * x) + sqI l = x * x + sqI l
      omega
theorem ser_mom (l : List Int) : totW (serW l) = l.length ∧ momW (fun v => v) (serW l) = sumI l ∧ momW (fun v => v * v) (serW l) = sqI l := by
  have h : ∀ g, momW g (serW l) = momW g (oneW l) := fun g => momW_gat g _
  obtain ⟨h1, h2, h3⟩ := mom_one l
  exact ⟨(h _).trans h1, (h _).trans h2, (h _).trans h3⟩
theorem ser_mean (l : List Int) : meanW (serW l) = meanS l := by
  obtain ⟨h1, h2, _⟩ := ser_mom l
  unfold meanW
  rw [h1, h2]; rfl
/-- The variance of the series is that of its distribution times n, divided by n - 1. -/
theorem ser_var {l : List Int} (h : 2 ≤ l.length) : varW (serW l) * Rat.divInt l.length ((l.length : Int) - 1) = varS l := by
  obtain ⟨h1, h2, h3⟩ := ser_mom l
  have em := ser_mean l
  have e2 := meanS_eq l
  unfold varW
  rw [em, h1, h3]
  unfold varS
  rw [e2, Rat.divInt_eq_div, Rat.divInt_eq_div, Rat.divInt_eq_div]
  obtain ⟨n, hn⟩ : ∃ n : Nat, l.length = n + 2 := ⟨l.length - 2, by omega⟩
  rw [hn]
  simp only [Rat.intCast_mul, Rat.intCast_sub, Rat.intCast_natCast]
  obtain ⟨S, hS⟩ : ∃ S : Rat, (sumI l : Rat) = S := ⟨_, rfl⟩
  obtain ⟨Q, hQ⟩ : ∃ S : Rat, (sqI l : Rat) = S := ⟨_, rfl⟩
  rw [hS, hQ]
  have hN : ((n + 2 : Nat) : Rat) ≠ 0 := by
    intro e
    have : ((n + 2 : Nat) : Rat) = ((0 : Nat) : Rat) := e
    have := Rat.natCast_inj.1 this
    omega
  have hN1 : ((n + 2 : Nat) : Rat) - ((1 : Int) : Rat) ≠ 0 := by
    intro e
    have e3 : ((n + 2 : Nat) : Rat) = ((1 : Nat) : Rat) := by
      have : ((1 : Int) : Rat) = ((1 : Nat) : Rat) := rfl
      rw [← this]; grind
    have := Rat.natCast_inj.1 e3
    omega
  obtain ⟨N, hNN⟩ : ∃ N : Rat, ((n + 2 : Nat) : Rat) = N := ⟨_, rfl⟩
  obtain ⟨M, hMM⟩ : ∃ N : Rat, ((1 : Int) : Rat) = N := ⟨_, rfl⟩
  have hM1 : M = 1 := by rw [← hMM]; rfl
  rw [hNN] at hN hN1 ⊢
  rw [hMM] at hN1 ⊢
  subst hM1
  grind
end Go.Proofs.YtcmhompbdanpdaaGreatDoor
namespace Go.Proofs.YtcmhompbdanpdaaGreatDoor

/-! ### histograms -/
/-- The place of a value: 0 below, then the bins, then above. -/
def binO (low width : Int) (bins : Nat) (x : Int) : Nat := if x < low then 0 else min ((x - low) / width).toNat bins + 1
theorem binO_le (low width : Int) (bins : Nat) (x : Int) : binO low width bins x ≤ bins + 1 := by
  unfold binO
  split <;> omega
/-- How many values have a place. -/
def hcN (low width : Int) (bins : Nat) (l : List Int) (k : Nat) : Nat := l.countP (fun x => binO low width bins x == k)
theorem hcN_nil (low width : Int) (bins k : Nat) : hcN low width bins [] k = 0 := rfl
theorem hcN_snoc (low width : Int) (bins : Nat) (l : List Int) (x : Int) (k : Nat) : hcN low width bins (l ++ [x]) k = hcN low width bins l k + (if binO low width bins x = k then 1 else 0) := by
  unfold hcN
  rw [List.countP_append]
  congr 1
  by_cases h : binO low width bins x = k <;> simp [h]
theorem hcN_le (low width : Int) (bins : Nat) (l : List Int) (k : Nat) : hcN low width bins l k ≤ l.length := List.countP_le_length
/-- All values are counted once. -/
def sumTo (f : Nat → Nat) : Nat → Nat
  | 0 => 0
  | n + 1 => sumTo f n + f n
theorem sumTo_one (a : Nat) : ∀ n, sumTo (fun k => if a = k then 1 else 0) n = if a < n then 1 else 0
  | 0 => by simp [sumTo]
  | n + 1 => by
    rw [sumTo, sumTo_one a n]
    by_cases h : a < n
    · rw [if_pos h, if_neg (by omega), if_pos (by omega)]
    · rw [if_neg h]
      by_cases h2 : a = n
      · rw [if_pos h2, if_pos (by omega)]
      · rw [if_neg h2, if_neg (by omega)]
theorem sumTo_add (f g : Nat → Nat) : ∀ n, sumTo (fun k => f k + g k) n = sumTo f n + sumTo g n
  | 0 => rfl
  | n + 1 => by rw [sumTo, sumTo, sumTo, sumTo_add f g n]; omega
theorem sumTo_congr {f g : Nat → Nat} : ∀ {n}, (∀ k, k < n → f k = g k) → sumTo f n = sumTo g n
  | 0, _ => rfl
  | n + 1, h => by rw [sumTo, sumTo, sumTo_congr (fun k hk => h k (by omega)), h n (by omega)]
theorem hcN_total (low width : Int) (bins : Nat) (l : List Int) : sumTo (hcN low width bins l) (bins + 2) = l.length := by
  have h : ∀ r : List Int, sumTo (hcN low width bins r.reverse) (bins + 2) = r.length := by
    intro r
    induction r with
    | nil =>
      have : ∀ n, sumTo (hcN low width bins []) n = 0 := by
        intro n
        induction n with
        | zero => rfl
        | succ n ih => rw [sumTo, ih, hcN_nil]
      exact this _
    | cons x r ih =>
      rw [List.reverse_cons, List.length_cons, ← ih, sumTo_congr (fun k _ => hcN_snoc low width bins r.reverse x k), sumTo_add, sumTo_one, if_pos (by have := binO_le low width bins x; omega)]
  have := h l.reverse
  rwa [List.reverse_reverse, List.length_reverse] at this
theorem hcN_perm {low width : Int} {bins : Nat} {l m : List Int} (h : l.Perm m) (k : Nat) : hcN low width bins l k = hcN low width bins m k := h.countP_eq _
/-! ### runs -/
/-- Where a value is: below, in or above the middle. -/
def sdI (lo hi x : Int) : Int := if 2 * x < lo + hi then -1 else if lo + hi < 2 * x then 1 else 0
theorem sdI_cases (lo hi x : Int) : sdI lo hi x = -1 ∨ sdI lo hi x = 0 ∨ sdI lo hi x = 1 := by
  unfold sdI
  split
  · exact .inl rfl
  · split
    · exact .inr (.inr rfl)
    · exact .inr (.inl rfl)
/-- The runs that have ended, the one that goes on. -/
def rnFc (lo hi : Int) (p : List Int × Int) (x : Int) : List Int × Int :=
  if 0 < sdI lo hi x * p.2 then (p.1, p.2 + sdI lo hi x) else ((if p.2 ≠ 0 then p.1 ++ [p.2] else p.1), sdI lo hi x)
def rnP (lo hi : Int) (l : List Int) : List Int × Int := l.foldl (rnFc lo hi) ([], 0)
def rnEc (p : List Int × Int) : List Int := if p.2 ≠ 0 then p.1 ++ [p.2] else p.1
/-- The lengths of the runs. -/
def rnL (lo hi : Int) (l : List Int) : List Int := rnEc (rnP lo hi l)
theorem rnP_snoc (lo hi : Int) (l : List Int) (x : Int) : rnP lo hi (l ++ [x]) = rnFc lo hi (rnP lo hi l) x := by unfold rnP; rw [List.foldl_append]; rfl
/-- The run that goes on is on the side of the last value. -/
theorem rn_side (lo hi : Int) (l : List Int) : (l = [] → (rnP lo hi l).2 = 0) ∧ ∀ m x, l = m ++ [x] → (sdI lo hi x = 0 ↔ (rnP lo hi l).2 = 0) ∧ (sdI lo hi x = 1 ↔ 0 < (rnP lo hi l).2) ∧ (sdI lo hi x = -1 ↔ (rnP lo hi l).2 < 0) := by
  refine ⟨fun h => by subst h; rfl, ?_⟩
  rintro m x rfl
  rw [rnP_snoc]
  unfold rnFc
  obtain ⟨r, hr⟩ : ∃ r, (rnP lo hi m).2 = r := ⟨_, rfl⟩
  rw [hr]
  rcases sdI_cases lo hi x with e | e | e <;> rw [e]
  · by_cases h : 0 < -1 * r
    · rw [if_pos h]; refine ⟨?_, ?_, ?_⟩ <;> (constructor <;> intro h2 <;> first | omega | (simp only at *; omega))
    · rw [if_neg h]; refine ⟨?_, ?_, ?_⟩ <;> simp
  · by_cases h : 0 < 0 * r
    · omega
    · rw [if_neg h]; refine ⟨?_, ?_, ?_⟩ <;> simp
  · by_cases h : 0 < 1 * r
    · rw [if_pos h]; refine ⟨?_, ?_, ?_⟩ <;> (constructor <;> intro h2 <;> first | omega | (simp only at *; omega))
    · rw [if_neg h]; refine ⟨?_, ?_, ?_⟩ <;> simp
/-- A further value: what the reference does to its list. -/
theorem rnL_snoc (lo hi : Int) (l : List Int) (x : Int) : rnL lo hi (l ++ [x]) =
    if sdI lo hi x = 0 then rnL lo hi l else if 0 < sdI lo hi x * (rnP lo hi l).2 then (rnL lo hi l).dropLast ++ [(rnL lo hi l).getLastD 0 + sdI lo hi x] else rnL lo hi l ++ [sdI lo hi x] := by
  unfold rnL
  rw [rnP_snoc]
  obtain ⟨⟨o, r⟩, hp⟩ : ∃ p, rnP lo hi l = p := ⟨_, rfl⟩
  rw [hp]
  unfold rnFc rnEc
  simp only
  obtain ⟨s, hs⟩ : ∃ s, sdI lo hi x = s := ⟨_, rfl⟩
  have hc := sdI_cases lo hi x
  rw [hs] at hc ⊢
  by_cases h0 : s = 0
  · subst h0
    simp
  · rw [if_neg h0]
    by_cases h1 : 0 < s * r
    · have hr : r ≠ 0 := fun e => by rw [e] at h1; simp at h1
      have hrs : r + s ≠ 0 := by
        rcases hc with e | e | e <;> rw [e] at h1 ⊢ <;> omega
      rw [if_pos h1, if_pos h1]
      simp only
      rw [if_pos hrs, if_pos hr]
      simp
    · rw [if_neg h1, if_neg h1]
      simp only
      rw [if_pos h0]
/-- The lengths of all runs, and the values in the middle, are all values. -/
def absS (l : List Int) : Int := l.foldr (fun k s => max k (-k) + s) 0
theorem absS_append (a b : List Int) : absS (a ++ b) = absS a + absS b := by
  induction a with
  | nil => simp [absS]
  | cons x a ih => show max x (-x) + absS (a ++ b) = max x (-x) + absS a + absS b; rw [ih]; omega
def midN (lo hi : Int) (l : List Int) : Int := l.foldr (fun x s => (if 2 * x = lo + hi then 1 else 0) + s) 0
theorem midN_append (lo hi : Int) (a b : List Int) : midN lo hi (a ++ b) = midN lo hi a + midN lo hi b := by
  induction a with
  | nil => simp [midN]
  | cons x a ih => show _ + midN lo hi (a ++ b) = _ + midN lo hi a + midN lo hi b; rw [ih]; omega
theorem sdI_zero {lo hi x : Int} : sdI lo hi x = 0 ↔ 2 * x = lo + hi := by
  unfold sdI
  split
  · constructor <;> intro h <;> omega
  · split <;> constructor <;> intro h <;> omega
theorem rn_total (lo hi : Int) (l : List Int) : absS (rnP lo hi l).1 + max (rnP lo hi l).2 (-(rnP lo hi l).2) + midN lo hi l = l.length ∧ ∀ k ∈ (rnP lo hi l).1, k ≠ 0 := by
  have h : ∀ r : List Int, absS (rnP lo hi r.reverse).1 + max (rnP lo hi r.reverse).2 (-(rnP lo hi r.reverse).2) + midN lo hi r.reverse = r.length ∧ ∀ k ∈ (rnP lo hi r.reverse).1, k ≠ 0 := by
    intro r
    induction r with
    | nil => exact ⟨rfl, fun k hk => (by cases hk)⟩
    | cons x r ih =>
      rw [List.reverse_cons, rnP_snoc, midN_append, List.length_cons]
      obtain ⟨⟨o, q⟩, hp⟩ : ∃ p, rnP lo hi r.reverse = p := ⟨_, rfl⟩
      rw [hp] at ih ⊢
      obtain ⟨ih1, ih2⟩ := ih
      simp only at ih1 ih2
      have hz := sdI_zero (lo := lo) (hi := hi) (x := x)
      have hc := sdI_cases lo hi x
      have e1 : midN lo hi [x] = if 2 * x = lo + hi then 1 else 0 := by unfold midN; simp
      rw [e1]
      unfold rnFc
      simp only
      obtain ⟨s, hs⟩ : ∃ s, sdI lo hi x = s := ⟨_, rfl⟩
      rw [hs] at hz hc ⊢
      by_cases h1 : 0 < s * q
      · rw [if_pos h1]
        refine ⟨?_, ih2⟩
        simp only
        rcases hc with e | e | e <;> rw [e] at h1 hz ⊢
        · rw [if_neg (fun h => by have := hz.2 h; omega)]; push_cast; omega
        · omega
        · rw [if_neg (fun h => by have := hz.2 h; omega)]; push_cast; omega
      · rw [if_neg h1]
        by_cases hq : q = 0
        · subst hq
          rw [if_neg (by simp)]
          refine ⟨?_, ih2⟩
          simp only
          rcases hc with e | e | e <;> rw [e] at hz ⊢
          · rw [if_neg (fun h => by have := hz.2 h; omega)]; push_cast; omega
          · rw [if_pos (hz.1 rfl)]; push_cast; omega
          · rw [if_neg (fun h => by have := hz.2 h; omega)]; push_cast; omega
        · rw [if_pos hq]
          refine ⟨?_, fun k hk => ?_⟩
          · simp only
            rw [absS_append]
            have e2 : absS [q] = max q (-q) := by unfold absS; simp
            rw [e2]
            rcases hc with e | e | e <;> rw [e] at hz ⊢
            · rw [if_neg (fun h => by have := hz.2 h; omega)]; push_cast; omega
            · rw [if_pos (hz.1 rfl)]; push_cast; omega
            · rw [if_neg (fun h => by have := hz.2 h; omega)]; push_cast; omega
          · rcases List.mem_append.1 hk with h2 | h2
            · exact ih2 k h2
            · rw [List.mem_singleton.1 h2]; exact hq
  have := h l.reverse
  rwa [List.reverse_reverse, List.length_reverse] at this
end Go.Proofs.YtcmhompbdanpdaaGreatDoor
namespace Go.Proofs.YtcmhompbdanpdaaGreatDoor
open Go.Lib

/-- Numbers with the same words above a place are ordered by the word there. -/
theorem word_order {x y i : Nat} (h : x / bB ^ (i + 1) = y / bB ^ (i + 1)) (hw : wd x i < wd y i) : x < y := by
  have h1 := two_parts x i
  have h2 := two_parts y i
  rw [h] at h1
  have hx := Nat.mod_lt x (bB_pos i)
  obtain ⟨P, hP⟩ : ∃ P, bB ^ i = P := ⟨_, rfl⟩
  rw [hP] at h1 h2 hx
  have : (wd x i + 1) * P ≤ wd y i * P := Nat.mul_le_mul_right _ hw
  rw [Nat.add_mul, Nat.one_mul] at this
  omega
where
  two_parts (x i : Nat) : x = x / bB ^ (i + 1) * bB ^ (i + 1) + wd x i * bB ^ i + x % bB ^ i := by
    have h1 := div_join x (i + 1)
    rw [mod_succ] at h1
    omega
theorem word_eq {x y i : Nat} (h : x / bB ^ (i + 1) = y / bB ^ (i + 1)) (hw : wd x i = wd y i) : x / bB ^ i = y / bB ^ i := by
  have e : ∀ z, z / bB ^ i = z / bB ^ (i + 1) * bB + wd z i := fun z => by
    have h1 : z / bB ^ i / bB = z / bB ^ (i + 1) := by rw [Nat.div_div_eq_div_mul, Nat.pow_succ]
    unfold wd
    have := Nat.div_add_mod (z / bB ^ i) bB
    rw [h1, Nat.mul_comm] at this
    exact this.symm
  rw [e x, e y, h, hw]
theorem nw_order {x y : Nat} (h : nw x < nw y) : x < y := by
  apply Classical.byContradiction
  intro hn
  have h1 : y < bB ^ nw x := Nat.lt_of_le_of_lt (by omega) (lt_nw x)
  have := (nw_le _ _).2 h1
  omega
theorem top_eq {x y : Nat} (h : nw x = nw y) : x / bB ^ nw x = y / bB ^ nw x := by
  rw [Nat.div_eq_of_lt (lt_nw x), Nat.div_eq_of_lt (by rw [h]; exact lt_nw y)]
/-- A number of at most n words has zeros from there on; one with zeros from n on has at most n words. -/
theorem nw_of_zeros {v n : Nat} (h : ∀ i, n ≤ i → i < nw v → wd v i = 0) : nw v ≤ n := by
  apply Classical.byContradiction
  intro hn
  by_cases h0 : v = 0
  · subst h0; rw [nw_zero] at hn; omega
  · exact wd_top h0 (h _ (by omega) (by omega))
/-- The number with these words. -/
def vwd (f : Nat → Nat) : Nat → Nat
  | 0 => 0
  | n + 1 => vwd f n + f n * bB ^ n
theorem vwd_lt {f : Nat → Nat} {n : Nat} (h : ∀ i, i < n → f i < bB) : vwd f n < bB ^ n := by
  induction n with
  | zero => simp [vwd]
  | succ n ih =>
    have h1 := ih (fun i hi => h i (by omega))
    have h2 := h n (by omega)
    rw [vwd, Nat.pow_succ, Nat.mul_comm (bB ^ n)]
    have : (f n + 1) * bB ^ n ≤ bB * bB ^ n := Nat.mul_le_mul_right _ h2
    rw [Nat.add_mul, Nat.one_mul] at this
    omega
theorem wd_vwd {f : Nat → Nat} {n : Nat} (h : ∀ i, i < n → f i < bB) : ∀ i, i < n → wd (vwd f n) i = f i := by
  induction n with
  | zero => intro i hi; omega
  | succ n ih =>
    intro i hi
    have h1 := vwd_lt (f := f) (n := n) (fun i hi => h i (by omega))
    rw [vwd, wd_join h1]
    by_cases e : i < n
    · rw [if_pos e]; exact ih (fun i hi => h i (by omega)) i e
    · obtain rfl : i = n := by omega
      rw [if_neg e, Nat.sub_self, wd_zero, Nat.mod_eq_of_lt (h i hi)]
/-- A shift by one word. -/
theorem shift_word {r x j : Nat} (hx : x < bB) : wd (r * bB + x) j = if j = 0 then x else wd r (j - 1) := by
  cases j with
  | zero => rw [if_pos rfl, wd_zero, Nat.mul_comm, Nat.mul_add_mod, Nat.mod_eq_of_lt hx]
  | succ j =>
    rw [if_neg (by omega), Nat.add_sub_cancel, wd_succ]
    congr 1
    rw [Nat.mul_comm, Nat.mul_add_div (by decide), Nat.div_eq_of_lt hx]; rfl
theorem nw_shift {r x : Nat} (hx : x < bB) : nw (r * bB + x) ≤ nw r + 1 := by
  rw [nw_le, Nat.pow_succ]
  have h := lt_nw r
  have : (r + 1) * bB ≤ bB ^ nw r * bB := Nat.mul_le_mul_right _ h
  rw [Nat.add_mul, Nat.one_mul] at this
  omega
theorem nw_mul (x y : Nat) : nw (x * y) ≤ nw x + nw y := by
  rw [nw_le, Nat.pow_add]
  exact Nat.mul_lt_mul'' (lt_nw x) (lt_nw y)
theorem nw_mono {x y : Nat} (h : x ≤ y) : nw x ≤ nw y := (nw_le _ _).2 (Nat.lt_of_le_of_lt h (lt_nw y))
theorem nw_add (x y : Nat) : nw (x + y) ≤ max (nw x) (nw y) + 1 := by
  rw [nw_le, Nat.pow_succ]
  have h1 := lt_nw x
  have h2 := lt_nw y
  have e1 : bB ^ nw x ≤ bB ^ max (nw x) (nw y) := Nat.pow_le_pow_right (by decide) (Nat.le_max_left _ _)
  have e2 : bB ^ nw y ≤ bB ^ max (nw x) (nw y) := Nat.pow_le_pow_right (by decide) (Nat.le_max_right _ _)
  obtain ⟨P, hP⟩ : ∃ P, bB ^ max (nw x) (nw y) = P := ⟨_, rfl⟩
  rw [hP] at e1 e2 ⊢
  have : P * 2 ≤ P * bB := Nat.mul_le_mul_left _ (by decide)
  omega
/-- A number of at most 1024 digits has at most 114 words. -/
theorem nw_digits {v k : Nat} (h : v < 10 ^ (9 * k)) : nw v ≤ k := by
  rw [nw_le, ← pow9, ← Nat.pow_mul]
  exact h
end Go.Proofs.YtcmhompbdanpdaaGreatDoor
