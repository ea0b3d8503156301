/- The loop that the relaxations leave is one that Verify accepts. No program in sight. All chains between two places: the search that finds them, their least and greatest sums. No program in sight. The chains between two names, their least greatest sum and their greatest least one. No program in sight. The search for all chains as the program makes it: over names, step by step; how many it finds. No program in sight. What the stacks of all chains leave is the distance. No program in sight. A chain that is found is right: its steps, one by one. No program in sight. The walks of given of package loop, of Given and Few of reference 24, of caseLoops. The walks of ends, all and asked of package loop. The walk of asked of package loop. -/
import Derived.Test.YtgngllgknimgkaaMdk
import Derived.Test.YtgngllgknimgkaaMda
import Derived.Test.YtgngllgknimgkaaMct
import Derived.Test.YtgngllgknimgkaaMcb
import Derived.Deep.QuietTactic
namespace Go.Proofs.Ytgngllgknimgkaa
open Go.RowKit Go.Maps

theorem lpC_list {A : List Ar} {n m v : Nat} {s : Bf} (h : Lp A n s v m) : ∀ d i, i + 1 + d = m → lpC s v (n - i) (s.bk (i + 1) v) = (List.range d).map fun q => stS (s.y (s.bk (i + 1 + q) v))
  | 0, i, hi => by
    have hm := h.len
    rw [lpC_end (by omega) (by rw [show i + 1 = m by omega]; exact h.back)]; rfl
  | d + 1, i, hi => by
    have hm := h.len
    rw [lpC_step (by omega) (h.first (i + 1) (by omega) (by omega)), lpC_list h d (i + 1) (by omega), List.range_succ_eq_map, List.map_cons, List.map_map]
    congr 1
    refine List.map_congr_left fun q _ => ?_
    simp only [Function.comp_apply]
    rw [show i + 1 + 1 + q = i + 1 + (q + 1) by omega]
theorem lpL_list {A : List Ar} {n m : Nat} {s : Bf} (h : Lp A n s (lpV s n) m) : lpL s n = ((List.range m).map fun q => stS (s.y (s.bk q (lpV s n)))).reverse := by
  have hp := h.pos
  obtain ⟨d, rfl⟩ : ∃ d, m = d + 1 := ⟨m - 1, by omega⟩
  have h1 := lpC_list h d 0 (by omega)
  unfold lpL
  have e : s.bk (0 + 1) (lpV s n) = s.p (lpV s n) := rfl
  rw [e, Nat.sub_zero] at h1
  rw [h1, List.range_succ_eq_map, List.map_cons, List.map_map]
  congr 2
  refine List.map_congr_left fun q _ => ?_
  simp only [Function.comp_apply]
  rw [show 0 + 1 + q = q + 1 by omega]
theorem step_facts {vs : List Dm} {ax : Int} {x : Ar} (h : x ∈ arX vs ax) : knS vs.length (stS x) = true ∧ (dAt vs (stS x).i.toNat).x = ax ∧ enF vs (stS x) = kAt (nmG vs ax) x.a ∧ enT vs (stS x) = kAt (nmG vs ax) x.b ∧ enA vs (stS x) = x.w := by
  obtain ⟨i, hi, e⟩ := arX_mem.1 h
  rcases e with rfl | rfl
  · exact ⟨knS_iff.2 ⟨Int.natCast_nonneg _, by show (i : Int) < _; have := hi.1; omega⟩, hi.2, (pF_name hi).symm, (pT_name hi).symm, rfl⟩
  · exact ⟨knS_iff.2 ⟨Int.natCast_nonneg _, by show (i : Int) < _; have := hi.1; omega⟩, hi.2, (pT_name hi).symm, (pF_name hi).symm, rfl⟩
theorem loop_ok {vs : List Dm} {ax : Int} {s : Bf} {v m : Nat} {ls : List Sp} (h : Lp (arX vs ax) (nmG vs ax).length s v m) (hl : ls.length = m) (hat : ∀ j, j < m → pAt ls j = stS (s.y (s.bk (m - 1 - j) v))) :
    ∀ d k S, k + d = m → loopE (vfF vs ax ls) d k S = .inl (S + s.sm d v)
  | 0, k, S, _ => by rw [loopE, Bf.sm, Int.add_zero]
  | d + 1, k, S, hk => by
    have hbF : ∀ j, j < m → enF vs (pAt ls j) = kAt (nmG vs ax) (s.bk (m - j) v) := fun j hj => by
      rw [hat j hj, (step_facts (h.ptr (m - 1 - j)).2.1).2.2.1, show m - j = (m - 1 - j) + 1 by omega, Bf.bk_succ]; rfl
    have hbT : ∀ j, j < m → enT vs (pAt ls j) = kAt (nmG vs ax) (s.bk (m - 1 - j) v) := fun j hj => by
      rw [hat j hj, (step_facts (h.ptr (m - 1 - j)).2.1).2.2.2.1, (h.ptr (m - 1 - j)).2.2]
    have hkm : k < m := by omega
    obtain ⟨f1, f2, _, _, f5⟩ := step_facts (h.ptr (m - 1 - k)).2.1
    rw [← hat k hkm] at f1 f2 f5
    have hbf : ∃ j, j < m ∧ bfr ls k = pAt ls j ∧ s.bk (m - 1 - j) v = s.bk (m - k) v := by
      by_cases e : k = 0
      · subst e
        refine ⟨m - 1, by omega, by unfold bfr; rw [if_pos rfl, hl], ?_⟩
        rw [show m - 1 - (m - 1) = 0 by omega, Nat.sub_zero, h.back]; rfl
      · exact ⟨k - 1, by omega, by unfold bfr; rw [if_neg e], by rw [show m - 1 - (k - 1) = m - k by omega]⟩
    obtain ⟨j, hj, hb1, hb2⟩ := hbf
    have g1 := (step_facts (h.ptr (m - 1 - j)).2.1).1
    rw [← hat j hj] at g1
    have hF : vfF vs ax ls k S = .inl (S + enA vs (pAt ls k)) := by
      unfold vfF
      rw [if_pos f1, if_neg (by rw [f2]; simp), hb1, if_pos g1, if_pos (sameD_iff.2 (by rw [hbT j hj, hbF k hkm, hb2])), if_neg]
      intro hs
      obtain ⟨q, hq, he⟩ := (snF_iff vs ls _ k).1 hs
      have he2 := sameD_iff.1 he
      rw [hbF q (by omega), hbF k hkm] at he2
      have he3 : s.bk (m - q) v = s.bk (m - k) v := by
        have h1 := congrArg (pos (nmG vs ax)) he2
        rw [pos_kAt (nmG_nodup vs ax) (h.ptr _).1, pos_kAt (nmG_nodup vs ax) (h.ptr _).1] at h1
        exact h1
      have h2 : s.bk (m - k + q) v = v := by
        rw [Bf.bk_add, ← he3, ← Bf.bk_add, show m - q + q = m by omega]; exact h.back
      exact h.first (m - k + q) (by omega) (by omega) h2
    rw [loopE, hF]
    show loopE (vfF vs ax ls) d (k + 1) (S + enA vs (pAt ls k)) = _
    rw [loop_ok h hl hat d (k + 1) _ (by omega), f5, Bf.sm_add s d 1 v, show m - 1 - k = d by omega]
    congr 1
    have e : s.sm 1 (s.bk d v) = (s.y (s.bk d v)).w := by rw [Bf.sm, Bf.sm, Int.add_zero]
    rw [e]; omega
theorem cfL_verifies {vs : List Dm} {ax : Int} (hg : giE vs ax = 0) (hn : (nmG vs ax).length ≤ 12) (hE : cfE vs ax = false) : vfE vs ax (cfL vs ax) = 0 ∧ (cfL vs ax).length ≤ 12 := by
  have hA := arX_within vs ax
  have hL := arX_loose (giE_all hg).2 ax
  obtain ⟨n, hn'⟩ : ∃ n, (nmG vs ax).length = n := ⟨_, rfl⟩
  have hlen : (List.replicate n true).length = n := by simp
  have hR : cfR vs ax = Bf.run (arX vs ax) (n + 1) (Bf.begin (List.replicate n true)) := by
    unfold cfR rxR; rw [hn', hlen]
  have hE' : (Bf.run (arX vs ax) (n + 1) (Bf.begin (List.replicate n true))).2 = false := by rw [← hR]; exact hE
  have hok : (Bf.begin (List.replicate n true)).Ok n := by
    have := Bf.begin_ok (List.replicate n true)
    rw [hlen] at this; exact this
  rw [hn'] at hA
  obtain ⟨v0, hv, _, m, hLp⟩ := Bf.loops hA hok hE'
  have hD : Dq (arX vs ax) n (Bf.run (arX vs ax) (n + 1) (Bf.begin (List.replicate n true))).1 :=
    Dq.run hA hL (n + 1) _ (Dq.start hok fun v _ hy => by
      rw [Bf.begin_y] at hy ⊢
      exact absurd rfl (hL _ hy))
  rw [← hR] at hLp hD hv
  have hV : lpV (cfR vs ax).1 n = (cfR vs ax).1.bk n v0 := by unfold lpV; rw [hv, Int.toNat_natCast]
  rw [← hV] at hLp
  have hls : cfL vs ax = ((List.range m).map fun q => stS ((cfR vs ax).1.y ((cfR vs ax).1.bk q (lpV (cfR vs ax).1 n)))).reverse := by
    unfold cfL; rw [hn']; exact lpL_list hLp
  have hll : (cfL vs ax).length = m := by rw [hls]; simp
  have hmn := hLp.len
  have hm0 := hLp.pos
  have hat : ∀ j, j < m → pAt (cfL vs ax) j = stS ((cfR vs ax).1.y ((cfR vs ax).1.bk (m - 1 - j) (lpV (cfR vs ax).1 n))) := fun j hj => by
    rw [pAt_lt (by rw [hll]; exact hj)]
    simp only [hls, List.getElem_reverse, List.getElem_map, List.getElem_range, List.length_map, List.length_range]
  have hs := hLp.neg hD
  rw [← hn'] at hLp
  have hloop := loop_ok (by rw [hn'] at hLp ⊢; exact hLp) hll hat m 0 0 (by omega)
  refine ⟨?_, by omega⟩
  unfold vfE
  rw [if_pos hg, hll, if_neg (by omega), if_neg (by omega), hloop, vfR, Int.zero_add, if_neg (by omega)]
end Go.Proofs.Ytgngllgknimgkaa
namespace Go.Proofs.Ytgngllgknimgkaa

/-- All chains from a to b, past none of P; m: how deep to look. -/
def grL (A : List Ar) (b : Nat) : Nat → Nat → List Nat → List (List Ar)
  | 0, a, _ => if a = b then [[]] else []
  | m + 1, a, P => if a = b then [[]] else A.flatMap fun x => if x.a = a ∧ x.b ∉ P then (grL A b m x.b (P ++ [x.b])).map (x :: ·) else []
def sw (p : List Ar) : Int := (p.map Ar.w).sum
theorem sw_cons (x : Ar) (p : List Ar) : sw (x :: p) = x.w + sw p := by simp [sw]
def mnL (L : List Int) : Option Int := L.foldl mnO none
theorem mnO_assoc (best : Option Int) (c d : Int) : mnO (mnO best c) d = match mnO (some c) d with | some e => mnO best e | none => best := by
  cases best with
  | none =>
    unfold mnO
    dsimp only
    by_cases h : d < c
    · simp [h]
    · simp [h]
  | some b =>
    unfold mnO
    dsimp only
    by_cases h : c < b <;> by_cases h2 : d < c <;> by_cases h3 : d < b <;> simp [h, h2, h3] <;> omega
theorem mn_fold : ∀ (L : List Int) (best : Option Int), L.foldl mnO best = match mnL L with | some r => mnO best r | none => best
  | [], best => rfl
  | c :: L, best => by
    unfold mnL
    rw [List.foldl_cons, List.foldl_cons, mn_fold L (mnO best c), mn_fold L (mnO none c)]
    cases h : mnL L with
    | none => rfl
    | some r =>
      dsimp only
      rw [mnO_assoc]
      rfl
theorem mn_add (w : Int) : ∀ (L : List Int), mnL (L.map (w + ·)) = (mnL L).map (w + ·)
  | [] => rfl
  | c :: L => by
    unfold mnL
    rw [List.map_cons, List.foldl_cons, List.foldl_cons, mn_fold, mn_fold L, mn_add w L]
    cases h : mnL L with
    | none => rfl
    | some r =>
      dsimp only [Option.map_some]
      unfold mnO
      dsimp only
      by_cases h2 : r < c
      · rw [if_pos h2, if_pos (by omega)]; rfl
      · rw [if_neg h2, if_neg (by omega)]; rfl
theorem mn_append (L K : List Int) : mnL (L ++ K) = match mnL K with | some r => mnO (mnL L) r | none => mnL L := by
  unfold mnL
  rw [List.foldl_append]
  exact mn_fold K _
/-- The reference's least way is the least sum of all chains. -/
theorem frF_min (A : List Ar) (b : Nat) : ∀ (m a : Nat) (P : List Nat), frF A m a b P = mnL ((grL A b m a P).map sw)
  | 0, a, P => by
    rw [frF, grL]
    split <;> rfl
  | m + 1, a, P => by
    rw [frF, grL]
    split
    · rfl
    · have key : ∀ (B : List Ar) (best : List Int), B.foldl (frS fun x => if x.a = a ∧ x.b ∉ P then frF A m x.b b (P ++ [x.b]) else none) (mnL best) =
          mnL (best ++ (B.flatMap fun x => if x.a = a ∧ x.b ∉ P then (grL A b m x.b (P ++ [x.b])).map (x :: ·) else []).map sw) := by
        intro B
        induction B with
        | nil => intro best; simp
        | cons x B ih =>
          intro best
          rw [List.foldl_cons, List.flatMap_cons, List.map_append, ← List.append_assoc, ← ih]
          congr 1
          unfold frS
          dsimp only
          by_cases hc : x.a = a ∧ x.b ∉ P
          · have e1 : (if x.a = a ∧ x.b ∉ P then frF A m x.b b (P ++ [x.b]) else none) = mnL ((grL A b m x.b (P ++ [x.b])).map sw) := by rw [if_pos hc]; exact frF_min A b m x.b _
            have e2 : (if x.a = a ∧ x.b ∉ P then (grL A b m x.b (P ++ [x.b])).map (x :: ·) else []) = (grL A b m x.b (P ++ [x.b])).map (x :: ·) := if_pos hc
            rw [e1, e2, List.map_map, mn_append]
            have e3 : (grL A b m x.b (P ++ [x.b])).map (sw ∘ fun q => x :: q) = ((grL A b m x.b (P ++ [x.b])).map sw).map (x.w + ·) := by
              rw [List.map_map]
              exact List.map_congr_left fun q _ => sw_cons x q
            rw [e3, mn_add]
            cases mnL ((grL A b m x.b (P ++ [x.b])).map sw) <;> rfl
          · have e1 : (if x.a = a ∧ x.b ∉ P then frF A m x.b b (P ++ [x.b]) else none) = none := if_neg hc
            have e2 : (if x.a = a ∧ x.b ∉ P then (grL A b m x.b (P ++ [x.b])).map (x :: ·) else []) = [] := if_neg hc
            rw [e1, e2]; simp
      exact key A []

/-! ### which chains there are -/
def Chn (A : List Ar) : Nat → List Ar → Nat → Prop
  | a, [], b => a = b
  | a, x :: p, b => x ∈ A ∧ x.a = a ∧ Chn A x.b p b
theorem Chn.last {A : List Ar} : ∀ {p : List Ar} {a b : Nat}, Chn A a p b → b ∈ a :: p.map Ar.b
  | [], a, b, h => by cases h; simp
  | x :: p, a, b, h => by
    have := h.2.2.last
    simp only [List.map_cons, List.mem_cons] at this ⊢
    exact .inr this
theorem grL_iff {A : List Ar} {b : Nat} : ∀ (m a : Nat) (P : List Nat) (p : List Ar), a ∈ P → (p ∈ grL A b m a P ↔ Chn A a p b ∧ (a :: p.map Ar.b).Nodup ∧ (∀ x ∈ p, x.b ∉ P) ∧ p.length ≤ m)
  | 0, a, P, p, ha => by
    rw [grL]
    by_cases e : a = b
    · rw [if_pos e]
      constructor
      · intro h
        obtain rfl : p = [] := by simpa using h
        exact ⟨e, by simp, by simp, by simp⟩
      · rintro ⟨_, _, _, h⟩
        obtain rfl : p = [] := List.length_eq_zero_iff.1 (by omega)
        simp
    · rw [if_neg e]
      constructor
      · intro h; simp at h
      · rintro ⟨h1, _, _, h⟩
        obtain rfl : p = [] := List.length_eq_zero_iff.1 (by omega)
        exact absurd h1 e
  | m + 1, a, P, p, ha => by
    rw [grL]
    by_cases e : a = b
    · rw [if_pos e]
      constructor
      · intro h
        obtain rfl : p = [] := by simpa using h
        exact ⟨e, by simp, by simp, by simp⟩
      · rintro ⟨h1, h2, _, _⟩
        cases p with
        | nil => simp
        | cons x q =>
          exfalso
          have := h1.2.2.last
          rw [← e] at this
          simp only [List.map_cons, List.nodup_cons] at h2
          exact h2.1 this
    · rw [if_neg e, List.mem_flatMap]
      constructor
      · rintro ⟨x, hx, h⟩
        by_cases hc : x.a = a ∧ x.b ∉ P
        · rw [if_pos hc, List.mem_map] at h
          obtain ⟨q, hq, rfl⟩ := h
          obtain ⟨h1, h2, h3, h4⟩ := (grL_iff m x.b (P ++ [x.b]) q (by simp)).1 hq
          refine ⟨⟨hx, hc.1, h1⟩, ?_, ?_, by simp only [List.length_cons]; omega⟩
          · rw [List.map_cons, List.nodup_cons]
            refine ⟨fun hm => ?_, h2⟩
            rcases List.mem_cons.1 hm with rfl | hm
            · exact hc.2 ha
            · obtain ⟨y, hy, e2⟩ := List.mem_map.1 hm
              exact h3 y hy (by rw [e2]; simp [ha])
          · intro y hy
            rcases List.mem_cons.1 hy with rfl | hy
            · exact hc.2
            · intro hp; exact h3 y hy (by simp [hp])
        · rw [if_neg hc] at h; simp at h
      · rintro ⟨h1, h2, h3, h4⟩
        cases p with
        | nil => exact absurd h1 e
        | cons x q =>
          obtain ⟨hx, hxa, hq⟩ := h1
          have hxP := h3 x (by simp)
          refine ⟨x, hx, ?_⟩
          rw [if_pos ⟨hxa, hxP⟩, List.mem_map]
          refine ⟨q, (grL_iff m x.b (P ++ [x.b]) q (by simp)).2 ⟨hq, (List.nodup_cons.1 h2).2, fun y hy hp => ?_, by simpa using h4⟩, rfl⟩
          rcases List.mem_append.1 hp with hp | hp
          · exact h3 y (by simp [hy]) hp
          · obtain e2 : y.b = x.b := by simpa using hp
            have h5 := (List.nodup_cons.1 (List.nodup_cons.1 h2).2).1
            exact h5 (by rw [← e2]; exact List.mem_map.2 ⟨y, hy, rfl⟩)
theorem Chn.walk {A : List Ar} : ∀ {p : List Ar} {a b : Nat}, Chn A a p b → Wk A a b p.length (sw p)
  | [], a, b, h => by cases h; exact Wk.nil _
  | x :: p, a, b, h => by
    obtain ⟨h1, h2, h3⟩ := h
    subst h2
    rw [sw_cons]
    exact Wk.cons h1 h3.walk
theorem Sq.chain {A : List Ar} {a b : Nat} {L : List Nat} {c : Int} (h : Sq A a L b c) : ∃ p, Chn A a p b ∧ p.map Ar.b = L ∧ sw p = c := by
  induction h with
  | nil a => exact ⟨[], rfl, rfl, rfl⟩
  | @cons x hx _ _ _ _ _ ih =>
    obtain ⟨p, h1, h2, h3⟩ := ih
    exact ⟨x :: p, ⟨hx, rfl, h1⟩, by rw [List.map_cons, h2], by rw [sw_cons, h3]⟩
/-! ### chains turned round -/
theorem Chn.snoc {A : List Ar} : ∀ {p : List Ar} {a b : Nat} {x : Ar}, Chn A a p b → x ∈ A → x.a = b → Chn A a (p ++ [x]) x.b
  | [], a, b, x, h, hx, e => by cases h; exact ⟨hx, e, rfl⟩
  | y :: p, a, b, x, h, hx, e => ⟨h.1, h.2.1, h.2.2.snoc hx e⟩
def rvP (rv : Ar → Ar) (p : List Ar) : List Ar := (p.map rv).reverse
theorem rvP_chn {A : List Ar} {rv : Ar → Ar} (hr : ∀ x ∈ A, rv x ∈ A ∧ (rv x).a = x.b ∧ (rv x).b = x.a) : ∀ {p : List Ar} {a b : Nat}, Chn A a p b → Chn A b (rvP rv p) a ∧ b :: (rvP rv p).map Ar.b = (a :: p.map Ar.b).reverse
  | [], a, b, h => by cases h; exact ⟨rfl, rfl⟩
  | x :: p, a, b, h => by
    obtain ⟨h1, h2, h3⟩ := h
    obtain ⟨e1, e2, e3⟩ := hr x h1
    obtain ⟨c1, c2⟩ := rvP_chn hr h3
    have er : rvP rv (x :: p) = rvP rv p ++ [rv x] := by simp [rvP]
    rw [er]
    refine ⟨?_, ?_⟩
    · have := c1.snoc e1 e2
      rw [e3, h2] at this; exact this
    · rw [List.map_append, ← List.cons_append, c2, List.map_cons, List.map_nil, e3, h2]
      simp
theorem sw_rvP (rv : Ar → Ar) (p : List Ar) : sw (rvP rv p) = sw (p.map rv) := by
  unfold rvP sw
  rw [List.map_reverse, List.sum_reverse]
end Go.Proofs.Ytgngllgknimgkaa
namespace Go.Proofs.Ytgngllgknimgkaa
open Go.RowKit Go.Maps

theorem mnL_spec : ∀ (L : List Int), (L = [] ∧ mnL L = none) ∨ ∃ d, mnL L = some d ∧ d ∈ L ∧ ∀ c ∈ L, d ≤ c
  | [] => .inl ⟨rfl, rfl⟩
  | c :: L => by
    right
    unfold mnL
    rw [List.foldl_cons, mn_fold]
    rcases mnL_spec L with ⟨rfl, h⟩ | ⟨d, h, hd, hm⟩
    · rw [h]; exact ⟨c, rfl, by simp, by simp⟩
    · rw [h]
      dsimp only
      unfold mnO
      dsimp only
      by_cases e : d < c
      · exact ⟨d, by rw [if_pos e], by simp [hd], fun x hx => by
          rcases List.mem_cons.1 hx with rfl | hx
          · omega
          · exact hm x hx⟩
      · exact ⟨c, by rw [if_neg e], by simp, fun x hx => by
          rcases List.mem_cons.1 hx with rfl | hx
          · exact Int.le_refl _
          · have := hm x hx; omega⟩
theorem mnL_is {L : List Int} {d : Int} (h1 : d ∈ L) (h2 : ∀ c ∈ L, d ≤ c) : mnL L = some d := by
  rcases mnL_spec L with ⟨rfl, _⟩ | ⟨e, h, he, hm⟩
  · simp at h1
  · have := hm d h1
    have := h2 e he
    rw [h]; congr 1; omega
/-- The arc back. -/
def rvX (vs : List Dm) (x : Ar) : Ar := ⟨x.ix, !x.bk, x.b, x.a, if x.bk = true then (dAt vs x.ix).h else -(dAt vs x.ix).l⟩
theorem rvX_ok {vs : List Dm} {ax : Int} : ∀ x ∈ arX vs ax, rvX vs x ∈ arX vs ax ∧ (rvX vs x).a = x.b ∧ (rvX vs x).b = x.a := fun x hx => by
  obtain ⟨i, hi, e⟩ := arX_mem.1 hx
  refine ⟨arX_mem.2 ⟨i, hi, ?_⟩, rfl, rfl⟩
  rcases e with rfl | rfl
  · exact .inr rfl
  · exact .inl rfl
theorem rvX_rvX {vs : List Dm} {ax : Int} : ∀ x ∈ arX vs ax, rvX vs (rvX vs x) = x := fun x hx => by
  obtain ⟨i, hi, e⟩ := arX_mem.1 hx
  rcases e with rfl | rfl <;> rfl
/-- The least sum of a chain. -/
def lwX (vs : List Dm) (x : Ar) : Int := -(rvX vs x).w
def lsP (vs : List Dm) (p : List Ar) : Int := (p.map (lwX vs)).sum
theorem lsP_cons (vs : List Dm) (x : Ar) (p : List Ar) : lsP vs (x :: p) = lwX vs x + lsP vs p := by simp [lsP]
theorem lsP_rv (vs : List Dm) : ∀ (p : List Ar), lsP vs p = -(sw (rvP (rvX vs) p))
  | [] => rfl
  | x :: p => by
    rw [lsP_cons, lsP_rv vs p, sw_rvP, sw_rvP, List.map_cons, sw_cons]
    unfold lwX; omega
/-- All chains from name to name. -/
def chX (vs : List Dm) (ax : Int) (s t : ByteArray) : List (List Ar) := grL (arX vs ax) (pos (nmG vs ax) t) (nmG vs ax).length (pos (nmG vs ax) s) [pos (nmG vs ax) s]
section
variable {vs : List Dm} {ax : Int} {s t : ByteArray}
theorem chX_mem {p : List Ar} : p ∈ chX vs ax s t ↔ Chn (arX vs ax) (pos (nmG vs ax) s) p (pos (nmG vs ax) t) ∧ (pos (nmG vs ax) s :: p.map Ar.b).Nodup ∧ p.length ≤ (nmG vs ax).length := by
  unfold chX
  rw [grL_iff _ _ _ _ (by simp)]
  constructor
  · rintro ⟨h1, h2, _, h4⟩; exact ⟨h1, h2, h4⟩
  · rintro ⟨h1, h2, h4⟩
    exact ⟨h1, h2, fun x hx hm => by
      have e : x.b = pos (nmG vs ax) s := by simpa using hm
      exact (List.nodup_cons.1 h2).1 (by rw [← e]; exact List.mem_map.2 ⟨x, hx, rfl⟩), h4⟩
theorem chX_rev {p : List Ar} (h : p ∈ chX vs ax s t) : rvP (rvX vs) p ∈ chX vs ax t s := by
  obtain ⟨h1, h2, h3⟩ := chX_mem.1 h
  obtain ⟨c1, c2⟩ := rvP_chn rvX_ok h1
  refine chX_mem.2 ⟨c1, ?_, by simpa [rvP] using h3⟩
  rw [c2]; exact List.pairwise_reverse.2 (h2.imp fun {a b} hab => Ne.symm hab)
theorem rvP_rvP {p : List Ar} (h : ∀ x ∈ p, x ∈ arX vs ax) : rvP (rvX vs) (rvP (rvX vs) p) = p := by
  unfold rvP
  rw [List.map_reverse, List.reverse_reverse, List.map_map]
  conv => rhs; rw [← List.map_id p]
  exact List.map_congr_left fun x hx => rvX_rvX x (h x hx)
theorem Chn.mem {A : List Ar} : ∀ {p : List Ar} {a b : Nat}, Chn A a p b → ∀ x ∈ p, x ∈ A
  | [], _, _, _ => by simp
  | y :: p, _, _, h => fun x hx => by
    rcases List.mem_cons.1 hx with rfl | hx
    · exact h.1
    · exact h.2.2.mem x hx
/-- The least greatest sum is the way. -/
theorem chX_high (hE : cfE vs ax = true) (hs : s ∈ nmG vs ax) (ht : t ∈ nmG vs ax) (hc : CnN vs ax s t) : mnL ((chX vs ax s t).map sw) = some (waV vs ax s t) := by
  obtain ⟨c, k, hw⟩ := hc.nw
  obtain ⟨d, h1, _⟩ := wayF_min ((cfE_iff vs ax).1 hE) (arX_within vs ax) (pos_lt hs) hw
  have e : wayF (arX vs ax) (nmG vs ax).length (pos (nmG vs ax) s) (pos (nmG vs ax) t) = mnL ((chX vs ax s t).map sw) := frF_min _ _ _ _ _
  rw [← e, waV_is hs ht]
  unfold wayN
  rw [h1]; rfl
/-- The greatest least sum is the way back. -/
theorem chX_low (hE : cfE vs ax = true) (hs : s ∈ nmG vs ax) (ht : t ∈ nmG vs ax) (hc : CnN vs ax s t) : mnL ((chX vs ax s t).map fun p => -lsP vs p) = some (waV vs ax t s) := by
  have h := chX_high hE ht hs (Cn.symm hc)
  rcases mnL_spec ((chX vs ax t s).map sw) with ⟨_, h2⟩ | ⟨d, h2, h3, h4⟩
  · rw [h2] at h; cases h
  · rw [h2] at h
    cases h
    obtain ⟨q, hq, e⟩ := List.mem_map.1 h3
    refine mnL_is (List.mem_map.2 ⟨rvP (rvX vs) q, chX_rev hq, ?_⟩) (fun c hcm => ?_)
    · rw [lsP_rv, rvP_rvP (chX_mem.1 hq).1.mem, Int.neg_neg]; exact e
    · obtain ⟨p, hp, rfl⟩ := List.mem_map.1 hcm
      rw [lsP_rv, Int.neg_neg]
      exact h4 _ (List.mem_map.2 ⟨_, chX_rev hp, rfl⟩)
/-- Where names are apart there is none. -/
theorem chX_none (hs : s ∈ nmG vs ax) (ht : t ∈ nmG vs ax) (hc : ¬ CnN vs ax s t) : chX vs ax s t = [] := by
  refine List.eq_nil_iff_forall_not_mem.2 fun p hp => hc ?_
  have h1 := (chX_mem.1 hp).1
  have key : ∀ (p : List Ar) (a b : Nat), Chn (arX vs ax) a p b → CnP vs ax a b := by
    intro p
    induction p with
    | nil => intro a b h; cases h; exact .refl
    | cons x p ih =>
      intro a b h
      obtain ⟨h2, rfl, h4⟩ := h
      have h5 := ih _ _ h4
      obtain ⟨i, hi, e⟩ := arX_mem.1 h2
      rcases e with rfl | rfl
      · exact (Cn.fwd (p := pF vs ax) (q := pT vs ax) .refl hi : CnP vs ax (pF vs ax i) (pT vs ax i)).trans h5
      · exact (Cn.bwd (p := pF vs ax) (q := pT vs ax) .refl hi : CnP vs ax (pT vs ax i) (pF vs ax i)).trans h5
  exact (cnP_iff hs ht).1 (key p _ _ h1)
end
end Go.Proofs.Ytgngllgknimgkaa
namespace Go.Proofs.Ytgngllgknimgkaa
open Go.RowKit Go.Maps

/-- The steps along an axis, in order; those that begin at a name. -/
def stL (vs : List Dm) (ax : Int) (k : Nat) : List Sp := (onA vs ax k).flatMap fun (i : Nat) => [⟨(i : Int), false⟩, ⟨(i : Int), true⟩]
def ntL (vs : List Dm) (ax : Int) (k : Nat) (s : ByteArray) : List Sp := (stL vs ax k).filter fun y => sameD (enF vs y) s
/-- All chains from name to name, past none of P. -/
def grN (vs : List Dm) (ax : Int) (t : ByteArray) : Nat → ByteArray → List ByteArray → List (List Sp)
  | 0, s, _ => if sameD s t = true then [[]] else []
  | m + 1, s, P => if sameD s t = true then [[]] else (ntL vs ax vs.length s).flatMap fun y => if hasL P (enT vs y) = true then [] else (grN vs ax t m (enT vs y) (P ++ [enT vs y])).map (y :: ·)
theorem stL_arcs (vs : List Dm) (ax : Int) : stL vs ax vs.length = (arX vs ax).map stS := by
  unfold stL
  rw [arX_flat]
  unfold arP
  induction onA vs ax vs.length with
  | nil => rfl
  | cons i L ih => rw [List.flatMap_cons, List.flatMap_cons, List.map_append, ih]; rfl
theorem ntL_mem {vs : List Dm} {ax : Int} {s : ByteArray} {y : Sp} (h : y ∈ ntL vs ax vs.length s) : ∃ x, x ∈ arX vs ax ∧ y = stS x ∧ enF vs y = s := by
  unfold ntL at h
  rw [List.mem_filter, stL_arcs, List.mem_map] at h
  obtain ⟨⟨x, hx, rfl⟩, h2⟩ := h
  exact ⟨x, hx, rfl, sameD_iff.1 h2⟩
theorem ntL_names {vs : List Dm} {ax : Int} {s : ByteArray} {y : Sp} (h : y ∈ ntL vs ax vs.length s) : s ∈ nmG vs ax ∧ enT vs y ∈ nmG vs ax := by
  obtain ⟨x, hx, rfl, hs⟩ := ntL_mem h
  obtain ⟨_, _, f3, f4, _⟩ := step_facts hx
  have hw := arX_within vs ax x hx
  rw [f3] at hs
  rw [f4, ← hs]
  exact ⟨kAt_mem hw.1, kAt_mem hw.2⟩
theorem grN_eq {vs : List Dm} {ax : Int} {t : ByteArray} (ht : t ∈ nmG vs ax) : ∀ (m : Nat) (s : ByteArray) (P : List ByteArray), s ∈ nmG vs ax → (∀ p ∈ P, p ∈ nmG vs ax) →
    grN vs ax t m s P = (grL (arX vs ax) (pos (nmG vs ax) t) m (pos (nmG vs ax) s) (P.map (pos (nmG vs ax)))).map (List.map stS)
  | 0, s, P, hs, hP => by
    rw [grN, grL]
    by_cases e : s = t
    · subst e
      rw [if_pos (sameD_iff.2 rfl), if_pos rfl]; rfl
    · rw [if_neg (fun h => e (sameD_iff.1 h)), if_neg (fun h => e (pos_inj hs ht h))]; rfl
  | m + 1, s, P, hs, hP => by
    rw [grN, grL]
    by_cases e : s = t
    · subst e
      rw [if_pos (sameD_iff.2 rfl), if_pos rfl]; rfl
    · rw [if_neg (fun h => e (sameD_iff.1 h)), if_neg (fun h => e (pos_inj hs ht h))]
      unfold ntL
      rw [stL_arcs]
      have key : ∀ (B : List Ar), (∀ x ∈ B, x ∈ arX vs ax) →
          (((B.map stS).filter fun y => sameD (enF vs y) s).flatMap fun y => if hasL P (enT vs y) = true then [] else (grN vs ax t m (enT vs y) (P ++ [enT vs y])).map (y :: ·)) =
          (B.flatMap fun x => if x.a = pos (nmG vs ax) s ∧ x.b ∉ P.map (pos (nmG vs ax)) then (grL (arX vs ax) (pos (nmG vs ax) t) m x.b (P.map (pos (nmG vs ax)) ++ [x.b])).map (x :: ·) else []).map (List.map stS) := by
        intro B
        induction B with
        | nil => intro _; rfl
        | cons x B ih =>
          intro hB
          have hx := hB x (by simp)
          have ih := ih fun y hy => hB y (by simp [hy])
          obtain ⟨_, _, f3, f4, _⟩ := step_facts hx
          have hw := arX_within vs ax x hx
          rw [List.map_cons, List.flatMap_cons, List.map_append, ← ih]
          by_cases c1 : x.a = pos (nmG vs ax) s
          · have e1 : sameD (enF vs (stS x)) s = true := sameD_iff.2 (by rw [f3, c1, kAt_pos hs])
            rw [List.filter_cons_of_pos (p := fun y => sameD (enF vs y) s) e1, List.flatMap_cons]
            congr 1
            by_cases c2 : x.b ∈ P.map (pos (nmG vs ax))
            · have e2 : hasL P (enT vs (stS x)) = true := by
                obtain ⟨p, hp, hpb⟩ := List.mem_map.1 c2
                rw [hasL_iff, f4, ← hpb, kAt_pos (hP p hp)]; exact hp
              rw [if_pos e2, if_neg (fun h => h.2 c2)]; rfl
            · have e2 : ¬ (hasL P (enT vs (stS x)) = true) := fun h => c2 (by
                rw [hasL_iff, f4] at h
                exact List.mem_map.2 ⟨_, h, pos_kAt (nmG_nodup vs ax) hw.2⟩)
              rw [if_neg e2, if_pos ⟨c1, c2⟩, f4, grN_eq ht m _ _ (kAt_mem hw.2) (fun p hp => by
                rcases List.mem_append.1 hp with hp | hp
                · exact hP p hp
                · obtain rfl : p = _ := by simpa using hp
                  exact kAt_mem hw.2), List.map_append, List.map_cons, List.map_nil, pos_kAt (nmG_nodup vs ax) hw.2, List.map_map, List.map_map]
              rfl
          · have e1 : ¬ (sameD (enF vs (stS x)) s = true) := fun h => c1 (by
              have h2 := sameD_iff.1 h
              rw [f3] at h2
              rw [← h2, pos_kAt (nmG_nodup vs ax) hw.1])
            rw [List.filter_cons_of_neg (p := fun y => sameD (enF vs y) s) e1, if_neg (fun h => c1 h.1)]; rfl
      exact key (arX vs ax) (fun x hx => hx)
/-- A name that is not along the axis is not reached, and leads nowhere. -/
theorem grN_out {vs : List Dm} {ax : Int} {t : ByteArray} (ht : t ∉ nmG vs ax) : ∀ (m : Nat) (s : ByteArray) (P : List ByteArray), s ≠ t → grN vs ax t m s P = []
  | 0, s, P, hne => by rw [grN, if_neg (fun h => hne (sameD_iff.1 h))]
  | m + 1, s, P, hne => by
    rw [grN, if_neg (fun h => hne (sameD_iff.1 h))]
    refine List.flatMap_eq_nil_iff.2 fun y hy => ?_
    have hn := (ntL_names hy).2
    split
    · rfl
    · rw [grN_out ht m _ _ (fun e => ht (e ▸ hn))]; rfl
theorem grN_from {vs : List Dm} {ax : Int} {s t : ByteArray} (hs : s ∉ nmG vs ax) (hne : s ≠ t) : ∀ (m : Nat) (P : List ByteArray), grN vs ax t m s P = []
  | 0, P => by rw [grN, if_neg (fun h => hne (sameD_iff.1 h))]
  | m + 1, P => by
    rw [grN, if_neg (fun h => hne (sameD_iff.1 h))]
    refine List.flatMap_eq_nil_iff.2 fun y hy => absurd (ntL_names hy).1 hs

/-! ### how many -/
/-- The dimensions that lead on: not both ends are passed. -/
def avL (vs : List Dm) (ax : Int) (P : List ByteArray) : List Nat := (onA vs ax vs.length).filter fun i => !(hasL P (dAt vs i).f && hasL P (dAt vs i).t)
def fct : Nat → Nat
  | 0 => 1
  | n + 1 => (n + 1) * fct n
theorem fct_pos : ∀ n, 0 < fct n
  | 0 => Nat.one_pos
  | n + 1 => Nat.mul_pos (by omega) (fct_pos n)
theorem fct_mono : ∀ {m n : Nat}, m ≤ n → fct m ≤ fct n
  | m, 0, h => by obtain rfl : m = 0 := by omega
                  exact Nat.le_refl _
  | m, n + 1, h => by
    by_cases e : m = n + 1
    · subst e; exact Nat.le_refl _
    · have h1 := fct_mono (m := m) (n := n) (by omega)
      have h2 : fct n ≤ fct (n + 1) := by
        show fct n ≤ (n + 1) * fct n
        exact Nat.le_mul_of_pos_left _ (by omega)
      omega
theorem filter_le2 {α : Type} (p q : α → Bool) (h : ∀ x, q x = true → p x = true) : ∀ (L : List α), (L.filter q).length ≤ (L.filter p).length
  | [] => Nat.le_refl _
  | y :: L => by
    have ih := filter_le2 p q h L
    have hy := h y
    rw [List.filter_cons, List.filter_cons]
    cases e1 : q y <;> cases e2 : p y <;> simp_all <;> omega
theorem filter_lt2 {α : Type} (p q : α → Bool) (h : ∀ x, q x = true → p x = true) {b : α} (hp : p b = true) (hq : q b = false) : ∀ (L : List α), b ∈ L → (L.filter q).length < (L.filter p).length
  | [], hb => absurd hb (by simp)
  | y :: L, hb => by
    have hle := filter_le2 p q h L
    have hy := h y
    rw [List.filter_cons, List.filter_cons]
    rcases List.mem_cons.1 hb with rfl | hm
    · rw [hp, hq]; simp; omega
    · have ih := filter_lt2 p q h hp hq L hm
      cases e1 : q y <;> cases e2 : p y <;> simp_all <;> omega
theorem flatMap_len {α β : Type} (f : α → List β) (B : Nat) : ∀ (L : List α), (∀ x ∈ L, (f x).length ≤ B) → (L.flatMap f).length ≤ L.length * B
  | [], _ => by simp
  | x :: L, h => by
    have h1 := h x (by simp)
    have h2 := flatMap_len f B L fun y hy => h y (by simp [hy])
    rw [List.flatMap_cons, List.length_append, List.length_cons, Nat.succ_mul]
    omega
theorem go_on {vs : List Dm} {ax : Int} {s : ByteArray} {P : List ByteArray} (hs : s ∈ P) : ((ntL vs ax vs.length s).filter fun y => !(hasL P (enT vs y))).length ≤ (avL vs ax P).length := by
  unfold ntL stL avL
  rw [List.filter_filter]
  have hsP : hasL P s = true := hasL_iff.2 hs
  induction onA vs ax vs.length with
  | nil => simp
  | cons i L ih =>
    rw [List.flatMap_cons, List.filter_append, List.length_append]
    have h3 : (List.filter (fun i => !(hasL P (dAt vs i).f && hasL P (dAt vs i).t)) (i :: L)).length = (if (!(hasL P (dAt vs i).f && hasL P (dAt vs i).t)) = true then 1 else 0) + (List.filter (fun i => !(hasL P (dAt vs i).f && hasL P (dAt vs i).t)) L).length := by
      rw [List.filter_cons]
      split
      · rw [List.length_cons]; omega
      · omega
    rw [h3]
    have e1 : enF vs ⟨(i : Int), false⟩ = (dAt vs i).f := rfl
    have e2 : enT vs ⟨(i : Int), false⟩ = (dAt vs i).t := rfl
    have e3 : enF vs ⟨(i : Int), true⟩ = (dAt vs i).t := rfl
    have e4 : enT vs ⟨(i : Int), true⟩ = (dAt vs i).f := rfl
    have h1 : (List.filter (fun a => (!(hasL P (enT vs a))) && sameD (enF vs a) s) [⟨(i : Int), false⟩, ⟨(i : Int), true⟩]).length ≤ if (!(hasL P (dAt vs i).f && hasL P (dAt vs i).t)) = true then 1 else 0 := by
      rw [List.filter_cons, List.filter_cons, List.filter_nil, e1, e2, e3, e4]
      cases a1 : sameD (dAt vs i).f s <;> cases a2 : sameD (dAt vs i).t s
      · simp
      · have := sameD_iff.1 a2
        rw [this, hsP]
        cases hasL P (dAt vs i).f <;> simp
      · have := sameD_iff.1 a1
        rw [this, hsP]
        cases hasL P (dAt vs i).t <;> simp
      · have b1 := sameD_iff.1 a1
        have b2 := sameD_iff.1 a2
        rw [b1, b2, hsP]; simp
    omega
theorem flatMap_filter {α β : Type} (c : α → Bool) (f : α → List β) : ∀ (L : List α), (L.flatMap fun x => if c x = true then [] else f x) = (L.filter fun x => !(c x)).flatMap f
  | [] => rfl
  | x :: L => by
    rw [List.flatMap_cons, flatMap_filter c f L]
    cases e : c x with
    | true => rw [List.filter_cons_of_neg (by simp [e])]; rfl
    | false => rw [List.filter_cons_of_pos (by simp [e])]; simp
theorem grN_len {vs : List Dm} {ax : Int} {t : ByteArray} : ∀ (m : Nat) (s : ByteArray) (P : List ByteArray), s ∈ P → (grN vs ax t m s P).length ≤ fct (avL vs ax P).length
  | 0, s, P, hs => by
    have := fct_pos (avL vs ax P).length
    rw [grN]; split
    · exact this
    · simp
  | m + 1, s, P, hs => by
    have hp := fct_pos (avL vs ax P).length
    rw [grN]
    split
    · exact hp
    · rw [flatMap_filter]
      have h1 := go_on (vs := vs) (ax := ax) hs
      by_cases h0 : (avL vs ax P).length = 0
      · have : ((ntL vs ax vs.length s).filter fun y => !(hasL P (enT vs y))) = [] := List.length_eq_zero_iff.1 (by omega)
        rw [this]; simp
      · obtain ⟨d, hd⟩ : ∃ d, (avL vs ax P).length = d + 1 := ⟨(avL vs ax P).length - 1, by omega⟩
        rw [hd] at h1 ⊢
        refine Nat.le_trans (flatMap_len _ (fct d) _ fun y hy => ?_) (Nat.mul_le_mul_right _ h1)
        rw [List.length_map]
        refine Nat.le_trans (grN_len m _ _ (by simp)) (fct_mono ?_)
        obtain ⟨hy1, hy2⟩ := List.mem_filter.1 hy
        obtain ⟨x, hx, rfl, hF⟩ := ntL_mem hy1
        obtain ⟨i, hi, e⟩ := arX_mem.1 hx
        have hsP : hasL P s = true := hasL_iff.2 hs
        have hlt : (avL vs ax (P ++ [enT vs (stS x)])).length < (avL vs ax P).length := by
          refine filter_lt2 _ _ (fun j hj => ?_) (b := i) ?_ ?_ _ (onD_iff.1 hi)
          · cases h1 : hasL P (dAt vs j).f <;> cases h2 : hasL P (dAt vs j).t <;> simp at hj ⊢
            have e1 : hasL (P ++ [enT vs (stS x)]) (dAt vs j).f = true := hasL_iff.2 (List.mem_append.2 (.inl (hasL_iff.1 h1)))
            have e2 : hasL (P ++ [enT vs (stS x)]) (dAt vs j).t = true := hasL_iff.2 (List.mem_append.2 (.inl (hasL_iff.1 h2)))
            rw [e1, e2] at hj; simp at hj
          · rcases e with rfl | rfl
            · have h8 : (!(hasL P (dAt vs i).t)) = true := hy2
              have : hasL P (dAt vs i).t = false := by simpa using h8
              show (!(hasL P (dAt vs i).f && hasL P (dAt vs i).t)) = true
              rw [this]; simp
            · have h8 : (!(hasL P (dAt vs i).f)) = true := hy2
              have : hasL P (dAt vs i).f = false := by simpa using h8
              show (!(hasL P (dAt vs i).f && hasL P (dAt vs i).t)) = true
              rw [this]; simp
          · rcases e with rfl | rfl
            · have e1 : hasL (P ++ [(dAt vs i).t]) (dAt vs i).t = true := hasL_iff.2 (by simp)
              have hF' : (dAt vs i).f = s := hF
              have e2 : hasL (P ++ [(dAt vs i).t]) (dAt vs i).f = true := hasL_iff.2 (List.mem_append.2 (.inl (by rw [hF']; exact hs)))
              show (!(hasL (P ++ [(dAt vs i).t]) (dAt vs i).f && hasL (P ++ [(dAt vs i).t]) (dAt vs i).t)) = false
              rw [e1, e2]; rfl
            · have e1 : hasL (P ++ [(dAt vs i).f]) (dAt vs i).f = true := hasL_iff.2 (by simp)
              have hF' : (dAt vs i).t = s := hF
              have e2 : hasL (P ++ [(dAt vs i).f]) (dAt vs i).t = true := hasL_iff.2 (List.mem_append.2 (.inl (by rw [hF']; exact hs)))
              show (!(hasL (P ++ [(dAt vs i).f]) (dAt vs i).f && hasL (P ++ [(dAt vs i).f]) (dAt vs i).t)) = false
              rw [e1, e2]; rfl
        omega
theorem grN_few {vs : List Dm} {ax : Int} {s t : ByteArray} (h : vs.length ≤ 6) (m : Nat) (P : List ByteArray) (hs : s ∈ P) : (grN vs ax t m s P).length ≤ 720 := by
  have h1 := grN_len (vs := vs) (ax := ax) (t := t) m s P hs
  have h2 : (avL vs ax P).length ≤ 6 := Nat.le_trans (List.length_filter_le _ _) (Nat.le_trans (onA_len vs ax vs.length) h)
  exact Nat.le_trans h1 (fct_mono h2)
end Go.Proofs.Ytgngllgknimgkaa
namespace Go.Proofs.Ytgngllgknimgkaa
open Go.RowKit Go.Maps

/-- The least and the greatest sum of a chain. -/
def loA (vs : List Dm) (y : Sp) : Int := if y.b = true then -(dAt vs y.i.toNat).h else (dAt vs y.i.toNat).l
def loS (vs : List Dm) (c : List Sp) : Int := (c.map (loA vs)).sum
def hiS (vs : List Dm) (c : List Sp) : Int := (c.map (enA vs)).sum
def cAt (C : List (List Sp)) (k : Nat) : List Sp := C.getD k []
/-- What the first chains leave. -/
def lgF (vs : List Dm) (C : List (List Sp)) : Nat → Int × Int
  | 0 => (0, 0)
  | k + 1 =>
    let s := (loS vs (cAt C k), hiS vs (cAt C k))
    let o := if k = 0 then s else lgF vs C k
    (max o.1 s.1, min o.2 s.2)
theorem take_cAt {C : List (List Sp)} {k : Nat} (h : k < C.length) : C.take (k + 1) = C.take k ++ [cAt C k] := by
  rw [List.take_succ_eq_append_getElem h]
  unfold cAt
  rw [List.getD_eq_getElem?_getD, List.getElem?_eq_getElem h]; rfl
theorem lgF_min (vs : List Dm) (C : List (List Sp)) : ∀ k, k < C.length → mnL ((C.take (k + 1)).map (hiS vs)) = some (lgF vs C (k + 1)).2 ∧ mnL ((C.take (k + 1)).map fun c => -loS vs c) = some (-(lgF vs C (k + 1)).1)
  | 0, h => by
    rw [take_cAt h]
    unfold lgF
    simp only [List.take_zero, List.nil_append, List.map_cons, List.map_nil, if_true]
    unfold mnL
    simp only [List.foldl_cons, List.foldl_nil, mnO]
    constructor
    · congr 1; omega
    · congr 1; omega
  | k + 1, h => by
    obtain ⟨h1, h2⟩ := lgF_min vs C k (by omega)
    have e : lgF vs C (k + 1 + 1) = (max (lgF vs C (k + 1)).1 (loS vs (cAt C (k + 1))), min (lgF vs C (k + 1)).2 (hiS vs (cAt C (k + 1)))) := by
      conv => lhs; unfold lgF
      simp only [if_neg (Nat.succ_ne_zero k)]
    rw [take_cAt h, List.map_append, List.map_append, mn_append, mn_append, h1, h2, e]
    simp only [List.map_cons, List.map_nil]
    unfold mnL
    simp only [List.foldl_cons, List.foldl_nil, mnO]
    constructor
    · split
      · congr 1; omega
      · congr 1; omega
    · split
      · congr 1; omega
      · congr 1; omega
theorem sums_arcs {vs : List Dm} {ax : Int} : ∀ (p : List Ar), (∀ x ∈ p, x ∈ arX vs ax) → hiS vs (p.map stS) = sw p ∧ loS vs (p.map stS) = lsP vs p
  | [], _ => ⟨rfl, rfl⟩
  | x :: p, h => by
    obtain ⟨h1, h2⟩ := sums_arcs p fun y hy => h y (by simp [hy])
    have hx := h x (by simp)
    obtain ⟨_, _, _, _, f5⟩ := step_facts hx
    constructor
    · rw [sw_cons, ← h1]
      unfold hiS
      rw [List.map_cons, List.map_cons, List.sum_cons, f5]
    · rw [lsP_cons, ← h2]
      unfold loS
      rw [List.map_cons, List.map_cons, List.sum_cons]
      congr 1
      obtain ⟨i, hi, e⟩ := arX_mem.1 hx
      rcases e with rfl | rfl
      · show (dAt vs i).l = -(-(dAt vs i).l); omega
      · rfl
/-- All chains, as steps. -/
def chN (vs : List Dm) (ax : Int) (s t : ByteArray) : List (List Sp) := grN vs ax t (nmG vs ax).length s [s]
section
variable {vs : List Dm} {ax : Int} {s t : ByteArray}
theorem chN_arcs (hs : s ∈ nmG vs ax) (ht : t ∈ nmG vs ax) : chN vs ax s t = (chX vs ax s t).map (List.map stS) :=
  grN_eq ht _ _ _ hs (fun p hp => by
    obtain rfl : p = s := by simpa using hp
    exact hs)
/-- The stacks leave the distance. -/
theorem leave_is (hE : cfE vs ax = true) (hs : s ∈ nmG vs ax) (ht : t ∈ nmG vs ax) (hc : CnN vs ax s t) : 0 < (chN vs ax s t).length ∧ lgF vs (chN vs ax s t) (chN vs ax s t).length = (-waV vs ax t s, waV vs ax s t) := by
  have hh := chX_high hE hs ht hc
  have hl := chX_low hE hs ht hc
  have e1 : (chX vs ax s t).map sw = (chN vs ax s t).map (hiS vs) := by
    rw [chN_arcs hs ht, List.map_map]
    exact List.map_congr_left fun p hp => ((sums_arcs p (chX_mem.1 hp).1.mem).1).symm
  have e2 : ((chX vs ax s t).map fun p => -lsP vs p) = (chN vs ax s t).map fun c => -loS vs c := by
    rw [chN_arcs hs ht, List.map_map]
    exact List.map_congr_left fun p hp => by
      show -lsP vs p = -loS vs (p.map stS)
      rw [(sums_arcs p (chX_mem.1 hp).1.mem).2]
  rw [e1] at hh
  rw [e2] at hl
  have hpos : 0 < (chN vs ax s t).length := by
    cases h : chN vs ax s t with
    | nil => rw [h] at hh; cases hh
    | cons _ _ => simp
  refine ⟨hpos, ?_⟩
  obtain ⟨k, hk⟩ : ∃ k, (chN vs ax s t).length = k + 1 := ⟨(chN vs ax s t).length - 1, by omega⟩
  obtain ⟨h1, h2⟩ := lgF_min vs (chN vs ax s t) k (by omega)
  have ht' : (chN vs ax s t).take (k + 1) = chN vs ax s t := by rw [← hk]; exact List.take_length
  rw [ht'] at h1 h2
  rw [h1] at hh
  rw [h2] at hl
  rw [hk]
  have e4 : (lgF vs (chN vs ax s t) (k + 1)).2 = waV vs ax s t := Option.some.inj hh
  have e3 : -(lgF vs (chN vs ax s t) (k + 1)).1 = waV vs ax t s := Option.some.inj hl
  rw [← e3, ← e4, Int.neg_neg]
/-- Where the names are apart, or not along the axis, no chain is found. -/
theorem chN_none (hne : s ≠ t) (hc : ¬ (s ∈ nmG vs ax ∧ t ∈ nmG vs ax ∧ CnN vs ax s t)) (m : Nat) : grN vs ax t m s [s] = [] := by
  by_cases hs : s ∈ nmG vs ax
  · by_cases ht : t ∈ nmG vs ax
    · rw [grN_eq ht m s [s] hs (fun p hp => by
        obtain rfl : p = s := by simpa using hp
        exact hs)]
      have : grL (arX vs ax) (pos (nmG vs ax) t) m (pos (nmG vs ax) s) ([s].map (pos (nmG vs ax))) = [] := by
        refine List.eq_nil_iff_forall_not_mem.2 fun p hp => hc ⟨hs, ht, ?_⟩
        obtain ⟨h1, h2, _, h4⟩ := (grL_iff m _ _ p (by simp)).1 hp
        refine Classical.byContradiction fun hn => ?_
        have h3 := chX_none hs ht hn
        by_cases hm : p.length ≤ (nmG vs ax).length
        · have : p ∈ chX vs ax s t := chX_mem.2 ⟨h1, h2, hm⟩
          rw [h3] at this; simp at this
        · have hb : ∀ x ∈ pos (nmG vs ax) s :: p.map Ar.b, x < (nmG vs ax).length := fun x hx => by
            rcases List.mem_cons.1 hx with rfl | hx
            · exact pos_lt hs
            · obtain ⟨y, hy, rfl⟩ := List.mem_map.1 hx
              exact (arX_within vs ax y (h1.mem y hy)).2
          have h5 := nodup_le _ (List.range (nmG vs ax).length) h2 (fun x hx => List.mem_range.2 (hb x hx))
          simp at h5
          omega
      rw [this]; rfl
    · exact grN_out ht m s [s] hne
  · exact grN_from hs hne m [s]
end
end Go.Proofs.Ytgngllgknimgkaa
namespace Go.Proofs.Ytgngllgknimgkaa
open Go.RowKit Go.Maps

def CkS (vs : List Dm) (ax : Int) : ByteArray → List Sp → Prop
  | _, [] => True
  | s, y :: c => (knS vs.length y = true ∧ (dAt vs y.i.toNat).x = ax ∧ enF vs y = s) ∧ CkS vs ax (enT vs y) c
theorem grN_ok {vs : List Dm} {ax : Int} {t : ByteArray} : ∀ (m : Nat) (s : ByteArray) (P : List ByteArray) (c : List Sp), s ∈ P → c ∈ grN vs ax t m s P →
    CkS vs ax s c ∧ (s :: c.map (enT vs)).Nodup ∧ (∀ y ∈ c, enT vs y ∉ P) ∧ c.length ≤ m ∧ (s ≠ t → c ≠ [])
  | 0, s, P, c, hs, hc => by
    rw [grN] at hc
    split at hc
    · rename_i h
      obtain rfl : c = [] := by simpa using hc
      exact ⟨trivial, by simp, by simp, by simp, fun h2 => absurd (sameD_iff.1 h) h2⟩
    · simp at hc
  | m + 1, s, P, c, hs, hc => by
    rw [grN] at hc
    split at hc
    · rename_i h
      obtain rfl : c = [] := by simpa using hc
      exact ⟨trivial, by simp, by simp, by simp, fun h2 => absurd (sameD_iff.1 h) h2⟩
    · obtain ⟨y, hy, h⟩ := List.mem_flatMap.1 hc
      split at h
      · simp at h
      · rename_i hP
        obtain ⟨d, hd, rfl⟩ := List.mem_map.1 h
        have hP' : enT vs y ∉ P := fun h2 => hP (hasL_iff.2 h2)
        obtain ⟨h1, h2, h3, h4, _⟩ := grN_ok m _ _ d (by simp) hd
        obtain ⟨x, hx, rfl, hF⟩ := ntL_mem hy
        obtain ⟨f1, f2, _, _, _⟩ := step_facts hx
        refine ⟨⟨⟨f1, f2, hF⟩, h1⟩, ?_, ?_, by simp only [List.length_cons]; omega, fun _ => by simp⟩
        · rw [List.map_cons, List.nodup_cons]
          refine ⟨fun hm => ?_, h2⟩
          rcases List.mem_cons.1 hm with rfl | hm
          · exact hP' hs
          · obtain ⟨z, hz, e⟩ := List.mem_map.1 hm
            exact h3 z hz (by rw [e]; simp [hs])
        · intro z hz
          rcases List.mem_cons.1 hz with rfl | hz
          · exact hP'
          · intro h5; exact h3 z hz (by simp [h5])
theorem pAt_cons (y : Sp) (c : List Sp) (i : Nat) : pAt (y :: c) (i + 1) = pAt c i := rfl
/-- Step by step. -/
structure Good (vs : List Dm) (ax : Int) (s : ByteArray) (c : List Sp) : Prop where
  pos : 0 < c.length
  kn : ∀ i, i < c.length → knS vs.length (pAt c i) = true
  ax : ∀ i, i < c.length → (dAt vs (pAt c i).i.toNat).x = ax
  first : enF vs (pAt c 0) = s
  next : ∀ i, i + 1 < c.length → enF vs (pAt c (i + 1)) = enT vs (pAt c i)
  new : ∀ i, i < c.length → enT vs (pAt c i) ≠ s
  apart : ∀ i j, i < j → j < c.length → enT vs (pAt c i) ≠ enT vs (pAt c j)
theorem CkS.at {vs : List Dm} {ax : Int} : ∀ {c : List Sp} {s : ByteArray}, CkS vs ax s c → ∀ i, i < c.length → knS vs.length (pAt c i) = true ∧ (dAt vs (pAt c i).i.toNat).x = ax ∧ enF vs (pAt c i) = (if i = 0 then s else enT vs (pAt c (i - 1)))
  | [], _, _, i, hi => absurd hi (by simp)
  | y :: c, s, h, 0, _ => ⟨h.1.1, h.1.2.1, h.1.2.2⟩
  | y :: c, s, h, i + 1, hi => by
    obtain ⟨h1, h2, h3⟩ := h.2.at i (by simpa using hi)
    refine ⟨h1, h2, ?_⟩
    have e1 : (if i + 1 = 0 then s else enT vs (pAt (y :: c) (i + 1 - 1))) = enT vs (pAt (y :: c) i) := by rw [if_neg (Nat.succ_ne_zero i), Nat.add_sub_cancel]
    rw [pAt_cons, h3, e1]
    by_cases e : i = 0
    · subst e; rw [if_pos rfl]; rfl
    · rw [if_neg e]
      obtain ⟨j, rfl⟩ : ∃ j, i = j + 1 := ⟨i - 1, by omega⟩
      rw [Nat.add_sub_cancel, pAt_cons]
theorem good_of {vs : List Dm} {ax : Int} {s : ByteArray} {c : List Sp} (h : CkS vs ax s c) (hn : (s :: c.map (enT vs)).Nodup) (h0 : c ≠ []) : Good vs ax s c := by
  have hp : 0 < c.length := List.length_pos_iff.2 h0
  have hm : ∀ i, i < c.length → (c.map (enT vs))[i]? = some (enT vs (pAt c i)) := fun i hi => by
    rw [List.getElem?_map, List.getElem?_eq_getElem hi, pAt_lt hi]; rfl
  obtain ⟨n1, n2⟩ := List.nodup_cons.1 hn
  refine ⟨hp, fun i hi => (h.at i hi).1, fun i hi => (h.at i hi).2.1, by have := (h.at 0 hp).2.2; rwa [if_pos rfl] at this, fun i hi => by
    have := (h.at (i + 1) hi).2.2
    rwa [if_neg (by omega), Nat.add_sub_cancel] at this, fun i hi e => n1 (by rw [← e]; exact List.mem_of_getElem? (hm i hi)), fun i j hij hj e => ?_⟩
  have hil : i < (c.map (enT vs)).length := by rw [List.length_map]; omega
  have hjl : j < (c.map (enT vs)).length := by rw [List.length_map]; omega
  have h1 := List.pairwise_iff_getElem.1 n2 i j hil hjl hij
  have e1 := hm i (by omega)
  have e2 := hm j hj
  rw [List.getElem?_eq_getElem hil] at e1
  rw [List.getElem?_eq_getElem hjl] at e2
  exact h1 ((Option.some.inj e1).trans (e.trans (Option.some.inj e2).symm))
/-- No dimension twice. -/
theorem Good.dims {vs : List Dm} {ax : Int} {s : ByteArray} {c : List Sp} (h : Good vs ax s c) : ∀ i j, i < j → j < c.length → (pAt c i).i ≠ (pAt c j).i := fun i j hij hj e => by
  have hF : ∀ k, k < c.length → enF vs (pAt c k) = (if k = 0 then s else enT vs (pAt c (k - 1))) := fun k hk => by
    by_cases e0 : k = 0
    · subst e0; rw [if_pos rfl]; exact h.first
    · rw [if_neg e0]
      obtain ⟨q, rfl⟩ : ∃ q, k = q + 1 := ⟨k - 1, by omega⟩
      rw [Nat.add_sub_cancel]; exact h.next q hk
  have ends : enT vs (pAt c j) = enT vs (pAt c i) ∨ enT vs (pAt c j) = enF vs (pAt c i) := by
    unfold enT enF
    rw [e]
    cases (pAt c i).b <;> cases (pAt c j).b <;> simp
  rcases ends with e1 | e1
  · exact h.apart i j hij hj e1.symm
  · rw [hF i (by omega)] at e1
    by_cases e0 : i = 0
    · subst e0; rw [if_pos rfl] at e1; exact h.new j hj e1
    · rw [if_neg e0] at e1
      exact h.apart (i - 1) j (by omega) hj e1.symm
end Go.Proofs.Ytgngllgknimgkaa
namespace Go.Proofs.Ytgngllgknimgkaa
open Go.RowKit

def goE (vs : List Dm) : Int :=
  if 256 < vs.length then 5 else match loopE (giF vs) vs.length 0 () with
    | .inl _ => 0
    | .inr r => r
def goR : Unit ⊕ Int → Int
  | .inl _ => 0
  | .inr r => r
theorem goE_le {vs : List Dm} (h : ¬ 256 < vs.length) : goE vs = goR (loopE (giF vs) vs.length 0 ()) := by
  unfold goE; rw [if_neg h]; rfl
set_option maxRecDepth 100000 in
set_option maxHeartbeats 4000000 in
theorem given13_any (ao : Option Addr) (vs : List Dm) (c : Nat) (w : World) (R : Ending → World → Prop) (hl : vs.length ≤ 9223372036854775807) (hc : CellsAt w ao (dC vs)) (hv : DmsOk vs)
   (hR : ∀ w', Below w.heap.size w w' → R (.returned (.int .i64 (goE vs))) w') :
    Calls Try.prog 26 #[.slice ao vs.length c] w R := by
  have HR := Lib.hid hR
  have HC := Lib.hid hc
  have HV := Lib.hid hv
  clear hR hc hv
  by_cases hm : 256 < vs.length
  · have e : Hid (goE vs = 5) := by unfold Hid goE; rw [if_pos hm]
    go_enter Try.func26, Try.ntmps26
    go_wp2_with fail
    exact ret_i (HR.out _ (Below.refl _ _)) rfl e.out
  · have hE : Hid (goE vs = goR (loopE (giF vs) vs.length 0 ())) := goE_le hm
    go_enter Try.func26, Try.ntmps26
    go_wp2_with fail
    go_loopw [11] (fun j wr => ∃ k : Nat, k ≤ vs.length ∧ j = .int .i64 k ∧ Hid (Below w.heap.size w wr) ∧ Hid (loopE (giF vs) (vs.length - k) k () = loopE (giF vs) vs.length 0 ())) (fun j _ => vs.length - (intOf j).toNat)
    case atStart => exact ⟨0, Nat.zero_le _, rfl, Below.refl _ _, rfl⟩
    case round =>
      obtain ⟨k, hk, rfl, HB, hL⟩ := hrel
      have sB := HB.out.size
      by_cases hlt : k < vs.length
      · obtain ⟨b, o, rfl, hbb, hcell⟩ := HC.out.dms (by omega)
        obtain ⟨c0, c1, c2, c3, c4⟩ := hcell k hlt
        have d0 := cellB HB.out c0 hbb
        have d1 := cellB HB.out c1 hbb
        have d2 := cellB HB.out c2 hbb
        have d3 := cellB HB.out c3 hbb
        have d4 := cellB HB.out c4 hbb
        have hok := Lib.hid (HV.out k hlt)
        have hst : Hid (giF vs k () = if vaE (dAt vs k) = 0 then .inl () else .inr (vaE (dAt vs k))) := rfl
        obtain ⟨u, hu⟩ : ∃ u, dAt vs k = u := ⟨_, rfl⟩
        rw [hu] at d0 d1 d2 d3 d4 hok hst
        obtain ⟨E, hEv⟩ : ∃ E, Hid (vaE u = E) := ⟨_, rfl⟩
        rw [hEv.out] at hst
        have HA : Hid (Below w.heap.size w (wr.alloc (.cells #[.string u.f, .string u.t, .int .i64 u.x, .int .i64 u.l, .int .i64 u.h] 44))) := HB.out.alloc sB _
        have sA := HA.out.size
        clear hcell hu c0 c1 c2 c3 c4
        go_wp2_with fail
        refine valid_any u _ _ hok.out ?_
        rw [hEv.out]
        intro w1 hb
        have HB1 : Hid (Below w.heap.size w w1) := HA.out.trans (hb.mono sA)
        clear hb
        by_cases h0 : E = 0
        · subst h0
          have e := loopE_step hL hlt (by rw [hst.out, if_pos rfl])
          go_wp2_with fail
          exact ⟨⟨k + 1, by omega, by go_num, HB1, e⟩, by simp [intOf]; omega⟩
        · have K : (E != 0) = true := by simpa using h0
          have e : Hid (goE vs = E) := by unfold Hid; rw [hE.out, loopE_hit hL hlt (by rw [hst.out, if_neg h0])]; rfl
          clear h0
          go_wp2_with fail
          exact ret_i (HR.out _ HB1.out) rfl e.out
      · have e : Hid (goE vs = 0) := by unfold Hid; rw [hE.out, loopE_done hL hlt]; rfl
        go_wp2_with fail
        exact ret_i (HR.out _ HB.out) rfl e.out
set_option maxRecDepth 100000 in
set_option maxHeartbeats 4000000 in
theorem rgiven24_any (ao : Option Addr) (vs : List Dm) (c : Nat) (w : World) (R : Ending → World → Prop) (hl : vs.length ≤ 9223372036854775807) (hc : CellsAt w ao (dC vs)) (hv : DmsOk vs)
   (hR : ∀ w', Below w.heap.size w w' → R (.returned (.int .i64 (goE vs))) w') :
    Calls Try.prog 10 #[.slice ao vs.length c] w R := by
  have HR := Lib.hid hR
  have HC := Lib.hid hc
  have HV := Lib.hid hv
  clear hR hc hv
  by_cases hm : 256 < vs.length
  · have e : Hid (goE vs = 5) := by unfold Hid goE; rw [if_pos hm]
    go_enter Try.func10, Try.ntmps10
    go_wp2_with fail
    exact ret_i (HR.out _ (Below.refl _ _)) rfl e.out
  · have hE : Hid (goE vs = goR (loopE (giF vs) vs.length 0 ())) := goE_le hm
    go_enter Try.func10, Try.ntmps10
    go_wp2_with fail
    go_loopw [3] (fun j wr => ∃ k : Nat, k ≤ vs.length ∧ j = .int .i64 k ∧ Hid (Below w.heap.size w wr) ∧ Hid (loopE (giF vs) (vs.length - k) k () = loopE (giF vs) vs.length 0 ())) (fun j _ => vs.length - (intOf j).toNat)
    case atStart => exact ⟨0, Nat.zero_le _, rfl, Below.refl _ _, rfl⟩
    case round =>
      obtain ⟨k, hk, rfl, HB, hL⟩ := hrel
      have sB := HB.out.size
      by_cases hlt : k < vs.length
      · obtain ⟨b, o, rfl, hbb, hcell⟩ := HC.out.dms (by omega)
        obtain ⟨c0, c1, c2, c3, c4⟩ := hcell k hlt
        have d0 := cellB HB.out c0 hbb
        have d1 := cellB HB.out c1 hbb
        have d2 := cellB HB.out c2 hbb
        have d3 := cellB HB.out c3 hbb
        have d4 := cellB HB.out c4 hbb
        have hok := Lib.hid (HV.out k hlt)
        have hst : Hid (giF vs k () = if vaE (dAt vs k) = 0 then .inl () else .inr (vaE (dAt vs k))) := rfl
        obtain ⟨u, hu⟩ : ∃ u, dAt vs k = u := ⟨_, rfl⟩
        rw [hu] at d0 d1 d2 d3 d4 hok hst
        obtain ⟨E, hEv⟩ : ∃ E, Hid (vaE u = E) := ⟨_, rfl⟩
        rw [hEv.out] at hst
        clear hcell hu c0 c1 c2 c3 c4
        go_wp2_with fail
        refine rvalid_any u _ _ hok.out ?_
        rw [hEv.out]
        intro w1 hb
        have HB1 : Hid (Below w.heap.size w w1) := HB.out.trans (hb.mono sB)
        clear hb
        by_cases h0 : E = 0
        · subst h0
          have e := loopE_step hL hlt (by rw [hst.out, if_pos rfl])
          go_wp2_with fail
          exact ⟨⟨k + 1, by omega, by go_num, HB1, e⟩, by simp [intOf]; omega⟩
        · have K : (E != 0) = true := by simpa using h0
          have e : Hid (goE vs = E) := by unfold Hid; rw [hE.out, loopE_hit hL hlt (by rw [hst.out, if_neg h0])]; rfl
          clear h0
          go_wp2_with fail
          exact ret_i (HR.out _ HB1.out) rfl e.out
      · have e : Hid (goE vs = 0) := by unfold Hid; rw [hE.out, loopE_done hL hlt]; rfl
        go_wp2_with fail
        exact ret_i (HR.out _ HB.out) rfl e.out
/-! ### Few of reference 24, of at most six -/
set_option maxRecDepth 100000 in
set_option maxHeartbeats 4000000 in
theorem rfew24_any (ao : Option Addr) (vs : List Dm) (c : Nat) (w : World) (R : Ending → World → Prop) (hl : vs.length ≤ 6) (hc : CellsAt w ao (dC vs)) (hv : DmsOk vs)
   (hR : ∀ w', Drew w w' → R (.returned (.bool (!anyD lgQ vs vs.length))) w') :
    Calls Try.prog 9 #[.slice ao vs.length c] w R := by
  have HR := Lib.hid hR
  have HC := Lib.hid hc
  have HV := Lib.hid hv
  clear hR hc hv
  go_enter Try.func9, Try.ntmps9
  go_wp2_with fail
  go_loopw [3] (fun j wr => ∃ k : Nat, k ≤ vs.length ∧ j = .int .i64 k ∧ Drew w wr ∧ Hid (anyD lgQ vs k = false)) (fun j _ => vs.length - (intOf j).toNat)
  case atStart => exact ⟨0, Nat.zero_le _, rfl, Drew.refl _, rfl⟩
  case round =>
    obtain ⟨k, hk, rfl, ⟨q, rfl⟩, hL⟩ := hrel
    by_cases hlt : k < vs.length
    · obtain ⟨b, o, rfl, _, hcell⟩ := HC.out.dms (by omega)
      have k20 : k < 20 := by omega
      obtain ⟨d0, d1, _, _, _⟩ := hcell k hlt
      have hok := HV.out k hlt
      have hst : Hid (lgQ (dAt vs k) = false → anyD lgQ vs (k + 1) = false) := fun h => by rw [anyD, hL.out, h]; rfl
      have hht : Hid (lgQ (dAt vs k) = true → (!anyD lgQ vs vs.length) = false) := fun h => by rw [(anyD_iff _).2 ⟨k, hlt, h⟩]; rfl
      obtain ⟨u, hu⟩ : ∃ u, dAt vs k = u := ⟨_, rfl⟩
      rw [hu] at d0 d1 hst hht hok
      have hg1 : u.f.size ≤ 9223372036854775807 := hok.1
      have hg2 : u.t.size ≤ 9223372036854775807 := hok.2
      clear hcell hu hok
      by_cases x1 : 100 < u.f.size
      · have e := Lib.hid (hht.out (by unfold lgQ; simp [x1]))
        go_wp2_with fail
        exact ret_b (HR.out _ (by repeat first | exact Drew.refl _ | apply Drew.drewN)) rfl e.out
      · by_cases x2 : 100 < u.t.size
        · have e := Lib.hid (hht.out (by unfold lgQ; simp [x2]))
          go_wp2_with fail
          exact ret_b (HR.out _ (by repeat first | exact Drew.refl _ | apply Drew.drewN)) rfl e.out
        · have e := Lib.hid (hst.out (by unfold lgQ; simp [x1, x2]))
          go_wp2_with fail
          exact ⟨⟨k + 1, by omega, by go_num, (by repeat first | exact Drew.refl _ | apply Drew.drewN), e⟩, by simp [intOf]; omega⟩
    · obtain rfl : k = vs.length := by omega
      have e : Hid ((!anyD lgQ vs vs.length) = true) := by unfold Hid; rw [hL.out]; rfl
      go_wp2_with fail
      exact ret_b (HR.out _ (by repeat first | exact Drew.refl _ | apply Drew.drewN)) rfl e.out

/-! ### caseLoops -/
def clV (vs : List Dm) : Bool := decide (vs.length ≤ 6) && !anyD lgQ vs vs.length && decide (goE vs = 0)
set_option maxRecDepth 100000 in
set_option maxHeartbeats 4000000 in
theorem caseLoops_any (ao : Option Addr) (vs : List Dm) (c : Nat) (w : World) (R : Ending → World → Prop) (hl : vs.length ≤ 9223372036854775807) (hc : CellsAt w ao (dC vs)) (hv : DmsOk vs)
   (hR : ∀ w', Below w.heap.size w w' → R (.returned (.bool (clV vs))) w') :
    Calls Try.prog 4 #[.slice ao vs.length c] w R := by
  have HR := Lib.hid hR
  have HC := Lib.hid hc
  have HV := Lib.hid hv
  clear hR hc hv
  by_cases h6 : vs.length ≤ 6
  · go_enter Try.func4, Try.ntmps4
    go_wp2_with fail
    refine rfew24_any ao vs c _ _ h6 HC.out HV.out fun w1 hb => ?_
    obtain ⟨q, rfl⟩ := hb
    cases ea : anyD lgQ vs vs.length with
    | true =>
      have e : Hid (clV vs = false) := by unfold Hid clV; rw [ea]; simp
      go_wp2_with fail
      exact ret_b (HR.out _ (Drew.below (by repeat first | exact Drew.refl _ | apply Drew.drewN) _)) rfl e.out
    | false =>
      have e : Hid (clV vs = decide (goE vs = 0)) := by unfold Hid clV; rw [ea, decide_eq_true h6]; simp
      have HB1 : Hid (Below w.heap.size w (w.drewN q)) := Drew.below ⟨_, rfl⟩ _
      obtain ⟨E, hE⟩ : ∃ E, Hid (goE vs = E) := ⟨_, rfl⟩
      go_wp2_with fail
      refine rgiven24_any ao vs c _ _ hl (HC.out.below HB1.out) HV.out fun w2 hb2 => ?_
      rw [hE.out]
      have HB2 : Hid (Below w.heap.size w w2) := HB1.out.trans hb2
      clear hb2
      by_cases h0 : E = 0
      · subst h0
        have e2 : Hid (clV vs = true) := by unfold Hid; rw [e.out, hE.out]; rfl
        go_wp2_with fail
        exact ret_b (HR.out _ HB2.out) rfl e2.out
      · have K : (E == 0) = false := by simpa using h0
        have e2 : Hid (clV vs = false) := by unfold Hid; rw [e.out, hE.out]; simpa using h0
        clear h0
        go_wp2_with fail
        exact ret_b (HR.out _ HB2.out) rfl e2.out
  · have e : Hid (clV vs = false) := by unfold Hid clV; simp [h6]
    go_enter Try.func4, Try.ntmps4
    go_wp2_with fail
    exact ret_b (HR.out _ (Below.refl _ _)) rfl e.out
end Go.Proofs.Ytgngllgknimgkaa
namespace Go.Proofs.Ytgngllgknimgkaa
open Go.RowKit

set_option maxRecDepth 100000 in
set_option maxHeartbeats 4000000 in
theorem ends13_any (ao : Option Addr) (vs : List Dm) (c : Nat) (s : Sp) (w : World) (R : Ending → World → Prop) (hc : CellsAt w ao (dC vs)) (hk : knS vs.length s = true)
   (hR : ∀ w', Below w.heap.size w w' → R (.returned (.tuple #[.string (enF vs s), .string (enT vs s)])) w') :
    Calls Try.prog 17 #[.slice ao vs.length c, .agg #[.int .i64 s.i, .bool s.b]] w R := by
  have HR := Lib.hid hR
  obtain ⟨h0, h1⟩ := knS_iff.1 hk
  obtain ⟨i, b⟩ := s
  obtain ⟨n, rfl⟩ : ∃ n : Nat, i = n := ⟨i.toNat, (Int.toNat_of_nonneg h0).symm⟩
  have hn : n < vs.length := by
    have h1' : (n : Int) < vs.length := h1
    omega
  obtain ⟨bd, o, rfl, hbb, hcell⟩ := hc.dms (by omega)
  obtain ⟨d0, d1, d2, d3, d4⟩ := hcell n hn
  have hF : Hid (enF vs ⟨n, b⟩ = if b = true then (dAt vs n).t else (dAt vs n).f) := rfl
  have hT : Hid (enT vs ⟨n, b⟩ = if b = true then (dAt vs n).f else (dAt vs n).t) := rfl
  obtain ⟨u, hu⟩ : ∃ u, dAt vs n = u := ⟨_, rfl⟩
  rw [hu] at d0 d1 d2 d3 d4 hF hT
  clear hcell hu hR hc hk h0 h1
  cases b with
  | true =>
    go_enter Try.func17, Try.ntmps17
    go_wp2_with fail
    go_quiet (fail)
    go_wp2_with fail

    have h := HR.out
    rw [hF.out, hT.out] at h
    exact h _ ((((Below.refl w.heap.size w).alloc (Nat.le_refl _) _).alloc (by simp) _).trans ⟨rfl, rfl, rfl, Nat.le_refl _, fun _ _ => rfl⟩)
  | false =>
    go_enter Try.func17, Try.ntmps17
    go_wp2_with fail
    go_quiet (fail)
    go_wp2_with fail

    have h := HR.out
    rw [hF.out, hT.out] at h
    exact h _ ((((Below.refl w.heap.size w).alloc (Nat.le_refl _) _).alloc (by simp) _).trans ⟨rfl, rfl, rfl, Nat.le_refl _, fun _ _ => rfl⟩)
theorem all13_any (n : Int) (w : World) (R : Ending → World → Prop) (hR : R (.returned (.bool true)) w) : Calls Try.prog 14 #[.int .i64 n] w R := by
  have HR := Lib.hid hR
  clear hR
  go_enter Try.func14, Try.ntmps14
  go_wp2_with fail
  exact ret_b HR.out rfl rfl
end Go.Proofs.Ytgngllgknimgkaa
namespace Go.Proofs.Ytgngllgknimgkaa
open Go.RowKit

def asE (vs : List Dm) (ax : Int) (f t : ByteArray) : Int :=
  if goE vs = 0 then
    if ax < 0 ∨ 3 ≤ ax then 1
    else if nmE f = 0 then
      if nmE t = 0 then
        if sameD f t = true then 7 else 0
      else nmE t
    else nmE f
  else goE vs
set_option maxRecDepth 100000 in
set_option maxHeartbeats 4000000 in
theorem asked_any (ao : Option Addr) (vs : List Dm) (c : Nat) (ax : Int) (f t : ByteArray) (w : World) (R : Ending → World → Prop) (hl : vs.length ≤ 9223372036854775807) (hc : CellsAt w ao (dC vs)) (hv : DmsOk vs)
   (hf : f.size ≤ 9223372036854775807) (ht : t.size ≤ 9223372036854775807)
   (hR : ∀ w', Below w.heap.size w w' → R (.returned (.int .i64 (asE vs ax f t))) w') :
    Calls Try.prog 12 #[.slice ao vs.length c, .agg #[.int .i64 ax, .string f, .string t]] w R := by
  have HR := Lib.hid hR
  have HC := Lib.hid hc
  have HV := Lib.hid hv
  have hE : Hid (asE vs ax f t = if goE vs = 0 then if ax < 0 ∨ 3 ≤ ax then 1 else if nmE f = 0 then if nmE t = 0 then if sameD f t = true then 7 else 0 else nmE t else nmE f else goE vs) := rfl
  clear hR hc hv
  obtain ⟨w1, E1, HB1, s1, X1⟩ := box_ex w #[.int .i64 ax, .string f, .string t] 24
  go_enter Try.func12, Try.ntmps12
  go_wp2_with (rw [E1])
  refine given13_any ao vs c _ _ hl (HC.out.below HB1.out) HV.out fun w2 hb2 => ?_
  have HB2 : Hid (Below w.heap.size w w2) := HB1.out.trans (hb2.mono (Nat.le_of_lt s1))
  have x0 : w2.cell? ⟨w.heap.size, 0, none⟩ = some (.int .i64 ax) := cellB hb2 (cell_at X1.out rfl) s1
  have x1 : w2.cell? ⟨w.heap.size, 1, none⟩ = some (.string f) := cellB hb2 (cell_at X1.out rfl) s1
  have x2 : w2.cell? ⟨w.heap.size, 2, none⟩ = some (.string t) := cellB hb2 (cell_at X1.out rfl) s1
  have s2 : w.heap.size < w2.heap.size := Nat.lt_of_lt_of_le s1 hb2.size
  obtain ⟨E, hEv⟩ : ∃ E, Hid (goE vs = E) := ⟨_, rfl⟩
  rw [hEv.out]
  rw [hEv.out] at hE
  clear hb2 E1 X1
  by_cases h0 : E = 0
  · subst h0
    by_cases a1 : ax < 0
    · have e : Hid (asE vs ax f t = 1) := by unfold Hid; rw [hE.out, if_pos rfl, if_pos (.inl a1)]
      go_wp2_with fail
      exact ret_i (HR.out _ HB2.out) rfl e.out
    · by_cases a2 : 3 ≤ ax
      · have e : Hid (asE vs ax f t = 1) := by unfold Hid; rw [hE.out, if_pos rfl, if_pos (.inr a2)]
        go_wp2_with fail
        exact ret_i (HR.out _ HB2.out) rfl e.out
      · have e : Hid (asE vs ax f t = if nmE f = 0 then if nmE t = 0 then if sameD f t = true then 7 else 0 else nmE t else nmE f) := by unfold Hid; rw [hE.out, if_pos rfl, if_neg (by omega)]
        clear hE
        obtain ⟨w3, E3, HB3, s3, X3⟩ := box_ex w2 #[.string f, .string t] 9
        have HB3' : Hid (Below w.heap.size w w3) := HB2.out.trans (HB3.out.mono (Nat.le_of_lt s2))
        have y1 := cellB HB3.out x1 s2
        have y2 := cellB HB3.out x2 s2
        have z0 : w3.cell? ⟨w2.heap.size, 0, none⟩ = some (.string f) := cell_at X3.out rfl
        have z1 : w3.cell? ⟨w2.heap.size, 1, none⟩ = some (.string t) := cell_at X3.out rfl
        have s13 : w.heap.size < w3.heap.size := Nat.lt_trans s2 s3
        go_wp2_with (rw [E3])
        clear X3 E3
        go_loopw [28] (fun j wr => ∃ k : Nat, k ≤ 2 ∧ j = .int .i64 k ∧ Hid (Below w3.heap.size w3 wr) ∧ Hid ((0 < k → nmE f = 0) ∧ (1 < k → nmE t = 0))) (fun j _ => 2 - (intOf j).toNat)
        case atStart => exact ⟨0, by omega, rfl, Below.refl _ _, fun h => absurd h (by omega), fun h => absurd h (by omega)⟩
        case round =>
          obtain ⟨k, hk, rfl, HB, hL⟩ := hrel
          have HBw : Hid (Below w.heap.size w wr) := HB3'.out.trans (HB.out.mono (Nat.le_of_lt s13))
          have v1 := cellB HB.out y1 s13
          have v2 := cellB HB.out y2 s13
          have v3 := cellB HB.out z0 s3
          have v4 := cellB HB.out z1 s3
          have key : ∀ (P : Prop), (k = 0 → P) → (k = 1 → P) → (k = 2 → P) → P := fun P a0 a1 a2 => by
            rcases (show k = 0 ∨ k = 1 ∨ k = 2 by omega) with e | e | e
            · exact a0 e
            · exact a1 e
            · exact a2 e
          refine key _ (fun hk0 => ?_) (fun hk1 => ?_) (fun hk2 => ?_)
          · subst hk0
            clear key
            go_wp2_with fail
            refine name_any f _ _ hf fun w4 hb4 => ?_
            have HB4 : Hid (Below w3.heap.size w3 w4) := HB.out.trans (hb4.mono HB.out.size)
            clear hb4
            obtain ⟨E, hEf⟩ : ∃ E, Hid (nmE f = E) := ⟨_, rfl⟩
            rw [hEf.out]
            by_cases h0 : E = 0
            · subst h0
              go_wp2_with fail
              exact ⟨⟨1, by omega, by go_num, HB4, fun _ => hEf.out, fun h => absurd h (by omega)⟩, by simp [intOf]⟩
            · have K : (E != 0) = true := by simpa using h0
              have e2 : Hid (asE vs ax f t = E) := by unfold Hid; rw [e.out, hEf.out, if_neg h0]
              have HB4w : Hid (Below w.heap.size w w4) := HB3'.out.trans (HB4.out.mono (Nat.le_of_lt s13))
              clear h0
              go_wp2_with fail
              exact ret_i (HR.out _ HB4w.out) rfl e2.out
          · subst hk1
            clear key
            have hf0 := hL.out.1 (by omega)
            go_wp2_with fail
            refine name_any t _ _ ht fun w4 hb4 => ?_
            have HB4 : Hid (Below w3.heap.size w3 w4) := HB.out.trans (hb4.mono HB.out.size)
            clear hb4
            obtain ⟨E, hEf⟩ : ∃ E, Hid (nmE t = E) := ⟨_, rfl⟩
            rw [hEf.out]
            by_cases h0 : E = 0
            · subst h0
              go_wp2_with fail
              exact ⟨⟨2, by omega, by go_num, HB4, fun _ => hf0, fun _ => hEf.out⟩, by simp [intOf]⟩
            · have K : (E != 0) = true := by simpa using h0
              have e2 : Hid (asE vs ax f t = E) := by unfold Hid; rw [e.out, if_pos hf0, hEf.out, if_neg h0]
              have HB4w : Hid (Below w.heap.size w w4) := HB3'.out.trans (HB4.out.mono (Nat.le_of_lt s13))
              clear h0 hf0
              go_wp2_with fail
              exact ret_i (HR.out _ HB4w.out) rfl e2.out
          · subst hk2
            clear key
            have e2 : Hid (asE vs ax f t = if sameD f t = true then 7 else 0) := by unfold Hid; rw [e.out, if_pos (hL.out.1 (by omega)), if_pos (hL.out.2 (by omega))]
            cases hs : sameD f t with
            | true =>
              have hs1 : (f.toList == t.toList) = true := hs
              have e3 : Hid (asE vs ax f t = 7) := by unfold Hid; rw [e2.out, hs]; rfl
              clear hs
              go_wp2_with fail
              exact ret_i (HR.out _ HBw.out) rfl e3.out
            | false =>
              have hs1 : (f.toList == t.toList) = false := hs
              have e3 : Hid (asE vs ax f t = 0) := by unfold Hid; rw [e2.out, hs]; rfl
              clear hs
              go_wp2_with fail
              exact ret_i (HR.out _ HBw.out) rfl e3.out
  · have K : (E != 0) = true := by simpa using h0
    have e : Hid (asE vs ax f t = E) := by unfold Hid; rw [hE.out, if_neg h0]
    clear h0
    go_wp2_with fail
    exact ret_i (HR.out _ HB2.out) rfl e.out
end Go.Proofs.Ytgngllgknimgkaa
