/- The loop that the relaxations leave is one that Verify accepts. No program in sight. What Few says of the names along an axis. No program in sight. The walks of Placed of the reference and of slices.Equal of its positions. (Printed by gen_placed.py.) The walk of the law CompleteSolves. (Printed by gen_solvelaw.py.) -/
import Derived.Test.YtlgjhjgdmomfoaaMdu
import Derived.Test.YtlgjhjgdmomfoaaMcm
import Derived.Test.YtlgjhjgdmomfoaaMck
import Derived.Test.YtlgjhjgdmomfoaaDza
import Derived.Test.YtlgjhjgdmomfoaaMdn
namespace Go.Proofs.Ytlgjhjgdmomfoaa
open Go.RowKit Go.Maps

theorem lpC_list {A : List Ar} {n m v : Nat} {s : Bf} (h : Lp A n s v m) : ∀ d i, i + 1 + d = m → lpC s v (n - i) (s.bk (i + 1) v) = (List.range d).map fun q => stS (s.y (s.bk (i + 1 + q) v))
  | 0, i, hi => by
    have hm := h.len
    rw [lpC_end (by omega) (by rw [show i + 1 = m by omega]; exact h.back)]; rfl
  | d + 1, i, hi => by
    have hm := h.len
    rw [lpC_step (by omega) (h.first (i + 1) (by omega) (by omega)), lpC_list h d (i + 1) (by omega), List.range_succ_eq_map, List.map_cons, List.map_map]
    congr 1
    refine List.map_congr_left fun q _ => ?_
    simp only [Function.comp_apply]
    rw [show i + 1 + 1 + q = i + 1 + (q + 1) by omega]
theorem lpL_list {A : List Ar} {n m : Nat} {s : Bf} (h : Lp A n s (lpV s n) m) : lpL s n = ((List.range m).map fun q => stS (s.y (s.bk q (lpV s n)))).reverse := by
  have hp := h.pos
  obtain ⟨d, rfl⟩ : ∃ d, m = d + 1 := ⟨m - 1, by omega⟩
  have h1 := lpC_list h d 0 (by omega)
  unfold lpL
  have e : s.bk (0 + 1) (lpV s n) = s.p (lpV s n) := rfl
  rw [e, Nat.sub_zero] at h1
  rw [h1, List.range_succ_eq_map, List.map_cons, List.map_map]
  congr 2
  refine List.map_congr_left fun q _ => ?_
  simp only [Function.comp_apply]
  rw [show 0 + 1 + q = q + 1 by omega]
theorem step_facts {vs : List Dm} {ax : Int} {x : Ar} (h : x ∈ arX vs ax) : knS vs.length (stS x) = true ∧ (dAt vs (stS x).i.toNat).x = ax ∧ enF vs (stS x) = kAt (nmG vs ax) x.a ∧ enT vs (stS x) = kAt (nmG vs ax) x.b ∧ enA vs (stS x) = x.w := by
  obtain ⟨i, hi, e⟩ := arX_mem.1 h
  rcases e with rfl | rfl
  · exact ⟨knS_iff.2 ⟨Int.natCast_nonneg _, by show (i : Int) < _; have := hi.1; omega⟩, hi.2, (pF_name hi).symm, (pT_name hi).symm, rfl⟩
  · exact ⟨knS_iff.2 ⟨Int.natCast_nonneg _, by show (i : Int) < _; have := hi.1; omega⟩, hi.2, (pT_name hi).symm, (pF_name hi).symm, rfl⟩
theorem loop_ok {vs : List Dm} {ax : Int} {s : Bf} {v m : Nat} {ls : List Sp} (h : Lp (arX vs ax) (nmG vs ax).length s v m) (hl : ls.length = m) (hat : ∀ j, j < m → pAt ls j = stS (s.y (s.bk (m - 1 - j) v))) :
    ∀ d k S, k + d = m → loopE (vfF vs ax ls) d k S = .inl (S + s.sm d v)
  | 0, k, S, _ => by rw [loopE, Bf.sm, Int.add_zero]
  | d + 1, k, S, hk => by
    have hbF : ∀ j, j < m → enF vs (pAt ls j) = kAt (nmG vs ax) (s.bk (m - j) v) := fun j hj => by
      rw [hat j hj, (step_facts (h.ptr (m - 1 - j)).2.1).2.2.1, show m - j = (m - 1 - j) + 1 by omega, Bf.bk_succ]; rfl
    have hbT : ∀ j, j < m → enT vs (pAt ls j) = kAt (nmG vs ax) (s.bk (m - 1 - j) v) := fun j hj => by
      rw [hat j hj, (step_facts (h.ptr (m - 1 - j)).2.1).2.2.2.1, (h.ptr (m - 1 - j)).2.2]
    have hkm : k < m := by omega
    obtain ⟨f1, f2, _, _, f5⟩ := step_facts (h.ptr (m - 1 - k)).2.1
    rw [← hat k hkm] at f1 f2 f5
    have hbf : ∃ j, j < m ∧ bfr ls k = pAt ls j ∧ s.bk (m - 1 - j) v = s.bk (m - k) v := by
      by_cases e : k = 0
      · subst e
        refine ⟨m - 1, by omega, by unfold bfr; rw [if_pos rfl, hl], ?_⟩
        rw [show m - 1 - (m - 1) = 0 by omega, Nat.sub_zero, h.back]; rfl
      · exact ⟨k - 1, by omega, by unfold bfr; rw [if_neg e], by rw [show m - 1 - (k - 1) = m - k by omega]⟩
    obtain ⟨j, hj, hb1, hb2⟩ := hbf
    have g1 := (step_facts (h.ptr (m - 1 - j)).2.1).1
    rw [← hat j hj] at g1
    have hF : vfF vs ax ls k S = .inl (S + enA vs (pAt ls k)) := by
      unfold vfF
      rw [if_pos f1, if_neg (by rw [f2]; simp), hb1, if_pos g1, if_pos (sameD_iff.2 (by rw [hbT j hj, hbF k hkm, hb2])), if_neg]
      intro hs
      obtain ⟨q, hq, he⟩ := (snF_iff vs ls _ k).1 hs
      have he2 := sameD_iff.1 he
      rw [hbF q (by omega), hbF k hkm] at he2
      have he3 : s.bk (m - q) v = s.bk (m - k) v := by
        have h1 := congrArg (pos (nmG vs ax)) he2
        rw [pos_kAt (nmG_nodup vs ax) (h.ptr _).1, pos_kAt (nmG_nodup vs ax) (h.ptr _).1] at h1
        exact h1
      have h2 : s.bk (m - k + q) v = v := by
        rw [Bf.bk_add, ← he3, ← Bf.bk_add, show m - q + q = m by omega]; exact h.back
      exact h.first (m - k + q) (by omega) (by omega) h2
    rw [loopE, hF]
    show loopE (vfF vs ax ls) d (k + 1) (S + enA vs (pAt ls k)) = _
    rw [loop_ok h hl hat d (k + 1) _ (by omega), f5, Bf.sm_add s d 1 v, show m - 1 - k = d by omega]
    congr 1
    have e : s.sm 1 (s.bk d v) = (s.y (s.bk d v)).w := by rw [Bf.sm, Bf.sm, Int.add_zero]
    rw [e]; omega
theorem cfL_verifies {vs : List Dm} {ax : Int} (hg : giE vs ax = 0) (hn : (nmG vs ax).length ≤ 12) (hE : cfE vs ax = false) : vfE vs ax (cfL vs ax) = 0 ∧ (cfL vs ax).length ≤ 12 := by
  have hA := arX_within vs ax
  have hL := arX_loose (giE_all hg).2 ax
  obtain ⟨n, hn'⟩ : ∃ n, (nmG vs ax).length = n := ⟨_, rfl⟩
  have hlen : (List.replicate n true).length = n := by simp
  have hR : cfR vs ax = Bf.run (arX vs ax) (n + 1) (Bf.begin (List.replicate n true)) := by
    unfold cfR rxR; rw [hn', hlen]
  have hE' : (Bf.run (arX vs ax) (n + 1) (Bf.begin (List.replicate n true))).2 = false := by rw [← hR]; exact hE
  have hok : (Bf.begin (List.replicate n true)).Ok n := by
    have := Bf.begin_ok (List.replicate n true)
    rw [hlen] at this; exact this
  rw [hn'] at hA
  obtain ⟨v0, hv, _, m, hLp⟩ := Bf.loops hA hok hE'
  have hD : Dq (arX vs ax) n (Bf.run (arX vs ax) (n + 1) (Bf.begin (List.replicate n true))).1 :=
    Dq.run hA hL (n + 1) _ (Dq.start hok fun v _ hy => by
      rw [Bf.begin_y] at hy ⊢
      exact absurd rfl (hL _ hy))
  rw [← hR] at hLp hD hv
  have hV : lpV (cfR vs ax).1 n = (cfR vs ax).1.bk n v0 := by unfold lpV; rw [hv, Int.toNat_natCast]
  rw [← hV] at hLp
  have hls : cfL vs ax = ((List.range m).map fun q => stS ((cfR vs ax).1.y ((cfR vs ax).1.bk q (lpV (cfR vs ax).1 n)))).reverse := by
    unfold cfL; rw [hn']; exact lpL_list hLp
  have hll : (cfL vs ax).length = m := by rw [hls]; simp
  have hmn := hLp.len
  have hm0 := hLp.pos
  have hat : ∀ j, j < m → pAt (cfL vs ax) j = stS ((cfR vs ax).1.y ((cfR vs ax).1.bk (m - 1 - j) (lpV (cfR vs ax).1 n))) := fun j hj => by
    rw [pAt_lt (by rw [hll]; exact hj)]
    simp only [hls, List.getElem_reverse, List.getElem_map, List.getElem_range, List.length_map, List.length_range]
  have hs := hLp.neg hD
  rw [← hn'] at hLp
  have hloop := loop_ok (by rw [hn'] at hLp ⊢; exact hLp) hll hat m 0 0 (by omega)
  refine ⟨?_, by omega⟩
  unfold vfE
  rw [if_pos hg, hll, if_neg (by omega), if_neg (by omega), hloop, vfR, Int.zero_add, if_neg (by omega)]
end Go.Proofs.Ytlgjhjgdmomfoaa
namespace Go.Proofs.Ytlgjhjgdmomfoaa
open Go.RowKit Go.Maps

def raA (vs : List Dm) : Nat → List ByteArray
  | 0 => []
  | k + 1 => raA vs k ++ [(dAt vs k).f, (dAt vs k).t]
open Classical in
theorem anN_srt (vs : List Dm) : ∀ k, SrtIs (anN vs k) (fun s => decide (s ∈ raA vs k))
  | 0 => ⟨List.Pairwise.nil, fun s => by simp [anN, raA]⟩
  | k + 1 => by
    have ih := anN_srt vs k
    rw [anN]
    have e : raA vs (k + 1) = raA vs k ++ [(dAt vs k).f, (dAt vs k).t] := rfl
    refine (ih.put (dAt vs k).f (Q' := fun s => decide (s ∈ raA vs k ++ [(dAt vs k).f])) fun t => ?_).put (dAt vs k).t fun t => ?_
    · rw [Bool.eq_iff_iff, Bool.or_eq_true, sameB_iff]; simp; exact or_congr Iff.rfl eq_comm
    · rw [Bool.eq_iff_iff, Bool.or_eq_true, sameB_iff, e]; simp; rw [or_assoc]; exact or_congr Iff.rfl (or_congr Iff.rfl eq_comm)
theorem raA_mem (vs : List Dm) {i : Nat} : ∀ k, i < k → (dAt vs i).f ∈ raA vs k ∧ (dAt vs i).t ∈ raA vs k
  | 0, h => absurd h (Nat.not_lt_zero _)
  | k + 1, h => by
    rw [raA]
    by_cases e : i = k
    · subst e; simp
    · have := raA_mem vs k (i := i) (by omega)
      exact ⟨List.mem_append.2 (.inl this.1), List.mem_append.2 (.inl this.2)⟩
theorem nodup_le {α : Type} [DecidableEq α] : ∀ (ks M : List α), ks.Nodup → (∀ x ∈ ks, x ∈ M) → ks.length ≤ M.length
  | [], _, _, _ => Nat.zero_le _
  | k :: ks, M, hn, hs => by
    have h1 := List.nodup_cons.1 hn
    have hk : k ∈ M := hs k (by simp)
    have h2 := nodup_le ks (M.erase k) h1.2 (fun x hx => (List.mem_erase_of_ne (by rintro rfl; exact h1.1 hx)).2 (hs x (by simp [hx])))
    rw [List.length_erase_of_mem hk] at h2
    have := List.length_pos_of_mem hk
    rw [List.length_cons]; omega
theorem giE_zero {vs : List Dm} {ax : Int} (h : giE vs ax = 0) : giE vs 0 = 0 := by
  unfold giE at h ⊢
  by_cases e : 256 < vs.length
  · rw [if_pos e] at h; omega
  · rw [if_neg e] at h ⊢
    cases hq : loopE (giF vs) vs.length 0 () with
    | inl u => rfl
    | inr r => rw [hq] at h; exact h
theorem fw_names {vs : List Dm} {ax : Int} (hf : fw22 vs = true) (h : giE vs ax = 0) : vs.length ≤ 8 ∧ (nmG vs ax).length ≤ 6 := by
  classical
  unfold fw22 at hf
  have h0 := giE_zero h
  by_cases e : fw17 vs = true
  · rw [if_pos e, if_pos h0, Bool.and_eq_true, decide_eq_true_iff, decide_eq_true_iff] at hf
    refine ⟨hf.1, Nat.le_trans (nodup_le _ _ (nmG_nodup vs ax) fun s hs => ?_) hf.2⟩
    obtain ⟨i, h1, _, h3⟩ := (rawN_mem vs ax _ _).1 ((sortU_mem _ _).1 hs)
    have hm := raA_mem vs vs.length h1
    have h4 := (anN_srt vs vs.length).mem s
    have h5 : s ∈ raA vs vs.length := by
      rcases h3 with rfl | rfl
      · exact hm.1
      · exact hm.2
    simp [h5] at h4
    exact h4
  · rw [if_neg e] at hf; cases hf
end Go.Proofs.Ytlgjhjgdmomfoaa
namespace Go.Proofs.Ytlgjhjgdmomfoaa
open Go.RowKit Go.Maps

theorem Try.infoRP : (Try.prog.info? 57).map (fun i => (i.zero, i.size, i.bytes)) = some (some (.agg #[.string ⟨#[]⟩, .int .i64 0]), 2, 24) := by kernel_rfl
theorem poC_append (a b : List Ps) : poC (a ++ b) = poC a ++ poC b := by unfold poC; rw [List.flatMap_append]
theorem poC_one (xs : List Ps) : ∀ u ∈ poC xs, u.oneCell' = true := by
  intro u hu
  obtain ⟨x, _, hx⟩ := List.mem_flatMap.1 hu
  simp [Ps.cells] at hx
  rcases hx with rfl | rfl <;> rfl
set_option maxRecDepth 100000 in
set_option maxHeartbeats 8000000 in
theorem rplaced_any (ao : Option Addr) (vs : List Dm) (c : Nat) (ax : Int) (w : World) (R : Ending → World → Prop) (hl : vs.length ≤ 256) (hva : ∀ j, j < vs.length → vaE (dAt vs j) = 0) (hc : CellsAt w ao (dC vs))
   (hR : ∀ a c' w', Below w.heap.size w w' → CellsAt w' a (poC (plX vs ax (nmG vs ax).length)) → R (.returned (.slice a (nmG vs ax).length c')) w') :
    Calls Try.prog 23 #[.slice ao vs.length c, .int .i64 ax] w R := by
  have HR := Lib.hid hR
  have HC := Lib.hid hc
  have HVA := Lib.hid hva
  clear hR hc hva
  have hNl := nmG_len (ax := ax) hl
  go_enter Try.func23, Try.ntmps23
  go_wp2_with fail
  refine rall_any ao vs c ax _ _ (by omega) HC.out ?_
  rw [alN_eq]
  intro aN nN cN w1 hb hn hN
  subst hn
  have HB1 := Lib.hid hb
  have HN := Lib.hid hN
  have s1 := hb.size
  obtain ⟨N, hNN⟩ : ∃ N, (nmG vs ax).length = N := ⟨_, rfl⟩
  rw [hNN] at HR hNl ⊢
  have HNN := Lib.hid hNN
  clear hb hN hNN
  go_wp2_with fail
  go_loopw [7, 6] (fun j v wr => ∃ (k : Nat), k ≤ N ∧ j = .int .i64 k ∧ Hid (Below w1.heap.size w1 wr) ∧ Hid (wr.ownsRow w1.heap.size 57 2 v k (poC (plX vs ax k)))) (fun j _ _ => N - (intOf j).toNat)
  case atStart => exact ⟨0, Nat.zero_le _, rfl, Below.refl _ _, World.ownsRow_nil _ _ _ _⟩
  case round =>
    obtain ⟨k, hk, rfl, HB2, HO⟩ := hrel
    have HB := Lib.hid (HB1.out.trans (HB2.out.mono s1))
    have sB2 := HB2.out.size
    have sB := HB.out.size
    by_cases hlt : k < N
    · have hk' : k < (nmG vs ax).length := by rw [HNN.out]; exact hlt
      obtain ⟨bn, on, rfl, hbn, _⟩ := HN.out (by rw [sC_length]; omega)
      have n0 := HN.out.get rfl (sC_get hk')
      have n1 := cellB HB2.out n0 hbn
      have hst : Hid (plX vs ax (k + 1) = plX vs ax k ++ [⟨kAt (nmG vs ax) k, waV vs ax (kAt (rcA vs ax (kAt (nmG vs ax) k)) 0) (kAt (nmG vs ax) k)⟩]) := rfl
      have hpos := rcA_pos vs ax (kAt (nmG vs ax) k)
      obtain ⟨nm, hnm⟩ : ∃ nm, kAt (nmG vs ax) k = nm := ⟨_, rfl⟩
      obtain ⟨is, his⟩ : ∃ is, plX vs ax k = is := ⟨_, rfl⟩
      rw [hnm] at n0 n1 hst hpos
      rw [his] at hst HO
      have hbr : bn < wr.heap.size := Nat.lt_of_lt_of_le hbn HB2.out.size
      clear hnm his
      go_wp2_with fail
      refine reached_any ao vs c ax nm _ _ hl (HC.out.below HB.out) ?_
      intro a2 n2 c2 w2 hb hn2 ho2
      have hG := own_cells ho2
      obtain ⟨b2, o2, rfl, hb2, _⟩ := hG (by rw [sC_length]; omega)
      have f0 := hG.get rfl (sC_get hpos)
      rw [Nat.add_zero] at f0
      obtain ⟨fst, hfst⟩ : ∃ fst, kAt (rcA vs ax nm) 0 = fst := ⟨_, rfl⟩
      rw [hfst] at f0 hst
      have W2 := Lib.hid (HB.out.trans (hb.mono sB))
      have V2 := Lib.hid (HB2.out.trans (hb.mono HB2.out.size))
      have O2 := Lib.hid (ownsRow_below HO.out hb)
      have n2' := cellB hb n1 hbr
      have hn2p : 0 < n2 := by omega
      have hbr2 := Nat.lt_of_lt_of_le hbr hb.size
      clear hb hn2 ho2 hG hfst n1 n0 hpos
      go_wp2_with fail
      have sW2 := W2.out.size
      have HBB : Hid (Below w2.heap.size w2 w2.drew) := (Below.refl _ _).drew
      have bd := waV_bd (ax := ax) (s := fst) (t := nm) hl HVA.out
      obtain ⟨x, hx⟩ : ∃ x, waV vs ax fst nm = x := ⟨_, rfl⟩
      rw [hx] at hst
      have Hx := Lib.hid hx
      clear hx bd
      refine regionQ (fun w' => w'.cell? ⟨bn, on + k, none⟩ = some (.string nm)) (by kernel_rfl) (n2') (fun Qn hPQ hQn hS0 => ?_)
      refine takeQ (i := 0) (d := some 27) (v := ?_) rfl rfl (by kernel_rfl) (by kernel_rfl) (by kernel_rfl) hPQ hS0 (by kernel_rfl) ?_ ?_
      rotate_left
      · (intro w hSw; (try dsimp only at hSw); go_simp; (try with_reducible rfl))
      (try simp only [Act.put, List.setIfInBounds_toArray, List.set_cons_zero, List.set_cons_succ])
      refine takeQ (i := 1) (d := some 28) (v := ?_) rfl rfl (by kernel_rfl) (by kernel_rfl) (by kernel_rfl) hPQ hS0 (by kernel_rfl) ?_ ?_
      rotate_left
      · (intro w hSw; (try dsimp only at hSw); go_simp; (try with_reducible rfl))
      (try simp only [Act.put, List.setIfInBounds_toArray, List.set_cons_zero, List.set_cons_succ])
      refine takeQ (i := 2) (d := some 29) (v := ?_) rfl rfl (by kernel_rfl) (by kernel_rfl) (by kernel_rfl) hPQ hS0 (by kernel_rfl) ?_ ?_
      rotate_left
      · (intro w hSw; (try dsimp only at hSw); go_simp; (try with_reducible rfl))
      (try simp only [Act.put, List.setIfInBounds_toArray, List.set_cons_zero, List.set_cons_succ])
      refine takeQ (i := 3) (d := some 30) (v := ?_) rfl rfl (by kernel_rfl) (by kernel_rfl) (by kernel_rfl) hPQ hS0 (by kernel_rfl) ?_ ?_
      rotate_left
      · (intro w hSw; (try dsimp only at hSw); go_simp; (try with_reducible rfl))
      (try simp only [Act.put, List.setIfInBounds_toArray, List.set_cons_zero, List.set_cons_succ])
      refine takeQ (i := 4) (d := some 31) (v := ?_) rfl rfl (by kernel_rfl) (by kernel_rfl) (by kernel_rfl) hPQ hS0 (by kernel_rfl) ?_ ?_
      rotate_left
      · (intro w hSw; (try dsimp only at hSw); go_simp; (try with_reducible rfl))
      (try simp only [Act.put, List.setIfInBounds_toArray, List.set_cons_zero, List.set_cons_succ])
      refine takeQ (i := 5) (d := some 32) (v := ?_) rfl rfl (by kernel_rfl) (by kernel_rfl) (by kernel_rfl) hPQ hS0 (by kernel_rfl) ?_ ?_
      rotate_left
      · (intro w hSw; (try dsimp only at hSw); go_simp; (try with_reducible rfl))
      (try simp only [Act.put, List.setIfInBounds_toArray, List.set_cons_zero, List.set_cons_succ])
      refine takeQ (i := 6) (d := some 33) (v := ?_) rfl rfl (by kernel_rfl) (by kernel_rfl) (by kernel_rfl) hPQ hS0 (by kernel_rfl) ?_ ?_
      rotate_left
      · (intro w hSw; (try dsimp only at hSw); go_simp; (try with_reducible rfl))
      (try simp only [Act.put, List.setIfInBounds_toArray, List.set_cons_zero, List.set_cons_succ])
      refine takeQ (i := 7) (d := some 34) (v := ?_) rfl rfl (by kernel_rfl) (by kernel_rfl) (by kernel_rfl) hPQ hS0 (by kernel_rfl) ?_ ?_
      rotate_left
      · (intro w hSw; (try dsimp only at hSw); go_simp; (try with_reducible rfl))
      (try simp only [Act.put, List.setIfInBounds_toArray, List.set_cons_zero, List.set_cons_succ])
      refine takeQ (i := 8) (d := some 35) (v := ?_) rfl rfl (by kernel_rfl) (by kernel_rfl) (by kernel_rfl) hPQ hS0 (by kernel_rfl) ?_ ?_
      rotate_left
      · (intro w hSw; (try dsimp only at hSw); go_simp; (try with_reducible rfl))
      (try simp only [Act.put, List.setIfInBounds_toArray, List.set_cons_zero, List.set_cons_succ])
      refine takeQ (i := 9) (d := some 36) (v := ?_) rfl rfl (by kernel_rfl) (by kernel_rfl) (by kernel_rfl) hPQ hS0 (by kernel_rfl) ?_ ?_
      rotate_left
      · (intro w hSw; (try dsimp only at hSw); go_simp; (try with_reducible rfl))
      (try simp only [Act.put, List.setIfInBounds_toArray, List.set_cons_zero, List.set_cons_succ])
      refine takeQ (i := 10) (d := some 37) (v := ?_) rfl rfl (by kernel_rfl) (by kernel_rfl) (by kernel_rfl) hPQ hS0 (by kernel_rfl) ?_ ?_
      rotate_left
      · (intro w hSw; (try dsimp only at hSw); go_simp; (try with_reducible rfl))
      (try simp only [Act.put, List.setIfInBounds_toArray, List.set_cons_zero, List.set_cons_succ])
      refine takeQ (i := 11) (d := some 38) (v := ?_) rfl rfl (by kernel_rfl) (by kernel_rfl) (by kernel_rfl) hPQ hS0 (by kernel_rfl) ?_ ?_
      rotate_left
      · (intro w hSw; (try dsimp only at hSw); go_simp; (try with_reducible rfl))
      (try simp only [Act.put, List.setIfInBounds_toArray, List.set_cons_zero, List.set_cons_succ])
      refine wpAnyH_ready (rs := [12]) (by kernel_rfl) (by simp) ?_
      refine AllReadyH.cons (o := _) rfl (fun K hK => ?_) AllReadyH.nil
      go_simp
      refine way_any ao vs _ c ax fst nm _ _ rfl hl (HC.out.below (W2.out.trans (HBB.out.mono sW2))) HVA.out ?_
      rw [Hx.out]
      intro w3 hb
      have B3 := Lib.hid (HBB.out.trans (hb.mono HBB.out.size))
      have r0 := cellB B3.out n2' hbr2
      have z3 := B3.out.size
      clear hb
      refine hK.out _ _ (r0) (fun hS1 => ?_)
      clear hK K hS0
      (try simp only [Act.put, List.setIfInBounds_toArray, List.set_cons_zero, List.set_cons_succ])
      refine takeQ (i := 13) (d := some 40) (v := ?_) rfl rfl (by kernel_rfl) (by kernel_rfl) (by kernel_rfl) hPQ hS1 (by kernel_rfl) ?_ ?_
      rotate_left
      · (intro w hSw; (try dsimp only at hSw); go_simp; (try with_reducible rfl))
      (try simp only [Act.put, List.setIfInBounds_toArray, List.set_cons_zero, List.set_cons_succ])
      refine wpAnyH_ready (rs := [14]) (by kernel_rfl) (by simp) ?_
      refine AllReadyH.cons (o := _) rfl (fun K hK => ?_) AllReadyH.nil
      go_simp
      have O4 : Hid ((w3.alloc (.cells #[.string nm, .int .i64 x] 57)).ownsRow w1.heap.size 57 2 u6 k (poC is)) := ownsRow_below (ownsRow_below O2.out B3.out) ((Below.refl _ _).alloc (Nat.le_refl _) _)
      have B4 : Hid (Below w2.heap.size w2 (w3.alloc (.cells #[.string nm, .int .i64 x] 57))) := B3.out.alloc z3 _
      have C4 := Lib.hid (lit_cells w3 #[.string nm, .int .i64 x] 57 (poC [⟨nm, x⟩]) rfl)
      have r0 := cellB B4.out n2' hbr2
      have z4 : w3.heap.size < (w3.alloc (.cells #[.string nm, .int .i64 x] 57)).heap.size := by simp
      obtain ⟨w4, hw4⟩ : ∃ w4, w3.alloc (.cells #[.string nm, .int .i64 x] 57) = w4 := ⟨_, rfl⟩
      rw [hw4] at O4 B4 C4 r0 z4 ⊢
      clear hw4
      refine hK.out _ _ (r0) (fun hS2 => ?_)
      clear hK K hS1
      (try simp only [Act.put, List.setIfInBounds_toArray, List.set_cons_zero, List.set_cons_succ])
      refine wpAnyH_ready (rs := [15]) (by kernel_rfl) (by simp) ?_
      refine AllReadyH.cons (o := _) rfl (fun K hK => ?_) AllReadyH.nil
      refine step_appendN rfl (.tmp 27) (.tmp 41) 54 (by rfl) w1.heap.size 57 Try.underlying54 Try.infoRP rfl (by decide) u6 k (poC is) (by rfl) O4.out (some ⟨w3.heap.size, 0, none⟩) 1 1 (poC [⟨nm, x⟩]) (by rfl) rfl C4.out (poC_one _) (by omega) (by omega) (by have := V2.out.size; omega) ?_
      intro v5 w5 hown hb
      have O5 := Lib.hid hown
      have B5q := Lib.hid hb
      clear hown hb
      refine hK.out _ _ (cellB B5q.out r0 hbn) (fun hS3 => ?_)
      clear hK K hS2
      (try simp only [Act.put, List.setIfInBounds_toArray])
      refine takeQ (i := 16) (d := some 6) (v := ?_) rfl rfl (by kernel_rfl) (by kernel_rfl) (by kernel_rfl) hPQ hS3 (by kernel_rfl) ?_ ?_
      rotate_left
      · (intro w hSw; (try dsimp only at hSw); go_simp; (try with_reducible rfl))
      (try simp only [Act.put])
      refine wpAnyH_done (by kernel_rfl) (hQn.out _ _ ?_) _
      clear hS3 hPQ hQn Qn
      go_wp2_with fail
      refine ⟨⟨k + 1, by omega, by go_num, (V2.out.trans (B4.out.mono V2.out.size)).trans B5q.out, ?_⟩, by simp [intOf]; omega⟩
      rw [hst.out, poC_append]; exact O5.out
    · obtain rfl : k = N := by omega
      obtain ⟨a9, c9, rfl, h9, _⟩ := ownsRow_read HO.out
      have H9 := Lib.hid h9
      clear h9
      go_wp2_with fail
      exact HR.out a9 c9 wr HB.out H9.out
theorem neqRP (n : ByteArray) (a : Int) (w : World) : (binOp .neq 57 (.agg #[.string n, .int .i64 a]) (.agg #[.string n, .int .i64 a])).run Try.prog w = .ok (.bool false) w := by
  have hs1 : (n.toList == n.toList) = true := by simp
  have hs2 : (a == a) = true := by simp
  go_simp
set_option maxRecDepth 100000 in
set_option maxHeartbeats 2000000 in
theorem equalRP_same (ao ao2 : Option Addr) (xs : List Ps) (n c c2 : Nat) (w : World) (R : Ending → World → Prop) (hn : xs.length = n) (hn' : n ≤ 1000000) (hc : CellsAt w ao (poC xs)) (hc2 : CellsAt w ao2 (poC xs))
   (hR : ∀ w', Drew w w' → R (.returned (.bool true)) w') :
    Calls Try.prog 22 #[.slice ao n c, .slice ao2 n c2] w R := by
  subst hn
  have HR := Lib.hid hR
  have HC := Lib.hid hc
  have HC2 := Lib.hid hc2
  clear hR hc hc2
  have hnq := neqRP
  go_enter Try.func22, Try.ntmps22
  go_wp2_with fail
  go_loopw [13] (fun j wr => ∃ k : Nat, k ≤ xs.length ∧ j = .int .i64 k ∧ Drew w wr) (fun j _ => xs.length - (intOf j).toNat)
  case atStart => exact ⟨0, Nat.zero_le _, rfl, Drew.refl _⟩
  case round =>
    obtain ⟨k, hk, rfl, ⟨q, rfl⟩⟩ := hrel
    by_cases hlt : k < xs.length
    · obtain ⟨b, o, rfl, _, hcell⟩ := HC.out.poss (by omega)
      obtain ⟨d0, d1⟩ := hcell k hlt
      clear hcell
      obtain ⟨b2, o2, rfl, _, hcell⟩ := HC2.out.poss (by omega)
      obtain ⟨d2, d3⟩ := hcell k hlt
      obtain ⟨u, hu⟩ : ∃ u, psAt xs k = u := ⟨_, rfl⟩
      rw [hu] at d0 d1 d2 d3
      clear hcell hu
      go_wp2_with fail
      go_quiet (fail)
      go_wp2_with fail
      exact ⟨⟨k + 1, by omega, by go_num, (by repeat first | exact Drew.refl _ | apply Drew.drewN)⟩, by simp [intOf]; omega⟩
    · go_wp2_with fail
      exact HR.out _ (by repeat first | exact Drew.refl _ | apply Drew.drewN)
end Go.Proofs.Ytlgjhjgdmomfoaa
namespace Go.Proofs.Ytlgjhjgdmomfoaa
open Go.RowKit Go.Maps

theorem take_succP {xs : List Ps} {k : Nat} (h : k < xs.length) : xs.take (k + 1) = xs.take k ++ [psAt xs k] := by
  rw [List.take_succ_eq_append_getElem h]
  unfold psAt
  rw [List.getD_eq_getElem?_getD, List.getElem?_eq_getElem h]; rfl
theorem soX_len (vs : List Dm) (ax : Int) : (soX vs ax).length = (nmG vs ax).length := by simp [soX]
set_option maxRecDepth 100000 in
set_option maxHeartbeats 8000000 in
theorem lawSolves_any (ao : Option Addr) (vs : List Dm) (c : Nat) (ax : Int) (w : World) (R : Ending → World → Prop) (hl : vs.length ≤ 9223372036854775807) (hc : CellsAt w ao (dC vs)) (hv : DmsOk vs)
   (hR : ∀ w', Below w.heap.size w w' → R (.returned (.bool true)) w') :
    Calls Try.prog 5 #[.slice ao vs.length c, .int .i64 ax] w R := by
  have HR := Lib.hid hR
  have D := Lib.hid hc
  have HV := Lib.hid hv
  clear hR hc hv
  obtain ⟨F, hF⟩ : ∃ F, Hid (fw22 vs = F) := ⟨_, rfl⟩
  have U0 : Hid (Below w.heap.size w w) := Below.refl _ _
  go_enter Try.func5, Try.ntmps5
  go_wp2_with fail
  refine rfew22_any ao vs c _ _ hl D.out HV.out ?_
  rw [hF.out]
  intro w1 hb
  have U1 := Lib.hid (U0.out.trans (hb.mono U0.out.size))
  have D := Lib.hid (D.out.below hb)
  clear hb
  cases F with
  | false =>
    go_wp2_with fail
    refine awake22_any _ _ ?_
    intro w2 hb
    have U2 := Lib.hid (U1.out.trans (hb.mono U1.out.size))
    clear hb
    go_wp2_with fail
    exact HR.out _ U2.out
  | true =>
    go_wp2_with fail
    refine solve_any ao vs c ax _ _ hl D.out HV.out ?_ ?_ ?_
    · intro hE w2 hb
      have U2 := Lib.hid (U1.out.trans (hb.mono U1.out.size))
      have D := Lib.hid (D.out.below hb)
      clear hb
      obtain ⟨E, hE2⟩ : ∃ E, giE vs ax = E := ⟨_, rfl⟩
      rw [hE2] at hE ⊢
      have HE := Lib.hid hE2
      have K : (E != 0) = true := by simpa using hE
      have K2 : (E == E) = true := by simp
      clear hE hE2
      go_wp2_with fail
      refine rgiven_any ao vs c ax _ _ hl D.out HV.out ?_
      rw [HE.out]
      intro w3 hb
      have U3 := Lib.hid (U2.out.trans (hb.mono U2.out.size))
      have D := Lib.hid (D.out.below hb)
      clear hb
      go_wp2_with fail
      refine awake22_any _ _ ?_
      intro w4 hb
      have U4 := Lib.hid (U3.out.trans (hb.mono U3.out.size))
      have D := Lib.hid (D.out.below hb)
      clear hb
      go_wp2_with fail
      exact HR.out _ U4.out
    · intro hg hcf v w2 hb ho
      have hnn := fw_names hF.out hg
      obtain ⟨hvf, hl12⟩ := cfL_verifies hg (by omega) hcf
      have hl2 := giE_len hg
      have HVA := Lib.hid (giE_all hg).2
      obtain ⟨ls, hls⟩ : ∃ ls, cfL vs ax = ls := ⟨_, rfl⟩
      rw [hls] at ho hvf hl12
      obtain ⟨al, cs, rfl, hs, _⟩ := ownsRow_read ho
      have S2 := Lib.hid hs
      have Hvf := Lib.hid hvf
      have HG := Lib.hid hg
      have Hcf := Lib.hid hcf
      have U2 := Lib.hid (U1.out.trans (hb.mono U1.out.size))
      have D := Lib.hid (D.out.below hb)
      clear hb
      clear ho hs hvf hg hcf hls hnn
      go_wp2_with fail
      refine rgiven_any ao vs c ax _ _ hl D.out HV.out ?_
      rw [HG.out]
      intro w3 hb
      have U3 := Lib.hid (U2.out.trans (hb.mono U2.out.size))
      have D := Lib.hid (D.out.below hb)
      have S2 := Lib.hid (S2.out.below hb)
      clear hb
      go_wp2_with fail
      refine rpossible_any ao vs c ax _ _ hl2 D.out HVA.out ?_
      rw [Hcf.out]
      intro w4 hb
      have U4 := Lib.hid (U3.out.trans (hb.mono U3.out.size))
      have D := Lib.hid (D.out.below hb)
      have S2 := Lib.hid (S2.out.below hb)
      clear hb
      go_wp2_with fail
      have s4 := U4.out.size
      go_loopw [89, 13] (fun j v wr => ∃ (k : Nat), k ≤ ls.length ∧ j = .int .i64 k ∧ Hid (Below w4.heap.size w4 wr) ∧ Hid (wr.ownsRow w4.heap.size 29 2 v k (pC (ls.take k)))) (fun j _ _ => ls.length - (intOf j).toNat)
      case atStart => exact ⟨0, Nat.zero_le _, rfl, Below.refl _ _, World.ownsRow_nil _ _ _ _⟩
      case round =>
        obtain ⟨k, hk, rfl, HB, HO⟩ := hrel
        have sB := HB.out.size
        by_cases hlt : k < ls.length
        · obtain ⟨b, o, rfl, hbb, hcell⟩ := S2.out.sps (by omega)
          obtain ⟨c0, c1⟩ := hcell k hlt
          have d0 := cellB HB.out c0 hbb
          have d1 := cellB HB.out c1 hbb
          have htk := take_succS hlt
          obtain ⟨u, hu⟩ : ∃ u, pAt ls k = u := ⟨_, rfl⟩
          obtain ⟨is, his⟩ : ∃ is, ls.take k = is := ⟨_, rfl⟩
          rw [hu] at d0 d1 htk
          rw [his] at HO htk
          have Htk := Lib.hid htk
          have hba : Below wr.heap.size wr (wr.alloc (.cells #[.int .i64 u.i, .bool u.b] 28)) := (Below.refl _ _).alloc (Nat.le_refl _) _
          have HOa := Lib.hid (ownsRow_below HO.out hba)
          have HBa := Lib.hid (HB.out.trans (hba.mono sB))
          clear hcell hu his htk c0 c1 hba
          go_wp2_with (at_builtin; refine wp_appendF rfl (.tmp 93) (.tmp 95) 26 rfl w4.heap.size 29 Try.underlying26 Try.infoRS rfl (by decide) u13 k (pC is) rfl (ownsRow_below HOa.out ((Below.refl _ _).alloc (Nat.le_refl _) _)) ⟨wr.heap.size + 1, 0, none⟩ 1 1 (pC [u]) rfl rfl (by have h := lit_cells (wr.alloc (.cells #[.int .i64 u.i, .bool u.b] 28)) #[.int .i64 u.i, .bool u.b] 29 (pC [u]) rfl; simpa using h) (pC_one _) (by omega) (by omega) (by simp; omega) ?_; intro v5 w5 hown hb5; have O5 := Lib.hid hown; have B5 := Lib.hid ((HBa.out.alloc (by simp; omega) _).trans hb5); clear hown hb5)
          refine ⟨⟨k + 1, by omega, by go_num, B5, ?_⟩, by simp [intOf]; omega⟩
          rw [Htk.out, pC_append]; exact O5.out
        · obtain rfl : k = ls.length := by omega
          have hO := HO.out
          rw [List.take_length] at hO
          obtain ⟨a7, c7, rfl, hc7, _⟩ := ownsRow_read hO
          have C7 := Lib.hid hc7
          have hb := HB.out
          obtain ⟨w5, hw5⟩ : ∃ w5, wr = w5 := ⟨_, rfl⟩
          rw [hw5] at hb C7 ⊢
          clear hO hc7 HO HB hw5 sB
          have U5 := Lib.hid (U4.out.trans (hb.mono U4.out.size))
          have D := Lib.hid (D.out.below hb)
          clear hb
          go_wp2_with fail
          refine awake22_any _ _ ?_
          intro w6 hb
          have U6 := Lib.hid (U5.out.trans (hb.mono U5.out.size))
          have D := Lib.hid (D.out.below hb)
          have C7 := Lib.hid (C7.out.below hb)
          clear hb
          go_wp2_with fail
          refine rverify_any ao vs c ax a7 ls c7 _ _ hl (by omega) D.out HV.out C7.out ?_
          rw [Hvf.out]
          intro w7 hb
          have U7 := Lib.hid (U6.out.trans (hb.mono U6.out.size))
          have D := Lib.hid (D.out.below hb)
          have C7 := Lib.hid (C7.out.below hb)
          clear hb
          go_wp2_with fail
          exact HR.out _ U7.out
    · intro hg hcf g w2 hgb hb hblk
      have hl2 := giE_len hg
      have HVA := Lib.hid (giE_all hg).2
      have HG := Lib.hid hg
      have Hcf := Lib.hid hcf
      have hNl := nmG_len (ax := ax) hl2
      have hpl := plX_all hcf
      have hsl := soX_len vs ax
      have S2 : Hid (CellsAt w2 (some ⟨g, 0, none⟩) (poC (soX vs ax))) := hblk.cellsAt
      obtain ⟨xs, hxs⟩ : ∃ xs, soX vs ax = xs := ⟨_, rfl⟩
      rw [hxs] at S2 hpl hsl
      have Hpl := Lib.hid hpl
      rw [← hsl] at hNl
      obtain ⟨N, hN⟩ : ∃ N, (nmG vs ax).length = N := ⟨_, rfl⟩
      rw [hN] at hsl Hpl ⊢
      have HN := Lib.hid hN
      subst hsl
      have U2 := Lib.hid (U1.out.trans (hb.mono U1.out.size))
      have D := Lib.hid (D.out.below hb)
      clear hb
      clear hblk hg hcf hxs hpl hgb hN
      go_wp2_with fail
      refine rgiven_any ao vs c ax _ _ hl D.out HV.out ?_
      rw [HG.out]
      intro w3 hb
      have U3 := Lib.hid (U2.out.trans (hb.mono U2.out.size))
      have D := Lib.hid (D.out.below hb)
      have S2 := Lib.hid (S2.out.below hb)
      clear hb
      go_wp2_with fail
      refine rpossible_any ao vs c ax _ _ hl2 D.out HVA.out ?_
      rw [Hcf.out]
      intro w4 hb
      have U4 := Lib.hid (U3.out.trans (hb.mono U3.out.size))
      have D := Lib.hid (D.out.below hb)
      have S2 := Lib.hid (S2.out.below hb)
      clear hb
      go_wp2_with fail
      have s4 := U4.out.size
      go_loopw [65, 10] (fun j v wr => ∃ (k : Nat), k ≤ xs.length ∧ j = .int .i64 k ∧ Hid (Below w4.heap.size w4 wr) ∧ Hid (wr.ownsRow w4.heap.size 57 2 v k (poC (xs.take k)))) (fun j _ _ => xs.length - (intOf j).toNat)
      case atStart => exact ⟨0, Nat.zero_le _, rfl, Below.refl _ _, World.ownsRow_nil _ _ _ _⟩
      case round =>
        obtain ⟨k, hk, rfl, HB, HO⟩ := hrel
        have sB := HB.out.size
        by_cases hlt : k < xs.length
        · obtain ⟨b, o, e, hbb, hcell⟩ := S2.out.poss (by omega)
          cases e
          obtain ⟨c0, c1⟩ := hcell k hlt
          have d0 := cellB HB.out c0 hbb
          have d1 := cellB HB.out c1 hbb
          rw [Nat.zero_add] at d0 d1
          have htk := take_succP hlt
          obtain ⟨u, hu⟩ : ∃ u, psAt xs k = u := ⟨_, rfl⟩
          obtain ⟨is, his⟩ : ∃ is, xs.take k = is := ⟨_, rfl⟩
          rw [hu] at d0 d1 htk
          rw [his] at HO htk
          have Htk := Lib.hid htk
          have hba : Below wr.heap.size wr (wr.alloc (.cells #[.string u.n, .int .i64 u.a] 56)) := (Below.refl _ _).alloc (Nat.le_refl _) _
          have HOa := Lib.hid (ownsRow_below HO.out hba)
          have HBa := Lib.hid (HB.out.trans (hba.mono sB))
          clear hcell hu his htk c0 c1 hba
          go_wp2_with (at_builtin; refine wp_appendF rfl (.tmp 69) (.tmp 71) 54 rfl w4.heap.size 57 Try.underlying54 Try.infoRP rfl (by decide) u10 k (poC is) rfl (ownsRow_below HOa.out ((Below.refl _ _).alloc (Nat.le_refl _) _)) ⟨wr.heap.size + 1, 0, none⟩ 1 1 (poC [u]) rfl rfl (by have h := lit_cells (wr.alloc (.cells #[.string u.n, .int .i64 u.a] 56)) #[.string u.n, .int .i64 u.a] 57 (poC [u]) rfl; simpa using h) (poC_one _) (by omega) (by omega) (by simp; omega) ?_; intro v5 w5 hown hb5; have O5 := Lib.hid hown; have B5 := Lib.hid ((HBa.out.alloc (by simp; omega) _).trans hb5); clear hown hb5)
          refine ⟨⟨k + 1, by omega, by go_num, B5, ?_⟩, by simp [intOf]; omega⟩
          rw [Htk.out, poC_append]; exact O5.out
        · obtain rfl : k = xs.length := by omega
          have hO := HO.out
          rw [List.take_length] at hO
          obtain ⟨a7, c7, rfl, hc7, _⟩ := ownsRow_read hO
          have C7 := Lib.hid hc7
          have hb := HB.out
          obtain ⟨w5, hw5⟩ : ∃ w5, wr = w5 := ⟨_, rfl⟩
          rw [hw5] at hb C7 ⊢
          clear hO hc7 HO HB hw5 sB
          have U5 := Lib.hid (U4.out.trans (hb.mono U4.out.size))
          have D := Lib.hid (D.out.below hb)
          clear hb
          go_wp2_with fail
          refine awake22_any _ _ ?_
          intro w6 hb
          have U6 := Lib.hid (U5.out.trans (hb.mono U5.out.size))
          have D := Lib.hid (D.out.below hb)
          have C7 := Lib.hid (C7.out.below hb)
          clear hb
          go_wp2_with fail
          refine rplaced_any ao vs c ax _ _ hl2 HVA.out D.out ?_
          rw [HN.out, Hpl.out]
          intro a8 c8 w7 hb hP
          have U7 := Lib.hid (U6.out.trans (hb.mono U6.out.size))
          have C7 := Lib.hid (C7.out.below hb)
          have P8 := Lib.hid hP
          clear hb hP
          go_wp2_with fail
          refine equalRP_same a7 a8 xs _ c7 c8 _ _ rfl (by omega) C7.out P8.out ?_
          intro w8 hd
          have hb := hd.below w7.heap.size
          have U8 := Lib.hid (U7.out.trans (hb.mono U7.out.size))
          have C7 := Lib.hid (C7.out.below hb)
          have P8 := Lib.hid (P8.out.below hb)
          clear hb hd
          go_wp2_with fail
          exact HR.out _ U8.out
end Go.Proofs.Ytlgjhjgdmomfoaa
