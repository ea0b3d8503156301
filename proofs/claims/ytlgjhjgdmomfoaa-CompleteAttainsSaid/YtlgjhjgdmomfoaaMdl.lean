/- The walk of Groups of package complete. (Printed by gen_groups.py.) slices.Equal and SameGroups of equal lists. -/
import Derived.Deep.RegionHeld3
import Derived.Deep.RegionLaw
import Derived.Deep.AppendLies
import Derived.Test.YtlgjhjgdmomfoaaMdh
namespace Go.Proofs.Ytlgjhjgdmomfoaa
open Go.RowKit Go.Maps

theorem cell_own2 {w : World} {base n go c : Nat} {e : TypeId} {v : Value} {xs : List Value} (h : w.ownsRow base e 1 v n xs) (ho : v = .slice (some ⟨go, 0, none⟩) n c) {j : Nat} (hj : j < n) : w.cell? ⟨go, j, none⟩ = some (vAt xs j) := by
  rcases h.2 with ⟨e, _⟩ | ⟨g2, cap, cur, e, _, h2, h3, _, h4, h5⟩
  · rw [ho] at e; cases e
  · rw [ho] at e; cases e
    refine cell_of h2 ?_
    have h6 : xs[j]? = some (vAt xs j) := by
      have hl : xs.length = n := by have := h.1; omega
      unfold vAt
      rw [List.getD_eq_getElem?_getD, List.getElem?_eq_getElem (by omega)]; rfl
    rw [← h5, List.getElem?_take, if_pos (by omega)] at h6
    rw [h5] at h6
    simpa using h6
theorem cell_own {w : World} {base n go c : Nat} {e : TypeId} {v : Value} {xs : List Value} (h : w.ownsRow base e 1 v n xs) (ho : v = .slice (some ⟨go, 0, none⟩) n c) {j : Nat} (hj : j < n) : ∃ u, w.cell? ⟨go, j, none⟩ = some u := ⟨_, cell_own2 h ho hj⟩
theorem frozen_own {w : World} {base n go c : Nat} {e : TypeId} {v : Value} {xs : List Value} (h : w.ownsRow base e 1 v n xs) (ho : v = .slice (some ⟨go, 0, none⟩) n c) (j : Nat) : w.frozen? ⟨go, j, none⟩ = false := by
  rcases h.2 with ⟨e, _⟩ | ⟨g2, cap, cur, e, _, h2, _⟩
  · rw [ho] at e; cases e
  · rw [ho] at e; cases e
    exact frozen_of h2 j
theorem run_lenR {P : Program} {w : World} {t ty e e2 : TypeId} (ht : P.underlying t = some (.slice e)) {base size n : Nat} {xs : List Value} {v : Value} (hown : w.ownsRow base e2 size v n xs) (w' : World) : (Builtin.len_ #[t] ty #[v]).run P w' = .ok (.int .i64 n) w' := by
  obtain ⟨ao, c, rfl, _, _⟩ := ownsRow_read hown
  simp [Builtin.len_, run_underlying ht, goInt]
theorem wf_i64 {x : Int} (h1 : -9223372036854775808 ≤ x) (h2 : x ≤ 9223372036854775807) : (Lit.int .i64 x).wf = true := by
  unfold Lit.wf
  rw [Bool.and_eq_true, decide_eq_true_eq, decide_eq_true_eq]
  exact ⟨h1, h2⟩
theorem Blk.grownM {W W' : World} {C b : Nat} {E : TypeId} {L : List Value} (h : Blk W C E L) (hg : W.grownBy W' (some b)) (hne : C ≠ b) : Blk W' C E L :=
  (hg.block C h.lt (fun e => hne (Option.some.inj e))).trans h
theorem Blk.grownR {W W' : World} {C base size n : Nat} {E e : TypeId} {L xs : List Value} {v : Value} (h : Blk W C E L) (hg : W.grownBy W' v.ownBlock) (ho : W.ownsRow base e size v n xs) (hC : C < base) : Blk W' C E L :=
  (hg.block C h.lt (low_ne ho hC)).trans h
theorem NsAt.grownM {W W' : World} {base b : Nat} {ov : Value} {vals : List Value} {rows : List (List ByteArray)} (h : NsAt W base ov vals rows) (hg : W.grownBy W' (some b)) (hb : b < base) : NsAt W' base ov vals rows :=
  ⟨h.len, h.out.kept hg (own_low h.out hb), fun j hj => (h.row j hj).kept hg (own_low (h.row j hj) hb), h.apart⟩
theorem NsAt.mono {W : World} {base b : Nat} {ov : Value} {vals : List Value} {rows : List (List ByteArray)} (h : NsAt W base ov vals rows) (hb : b ≤ base) : NsAt W b ov vals rows :=
  ⟨h.len, ownsRow_mono h.out hb, fun j hj => ownsRow_mono (h.row j hj) hb, h.apart⟩
theorem Try.infoSS : (Try.prog.info? 60).map (fun i => (i.zero, i.size, i.bytes)) = some (some (.slice none 0 0), 1, 24) := by kernel_rfl
set_option maxRecDepth 100000 in
set_option maxHeartbeats 16000000 in
theorem groups22_any (ao : Option Addr) (vs : List Dm) (c : Nat) (ax : Int) (w : World) (R : Ending → World → Prop) (hl : vs.length ≤ 9223372036854775807) (hc : CellsAt w ao (dC vs)) (hv : DmsOk vs)
   (hR1 : giE vs ax ≠ 0 → ∀ w', Below w.heap.size w w' → R (.returned (.tuple #[.slice none 0 0, .int .i64 (giE vs ax)])) w')
   (hR2 : giE vs ax = 0 → ∀ v vals w', Below w.heap.size w w' → NsAt w' w.heap.size v vals (gsX vs ax) → R (.returned (.tuple #[v, .int .i64 0])) w') :
    Calls Try.prog 26 #[.slice ao vs.length c, .int .i64 ax] w R := by
  have HR1 := Lib.hid hR1
  have HR2 := Lib.hid hR2
  have HC := Lib.hid hc
  have HV := Lib.hid hv
  clear hR1 hR2 hc hv
  obtain ⟨i0, hi0, hi1, hi2, hi3⟩ := info_parts Try.infoStr53
  have hmm := @run_makeMap Try.prog
  obtain ⟨E, hE⟩ : ∃ E, giE vs ax = E := ⟨_, rfl⟩
  have HE := Lib.hid hE
  rw [hE] at HR1 HR2
  clear hE
  go_enter Try.func26, Try.ntmps26
  go_wp2_with fail
  refine given_any ao vs c ax _ _ hl HC.out HV.out ?_
  rw [HE.out]
  intro w1 hb
  have HB1 := Lib.hid hb
  clear hb
  by_cases h0 : E = 0
  · subst h0
    have hl2 := giE_len HE.out
    have sB1 := HB1.out.size
    go_wp2_with fail
    refine graphX_any ao vs c ax _ _ hl2 (HC.out.below HB1.out) HV.out ?_
    intro w2 hb hg
    have HB2 := Lib.hid (HB1.out.trans (hb.mono sB1))
    have HG2 := Lib.hid hg
    have sB2 := HB2.out.size
    have hkl := nmG_len (ax := ax) hl2
    have HC2 := Lib.hid (HC.out.below HB2.out)
    have sG := hg.size
    obtain ⟨nv, dv, hg0⟩ := hg
    obtain ⟨na, nc, rfl, hcn, _⟩ := ownsRow_read hg0.names
    obtain ⟨g0, _, _, _⟩ := hg0.cell
    have HCN := Lib.hid hcn
    have hbG : w1.heap.size + 1 < w2.heap.size := by omega
    obtain ⟨N, hN⟩ : ∃ N, (nmG vs ax).length = N := ⟨_, rfl⟩
    rw [hN] at g0 hkl
    have G0 := Lib.hid g0
    have HN := Lib.hid hN
    have M2' := imapIs_made (P := Try.prog) (k := 3) w2
    have B2' : Below w2.heap.size w2 (w2.alloc (.map #[] 0)) := (Below.refl _ _).alloc (Nat.le_refl _) _
    clear hb hg0 hcn hN g0
    go_wp2_with fail
    obtain ⟨wm, hwm⟩ : ∃ wm, w2.alloc (.map #[] 0) = wm := ⟨_, rfl⟩
    have sM : w2.heap.size < wm.heap.size := by rw [← hwm]; simp
    rw [hwm] at M2' B2' ⊢
    clear hwm hmm
    refine groupsX_any ao vs c _ ax _ _ hl2 (HC2.out.below B2') HV.out (HG2.out.below B2' (Nat.le_refl _)) ?_
    intro gg w3 hgg hb hx
    rw [HN.out]
    have B3 := Lib.hid (B2'.trans (hb.mono (Nat.le_of_lt sM)))
    have M3 := Lib.hid (M2'.keep (hb.block _ sM))
    have I3 := Lib.hid hx
    have hgg3 := Lib.hid hx.lt
    have hb23 : Hid (w2.heap.size ≤ w3.heap.size) := B3.out.size
    have hbm : Hid (w2.heap.size < w3.heap.size) := by unfold Hid; have := hb.size; omega
    have hgw : Hid (gg ≠ w2.heap.size) := by unfold Hid; omega
    have hgl : (grG vs ax).length = N := by rw [← HN.out]; exact grG_len vs ax
    have HGL := Lib.hid hgl
    have N3 := Lib.hid (NsAt.nil w3 w3.heap.size)
    clear hb hx hgl M2' B2'
    go_wp2_with fail
    go_loopw [25, 9] (fun j v wr => ∃ (k : Nat) (vals : List Value), k ≤ N ∧ j = .int .i64 k ∧ Hid (Below w2.heap.size w2 wr) ∧ Hid (IMapIs Try.prog 3 wr w2.heap.size k (atF vs ax k)) ∧ Hid (Blk wr gg 3 (dI (grG vs ax))) ∧ Hid (NsAt wr w3.heap.size v vals (gsF vs ax k)) ∧ w3.heap.size ≤ wr.heap.size) (fun j _ _ => N - (intOf j).toNat)
    case atStart => exact ⟨0, [], Nat.zero_le _, rfl, B3, M3, I3, N3, Nat.le_refl _⟩
    case round =>
      clear B3 M3 I3 N3
      obtain ⟨k, vals, hk, rfl, HB, HM, HI, HNs, hs3⟩ := hrel
      have sB := HB.out.size
      by_cases hlt : k < N
      · have i1 := HI.out.cell (j := k) (by rw [dI_length, HGL.out]; exact hlt)
        rw [dI_get (by rw [HGL.out]; exact hlt)] at i1
        have hxl := HI.out.lt
        have hqk := (grG_inv vs ax).le k (by rw [HN.out]; exact hlt)
        have hqq : nAt (grG vs ax) (nAt (grG vs ax) k) = nAt (grG vs ax) k := grG_idem (by rw [HN.out]; exact hlt)
        obtain ⟨q, hq⟩ : ∃ q, nAt (grG vs ax) k = q := ⟨_, rfl⟩
        rw [hq] at i1 hqk hqq
        have Hq := Lib.hid hq
        have Hqq := Lib.hid hqq
        clear hq hqq
        by_cases hqe : q = k
        · subst hqe
          have K1 : ((q : Int) == (q : Int)) = true := by simp
          have hlen : vals.length = jxF vs ax q := by rw [HNs.out.len, gsF_len]; rfl
          have hat : Hid (atF vs ax (q + 1) = (atF vs ax q).put q (.int .i64 vals.length)) := by unfold Hid; rw [atF, if_pos Hqq.out, hlen]
          have hgm : Hid (gsM vs ax q = gsF vs ax q ++ [[]]) := gsM_new (by rw [HN.out]; exact hlt) Hqq.out
          have hvl9 : vals.length ≤ q := by rw [hlen]; exact fsL_le
          have hl9 := run_lenR (ty := 3) Try.underlying65 HNs.out.out
          clear hlen
          go_wp2_with (first
            | (at_mapUpdate; refine wp_imapStore _ rfl _ _ _ 116 rfl 3 3 Try.underlying3 Try.underlying116 w2.heap.size q (atF vs ax q) rfl HM.out (by unfold maxLen; omega) q (.int .i64 vals.length) rfl rfl (wf_i64 (by omega) (by omega)) ?_; intro w7 h7 g7; have HM7 : Hid (IMapIs Try.prog 3 w7 w2.heap.size (q + 1) (atF vs ax (q + 1))) := (by unfold Hid; rw [hat.out]; exact h7); have HB7 := Lib.hid (HB.out.grown g7 sB (fun j e => by cases e; exact Nat.le_refl _)); have HI7 := Lib.hid (Blk.grownM HI.out g7 hgw.out); have HN7 := Lib.hid (NsAt.grownM HNs.out g7 hbm.out); have s7 : w3.heap.size ≤ w7.heap.size := Nat.le_trans hs3 g7.size; clear h7 g7)
            | (at_builtin; refine wp_appendT rfl (.tmp 37) (.tmp 38) 65 rfl w3.heap.size 60 Try.underlying65 Try.infoSS rfl (by decide) u9 vals.length vals rfl (ownsRow_below HN7.out.out ((Below.refl _ _).alloc (Nat.le_refl _) _)) ⟨w7.heap.size, 0, none⟩ 1 1 [.slice none 0 0] rfl rfl (lit_cells w7 _ _ _ rfl) (by intro u hu; simp at hu; subst hu; rfl) (by omega) (by omega) (by simp; omega) ?_; intro v8 w8 hown hgrow _; have hb7 : Below w7.heap.size w7 (w7.alloc (.cells #[.slice none 0 0] 60)) := (Below.refl _ _).alloc (Nat.le_refl _) _; have HO7 := Lib.hid (ownsRow_below HN7.out.out hb7); have hN8 := NsAt.push (HN7.out.below hb7) hgrow hown; have hB8 := (HB7.out.trans (hb7.mono HB7.out.size)).grown hgrow (by simp; have := hb23.out; omega) (fun j e => Nat.le_trans hb23.out (HO7.out.lt j e).1); have HM8 := Lib.hid (HM7.out.keep ((hgrow.block _ (by simp; have := hbm.out; omega) (low_ne HO7.out hbm.out)).trans (hb7.block _ (by have := hbm.out; omega)))); have HI8 := Lib.hid (Blk.grownR (HI7.out.below hb7 HI7.out.lt) hgrow HO7.out hgg3.out); have HB8 := Lib.hid hB8; have HN8 : Hid (NsAt w8 w3.heap.size v8 (vals ++ [.slice none 0 0]) (gsM vs ax q)) := (by unfold Hid; rw [hgm.out]; exact hN8); have s8 : w3.heap.size ≤ w8.heap.size := (by have := hgrow.size; simp at this; omega); clear hown hgrow hN8 hB8 hb7))
          have hsz := HB8.out.size
          have hr := HN8.out
          obtain ⟨n, hn⟩ : ∃ n, (vals ++ [Value.slice none 0 0]).length = n := ⟨_, rfl⟩
          have hJn0 : jxF vs ax q < (gsM vs ax q).length := by rw [gsM_len]; exact jxF_lt Hqq.out (by omega)
          have hnl : n = (gsM vs ax q).length := by rw [← hn]; exact hr.len
          have hov0 : ∃ go c9, v8 = .slice (some ⟨go, 0, none⟩) n c9 ∧ w3.heap.size ≤ go := by
            rcases hr.out.2 with ⟨_, h1⟩ | ⟨go, c9, cur, h1, h2, _⟩
            · omega
            · rw [hn] at h1; exact ⟨go, c9, h1, h2⟩
          obtain ⟨go, c9, rfl, hgo0⟩ := hov0
          have hlk : ∀ W' : World, Below w3.heap.size w8 W' → (Instr.lookup 116 (.map (some w2.heap.size)) (.int .i64 q) false).run Try.prog W' = .ok (.int .i64 (jxF vs ax q)) W' := by
            intro W' hb
            have h := (HM8.out.keep (hb.block _ hbm.out)).look (t := 116) Try.underlying3 Try.underlying116 (zeroI22 _) (x := (q : Int)) (wf_i64 (by omega) (by omega))
            rw [atF_get Hqq.out (by omega)] at h
            exact h
          obtain ⟨J, hJ⟩ : ∃ J, jxF vs ax q = J := ⟨_, rfl⟩
          have hJrow0 := gsM_at Hqq.out (show q < q + 1 from by omega)
          have hput0 := gsM_put (show q < (nmG vs ax).length from by rw [HN.out]; exact hlt) Hq.out
          rw [hJ] at hlk hJrow0 hput0 hJn0
          obtain ⟨nm, hnm⟩ : ∃ nm, kAt (nmG vs ax) q = nm := ⟨_, rfl⟩
          obtain ⟨rw_, hrw⟩ : ∃ r, gmL vs ax q q = r := ⟨_, rfl⟩
          obtain ⟨vj, hvj0⟩ : ∃ v, vAt (vals ++ [Value.slice none 0 0]) J = v := ⟨_, rfl⟩
          have hrl : rw_.length ≤ q := by rw [← hrw]; exact gmL_le
          rw [hnm, hrw] at hput0
          rw [hrw] at hJrow0
          have hrow0 := hr.row J hJn0
          rw [hJrow0, hvj0] at hrow0
          have hvl : Hid ((vals ++ [Value.slice none 0 0]).length = n) := hn
          have hvj := Lib.hid hvj0
          have hJrow := Lib.hid hJrow0
          have hput := Lib.hid hput0
          have hgo := Lib.hid hgo0
          have hJn : Hid (J < n) := by unfold Hid; omega
          have hJr : Hid ((gsM vs ax q).length = n) := hnl.symm
          have hJr2 : Hid (rAt (gsM vs ax q) J = rw_) := hJrow0
          have hov : Hid ((.slice (some ⟨go, 0, none⟩) n c9 : Value) = .slice (some ⟨go, 0, none⟩) (vals ++ [Value.slice none 0 0]).length c9) := by unfold Hid; rw [hn]
          obtain ⟨bn, on, rfl, hbn, _⟩ := HCN.out (by rw [sC_length, HN.out]; omega)
          have hn3 : CellsAt w2 (some ⟨bn, on, none⟩) (sC (nmG vs ax)) := HCN.out
          have n0 := hn3.get rfl (sC_get (show q < (nmG vs ax).length from by rw [HN.out]; exact hlt))
          rw [hnm] at n0
          have g1 := cellB HB8.out G0.out hbG
          have n1 := cellB HB8.out n0 hbn
          have HS : Hid (∀ W' : World, Below w3.heap.size w8 W' → (Instr.lookup 116 (.map (some w2.heap.size)) (.int .i64 q) false).run Try.prog W' = .ok (.int .i64 J) W' ∧ W'.cell? ⟨w1.heap.size + 1, 0, none⟩ = some (.slice (some ⟨bn, on, none⟩) N nc) ∧ W'.cell? ⟨bn, on + q, none⟩ = some (.string nm)) := fun W' hb =>
            ⟨hlk W' hb, cellB hb g1 (by have := hb23.out; omega), cellB hb n1 (by have := hb23.out; omega)⟩
          have hBa : Below w3.heap.size w8 ((w8.alloc (.cells #[.string nm] 9)).drew) := ((Below.refl _ w8).alloc (by omega) _).drew
          have hba : Below w8.heap.size w8 ((w8.alloc (.cells #[.string nm] 9)).drew) := ((Below.refl _ w8).alloc (Nat.le_refl _) _).drew
          have HBa := Lib.hid hBa
          have HNa := Lib.hid (HN8.out.below hba)
          have Hrow := Lib.hid (ownsRow_below hrow0 hba)
          have Xa : Hid ((w8.alloc (.cells #[.string nm] 9)).drew.heap[w8.heap.size]? = some (.cells #[.string nm] 9 (0, 0))) := World.alloc_heap_new w8 _
          have e9 : w8.drew.cell? ⟨go, J, none⟩ = some vj := by
            have h := cell_own2 HN8.out.out hov.out (j := J) (by rw [hn]; exact hJn.out)
            rw [hvj0] at h; exact h
          have e9a : (w8.alloc (.cells #[.string nm] 9)).drew.cell? ⟨go, J, none⟩ = some vj := by
            have h := cell_own2 HNa.out.out hov.out (j := J) (by rw [hn]; exact hJn.out)
            rw [hvj0] at h; exact h
          have hJq := hJn.out
          clear hr hnl hn hlk hJ hJn0 hnm hrw hvj0 hput0 hJrow0 hrow0 hgo0 n0 g1 n1 hn3 hBa hba
          refine wp_region_held_drew (S := fun W' => (Instr.lookup 116 (.map (some w2.heap.size)) (.int .i64 q) false).run Try.prog W' = .ok (.int .i64 J) W' ∧ W'.cell? ⟨w1.heap.size + 1, 0, none⟩ = some (.slice (some ⟨bn, on, none⟩) N nc) ∧ W'.cell? ⟨bn, on + q, none⟩ = some (.string nm)) (by kernel_rfl) (HS.out _ (Below.refl _ _).drew) (fun hS0 => ?_)
          refine wpAnyH_take (i := 0) (oi := _) (v := (.slice (some ⟨go, 0, none⟩) n c9)) rfl (by kernel_rfl) (by kernel_rfl) (by kernel_rfl) (fun _ _ _ h => h) (Or.inl ⟨by rfl, ?h1⟩) hS0 ?r1
          case h1 => (intro w hSw; (try dsimp only at hSw); obtain ⟨q0, q1, q2⟩ := hSw; go_simp; (try with_reducible rfl))
          simp only [Act.put, List.setIfInBounds_toArray]
          refine wpAnyH_take (i := 1) (oi := _) (v := (.map (some w2.heap.size))) rfl (by kernel_rfl) (by kernel_rfl) (by kernel_rfl) (fun _ _ _ h => h) (Or.inl ⟨by rfl, ?h2⟩) hS0 ?r2
          case h2 => (intro w hSw; (try dsimp only at hSw); obtain ⟨q0, q1, q2⟩ := hSw; go_simp; (try with_reducible rfl))
          simp only [Act.put]
          refine wpAnyH_take (i := 2) (oi := _) (v := (.int .i64 q)) rfl (by kernel_rfl) (by kernel_rfl) (by kernel_rfl) (fun _ _ _ h => h) (Or.inl ⟨by rfl, ?h3⟩) hS0 ?r3
          case h3 => (intro w hSw; (try dsimp only at hSw); obtain ⟨q0, q1, q2⟩ := hSw; go_simp; (try with_reducible rfl))
          simp only [Act.put]
          refine wpAnyH_take (i := 3) (oi := _) (v := (.int .i64 J)) rfl (by kernel_rfl) (by kernel_rfl) (by kernel_rfl) (fun _ _ _ h => h) (Or.inl ⟨by rfl, ?h4⟩) hS0 ?r4
          case h4 => (intro w hSw; (try dsimp only at hSw); obtain ⟨q0, q1, q2⟩ := hSw; go_simp; (try with_reducible rfl))
          simp only [Act.put]
          refine wpAnyH_take (i := 4) (oi := _) (v := (.slice (some ⟨go, 0, none⟩) n c9)) rfl (by kernel_rfl) (by kernel_rfl) (by kernel_rfl) (fun _ _ _ h => h) (Or.inl ⟨by rfl, ?h5⟩) hS0 ?r5
          case h5 => (intro w hSw; (try dsimp only at hSw); obtain ⟨q0, q1, q2⟩ := hSw; go_simp; (try with_reducible rfl))
          simp only [Act.put]
          refine wpAnyH_take (i := 5) (oi := _) (v := (.map (some w2.heap.size))) rfl (by kernel_rfl) (by kernel_rfl) (by kernel_rfl) (fun _ _ _ h => h) (Or.inl ⟨by rfl, ?h6⟩) hS0 ?r6
          case h6 => (intro w hSw; (try dsimp only at hSw); obtain ⟨q0, q1, q2⟩ := hSw; go_simp; (try with_reducible rfl))
          simp only [Act.put]
          refine wpAnyH_take (i := 6) (oi := _) (v := (.int .i64 q)) rfl (by kernel_rfl) (by kernel_rfl) (by kernel_rfl) (fun _ _ _ h => h) (Or.inl ⟨by rfl, ?h7⟩) hS0 ?r7
          case h7 => (intro w hSw; (try dsimp only at hSw); obtain ⟨q0, q1, q2⟩ := hSw; go_simp; (try with_reducible rfl))
          simp only [Act.put]
          refine wpAnyH_take (i := 7) (oi := _) (v := (.int .i64 J)) rfl (by kernel_rfl) (by kernel_rfl) (by kernel_rfl) (fun _ _ _ h => h) (Or.inl ⟨by rfl, ?h8⟩) hS0 ?r8
          case h8 => (intro w hSw; (try dsimp only at hSw); obtain ⟨q0, q1, q2⟩ := hSw; go_simp; (try with_reducible rfl))
          simp only [Act.put]
          refine wpAnyH_take (i := 8) (oi := _) (v := (.pointer (some ⟨go, J, none⟩))) rfl (by kernel_rfl) (by kernel_rfl) (by kernel_rfl) (fun _ _ _ h => h) (Or.inl ⟨by rfl, ?h9⟩) hS0 ?r9
          case h9 => (intro w hSw; (try dsimp only at hSw); obtain ⟨q0, q1, q2⟩ := hSw; go_simp; (try with_reducible rfl))
          simp only [Act.put]
          refine wpAnyH_take (i := 10) (oi := _) (v := (.pointer (some ⟨w1.heap.size + 1, 0, none⟩))) rfl (by kernel_rfl) (by kernel_rfl) (by kernel_rfl) (fun _ _ _ h => h) (Or.inl ⟨by rfl, ?h10⟩) hS0 ?r10
          case h10 => (intro w hSw; (try dsimp only at hSw); obtain ⟨q0, q1, q2⟩ := hSw; go_simp; (try with_reducible rfl))
          simp only [Act.put]
          refine wpAnyH_take (i := 11) (oi := _) (v := (.pointer (some ⟨w1.heap.size + 1, 0, none⟩))) rfl (by kernel_rfl) (by kernel_rfl) (by kernel_rfl) (fun _ _ _ h => h) (Or.inl ⟨by rfl, ?h11⟩) hS0 ?r11
          case h11 => (intro w hSw; (try dsimp only at hSw); obtain ⟨q0, q1, q2⟩ := hSw; go_simp; (try with_reducible rfl))
          simp only [Act.put]
          refine wpAnyH_take (i := 12) (oi := _) (v := (.pointer (some ⟨w1.heap.size + 1, 0, none⟩))) rfl (by kernel_rfl) (by kernel_rfl) (by kernel_rfl) (fun _ _ _ h => h) (Or.inl ⟨by rfl, ?h12⟩) hS0 ?r12
          case h12 => (intro w hSw; (try dsimp only at hSw); obtain ⟨q0, q1, q2⟩ := hSw; go_simp; (try with_reducible rfl))
          simp only [Act.put]
          refine wpAnyH_take (i := 13) (oi := _) (v := (.slice (some ⟨bn, on, none⟩) N nc)) rfl (by kernel_rfl) (by kernel_rfl) (by kernel_rfl) (fun _ _ _ h => h) (Or.inl ⟨by rfl, ?h13⟩) hS0 ?r13
          case h13 => (intro w hSw; (try dsimp only at hSw); obtain ⟨q0, q1, q2⟩ := hSw; go_simp; (try with_reducible rfl))
          simp only [Act.put]
          refine wpAnyH_take (i := 14) (oi := _) (v := (.int .i64 q)) rfl (by kernel_rfl) (by kernel_rfl) (by kernel_rfl) (fun _ _ _ h => h) (Or.inl ⟨by rfl, ?h14⟩) hS0 ?r14
          case h14 => (intro w hSw; (try dsimp only at hSw); obtain ⟨q0, q1, q2⟩ := hSw; go_simp; (try with_reducible rfl))
          simp only [Act.put]
          refine wpAnyH_take (i := 15) (oi := _) (v := (.pointer (some ⟨bn, on + q, none⟩))) rfl (by kernel_rfl) (by kernel_rfl) (by kernel_rfl) (fun _ _ _ h => h) (Or.inl ⟨by rfl, ?h15⟩) hS0 ?r15
          case h15 => (intro w hSw; (try dsimp only at hSw); obtain ⟨q0, q1, q2⟩ := hSw; go_simp; (try with_reducible rfl))
          simp only [Act.put]
          refine wpAnyH_take (i := 16) (oi := _) (v := (.string nm)) rfl (by kernel_rfl) (by kernel_rfl) (by kernel_rfl) (fun _ _ _ h => h) (Or.inl ⟨by rfl, ?h16⟩) hS0 ?r16
          case h16 => (intro w hSw; (try dsimp only at hSw); obtain ⟨q0, q1, q2⟩ := hSw; go_simp; (try with_reducible rfl))
          simp only [Act.put]
          refine wpAnyH_ready (rs := [9, 17]) (by kernel_rfl) (by simp) ?_
          refine AllReadyH.cons (o := _) rfl (fun K hK => ?_) (AllReadyH.cons (o := _) rfl (fun K hK => ?_) AllReadyH.nil)
          · go_simp
            refine hK.out _ _ hS0 (fun _ => ?_)
            clear hK K
            (try simp only [Act.put, List.setIfInBounds_toArray, List.set_cons_zero, List.set_cons_succ])
            refine wpAnyH_ready (rs := [17]) (by kernel_rfl) (by simp) ?_
            refine AllReadyH.cons (o := _) rfl (fun K hK => ?_) AllReadyH.nil
            go_simp
            refine hK.out _ _ (HS.out _ HBa.out) (fun _ => ?_)
            clear hK K
            (try simp only [Act.put, List.setIfInBounds_toArray, List.set_cons_zero, List.set_cons_succ])
            obtain ⟨wa, hwa⟩ : ∃ wa, (w8.alloc (.cells #[.string nm] 9)).drew = wa := ⟨_, rfl⟩
            have hza : wa.heap.size = w8.heap.size + 1 := by rw [← hwa]; show (w8.alloc _).heap.size = _; simp
            rw [hwa] at e9a HNa Hrow Xa HBa ⊢
            clear hwa
            refine wpAnyH_ready (rs := [18]) (by kernel_rfl) (by simp) ?_
            refine AllReadyH.cons (o := _) rfl (fun K hK => ?_) AllReadyH.nil
            refine step_append_lies _ (by rfl) (.tmp 49) (.tmp 57) _ (by rfl) w3.heap.size 9 i0 _ 1 16 Try.underlying60 hi0 hi1 hi2 hi3 rfl (by omega) vj rw_.length (sC rw_) (by rfl) Hrow.out ⟨w8.heap.size, 0, none⟩ 1 1 [.string nm] (by rfl) (by rfl) (World.news_of_block (cs := #[.string nm]) (fr := (0, 0)) Xa.out) (by intro u hu; simp at hu; subst hu; rfl) (by omega) (by unfold maxLen; omega) (by omega) (by omega) (w8.heap.size + 1) hza ?_
            intro g7 cap w7 hown hgrow hat hlt7
            have hB7 := HBa.out.grown hgrow (by omega) (fun j e => (Hrow.out.lt j e).1)
            have hN7 := HNa.out.add (s := nm) (by rw [hJr.out]; exact hJn.out) (by rw [hvj.out]; exact hgrow) (by rw [hJr2.out]; exact hown) (g := g7) rfl (by rw [hvj.out, hza]; exact hat) hov.out hgrow.size
            have hout7 := (HNa.out.out.kept hgrow (own_ne HNa.out.out Hrow.out (by decide)))
            have hBf := hB7.setCell (p := ⟨go, J, none⟩) hgo.out (.slice (some ⟨g7, 0, none⟩) (rw_.length + 1) cap)
            have hc7 : ∃ u, w7.cell? ⟨go, J, none⟩ = some u := cell_own hout7 hov.out (by rw [hvl.out]; exact hJn.out)
            have hf7 : w7.frozen? ⟨go, J, none⟩ = false := frozen_own hout7 hov.out J
            obtain ⟨u7, c7⟩ := hc7
            have HB7 := Lib.hid hB7
            have HBf := Lib.hid hBf
            have HN7 := Lib.hid hN7
            clear hown hgrow hat hB7 hN7 hout7 hBf
            refine hK.out _ _ (HS.out _ HB7.out) (fun _ => ?_)
            clear hK K
            (try simp only [Act.put, List.setIfInBounds_toArray])
            refine wpAnyH_take (i := 19) (oi := _) (v := (.pointer (some ⟨go, J, none⟩))) rfl (by kernel_rfl) (by kernel_rfl) (by kernel_rfl) (fun _ _ _ h => h) (Or.inl ⟨by rfl, ?h17⟩) (HS.out _ HB7.out) ?r17
            case h17 => (intro w hSw; (try dsimp only at hSw); obtain ⟨q0, q1, q2⟩ := hSw; go_simp; (try with_reducible rfl))
            simp only [Act.put]
            refine wpAnyH_ready (rs := [20]) (by kernel_rfl) (by simp) ?_
            refine AllReadyH.cons (o := _) rfl (fun K hK => ?_) AllReadyH.nil
            go_simp
            refine hK.out _ _ (HS.out _ HBf.out) (fun _ => ?_)
            clear hK K
            (try simp only [Act.put, List.setIfInBounds_toArray, List.set_cons_zero, List.set_cons_succ])
            refine wpAnyH_done (by kernel_rfl) ?_ _
            clear c7 hf7 e9 e9a hS0
            obtain ⟨wf, hwf⟩ : ∃ wf, w7.setCell ⟨go, J, none⟩ (.slice (some ⟨g7, 0, none⟩) (rw_.length + 1) cap) = wf := ⟨_, rfl⟩
            have hBf := HBf.out
            have hNf := HN7.out
            rw [hwf] at hBf hNf ⊢
            have hMf := HM8.out.keep (hBf.block _ hbm.out)
            have hIf := HI8.out.below hBf hgg3.out
            have HBf' := Lib.hid (HB8.out.trans (hBf.mono hb23.out))
            have HNf : Hid (NsAt wf w3.heap.size (.slice (some ⟨go, 0, none⟩) n c9) ((vals ++ [Value.slice none 0 0]).set J (.slice (some ⟨g7, 0, none⟩) (rw_.length + 1) cap)) (gsF vs ax (q + 1))) := by
              have h := hNf
              rw [hJrow.out, hput.out] at h; exact h
            have HMf := Lib.hid hMf
            have HIf := Lib.hid hIf
            have hsf : w3.heap.size ≤ wf.heap.size := by have := hBf.size; omega
            clear hwf hBf hNf hMf hIf
            go_wp2_with fail
            exact ⟨⟨q + 1, _, by omega, by go_num, HBf', HMf, HIf, HNf, hsf⟩, by simp [intOf]; omega⟩
          · go_simp
            refine hK.out _ _ (HS.out _ HBa.out) (fun _ => ?_)
            clear hK K
            (try simp only [Act.put, List.setIfInBounds_toArray, List.set_cons_zero, List.set_cons_succ])
            obtain ⟨wa, hwa⟩ : ∃ wa, (w8.alloc (.cells #[.string nm] 9)).drew = wa := ⟨_, rfl⟩
            have hza : wa.heap.size = w8.heap.size + 1 := by rw [← hwa]; show (w8.alloc _).heap.size = _; simp
            rw [hwa] at e9a HNa Hrow Xa HBa ⊢
            clear hwa
            refine wpAnyH_ready (rs := [9]) (by kernel_rfl) (by simp) ?_
            refine AllReadyH.cons (o := _) rfl (fun K hK => ?_) AllReadyH.nil
            go_simp
            refine hK.out _ _ (HS.out _ HBa.out) (fun _ => ?_)
            clear hK K
            (try simp only [Act.put, List.setIfInBounds_toArray, List.set_cons_zero, List.set_cons_succ])
            refine wpAnyH_ready (rs := [18]) (by kernel_rfl) (by simp) ?_
            refine AllReadyH.cons (o := _) rfl (fun K hK => ?_) AllReadyH.nil
            refine step_append_lies _ (by rfl) (.tmp 49) (.tmp 57) _ (by rfl) w3.heap.size 9 i0 _ 1 16 Try.underlying60 hi0 hi1 hi2 hi3 rfl (by omega) vj rw_.length (sC rw_) (by rfl) Hrow.out ⟨w8.heap.size, 0, none⟩ 1 1 [.string nm] (by rfl) (by rfl) (World.news_of_block (cs := #[.string nm]) (fr := (0, 0)) Xa.out) (by intro u hu; simp at hu; subst hu; rfl) (by omega) (by unfold maxLen; omega) (by omega) (by omega) (w8.heap.size + 1) hza ?_
            intro g7 cap w7 hown hgrow hat hlt7
            have hB7 := HBa.out.grown hgrow (by omega) (fun j e => (Hrow.out.lt j e).1)
            have hN7 := HNa.out.add (s := nm) (by rw [hJr.out]; exact hJn.out) (by rw [hvj.out]; exact hgrow) (by rw [hJr2.out]; exact hown) (g := g7) rfl (by rw [hvj.out, hza]; exact hat) hov.out hgrow.size
            have hout7 := (HNa.out.out.kept hgrow (own_ne HNa.out.out Hrow.out (by decide)))
            have hBf := hB7.setCell (p := ⟨go, J, none⟩) hgo.out (.slice (some ⟨g7, 0, none⟩) (rw_.length + 1) cap)
            have hc7 : ∃ u, w7.cell? ⟨go, J, none⟩ = some u := cell_own hout7 hov.out (by rw [hvl.out]; exact hJn.out)
            have hf7 : w7.frozen? ⟨go, J, none⟩ = false := frozen_own hout7 hov.out J
            obtain ⟨u7, c7⟩ := hc7
            have HB7 := Lib.hid hB7
            have HBf := Lib.hid hBf
            have HN7 := Lib.hid hN7
            clear hown hgrow hat hB7 hN7 hout7 hBf
            refine hK.out _ _ (HS.out _ HB7.out) (fun _ => ?_)
            clear hK K
            (try simp only [Act.put, List.setIfInBounds_toArray])
            refine wpAnyH_take (i := 19) (oi := _) (v := (.pointer (some ⟨go, J, none⟩))) rfl (by kernel_rfl) (by kernel_rfl) (by kernel_rfl) (fun _ _ _ h => h) (Or.inl ⟨by rfl, ?h18⟩) (HS.out _ HB7.out) ?r18
            case h18 => (intro w hSw; (try dsimp only at hSw); obtain ⟨q0, q1, q2⟩ := hSw; go_simp; (try with_reducible rfl))
            simp only [Act.put]
            refine wpAnyH_ready (rs := [20]) (by kernel_rfl) (by simp) ?_
            refine AllReadyH.cons (o := _) rfl (fun K hK => ?_) AllReadyH.nil
            go_simp
            refine hK.out _ _ (HS.out _ HBf.out) (fun _ => ?_)
            clear hK K
            (try simp only [Act.put, List.setIfInBounds_toArray, List.set_cons_zero, List.set_cons_succ])
            refine wpAnyH_done (by kernel_rfl) ?_ _
            clear c7 hf7 e9 e9a hS0
            obtain ⟨wf, hwf⟩ : ∃ wf, w7.setCell ⟨go, J, none⟩ (.slice (some ⟨g7, 0, none⟩) (rw_.length + 1) cap) = wf := ⟨_, rfl⟩
            have hBf := HBf.out
            have hNf := HN7.out
            rw [hwf] at hBf hNf ⊢
            have hMf := HM8.out.keep (hBf.block _ hbm.out)
            have hIf := HI8.out.below hBf hgg3.out
            have HBf' := Lib.hid (HB8.out.trans (hBf.mono hb23.out))
            have HNf : Hid (NsAt wf w3.heap.size (.slice (some ⟨go, 0, none⟩) n c9) ((vals ++ [Value.slice none 0 0]).set J (.slice (some ⟨g7, 0, none⟩) (rw_.length + 1) cap)) (gsF vs ax (q + 1))) := by
              have h := hNf
              rw [hJrow.out, hput.out] at h; exact h
            have HMf := Lib.hid hMf
            have HIf := Lib.hid hIf
            have hsf : w3.heap.size ≤ wf.heap.size := by have := hBf.size; omega
            clear hwf hBf hNf hMf hIf
            go_wp2_with fail
            exact ⟨⟨q + 1, _, by omega, by go_num, HBf', HMf, HIf, HNf, hsf⟩, by simp [intOf]; omega⟩
        · have K1 : ((q : Int) == (k : Int)) = false := by rw [beq_eq_false_iff_ne]; omega
          have hat : Hid (atF vs ax (k + 1) = atF vs ax k) := by unfold Hid; rw [atF, if_neg (by rw [Hq.out]; exact hqe)]
          have hgm : Hid (gsM vs ax k = gsF vs ax k) := gsM_old (by rw [Hq.out]; exact hqe)
          have HMr : Hid (IMapIs Try.prog 3 wr w2.heap.size (k + 1) (atF vs ax (k + 1))) := by unfold Hid; rw [hat.out]; exact HM.out.mono (Nat.le_succ _)
          have HNr : Hid (NsAt wr w3.heap.size u9 vals (gsM vs ax k)) := by unfold Hid; rw [hgm.out]; exact HNs.out
          go_wp2_with fail
          have hsz := HB.out.size
          have hr := HNr.out
          obtain ⟨n, hn⟩ : ∃ n, vals.length = n := ⟨_, rfl⟩
          have hJn0 : jxF vs ax q < (gsM vs ax k).length := by rw [gsM_len]; exact jxF_lt Hqq.out (by omega)
          have hnl : n = (gsM vs ax k).length := by rw [← hn]; exact hr.len
          have hov0 : ∃ go c9, u9 = .slice (some ⟨go, 0, none⟩) n c9 ∧ w3.heap.size ≤ go := by
            rcases hr.out.2 with ⟨_, h1⟩ | ⟨go, c9, cur, h1, h2, _⟩
            · omega
            · rw [hn] at h1; exact ⟨go, c9, h1, h2⟩
          obtain ⟨go, c9, rfl, hgo0⟩ := hov0
          have hlk : ∀ W' : World, Below w3.heap.size wr W' → (Instr.lookup 116 (.map (some w2.heap.size)) (.int .i64 q) false).run Try.prog W' = .ok (.int .i64 (jxF vs ax q)) W' := by
            intro W' hb
            have h := (HMr.out.keep (hb.block _ hbm.out)).look (t := 116) Try.underlying3 Try.underlying116 (zeroI22 _) (x := (q : Int)) (wf_i64 (by omega) (by omega))
            rw [atF_get Hqq.out (by omega)] at h
            exact h
          obtain ⟨J, hJ⟩ : ∃ J, jxF vs ax q = J := ⟨_, rfl⟩
          have hJrow0 := gsM_at Hqq.out (show q < k + 1 from by omega)
          have hput0 := gsM_put (show k < (nmG vs ax).length from by rw [HN.out]; exact hlt) Hq.out
          rw [hJ] at hlk hJrow0 hput0 hJn0
          obtain ⟨nm, hnm⟩ : ∃ nm, kAt (nmG vs ax) k = nm := ⟨_, rfl⟩
          obtain ⟨rw_, hrw⟩ : ∃ r, gmL vs ax k q = r := ⟨_, rfl⟩
          obtain ⟨vj, hvj0⟩ : ∃ v, vAt vals J = v := ⟨_, rfl⟩
          have hrl : rw_.length ≤ k := by rw [← hrw]; exact gmL_le
          rw [hnm, hrw] at hput0
          rw [hrw] at hJrow0
          have hrow0 := hr.row J hJn0
          rw [hJrow0, hvj0] at hrow0
          have hvl : Hid (vals.length = n) := hn
          have hvj := Lib.hid hvj0
          have hJrow := Lib.hid hJrow0
          have hput := Lib.hid hput0
          have hgo := Lib.hid hgo0
          have hJn : Hid (J < n) := by unfold Hid; omega
          have hJr : Hid ((gsM vs ax k).length = n) := hnl.symm
          have hJr2 : Hid (rAt (gsM vs ax k) J = rw_) := hJrow0
          have hov : Hid ((.slice (some ⟨go, 0, none⟩) n c9 : Value) = .slice (some ⟨go, 0, none⟩) vals.length c9) := by unfold Hid; rw [hn]
          obtain ⟨bn, on, rfl, hbn, _⟩ := HCN.out (by rw [sC_length, HN.out]; omega)
          have hn3 : CellsAt w2 (some ⟨bn, on, none⟩) (sC (nmG vs ax)) := HCN.out
          have n0 := hn3.get rfl (sC_get (show k < (nmG vs ax).length from by rw [HN.out]; exact hlt))
          rw [hnm] at n0
          have g1 := cellB HB.out G0.out hbG
          have n1 := cellB HB.out n0 hbn
          have HS : Hid (∀ W' : World, Below w3.heap.size wr W' → (Instr.lookup 116 (.map (some w2.heap.size)) (.int .i64 q) false).run Try.prog W' = .ok (.int .i64 J) W' ∧ W'.cell? ⟨w1.heap.size + 1, 0, none⟩ = some (.slice (some ⟨bn, on, none⟩) N nc) ∧ W'.cell? ⟨bn, on + k, none⟩ = some (.string nm)) := fun W' hb =>
            ⟨hlk W' hb, cellB hb g1 (by have := hb23.out; omega), cellB hb n1 (by have := hb23.out; omega)⟩
          have hBa : Below w3.heap.size wr ((wr.alloc (.cells #[.string nm] 9)).drew) := ((Below.refl _ wr).alloc (by omega) _).drew
          have hba : Below wr.heap.size wr ((wr.alloc (.cells #[.string nm] 9)).drew) := ((Below.refl _ wr).alloc (Nat.le_refl _) _).drew
          have HBa := Lib.hid hBa
          have HNa := Lib.hid (HNr.out.below hba)
          have Hrow := Lib.hid (ownsRow_below hrow0 hba)
          have Xa : Hid ((wr.alloc (.cells #[.string nm] 9)).drew.heap[wr.heap.size]? = some (.cells #[.string nm] 9 (0, 0))) := World.alloc_heap_new wr _
          have e9 : wr.drew.cell? ⟨go, J, none⟩ = some vj := by
            have h := cell_own2 HNr.out.out hov.out (j := J) (by rw [hn]; exact hJn.out)
            rw [hvj0] at h; exact h
          have e9a : (wr.alloc (.cells #[.string nm] 9)).drew.cell? ⟨go, J, none⟩ = some vj := by
            have h := cell_own2 HNa.out.out hov.out (j := J) (by rw [hn]; exact hJn.out)
            rw [hvj0] at h; exact h
          have hJq := hJn.out
          clear hr hnl hn hlk hJ hJn0 hnm hrw hvj0 hput0 hJrow0 hrow0 hgo0 n0 g1 n1 hn3 hBa hba
          refine wp_region_held_drew (S := fun W' => (Instr.lookup 116 (.map (some w2.heap.size)) (.int .i64 q) false).run Try.prog W' = .ok (.int .i64 J) W' ∧ W'.cell? ⟨w1.heap.size + 1, 0, none⟩ = some (.slice (some ⟨bn, on, none⟩) N nc) ∧ W'.cell? ⟨bn, on + k, none⟩ = some (.string nm)) (by kernel_rfl) (HS.out _ (Below.refl _ _).drew) (fun hS0 => ?_)
          refine wpAnyH_take (i := 0) (oi := _) (v := (.slice (some ⟨go, 0, none⟩) n c9)) rfl (by kernel_rfl) (by kernel_rfl) (by kernel_rfl) (fun _ _ _ h => h) (Or.inl ⟨by rfl, ?h19⟩) hS0 ?r19
          case h19 => (intro w hSw; (try dsimp only at hSw); obtain ⟨q0, q1, q2⟩ := hSw; go_simp; (try with_reducible rfl))
          simp only [Act.put, List.setIfInBounds_toArray]
          refine wpAnyH_take (i := 1) (oi := _) (v := (.map (some w2.heap.size))) rfl (by kernel_rfl) (by kernel_rfl) (by kernel_rfl) (fun _ _ _ h => h) (Or.inl ⟨by rfl, ?h20⟩) hS0 ?r20
          case h20 => (intro w hSw; (try dsimp only at hSw); obtain ⟨q0, q1, q2⟩ := hSw; go_simp; (try with_reducible rfl))
          simp only [Act.put]
          refine wpAnyH_take (i := 2) (oi := _) (v := (.int .i64 q)) rfl (by kernel_rfl) (by kernel_rfl) (by kernel_rfl) (fun _ _ _ h => h) (Or.inl ⟨by rfl, ?h21⟩) hS0 ?r21
          case h21 => (intro w hSw; (try dsimp only at hSw); obtain ⟨q0, q1, q2⟩ := hSw; go_simp; (try with_reducible rfl))
          simp only [Act.put]
          refine wpAnyH_take (i := 3) (oi := _) (v := (.int .i64 J)) rfl (by kernel_rfl) (by kernel_rfl) (by kernel_rfl) (fun _ _ _ h => h) (Or.inl ⟨by rfl, ?h22⟩) hS0 ?r22
          case h22 => (intro w hSw; (try dsimp only at hSw); obtain ⟨q0, q1, q2⟩ := hSw; go_simp; (try with_reducible rfl))
          simp only [Act.put]
          refine wpAnyH_take (i := 4) (oi := _) (v := (.slice (some ⟨go, 0, none⟩) n c9)) rfl (by kernel_rfl) (by kernel_rfl) (by kernel_rfl) (fun _ _ _ h => h) (Or.inl ⟨by rfl, ?h23⟩) hS0 ?r23
          case h23 => (intro w hSw; (try dsimp only at hSw); obtain ⟨q0, q1, q2⟩ := hSw; go_simp; (try with_reducible rfl))
          simp only [Act.put]
          refine wpAnyH_take (i := 5) (oi := _) (v := (.map (some w2.heap.size))) rfl (by kernel_rfl) (by kernel_rfl) (by kernel_rfl) (fun _ _ _ h => h) (Or.inl ⟨by rfl, ?h24⟩) hS0 ?r24
          case h24 => (intro w hSw; (try dsimp only at hSw); obtain ⟨q0, q1, q2⟩ := hSw; go_simp; (try with_reducible rfl))
          simp only [Act.put]
          refine wpAnyH_take (i := 6) (oi := _) (v := (.int .i64 q)) rfl (by kernel_rfl) (by kernel_rfl) (by kernel_rfl) (fun _ _ _ h => h) (Or.inl ⟨by rfl, ?h25⟩) hS0 ?r25
          case h25 => (intro w hSw; (try dsimp only at hSw); obtain ⟨q0, q1, q2⟩ := hSw; go_simp; (try with_reducible rfl))
          simp only [Act.put]
          refine wpAnyH_take (i := 7) (oi := _) (v := (.int .i64 J)) rfl (by kernel_rfl) (by kernel_rfl) (by kernel_rfl) (fun _ _ _ h => h) (Or.inl ⟨by rfl, ?h26⟩) hS0 ?r26
          case h26 => (intro w hSw; (try dsimp only at hSw); obtain ⟨q0, q1, q2⟩ := hSw; go_simp; (try with_reducible rfl))
          simp only [Act.put]
          refine wpAnyH_take (i := 8) (oi := _) (v := (.pointer (some ⟨go, J, none⟩))) rfl (by kernel_rfl) (by kernel_rfl) (by kernel_rfl) (fun _ _ _ h => h) (Or.inl ⟨by rfl, ?h27⟩) hS0 ?r27
          case h27 => (intro w hSw; (try dsimp only at hSw); obtain ⟨q0, q1, q2⟩ := hSw; go_simp; (try with_reducible rfl))
          simp only [Act.put]
          refine wpAnyH_take (i := 10) (oi := _) (v := (.pointer (some ⟨w1.heap.size + 1, 0, none⟩))) rfl (by kernel_rfl) (by kernel_rfl) (by kernel_rfl) (fun _ _ _ h => h) (Or.inl ⟨by rfl, ?h28⟩) hS0 ?r28
          case h28 => (intro w hSw; (try dsimp only at hSw); obtain ⟨q0, q1, q2⟩ := hSw; go_simp; (try with_reducible rfl))
          simp only [Act.put]
          refine wpAnyH_take (i := 11) (oi := _) (v := (.pointer (some ⟨w1.heap.size + 1, 0, none⟩))) rfl (by kernel_rfl) (by kernel_rfl) (by kernel_rfl) (fun _ _ _ h => h) (Or.inl ⟨by rfl, ?h29⟩) hS0 ?r29
          case h29 => (intro w hSw; (try dsimp only at hSw); obtain ⟨q0, q1, q2⟩ := hSw; go_simp; (try with_reducible rfl))
          simp only [Act.put]
          refine wpAnyH_take (i := 12) (oi := _) (v := (.pointer (some ⟨w1.heap.size + 1, 0, none⟩))) rfl (by kernel_rfl) (by kernel_rfl) (by kernel_rfl) (fun _ _ _ h => h) (Or.inl ⟨by rfl, ?h30⟩) hS0 ?r30
          case h30 => (intro w hSw; (try dsimp only at hSw); obtain ⟨q0, q1, q2⟩ := hSw; go_simp; (try with_reducible rfl))
          simp only [Act.put]
          refine wpAnyH_take (i := 13) (oi := _) (v := (.slice (some ⟨bn, on, none⟩) N nc)) rfl (by kernel_rfl) (by kernel_rfl) (by kernel_rfl) (fun _ _ _ h => h) (Or.inl ⟨by rfl, ?h31⟩) hS0 ?r31
          case h31 => (intro w hSw; (try dsimp only at hSw); obtain ⟨q0, q1, q2⟩ := hSw; go_simp; (try with_reducible rfl))
          simp only [Act.put]
          refine wpAnyH_take (i := 14) (oi := _) (v := (.int .i64 k)) rfl (by kernel_rfl) (by kernel_rfl) (by kernel_rfl) (fun _ _ _ h => h) (Or.inl ⟨by rfl, ?h32⟩) hS0 ?r32
          case h32 => (intro w hSw; (try dsimp only at hSw); obtain ⟨q0, q1, q2⟩ := hSw; go_simp; (try with_reducible rfl))
          simp only [Act.put]
          refine wpAnyH_take (i := 15) (oi := _) (v := (.pointer (some ⟨bn, on + k, none⟩))) rfl (by kernel_rfl) (by kernel_rfl) (by kernel_rfl) (fun _ _ _ h => h) (Or.inl ⟨by rfl, ?h33⟩) hS0 ?r33
          case h33 => (intro w hSw; (try dsimp only at hSw); obtain ⟨q0, q1, q2⟩ := hSw; go_simp; (try with_reducible rfl))
          simp only [Act.put]
          refine wpAnyH_take (i := 16) (oi := _) (v := (.string nm)) rfl (by kernel_rfl) (by kernel_rfl) (by kernel_rfl) (fun _ _ _ h => h) (Or.inl ⟨by rfl, ?h34⟩) hS0 ?r34
          case h34 => (intro w hSw; (try dsimp only at hSw); obtain ⟨q0, q1, q2⟩ := hSw; go_simp; (try with_reducible rfl))
          simp only [Act.put]
          refine wpAnyH_ready (rs := [9, 17]) (by kernel_rfl) (by simp) ?_
          refine AllReadyH.cons (o := _) rfl (fun K hK => ?_) (AllReadyH.cons (o := _) rfl (fun K hK => ?_) AllReadyH.nil)
          · go_simp
            refine hK.out _ _ hS0 (fun _ => ?_)
            clear hK K
            (try simp only [Act.put, List.setIfInBounds_toArray, List.set_cons_zero, List.set_cons_succ])
            refine wpAnyH_ready (rs := [17]) (by kernel_rfl) (by simp) ?_
            refine AllReadyH.cons (o := _) rfl (fun K hK => ?_) AllReadyH.nil
            go_simp
            refine hK.out _ _ (HS.out _ HBa.out) (fun _ => ?_)
            clear hK K
            (try simp only [Act.put, List.setIfInBounds_toArray, List.set_cons_zero, List.set_cons_succ])
            obtain ⟨wa, hwa⟩ : ∃ wa, (wr.alloc (.cells #[.string nm] 9)).drew = wa := ⟨_, rfl⟩
            have hza : wa.heap.size = wr.heap.size + 1 := by rw [← hwa]; show (wr.alloc _).heap.size = _; simp
            rw [hwa] at e9a HNa Hrow Xa HBa ⊢
            clear hwa
            refine wpAnyH_ready (rs := [18]) (by kernel_rfl) (by simp) ?_
            refine AllReadyH.cons (o := _) rfl (fun K hK => ?_) AllReadyH.nil
            refine step_append_lies _ (by rfl) (.tmp 49) (.tmp 57) _ (by rfl) w3.heap.size 9 i0 _ 1 16 Try.underlying60 hi0 hi1 hi2 hi3 rfl (by omega) vj rw_.length (sC rw_) (by rfl) Hrow.out ⟨wr.heap.size, 0, none⟩ 1 1 [.string nm] (by rfl) (by rfl) (World.news_of_block (cs := #[.string nm]) (fr := (0, 0)) Xa.out) (by intro u hu; simp at hu; subst hu; rfl) (by omega) (by unfold maxLen; omega) (by omega) (by omega) (wr.heap.size + 1) hza ?_
            intro g7 cap w7 hown hgrow hat hlt7
            have hB7 := HBa.out.grown hgrow (by omega) (fun j e => (Hrow.out.lt j e).1)
            have hN7 := HNa.out.add (s := nm) (by rw [hJr.out]; exact hJn.out) (by rw [hvj.out]; exact hgrow) (by rw [hJr2.out]; exact hown) (g := g7) rfl (by rw [hvj.out, hza]; exact hat) hov.out hgrow.size
            have hout7 := (HNa.out.out.kept hgrow (own_ne HNa.out.out Hrow.out (by decide)))
            have hBf := hB7.setCell (p := ⟨go, J, none⟩) hgo.out (.slice (some ⟨g7, 0, none⟩) (rw_.length + 1) cap)
            have hc7 : ∃ u, w7.cell? ⟨go, J, none⟩ = some u := cell_own hout7 hov.out (by rw [hvl.out]; exact hJn.out)
            have hf7 : w7.frozen? ⟨go, J, none⟩ = false := frozen_own hout7 hov.out J
            obtain ⟨u7, c7⟩ := hc7
            have HB7 := Lib.hid hB7
            have HBf := Lib.hid hBf
            have HN7 := Lib.hid hN7
            clear hown hgrow hat hB7 hN7 hout7 hBf
            refine hK.out _ _ (HS.out _ HB7.out) (fun _ => ?_)
            clear hK K
            (try simp only [Act.put, List.setIfInBounds_toArray])
            refine wpAnyH_take (i := 19) (oi := _) (v := (.pointer (some ⟨go, J, none⟩))) rfl (by kernel_rfl) (by kernel_rfl) (by kernel_rfl) (fun _ _ _ h => h) (Or.inl ⟨by rfl, ?h35⟩) (HS.out _ HB7.out) ?r35
            case h35 => (intro w hSw; (try dsimp only at hSw); obtain ⟨q0, q1, q2⟩ := hSw; go_simp; (try with_reducible rfl))
            simp only [Act.put]
            refine wpAnyH_ready (rs := [20]) (by kernel_rfl) (by simp) ?_
            refine AllReadyH.cons (o := _) rfl (fun K hK => ?_) AllReadyH.nil
            go_simp
            refine hK.out _ _ (HS.out _ HBf.out) (fun _ => ?_)
            clear hK K
            (try simp only [Act.put, List.setIfInBounds_toArray, List.set_cons_zero, List.set_cons_succ])
            refine wpAnyH_done (by kernel_rfl) ?_ _
            clear c7 hf7 e9 e9a hS0
            obtain ⟨wf, hwf⟩ : ∃ wf, w7.setCell ⟨go, J, none⟩ (.slice (some ⟨g7, 0, none⟩) (rw_.length + 1) cap) = wf := ⟨_, rfl⟩
            have hBf := HBf.out
            have hNf := HN7.out
            rw [hwf] at hBf hNf ⊢
            have hMf := HMr.out.keep (hBf.block _ hbm.out)
            have hIf := HI.out.below hBf hgg3.out
            have HBf' := Lib.hid (HB.out.trans (hBf.mono hb23.out))
            have HNf : Hid (NsAt wf w3.heap.size (.slice (some ⟨go, 0, none⟩) n c9) (vals.set J (.slice (some ⟨g7, 0, none⟩) (rw_.length + 1) cap)) (gsF vs ax (k + 1))) := by
              have h := hNf
              rw [hJrow.out, hput.out] at h; exact h
            have HMf := Lib.hid hMf
            have HIf := Lib.hid hIf
            have hsf : w3.heap.size ≤ wf.heap.size := by have := hBf.size; omega
            clear hwf hBf hNf hMf hIf
            go_wp2_with fail
            exact ⟨⟨k + 1, _, by omega, by go_num, HBf', HMf, HIf, HNf, hsf⟩, by simp [intOf]; omega⟩
          · go_simp
            refine hK.out _ _ (HS.out _ HBa.out) (fun _ => ?_)
            clear hK K
            (try simp only [Act.put, List.setIfInBounds_toArray, List.set_cons_zero, List.set_cons_succ])
            obtain ⟨wa, hwa⟩ : ∃ wa, (wr.alloc (.cells #[.string nm] 9)).drew = wa := ⟨_, rfl⟩
            have hza : wa.heap.size = wr.heap.size + 1 := by rw [← hwa]; show (wr.alloc _).heap.size = _; simp
            rw [hwa] at e9a HNa Hrow Xa HBa ⊢
            clear hwa
            refine wpAnyH_ready (rs := [9]) (by kernel_rfl) (by simp) ?_
            refine AllReadyH.cons (o := _) rfl (fun K hK => ?_) AllReadyH.nil
            go_simp
            refine hK.out _ _ (HS.out _ HBa.out) (fun _ => ?_)
            clear hK K
            (try simp only [Act.put, List.setIfInBounds_toArray, List.set_cons_zero, List.set_cons_succ])
            refine wpAnyH_ready (rs := [18]) (by kernel_rfl) (by simp) ?_
            refine AllReadyH.cons (o := _) rfl (fun K hK => ?_) AllReadyH.nil
            refine step_append_lies _ (by rfl) (.tmp 49) (.tmp 57) _ (by rfl) w3.heap.size 9 i0 _ 1 16 Try.underlying60 hi0 hi1 hi2 hi3 rfl (by omega) vj rw_.length (sC rw_) (by rfl) Hrow.out ⟨wr.heap.size, 0, none⟩ 1 1 [.string nm] (by rfl) (by rfl) (World.news_of_block (cs := #[.string nm]) (fr := (0, 0)) Xa.out) (by intro u hu; simp at hu; subst hu; rfl) (by omega) (by unfold maxLen; omega) (by omega) (by omega) (wr.heap.size + 1) hza ?_
            intro g7 cap w7 hown hgrow hat hlt7
            have hB7 := HBa.out.grown hgrow (by omega) (fun j e => (Hrow.out.lt j e).1)
            have hN7 := HNa.out.add (s := nm) (by rw [hJr.out]; exact hJn.out) (by rw [hvj.out]; exact hgrow) (by rw [hJr2.out]; exact hown) (g := g7) rfl (by rw [hvj.out, hza]; exact hat) hov.out hgrow.size
            have hout7 := (HNa.out.out.kept hgrow (own_ne HNa.out.out Hrow.out (by decide)))
            have hBf := hB7.setCell (p := ⟨go, J, none⟩) hgo.out (.slice (some ⟨g7, 0, none⟩) (rw_.length + 1) cap)
            have hc7 : ∃ u, w7.cell? ⟨go, J, none⟩ = some u := cell_own hout7 hov.out (by rw [hvl.out]; exact hJn.out)
            have hf7 : w7.frozen? ⟨go, J, none⟩ = false := frozen_own hout7 hov.out J
            obtain ⟨u7, c7⟩ := hc7
            have HB7 := Lib.hid hB7
            have HBf := Lib.hid hBf
            have HN7 := Lib.hid hN7
            clear hown hgrow hat hB7 hN7 hout7 hBf
            refine hK.out _ _ (HS.out _ HB7.out) (fun _ => ?_)
            clear hK K
            (try simp only [Act.put, List.setIfInBounds_toArray])
            refine wpAnyH_take (i := 19) (oi := _) (v := (.pointer (some ⟨go, J, none⟩))) rfl (by kernel_rfl) (by kernel_rfl) (by kernel_rfl) (fun _ _ _ h => h) (Or.inl ⟨by rfl, ?h36⟩) (HS.out _ HB7.out) ?r36
            case h36 => (intro w hSw; (try dsimp only at hSw); obtain ⟨q0, q1, q2⟩ := hSw; go_simp; (try with_reducible rfl))
            simp only [Act.put]
            refine wpAnyH_ready (rs := [20]) (by kernel_rfl) (by simp) ?_
            refine AllReadyH.cons (o := _) rfl (fun K hK => ?_) AllReadyH.nil
            go_simp
            refine hK.out _ _ (HS.out _ HBf.out) (fun _ => ?_)
            clear hK K
            (try simp only [Act.put, List.setIfInBounds_toArray, List.set_cons_zero, List.set_cons_succ])
            refine wpAnyH_done (by kernel_rfl) ?_ _
            clear c7 hf7 e9 e9a hS0
            obtain ⟨wf, hwf⟩ : ∃ wf, w7.setCell ⟨go, J, none⟩ (.slice (some ⟨g7, 0, none⟩) (rw_.length + 1) cap) = wf := ⟨_, rfl⟩
            have hBf := HBf.out
            have hNf := HN7.out
            rw [hwf] at hBf hNf ⊢
            have hMf := HMr.out.keep (hBf.block _ hbm.out)
            have hIf := HI.out.below hBf hgg3.out
            have HBf' := Lib.hid (HB.out.trans (hBf.mono hb23.out))
            have HNf : Hid (NsAt wf w3.heap.size (.slice (some ⟨go, 0, none⟩) n c9) (vals.set J (.slice (some ⟨g7, 0, none⟩) (rw_.length + 1) cap)) (gsF vs ax (k + 1))) := by
              have h := hNf
              rw [hJrow.out, hput.out] at h; exact h
            have HMf := Lib.hid hMf
            have HIf := Lib.hid hIf
            have hsf : w3.heap.size ≤ wf.heap.size := by have := hBf.size; omega
            clear hwf hBf hNf hMf hIf
            go_wp2_with fail
            exact ⟨⟨k + 1, _, by omega, by go_num, HBf', HMf, HIf, HNf, hsf⟩, by simp [intOf]; omega⟩
      · obtain rfl : k = N := by omega
        have hF : gsF vs ax k = gsX vs ax := by unfold gsX; rw [HN.out]
        go_wp2_with fail
        exact HR2.out (by simp) u9 vals wr (HB2.out.trans (HB.out.mono sB2)) (by rw [← hF]; exact HNs.out.mono (by have := hb23.out; omega))
  · have K : (E != 0) = true := by simpa using h0
    have h0' := Lib.hid h0
    clear h0
    go_wp2_with fail
    exact HR1.out h0'.out w1 HB1.out
end Go.Proofs.Ytlgjhjgdmomfoaa
namespace Go.Proofs.Ytlgjhjgdmomfoaa
open Go.RowKit Go.Maps

set_option maxRecDepth 100000 in
set_option maxHeartbeats 2000000 in
theorem equalS_same (ao ao2 : Option Addr) (ks : List ByteArray) (n c c2 : Nat) (w : World) (R : Ending → World → Prop) (hn : ks.length = n) (hn' : n ≤ 1000000) (hc : CellsAt w ao (sC ks)) (hc2 : CellsAt w ao2 (sC ks))
   (hR : ∀ w', Drew w w' → R (.returned (.bool true)) w') :
    Calls Try.prog 30 #[.slice ao n c, .slice ao2 n c2] w R := by
  subst hn
  have HR := Lib.hid hR
  have HC := Lib.hid hc
  have HC2 := Lib.hid hc2
  clear hR hc hc2
  go_enter Try.func30, Try.ntmps30
  go_wp2_with fail
  go_loopw [13] (fun j wr => ∃ k : Nat, k ≤ ks.length ∧ j = .int .i64 k ∧ Drew w wr) (fun j _ => ks.length - (intOf j).toNat)
  case atStart => exact ⟨0, Nat.zero_le _, rfl, Drew.refl _⟩
  case round =>
    obtain ⟨k, hk, rfl, ⟨q, rfl⟩⟩ := hrel
    by_cases hlt : k < ks.length
    · obtain ⟨b, o, rfl, _, hcell⟩ := HC.out.strs (by omega)
      have d0 := hcell k hlt
      clear hcell
      obtain ⟨b2, o2, rfl, _, hcell⟩ := HC2.out.strs (by omega)
      have d1 := hcell k hlt
      obtain ⟨u, hu⟩ : ∃ u, kat ks k = u := ⟨_, rfl⟩
      rw [hu] at d0 d1
      have hs1 : (u.toList == u.toList) = true := by simp
      clear hcell hu
      go_wp2_with fail
      go_quiet (fail)
      go_wp2_with fail
      exact ⟨⟨k + 1, by omega, by go_num, (by repeat first | exact Drew.refl _ | apply Drew.drewN)⟩, by simp [intOf]; omega⟩
    · go_wp2_with fail
      exact HR.out _ (by repeat first | exact Drew.refl _ | apply Drew.drewN)
set_option maxRecDepth 100000 in
set_option maxHeartbeats 2000000 in
theorem equalI_same (ao ao2 : Option Addr) (xs : List Int) (n c c2 : Nat) (w : World) (R : Ending → World → Prop) (hn : xs.length = n) (hn' : n ≤ 1000000) (hc : CellsAt w ao (I64s xs)) (hc2 : CellsAt w ao2 (I64s xs))
   (hR : ∀ w', Drew w w' → R (.returned (.bool true)) w') :
    Calls Try.prog 18 #[.slice ao n c, .slice ao2 n c2] w R := by
  subst hn
  have HR := Lib.hid hR
  have HC := Lib.hid hc
  have HC2 := Lib.hid hc2
  clear hR hc hc2
  go_enter Try.func18, Try.ntmps18
  go_wp2_with fail
  go_loopw [13] (fun j wr => ∃ k : Nat, k ≤ xs.length ∧ j = .int .i64 k ∧ Drew w wr) (fun j _ => xs.length - (intOf j).toNat)
  case atStart => exact ⟨0, Nat.zero_le _, rfl, Drew.refl _⟩
  case round =>
    obtain ⟨k, hk, rfl, ⟨q, rfl⟩⟩ := hrel
    by_cases hlt : k < xs.length
    · obtain ⟨b, o, rfl, _, hcell⟩ := HC.out.ints (by omega)
      have d0 := hcell k hlt
      clear hcell
      obtain ⟨b2, o2, rfl, _, hcell⟩ := HC2.out.ints (by omega)
      have d1 := hcell k hlt
      obtain ⟨u, hu⟩ : ∃ u, at0 xs k = u := ⟨_, rfl⟩
      rw [hu] at d0 d1
      have hs1 : (u != u) = false := by simp
      clear hcell hu
      go_wp2_with fail
      go_quiet (fail)
      go_wp2_with fail
      exact ⟨⟨k + 1, by omega, by go_num, (by repeat first | exact Drew.refl _ | apply Drew.drewN)⟩, by simp [intOf]; omega⟩
    · go_wp2_with fail
      exact HR.out _ (by repeat first | exact Drew.refl _ | apply Drew.drewN)
theorem CellsAt.poss {w : World} {ao : Option Addr} {vs : List Ps} (h : CellsAt w ao (poC vs)) (h0 : 0 < vs.length) :
    ∃ b o, ao = some ⟨b, o, none⟩ ∧ b < w.heap.size ∧ ∀ i, i < vs.length → w.cell? ⟨b, o + i * 2, none⟩ = some (.string (psAt vs i).n) ∧ w.cell? ⟨b, o + i * 2 + 1, none⟩ = some (.int .i64 (psAt vs i).a) := by
  obtain ⟨b, o, e, hl, _⟩ := h (by rw [poC_length]; omega)
  refine ⟨b, o, e, hl, fun i hi => ?_⟩
  obtain ⟨h1, h2⟩ := poC_get vs i hi
  exact ⟨h.get e h1, h.get e h2⟩
theorem neqP (n : ByteArray) (a : Int) (w : World) : (binOp .neq 56 (.agg #[.string n, .int .i64 a]) (.agg #[.string n, .int .i64 a])).run Try.prog w = .ok (.bool false) w := by
  have hs1 : (n.toList == n.toList) = true := by simp
  have hs2 : (a == a) = true := by simp
  go_simp
set_option maxRecDepth 100000 in
set_option maxHeartbeats 2000000 in
theorem equalP_same (ao ao2 : Option Addr) (xs : List Ps) (n c c2 : Nat) (w : World) (R : Ending → World → Prop) (hn : xs.length = n) (hn' : n ≤ 1000000) (hc : CellsAt w ao (poC xs)) (hc2 : CellsAt w ao2 (poC xs))
   (hR : ∀ w', Drew w w' → R (.returned (.bool true)) w') :
    Calls Try.prog 44 #[.slice ao n c, .slice ao2 n c2] w R := by
  subst hn
  have HR := Lib.hid hR
  have HC := Lib.hid hc
  have HC2 := Lib.hid hc2
  clear hR hc hc2
  have hnq := neqP
  go_enter Try.func44, Try.ntmps44
  go_wp2_with fail
  go_loopw [13] (fun j wr => ∃ k : Nat, k ≤ xs.length ∧ j = .int .i64 k ∧ Drew w wr) (fun j _ => xs.length - (intOf j).toNat)
  case atStart => exact ⟨0, Nat.zero_le _, rfl, Drew.refl _⟩
  case round =>
    obtain ⟨k, hk, rfl, ⟨q, rfl⟩⟩ := hrel
    by_cases hlt : k < xs.length
    · obtain ⟨b, o, rfl, _, hcell⟩ := HC.out.poss (by omega)
      obtain ⟨d0, d1⟩ := hcell k hlt
      clear hcell
      obtain ⟨b2, o2, rfl, _, hcell⟩ := HC2.out.poss (by omega)
      obtain ⟨d2, d3⟩ := hcell k hlt
      obtain ⟨u, hu⟩ : ∃ u, psAt xs k = u := ⟨_, rfl⟩
      rw [hu] at d0 d1 d2 d3
      clear hcell hu
      go_wp2_with fail
      go_quiet (fail)
      go_wp2_with fail
      exact ⟨⟨k + 1, by omega, by go_num, (by repeat first | exact Drew.refl _ | apply Drew.drewN)⟩, by simp [intOf]; omega⟩
    · go_wp2_with fail
      exact HR.out _ (by repeat first | exact Drew.refl _ | apply Drew.drewN)

/-! ### lists of lists -/
structure NsC (W : World) (ao : Option Addr) (rows : List (List ByteArray)) : Prop where
  ex : ∃ vals, vals.length = rows.length ∧ CellsAt W ao vals ∧ ∀ j, j < rows.length → ∃ a c, vAt vals j = .slice a (rAt rows j).length c ∧ CellsAt W a (sC (rAt rows j))
theorem NsC.below {W W' : World} {ao : Option Addr} {rows : List (List ByteArray)} (h : NsC W ao rows) (hb : Below W.heap.size W W') : NsC W' ao rows := by
  obtain ⟨vals, h1, h2, h3⟩ := h.ex
  refine ⟨vals, h1, h2.below hb, fun j hj => ?_⟩
  obtain ⟨a, c, h4, h5⟩ := h3 j hj
  exact ⟨a, c, h4, h5.below hb⟩
theorem NsC.at {W : World} {ao : Option Addr} {rows : List (List ByteArray)} (h : NsC W ao rows) {j : Nat} (hj : j < rows.length) : ∃ b o a c, ao = some ⟨b, o, none⟩ ∧ W.cell? ⟨b, o + j, none⟩ = some (.slice a (rAt rows j).length c) ∧ CellsAt W a (sC (rAt rows j)) := by
  obtain ⟨vals, h1, h2, h3⟩ := h.ex
  obtain ⟨a, c, h4, h5⟩ := h3 j hj
  obtain ⟨b, o, e, _, _⟩ := h2 (by omega)
  refine ⟨b, o, a, c, e, ?_, h5⟩
  have h6 : vals[j]? = some (vAt vals j) := by
    unfold vAt
    rw [List.getD_eq_getElem?_getD, List.getElem?_eq_getElem (by omega)]; rfl
  rw [← h4]
  exact h2.get e h6
theorem NsAt.reads {W : World} {base : Nat} {ov : Value} {vals : List Value} {rows : List (List ByteArray)} (h : NsAt W base ov vals rows) : ∃ ao c, ov = .slice ao rows.length c ∧ NsC W ao rows := by
  obtain ⟨ao, c, h1, h2, _⟩ := ownsRow_read h.out
  refine ⟨ao, c, by rw [h1, h.len], vals, h.len, h2, fun j hj => ?_⟩
  obtain ⟨a, c', h3, h4, _⟩ := ownsRow_read (h.row j hj)
  exact ⟨a, c', h3, h4⟩
set_option maxRecDepth 100000 in
set_option maxHeartbeats 4000000 in
theorem sameGroups_same (ao ao2 : Option Addr) (rows : List (List ByteArray)) (n c c2 : Nat) (w : World) (R : Ending → World → Prop) (hn : rows.length = n) (hn' : n ≤ 1000000) (hl : ∀ j, j < rows.length → (rAt rows j).length ≤ 1000000) (hc : NsC w ao rows) (hc2 : NsC w ao2 rows)
   (hR : ∀ w', Drew w w' → R (.returned (.bool true)) w') :
    Calls Try.prog 31 #[.slice ao n c, .slice ao2 n c2] w R := by
  subst hn
  have HR := Lib.hid hR
  have HC := Lib.hid hc
  have HC2 := Lib.hid hc2
  have HL := Lib.hid hl
  clear hR hc hc2 hl
  go_enter Try.func31, Try.ntmps31
  go_wp2_with fail
  go_loopw [5] (fun j wr => ∃ k : Nat, k ≤ rows.length ∧ j = .int .i64 k ∧ Drew w wr) (fun j _ => rows.length - (intOf j).toNat)
  case atStart => exact ⟨0, Nat.zero_le _, rfl, Drew.refl _⟩
  case round =>
    obtain ⟨k, hk, rfl, ⟨q, rfl⟩⟩ := hrel
    by_cases hlt : k < rows.length
    · obtain ⟨b, o, a, c1, rfl, d0, da⟩ := HC.out.at hlt
      obtain ⟨b2, o2, a2, c3, rfl, d1, da2⟩ := HC2.out.at hlt
      have DA := Lib.hid da
      have DA2 := Lib.hid da2
      have hkl := HL.out k hlt
      obtain ⟨r, hr⟩ : ∃ r, rAt rows k = r := ⟨_, rfl⟩
      rw [hr] at d0 d1 DA DA2 hkl
      have hs1 : ((r.length : Int) != (r.length : Int)) = false := by simp
      clear da da2 hr
      go_wp2_with fail
      go_quiet (fail)
      go_wp2_with fail
      go_loopw [6] (fun j wr => ∃ m : Nat, m ≤ r.length ∧ j = .int .i64 m ∧ Drew w wr) (fun j _ => r.length - (intOf j).toNat)
      case atStart => exact ⟨0, Nat.zero_le _, rfl, (by repeat first | exact Drew.refl _ | apply Drew.drewN)⟩
      case round =>
        obtain ⟨m, hm, rfl, ⟨q2, rfl⟩⟩ := hrel
        by_cases hlm : m < r.length
        · obtain ⟨b3, o3, rfl, _, hcell⟩ := DA.out.strs (by omega)
          have e0 := hcell m hlm
          clear hcell
          obtain ⟨b4, o4, rfl, _, hcell⟩ := DA2.out.strs (by omega)
          have e1 := hcell m hlm
          obtain ⟨u, hu⟩ : ∃ u, kat r m = u := ⟨_, rfl⟩
          rw [hu] at e0 e1
          have hs2 : (u.toList == u.toList) = true := by simp
          clear hcell hu
          go_wp2_with fail
          go_quiet (fail)
          go_wp2_with fail
          exact ⟨⟨m + 1, by omega, by go_num, (by repeat first | exact Drew.refl _ | apply Drew.drewN)⟩, by simp [intOf]; omega⟩
        · go_wp2_with fail
          exact ⟨⟨k + 1, by omega, by go_num, (by repeat first | exact Drew.refl _ | apply Drew.drewN)⟩, by simp [intOf]; omega⟩
    · go_wp2_with fail
      exact HR.out _ (by repeat first | exact Drew.refl _ | apply Drew.drewN)
end Go.Proofs.Ytlgjhjgdmomfoaa
