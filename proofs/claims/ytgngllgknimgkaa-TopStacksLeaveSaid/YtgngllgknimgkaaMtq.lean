/- The walk of a level of grow that has not come to the end. (Printed by gen_level.py.) grow: all chains, by induction on the names that are left. The walk of All (draft: stands behind joined). The insertion into a map of a literal; the worlds in which All starts to grow. The walk of All. low and high of package stack; the walk of chain of package loop where the chain is right. Check of loop and of stack, and 'of', where the chain is right. -/
import Derived.Test.YtgngllgknimgkaaMti
import Derived.Laws.EntriesVeiled
namespace Go.Proofs.Ytgngllgknimgkaa
open Go.RowKit Go.Maps

theorem enT_size13 {vs : List Dm} (hv : DmsOk vs) {s : Sp} (hk : knS vs.length s = true) : (enT vs s).size ≤ maxLen := by
  obtain ⟨h0, h1⟩ := knS_iff.1 hk
  have h := hv s.i.toNat (by omega)
  unfold enT
  split
  · exact h.1
  · exact h.2
theorem GOut.below {W W' : World} {G : GB} {Z : Nat → Prop} {vo : Value} {outs : List (List Sp)} (h : GOut W G Z vo outs) (hb : Below W.heap.size W W') : GOut W' G Z vo outs := by
  obtain ⟨q0, us, q2, q3, q4⟩ := h
  exact ⟨(hb.block G.bo (lt_of_block q0)).trans q0, us, q2, ownsRow_below q3 hb, fun i hi => chAt_keep (q4 i hi) hb.size (fun j _ g2 _ _ => hb.block j g2) (fun _ _ h => h)⟩
theorem GOut.grown {W W' : World} {G : GB} {Z Z' : Nat → Prop} {vo : Value} {outs : List (List Sp)} (h : GOut W G Z vo outs) {row : Option Nat} (hg : W.grownBy W' row) (h1 : row ≠ some G.bo) (h2 : ∀ j, vo.ownBlock = some j → row ≠ some j) (h3 : ∀ j, G.B0 ≤ j → j < W.heap.size → ¬ Z j → row ≠ some j) (h4 : ∀ j, j < W.heap.size → ¬ Z j → ¬ Z' j) : GOut W' G Z' vo outs := by
  obtain ⟨q0, us, q2, q3, q4⟩ := h
  exact ⟨(hg.block G.bo (lt_of_block q0) (fun e => h1 e.symm)).trans q0, us, q2, ownsRow_at q3 fun j e => hg.block j (q3.lt j e).2 (fun e2 => h2 j e e2.symm), fun i hi => chAt_keep (q4 i hi) hg.size (fun j g1 g2 g3 _ => hg.block j g2 (fun e => h3 j g1 g2 g3 e.symm)) h4⟩
set_option maxRecDepth 100000 in
set_option maxHeartbeats 16000000 in
theorem grow_level (G : GB) (vs : List Dm) (ax : Int) (f t s : ByteArray) (P : List ByteArray) (g : Sp → List (List Sp)) (N : Nat) (hv6 : vs.length ≤ 256) (hv : DmsOk vs) (hst : sameD s t = false) (hPl : P.length ≤ 900) (hs : s.size ≤ maxLen)
   (hL : (ntL vs ax vs.length s).length ≤ 1000) (hkn : ∀ y ∈ ntL vs ax vs.length s, knS vs.length y = true)
   (hrec : ∀ y ∈ ntL vs ax vs.length s, hasL P (enT vs y) = false → GrowAt G vs ax f t (enT vs y) (P ++ [enT vs y]) (g y) N) : GrowAt G vs ax f t s P (stR vs P g (ntL vs ax vs.length s)) ((ntL vs ax vs.length s).length * (N + 2)) := by
  intro cs Z v vo outs K W R hE hv0 hZ1 hZ hO hP hcl hmax hKN hR
  obtain ⟨L, hLe⟩ : ∃ L, ntL vs ax vs.length s = L := ⟨_, rfl⟩
  have hE0 := hE
  obtain ⟨Kn, fn, hnm, hnr⟩ := hE.net
  obtain ⟨ra, rc, hrv, hrc, hrb⟩ := hnr s
  rw [hLe] at hrv hrc hL hkn hrec hmax hKN hR
  obtain ⟨ca, cc, rfl, hcc, hcn⟩ := ownsRow_read hv0
  have HE := Lib.hid hE
  have HV := Lib.hid hv
  have HV0 := Lib.hid hv0
  have HO := Lib.hid hO
  have HZ1 := Lib.hid hZ1
  have HZ := Lib.hid hZ
  have HP := Lib.hid hP
  have HR := Lib.hid hR
  have HREC := Lib.hid hrec
  have HKN := Lib.hid hkn
  have HNM := Lib.hid hnm
  have HRC := Lib.hid hrc
  have HRB := Lib.hid hrb
  have hok := Lib.hid hE.ok
  have n0 : W.cell? ⟨G.bn, 0, none⟩ = some (.map (some G.mn)) := cell_of hE.n rfl
  have x2 : W.cell? ⟨G.bx, 2, none⟩ = some (.string t) := cell_of hE.x rfl
  have hs1 : (s.toList == t.toList) = false := hst
  clear hZ1 hZ hE hE0 hnr hnm hrc hrb hcc hcn hv hv0 hO hP hR hrec hkn hst
  go_enter Try.func15, Try.ntmps15
  go_wp2_with (at_lookup; refine wp_mapLook _ rfl _ _ 49 rfl 9 35 Try.underlying9 Try.underlying49 G.mn Kn fn rfl HNM.out (zeroK _) s rfl hs _ hrv ?_)
  go_loopw [32] (fun j wr => ∃ (k : Nat) (vo' : Value) (K' : Nat), k ≤ L.length ∧ j = .int .i64 k ∧ Hid (Fr (GS G (.slice ca cs.length cc) vo) W wr) ∧ Hid (wr.ownsRow G.B0 46 2 (.slice ca cs.length cc) cs.length (pC cs)) ∧ Hid (GOut wr G Z vo' (outs ++ (stR vs P g (L.take k)).map (cs ++ ·))) ∧ Hid (PasAt wr G K' P) ∧ K' ≤ K + k * (N + 2) ∧ Hid (∀ j, j < W.heap.size → vo'.ownBlock = some j → vo.ownBlock = some j)) (fun j _ => L.length - (intOf j).toNat)
  case atStart => exact ⟨0, vo, K, Nat.zero_le _, rfl, Fr.refl _ _, HV0.out, by unfold Hid; simpa [stR] using HO.out, HP.out, by omega, fun _ _ h => h⟩
  case round =>
    obtain ⟨k, vo', K', hk, rfl, HF, HVr, HOr, HPr, hKr, HW⟩ := hrel
    have hvl : ∀ j, (Value.slice ca cs.length cc).ownBlock = some j → G.B0 ≤ j := fun j e => (HV0.out.lt j e).1
    have hvol : ∀ j, vo.ownBlock = some j → G.B0 ≤ j := fun j e => by obtain ⟨_, us, _, ho, _⟩ := HO.out; exact (ho.lt j e).1
    have HEr := Lib.hid (HE.out.fr HF.out hvl hvol)
    by_cases hlt : k < L.length
    · obtain ⟨y, hy⟩ : ∃ y, pAt L k = y := ⟨_, rfl⟩
      have hyL : y ∈ L := by rw [← hy, pAt_lt hlt]; exact List.getElem_mem _
      have hky := HKN.out y hyL
      have HCr : Hid (CellsAt wr ra (pC L)) := cellsAt_block HRC.out fun a e _ => fr_low HF.out HE.out.size hvl hvol (by have := HRB.out a e; have := hok.out.h4; have := hok.out.h5; have := hok.out.h6; have := hok.out.h7; have := hok.out.h8; have := hok.out.h9; omega) (by have := HRB.out a e; have := hok.out.h4; have := hok.out.h5; omega) (by have := HRB.out a e; have := hok.out.h4; have := hok.out.h5; have := hok.out.h6; omega)
      obtain ⟨rb, ro, rfl, hrbl, hrcell⟩ := HCr.out.sps (by omega)
      obtain ⟨d0, d1⟩ := hrcell k hlt
      rw [hy] at d0 d1
      clear hrcell
      obtain ⟨w4, E4', U4, s4, X4⟩ := box_ex wr #[.int .i64 y.i, .bool y.b] 46
      have E4 := Lib.hid E4'
      clear E4'
      have sE := HEr.out.size
      have hbl4 : G.bl < wr.heap.size := by have := hok.out.h1; have := hok.out.h4; have := hok.out.h5; have := hok.out.h6; have := hok.out.h7; have := hok.out.h8; have := hok.out.h9; omega
      have l4 := cellB U4.out (cell_of HEr.out.l (j := 0) rfl) hbl4
      have b40 := cell_of X4.out (j := 0) rfl
      have b41 := cell_of X4.out (j := 1) rfl
      have l4' := l4
      have b40' := b40
      have b41' := b41
      rw [← E4.out] at l4' b40' b41'
      go_wp2_with fail
      rw [E4.out]
      clear E4 l4' b40' b41'
      refine ends13_any G.ao vs G.c y w4 _ (HEr.out.dims.1.below U4.out) hky fun w5 hb5 => ?_
      have U5 : Hid (Below wr.heap.size wr w5) := U4.out.trans (hb5.mono (Nat.le_of_lt s4))
      have hbp5 : G.bp < wr.heap.size := by have := hok.out.h8; have := hok.out.h9; omega
      have p5 := cellB U5.out (cell_of HEr.out.p (j := 0) rfl) hbp5
      have g0 := cellB hb5 b40 s4
      have g1 := cellB hb5 b41 s4
      have s5 : wr.heap.size < w5.heap.size := Nat.lt_of_lt_of_le s4 hb5.size
      have HE5 := Lib.hid (HEr.out.keep U5.out.size fun j hj _ _ => U5.out.block j (by omega))
      have HV5 := Lib.hid (ownsRow_below HVr.out U5.out)
      have HO5 := Lib.hid (HOr.out.below U5.out)
      have HF5 : Hid (Fr (GS G (.slice ca cs.length cc) vo) W w5) := HF.out.trans (Fr.of_below U5.out) (fun _ _ h => h) (fun _ _ h => h)
      obtain ⟨fp, hpm, hpf⟩ := HPr.out
      have M5 := Lib.hid (hpm.below U5.out hpm.lt)
      have PF := Lib.hid hpf
      have hTs : (enT vs y).size ≤ maxLen := enT_size13 HV.out hky
      have hRS : Hid (stR vs P g (L.take (k + 1)) = stR vs P g (L.take k) ++ stR vs P g [y]) := by unfold Hid; rw [stR_succ hlt, hy]
      have hRO : Hid (stR vs P g [y] = if hasL P (enT vs y) = true then [] else (g y).map (y :: ·)) := stR_one vs P g y
      have hrle := stR_le vs P g L (k + 1)
      have hREC1 := Lib.hid (HREC.out y hyL)
      obtain ⟨T, hT⟩ : ∃ T, enT vs y = T := ⟨_, rfl⟩
      obtain ⟨F, hF⟩ : ∃ F, enF vs y = F := ⟨_, rfl⟩
      rw [hT] at hTs hRO hREC1 ⊢
      rw [hF]
      clear hpm hpf hb5 hT hF l4 b40 b41 hyL
      cases hb : hasL P T with
      | true =>
        have hfp : (fp T).getD (.bool false) = .bool true := by rw [PF.out, hb]
        have hR1 : Hid (stR vs P g (L.take (k + 1)) = stR vs P g (L.take k)) := by unfold Hid; rw [hRS.out, hRO.out, hb]; simp
        clear hb
        go_wp2_with (at_lookup; refine wp_mapLook _ rfl _ _ 52 rfl 9 4 Try.underlying9 Try.underlying52 G.mp K' fp rfl M5.out (zeroB22 _) T rfl hTs _ hfp ?_)
        exact ⟨⟨k + 1, vo', K', by omega, by go_num, HF5, HV5, by unfold Hid; rw [hR1.out]; exact HO5.out, ⟨fp, M5.out, PF.out⟩, by rw [Nat.add_mul]; omega, HW⟩, by simp [intOf]; omega⟩
      | false =>
        have hfp : (fp T).getD (.bool false) = .bool false := by rw [PF.out, hb]
        have hR1 : Hid (stR vs P g (L.take (k + 1)) = stR vs P g (L.take k) ++ (g y).map (y :: ·)) := by unfold Hid; rw [hRS.out, hRO.out, hb]; simp
        have hREC2 := Lib.hid (hREC1.out hb)
        have HB0 := Lib.hid hb
        have hKb : k * (N + 2) + (N + 2) ≤ L.length * (N + 2) := by have h := Nat.mul_le_mul_right (N + 2) (show k + 1 ≤ L.length from hlt); rw [Nat.add_mul, Nat.one_mul] at h; exact h
        clear hb
        go_wp2_with (first | (at_lookup; refine wp_mapLook _ rfl _ _ 52 rfl 9 4 Try.underlying9 Try.underlying52 G.mp K' fp rfl M5.out (zeroB22 _) T rfl hTs _ hfp ?_) | (at_mapUpdate; refine wp_mapStore _ rfl _ _ _ 52 rfl 9 4 Try.underlying9 Try.underlying52 G.mp K' fp rfl M5.out (by unfold maxLen; omega) T (.bool true) rfl rfl hTs ?_; intro w6 h6 g6; have M6 := Lib.hid h6; have G6 := Lib.hid g6; clear h6 g6))
        have s6 := G6.out.size
        have ok1 := hok.out.h4
        have ok2 := hok.out.h5
        have ok3 := hok.out.h6
        have ok4 := hok.out.h7
        have ok5 := hok.out.h8
        have ok6 := hok.out.h9
        have hbgB : G.bg < G.B0 := ok6
        have hbg6 : G.bg < w6.heap.size := by omega
        have hxb6 : wr.heap.size < w6.heap.size := by omega
        have HE6 := Lib.hid (HE5.out.keep G6.out.size fun j hj _ n2 => G6.out.block j (by omega) (fun e => n2 (Option.some.inj e)))
        have HV6 := Lib.hid (ownsRow_at HV5.out fun j e => G6.out.block j (HV5.out.lt j e).2 (fun e2 => by have := (HV5.out.lt j e).1; have := Option.some.inj e2; omega))
        have HO6 : Hid (GOut w6 G Z vo' (outs ++ (stR vs P g (L.take k)).map (cs ++ ·))) := HO5.out.grown G6.out (fun e => by have := Option.some.inj e; omega) (fun j e e2 => by obtain ⟨_, us, _, q3, _⟩ := HO5.out; have := (q3.lt j e).1; have := Option.some.inj e2; omega) (fun j g1 _ _ e2 => by have := Option.some.inj e2; omega) (fun _ _ h => h)
        have HP6 : Hid (PasAt w6 G (K' + 1) (P ++ [T])) := pas_put PF.out M6.out
        have HF6 : Hid (Fr (GS G (.slice ca cs.length cc) vo) W w6) := HF5.out.trans (Fr.grown (S := GS G (.slice ca cs.length cc) vo) G6.out (fun j e _ => .inr (.inl (Option.some.inj e).symm))) (fun _ _ h => h) (fun _ _ h => h)
        have e0 : w6.cell? ⟨G.bg, 0, none⟩ = some (.func (.func 15) #[] #[.pointer (some ⟨G.bx, 0, none⟩), .pointer (some ⟨G.bo, 0, none⟩), .pointer (some ⟨G.bn, 0, none⟩), .pointer (some ⟨G.bl, 0, none⟩), .pointer (some ⟨G.bp, 0, none⟩), .pointer (some ⟨G.bg, 0, none⟩)]) := cell_of HE6.out.g (j := 0) rfl
        have q6 := G6.out.block wr.heap.size s5 (fun e => by have := Option.some.inj e; omega)
        have e1 := (World.cell?_of_block (a := ⟨wr.heap.size, 0, none⟩) q6).trans g0
        have e2 := (World.cell?_of_block (a := ⟨wr.heap.size, 1, none⟩) q6).trans g1
        obtain ⟨i0, hi0, hi1, hi2, hi3⟩ := info_parts Try.infoLk
        clear q6
        refine regionQ (fun w' => w'.cell? ⟨G.bg, 0, none⟩ = some (.func (.func 15) #[] #[.pointer (some ⟨G.bx, 0, none⟩), .pointer (some ⟨G.bo, 0, none⟩), .pointer (some ⟨G.bn, 0, none⟩), .pointer (some ⟨G.bl, 0, none⟩), .pointer (some ⟨G.bp, 0, none⟩), .pointer (some ⟨G.bg, 0, none⟩)]) ∧ w'.cell? ⟨wr.heap.size, 0, none⟩ = some (.int .i64 y.i) ∧ w'.cell? ⟨wr.heap.size, 1, none⟩ = some (.bool y.b)) (by kernel_rfl) (⟨e0, e1, e2⟩) (fun Qn hPQ hQn hS0 => ?_)
        refine takeQ (i := 0) (d := some 47) (v := ?_) rfl rfl (by kernel_rfl) (by kernel_rfl) (by kernel_rfl) hPQ hS0 (by kernel_rfl) ?_ ?_
        rotate_left
        · (intro w hSw; (try dsimp only at hSw); obtain ⟨k0, k1, k2⟩ := hSw; go_simp; (try with_reducible rfl))
        (try simp only [Act.put, List.setIfInBounds_toArray, List.set_cons_zero, List.set_cons_succ])
        refine takeQ (i := 1) (d := some 48) (v := ?_) rfl rfl (by kernel_rfl) (by kernel_rfl) (by kernel_rfl) hPQ hS0 (by kernel_rfl) ?_ ?_
        rotate_left
        · (intro w hSw; (try dsimp only at hSw); obtain ⟨k0, k1, k2⟩ := hSw; go_simp; (try with_reducible rfl))
        (try simp only [Act.put, List.setIfInBounds_toArray, List.set_cons_zero, List.set_cons_succ])
        refine takeQ (i := 2) (d := some 49) (v := ?_) rfl rfl (by kernel_rfl) (by kernel_rfl) (by kernel_rfl) hPQ hS0 (by kernel_rfl) ?_ ?_
        rotate_left
        · (intro w hSw; (try dsimp only at hSw); obtain ⟨k0, k1, k2⟩ := hSw; go_simp; (try with_reducible rfl))
        (try simp only [Act.put, List.setIfInBounds_toArray, List.set_cons_zero, List.set_cons_succ])
        refine takeQ (i := 3) (d := some 50) (v := ?_) rfl rfl (by kernel_rfl) (by kernel_rfl) (by kernel_rfl) hPQ hS0 (by kernel_rfl) ?_ ?_
        rotate_left
        · (intro w hSw; (try dsimp only at hSw); obtain ⟨k0, k1, k2⟩ := hSw; go_simp; (try with_reducible rfl))
        (try simp only [Act.put, List.setIfInBounds_toArray, List.set_cons_zero, List.set_cons_succ])
        refine wpAnyH_ready (rs := [4]) (by kernel_rfl) (by simp) ?_
        refine AllReadyH.cons (o := _) rfl (fun K hK => ?_) AllReadyH.nil
        go_simp
        have B7 : Hid (Below w6.heap.size w6 (w6.alloc (.cells #[.int .i64 y.i, .bool y.b] 46)).drew) := ((Below.refl _ _).alloc (Nat.le_refl _) _).drew
        have C7 : Hid ((w6.alloc (.cells #[.int .i64 y.i, .bool y.b] 46)).drew.heap[w6.heap.size]? = some (.cells #[.int .i64 y.i, .bool y.b] 46 (0, 0))) := World.alloc_heap_new w6 (.cells #[.int .i64 y.i, .bool y.b] 46)
        have zz7 : (w6.alloc (.cells #[.int .i64 y.i, .bool y.b] 46)).drew.heap.size = w6.heap.size + 1 := (by simp : (w6.alloc (.cells #[.int .i64 y.i, .bool y.b] 46)).heap.size = w6.heap.size + 1)
        obtain ⟨w7, hw7⟩ : ∃ w7, (w6.alloc (.cells #[.int .i64 y.i, .bool y.b] 46)).drew = w7 := ⟨_, rfl⟩
        rw [hw7] at B7 C7 zz7 ⊢
        clear hw7
        have HV7 := Lib.hid (ownsRow_below HV6.out B7.out)
        have HO7 := Lib.hid (HO6.out.below B7.out)
        have a0 := cellB B7.out e0 hbg6
        have a1 := cellB B7.out e1 hxb6
        have a2 := cellB B7.out e2 hxb6
        refine hK.out _ _ (⟨a0, a1, a2⟩) (fun hS1 => ?_)
        clear hK K hS0
        (try simp only [Act.put, List.setIfInBounds_toArray, List.set_cons_zero, List.set_cons_succ])
        refine wpAnyH_ready (rs := [5]) (by kernel_rfl) (by simp) ?_
        refine AllReadyH.cons (o := _) rfl (fun K hK => ?_) AllReadyH.nil
        refine step_append_two (by rfl) (.tmp 49) (.tmp 51) _ (by rfl) G.B0 46 i0 _ 2 16 Try.underlying35 hi0 hi1 hi2 hi3 rfl (by omega) (.slice ca cs.length cc) cs.length (pC cs) (by rfl) HV7.out ⟨w6.heap.size, 0, none⟩ 1 1 [.int .i64 y.i, .bool y.b] (by rfl) (by rfl) (World.news_of_block C7.out) (by intro u hu; simp at hu; rcases hu with rfl | rfl <;> rfl) (by omega) (by unfold maxLen; omega) (by omega) (by omega) ?_
        intro gg cap w8 hown hgrow htwo hglt
        have O8 := Lib.hid hown
        have G8 := Lib.hid hgrow
        have T8 := Lib.hid htwo
        have s8 := hgrow.size
        have qb : w8.heap[G.bg]? = w6.heap[G.bg]? := (hgrow.block G.bg (by omega) (low_ne HV7.out hbgB)).trans (B7.out.block G.bg hbg6)
        have qx : w8.heap[wr.heap.size]? = w6.heap[wr.heap.size]? := (hgrow.block wr.heap.size (by omega) (fun e => by have := (HVr.out.lt _ e.symm).2; omega)).trans (B7.out.block wr.heap.size hxb6)
        have b0 := (World.cell?_of_block (a := ⟨G.bg, 0, none⟩) qb).trans e0
        have b1 := (World.cell?_of_block (a := ⟨wr.heap.size, 0, none⟩) qx).trans e1
        have b2 := (World.cell?_of_block (a := ⟨wr.heap.size, 1, none⟩) qx).trans e2
        have QX := Lib.hid qx
        clear hown hgrow htwo qb qx
        refine hK.out _ _ (⟨b0, b1, b2⟩) (fun hS2 => ?_)
        clear hK K hS1
        (try simp only [Act.put, List.setIfInBounds_toArray, List.set_cons_zero, List.set_cons_succ])
        refine wpAnyH_ready (rs := [6]) (by kernel_rfl) (by simp) ?_
        refine AllReadyH.cons (o := _) rfl (fun K hK => ?_) AllReadyH.nil
        go_simp
        have V8 : ∀ j, (Value.slice (some ⟨gg, 0, none⟩) (cs.length + 1) cap).ownBlock = some j → j = gg := fun j e => by have e2 : gg = j := (by simpa [Value.ownBlock] using e); exact e2.symm
        have VL : ∀ j, (Value.slice ca cs.length cc).ownBlock = some j → G.B0 ≤ j ∧ j < wr.heap.size := fun j e => HVr.out.lt j e
        have W8 : Hid ((Value.slice ca cs.length cc).ownBlock = some gg ∨ w7.heap.size ≤ gg) := by
          rcases T8.out with e | ⟨_, e⟩
          · left; rw [e]; rfl
          · exact .inr e
        have HE8 := Lib.hid (HE6.out.keep (W' := w8) (by omega) fun j hj n1 n2 => (G8.out.block j (by omega) (low_ne HV7.out hj)).trans (B7.out.block j (by omega)))
        have HP8 : Hid (PasAt w8 G (K' + 1) (P ++ [T])) := by
          obtain ⟨f8, m8, r8⟩ := HP6.out
          exact ⟨f8, m8.keep ((G8.out.block G.mp (by omega) (low_ne HV7.out (by omega))).trans (B7.out.block G.mp (by omega))), r8⟩
        have HO8 : Hid (GOut w8 G (fun j => Z j ∨ j = gg) vo' (outs ++ (stR vs P g (L.take k)).map (cs ++ ·))) := by
          refine HO7.out.grown G8.out (fun e => by have := (VL _ e).1; omega) (fun j e e2 => ?_) (fun j _ _ nz e => nz (HZ1.out j e)) (fun j hj nz e => ?_)
          · obtain ⟨_, us, _, q3, _⟩ := HO7.out
            obtain ⟨c1, h1⟩ := own_elem q3 e
            obtain ⟨c2, h2⟩ := own_elem HV7.out e2
            rw [h1] at h2; cases h2
          · rcases e with e | e
            · exact nz e
            · rcases W8.out with h | h
              · exact nz (HZ1.out j (by rw [h, e]))
              · omega
        have OO8 : Hid (w8.ownsRow G.B0 46 2 (.slice (some ⟨gg, 0, none⟩) (cs.length + 1) cap) (cs ++ [y]).length (pC (cs ++ [y]))) := by unfold Hid; rw [List.length_append, pC_append]; exact O8.out
        have hvo8 : ∀ j, vo'.ownBlock = some j → G.B0 ≤ j ∧ j < wr.heap.size := fun j e => by obtain ⟨_, us, _, q3, _⟩ := HOr.out; exact q3.lt j e
        have hmx : (outs ++ (stR vs P g (L.take k)).map (cs ++ ·)).length + (g y).length < 16384 := by
          have h1 := congrArg List.length hR1.out
          rw [List.length_append, List.length_map] at h1
          rw [List.length_append, List.length_map]; omega
        have hsz6 := HF6.out.size
        refine hREC2.out (cs ++ [y]) (fun j => Z j ∨ j = gg) (.slice (some ⟨gg, 0, none⟩) (cs.length + 1) cap) vo' (outs ++ (stR vs P g (L.take k)).map (cs ++ ·)) (K' + 1) w8 _ HE8.out OO8.out (fun j e => .inr (V8 j e)) (fun j e => by rcases e with e | e; (have := HZ.out j e; omega); omega) HO8.out HP8.out (by simp; omega) hmx (by omega) (fun w9 vo9 K9 f9 o9 go9 p9 k9 ow9 => ?_)
        have F9 := Lib.hid f9
        have O9 := Lib.hid o9
        have GO9 := Lib.hid go9
        have P9 := Lib.hid p9
        have OW9 := Lib.hid ow9
        have hv8l : ∀ j, (Value.slice (some ⟨gg, 0, none⟩) (cs.length + 1) cap).ownBlock = some j → G.B0 ≤ j := fun j e => (OO8.out.lt j e).1
        have HE9 := Lib.hid (HE8.out.fr f9 hv8l (fun j e => (hvo8 j e).1))
        have qb9 := fr_low f9 HE8.out.size hv8l (fun j e => (hvo8 j e).1) hbgB (by omega) (by omega)
        have qx9 : w9.heap[wr.heap.size]? = w8.heap[wr.heap.size]? := f9.block _ (by omega) (fun e => by
          rcases e with e | e | e | e
          · omega
          · omega
          · have := (hvo8 _ e).2; omega
          · have h0 := V8 _ e
            rcases W8.out with h | h
            · have := (VL _ h).2; omega
            · omega)
        have c0 := (World.cell?_of_block (a := ⟨G.bg, 0, none⟩) qb9).trans b0
        have c1 := (World.cell?_of_block (a := ⟨wr.heap.size, 0, none⟩) qx9).trans b1
        have c2 := (World.cell?_of_block (a := ⟨wr.heap.size, 1, none⟩) qx9).trans b2
        clear f9 o9 go9 p9 ow9 qb9 qx9
        refine hK.out _ _ (⟨c0, c1, c2⟩) (fun hS3 => ?_)
        clear hK K hS2
        (try simp only [Act.put, List.setIfInBounds_toArray, List.set_cons_zero, List.set_cons_succ])
        refine takeQ (i := 7) (d := some 15) (v := ?_) rfl rfl (by kernel_rfl) (by kernel_rfl) (by kernel_rfl) hPQ hS3 (by kernel_rfl) ?_ ?_
        rotate_left
        · (intro w hSw; (try dsimp only at hSw); obtain ⟨k0, k1, k2⟩ := hSw; go_simp; (try with_reducible rfl))
        (try simp only [Act.put, List.setIfInBounds_toArray, List.set_cons_zero, List.set_cons_succ])
        refine wpAnyH_done (by kernel_rfl) (hQn.out _ _ ?_) _
        clear hS3 hPQ hQn Qn
        have np9 : w9.cell? ⟨G.bp, 0, none⟩ = some (.map (some G.mp)) := cell_of HE9.out.p (j := 0) rfl
        obtain ⟨fp9, m9, r9⟩ := P9.out
        have M9 := Lib.hid m9
        have R9 := Lib.hid r9
        have s9 := F9.out.size
        have hKl : K' + 1 + N + 1 ≤ K + L.length * (N + 2) := by omega
        clear m9 r9
        go_wp2_with (at_mapUpdate; refine wp_mapStore _ rfl _ _ _ 52 rfl 9 4 Try.underlying9 Try.underlying52 G.mp K9 fp9 rfl M9.out (by unfold maxLen; omega) T (.bool false) rfl rfl hTs ?_; intro w10 h10 g10; have M10 := Lib.hid h10; have G10 := Lib.hid g10; clear h10 g10)
        have hvt : ∀ j, vo'.ownBlock = some j → (Value.slice ca cs.length cc).ownBlock ≠ some j := fun j e e2 => by
          obtain ⟨_, us, _, q3, _⟩ := HO7.out
          obtain ⟨c1, h1⟩ := own_elem q3 e
          obtain ⟨c2, h2⟩ := own_elem HV7.out e2
          rw [h1] at h2; cases h2
        have own9 : w9.ownsRow G.B0 46 2 (.slice ca cs.length cc) cs.length (pC cs) := by
          rcases T8.out with e | ⟨gb, e⟩
          · rw [e]
            have h := O9.out
            rw [List.length_append, pC_append] at h
            exact own_prefix (m := 1) h (pC_length cs)
          · refine ownsRow_at HV7.out fun j ej => (F9.out.block j (by have := (VL j ej).2; omega) (fun eS => ?_)).trans (gb.block j (by have := (VL j ej).2; omega) (by simp))
            rcases eS with eS | eS | eS | eS
            · have := (VL j ej).1; omega
            · have := (VL j ej).1; omega
            · exact hvt j eS ej
            · have := V8 _ eS; have := (VL j ej).2; omega
        have hF10 : Fr (GS G (.slice ca cs.length cc) vo) W w10 := by
          have t1 : Fr (GS G (.slice ca cs.length cc) vo) W w7 := HF6.out.trans (Fr.of_below B7.out) (fun _ _ h => h) (fun _ _ h => h)
          have t2 : Fr (GS G (.slice ca cs.length cc) vo) W w8 := t1.trans (Fr.grown (S := GS G (.slice ca cs.length cc) vo) G8.out (fun j e _ => .inr (.inr (.inr e)))) (fun _ _ h => h) (fun _ _ h => h)
          have t3 : Fr (GS G (.slice ca cs.length cc) vo) W w9 := t2.trans F9.out (fun _ _ h => h) (fun j hj e => by
            rcases e with e | e | e | e
            · exact .inl e
            · exact .inr (.inl e)
            · exact .inr (.inr (.inl (HW.out j hj e)))
            · have h0 := V8 _ e
              rcases W8.out with h | h
              · exact .inr (.inr (.inr (by rw [h, h0])))
              · omega)
          exact t3.trans (Fr.grown (S := GS G (.slice ca cs.length cc) vo) G10.out (fun j e _ => .inr (.inl (Option.some.inj e).symm))) (fun _ _ h => h) (fun _ _ h => h)
        have hlist : outs ++ (stR vs P g (L.take (k + 1))).map (cs ++ ·) = outs ++ (stR vs P g (L.take k)).map (cs ++ ·) ++ (g y).map ((cs ++ [y]) ++ ·) := by
          rw [hR1.out, List.map_append, List.map_map, List.append_assoc]
          congr 2
          refine List.map_congr_left fun ch _ => ?_
          simp
        have hGO10 : GOut w10 G Z vo9 (outs ++ (stR vs P g (L.take (k + 1))).map (cs ++ ·)) := by
          rw [hlist]
          refine GO9.out.grown G10.out (fun e => by have := Option.some.inj e; omega) (fun j e e2 => ?_) (fun j g1 _ _ e2 => by have := Option.some.inj e2; omega) (fun j _ nz e => nz (.inl e))
          obtain ⟨_, us, _, q3, _⟩ := GO9.out
          have := (q3.lt j e).1
          have := Option.some.inj e2
          omega
        refine ⟨⟨k + 1, vo9, K9 + 1, by omega, by go_num, hF10, ownsRow_at own9 fun j e => G10.out.block j (own9.lt j e).2 (fun e2 => by have := (own9.lt j e).1; have := Option.some.inj e2; omega), hGO10, pas_back R9.out HB0.out M10.out, by rw [Nat.add_mul]; omega, fun j hj e => HW.out j hj (OW9.out j (by omega) e)⟩, by simp [intOf]; omega⟩
    · obtain rfl : k = L.length := by omega
      go_wp2_with fail
      have hO2 := HOr.out
      rw [List.take_length] at hO2
      exact HR.out wr vo' K' HF.out HVr.out hO2 HPr.out hKr HW.out
end Go.Proofs.Ytgngllgknimgkaa
namespace Go.Proofs.Ytgngllgknimgkaa
open Go.RowKit Go.Maps

theorem GrowAt.mono {G : GB} {vs : List Dm} {ax : Int} {f t s : ByteArray} {P : List ByteArray} {res : List (List Sp)} {N N' : Nat} (h : GrowAt G vs ax f t s P res N) (hN : N ≤ N') : GrowAt G vs ax f t s P res N' :=
  fun cs Z v vo outs K W R a1 a2 a3 a4 a5 a6 a7 a8 a9 hR => h cs Z v vo outs K W R a1 a2 a3 a4 a5 a6 a7 a8 (by omega) fun W' vo' K' b1 b2 b3 b4 b5 b6 => hR W' vo' K' b1 b2 b3 b4 (by omega) b6
theorem pigeonB {α : Type} [DecidableEq α] : ∀ (P M : List α), P.Nodup → (∀ p ∈ P, p ∈ M) → M.length ≤ P.length → ∀ x ∈ M, x ∈ P
  | [], M, _, _, hl, x, hx => by
    obtain rfl := List.length_eq_zero_iff.1 (Nat.le_zero.1 hl)
    exact absurd hx (by simp)
  | p :: P, M, hn, hs, hl, x, hx => by
    rw [List.nodup_cons] at hn
    by_cases e : x = p
    · subst e; simp
    · have hpM := hs p (by simp)
      have h1 : ∀ q ∈ P, q ∈ M.erase p := fun q hq => (List.mem_erase_of_ne (fun e => hn.1 (by rw [← e]; exact hq))).2 (hs q (by simp [hq]))
      have h2 : (M.erase p).length ≤ P.length := by rw [List.length_erase_of_mem hpM]; simp at hl; omega
      exact List.mem_cons_of_mem _ (pigeonB P (M.erase p) hn.2 h1 h2 x ((List.mem_erase_of_ne e).2 hx))
theorem pigeonB_le {α : Type} [DecidableEq α] : ∀ (P M : List α), P.Nodup → (∀ p ∈ P, p ∈ M) → P.length ≤ M.length
  | [], _, _, _ => Nat.zero_le _
  | p :: P, M, hn, hs => by
    rw [List.nodup_cons] at hn
    have hpM := hs p (by simp)
    have h1 : ∀ q ∈ P, q ∈ M.erase p := fun q hq => (List.mem_erase_of_ne (fun e => hn.1 (by rw [← e]; exact hq))).2 (hs q (by simp [hq]))
    have h2 := pigeonB_le P (M.erase p) hn.2 h1
    rw [List.length_erase_of_mem hpM] at h2
    have := List.length_pos_of_mem hpM
    simp; omega
theorem grow_any (G : GB) (vs : List Dm) (ax : Int) (f t : ByteArray) (h6 : vs.length ≤ 6) (hv : DmsOk vs) (hnl : (nmG vs ax).length ≤ 800) : ∀ (m : Nat) (s : ByteArray) (P : List ByteArray), s ∈ P → s.size ≤ maxLen → P.Nodup → (∀ p ∈ P, p ∈ nmG vs ax) → (nmG vs ax).length ≤ P.length + m →
    GrowAt G vs ax f t s P (grN vs ax t m s P) (32 * 16 ^ m) := by
  have hLl : ∀ s, (ntL vs ax vs.length s).length ≤ 12 := fun s => Nat.le_trans (List.length_filter_le _ _) (Nat.le_trans (stL_len vs ax vs.length) (by omega))
  have hkn : ∀ s, ∀ y ∈ ntL vs ax vs.length s, knS vs.length y = true := fun s y hy => by
    obtain ⟨x, hx, rfl, _⟩ := ntL_mem hy
    obtain ⟨k1, _, _, _, _⟩ := step_facts hx
    exact k1
  intro m
  induction m with
  | zero =>
    intro s P hs hsz hn hP hl
    have hPl := pigeonB_le P _ hn hP
    rw [grN]
    cases hst : sameD s t with
    | true => exact grow_found G vs ax f t s P _ hst (by omega)
    | false =>
      have hall := pigeonB P _ hn hP (by omega)
      have hpass : ∀ y ∈ ntL vs ax vs.length s, hasL P (enT vs y) = true := fun y hy => hasL_iff.2 (hall _ (ntL_names hy).2)
      have h := grow_level G vs ax f t s P (fun _ => []) 0 (by omega) hv hst (by omega) hsz (by have := hLl s; omega) (hkn s) (fun y hy hb => by rw [hpass y hy] at hb; cases hb)
      have he : stR vs P (fun _ => []) (ntL vs ax vs.length s) = [] := List.flatMap_eq_nil_iff.2 fun y hy => by rw [if_pos (hpass y hy)]
      rw [he] at h
      rw [if_neg (by simp)]
      exact h.mono (by have := hLl s; omega)
  | succ m ih =>
    intro s P hs hsz hn hP hl
    have hPl := pigeonB_le P _ hn hP
    rw [grN]
    cases hst : sameD s t with
    | true => exact grow_found G vs ax f t s P _ hst (by omega)
    | false =>
      rw [if_neg (by simp)]
      have h := grow_level G vs ax f t s P (fun y => grN vs ax t m (enT vs y) (P ++ [enT vs y])) (32 * 16 ^ m) (by omega) hv hst (by omega) hsz (by have := hLl s; omega) (hkn s) (fun y hy hb => by
        have hnot : enT vs y ∉ P := fun h => by rw [hasL_iff.2 h] at hb; cases hb
        refine ih (enT vs y) (P ++ [enT vs y]) (by simp) (enT_size13 hv (hkn s y hy)) ?_ (fun p hp => ?_) (by simp; omega)
        · rw [List.nodup_append]
          exact ⟨hn, by simp, fun a ha b hb2 e => by
            have e2 : b = enT vs y := by simpa using hb2
            exact hnot (by rw [← e2, ← e]; exact ha)⟩
        · rcases List.mem_append.1 hp with h | h
          · exact hP p h
          · have e2 : p = enT vs y := by simpa using h
            rw [e2]; exact (ntL_names hy).2)
      refine h.mono ?_
      have h1 : 0 < 16 ^ m := Nat.pos_of_ne_zero (by simp)
      have h2 := Nat.mul_le_mul_right (32 * 16 ^ m + 2) (hLl s)
      rw [Nat.pow_succ]
      omega
end Go.Proofs.Ytgngllgknimgkaa
namespace Go.Proofs.Ytgngllgknimgkaa
open Go.RowKit Go.Maps

/-- Rows of chains, as read. -/
def ChsAt (W : World) (B0 : Nat) (v : Value) (outs : List (List Sp)) : Prop := ∃ us, us.length = outs.length ∧ W.ownsRow B0 35 1 v outs.length us ∧ ∀ i, i < outs.length → ∃ ao c, us.getD i nilS = .slice ao (outs.getD i []).length c ∧ CellsAt W ao (pC (outs.getD i []))
set_option maxRecDepth 100000 in
set_option maxHeartbeats 8000000 in
theorem all_bad (ao : Option Addr) (vs : List Dm) (c : Nat) (ax : Int) (f t : ByteArray) (w : World) (R : Ending → World → Prop) (hl : vs.length ≤ 256) (hc : CellsAt w ao (dC vs)) (hv : DmsOk vs)
   (hf : f.size ≤ 9223372036854775807) (ht : t.size ≤ 9223372036854775807) (h0 : asE vs ax f t ≠ 0)
   (hR : ∀ w', Below w.heap.size w w' → R (.returned (.tuple #[.slice none 0 0, .int .i64 (asE vs ax f t)])) w') :
    Calls Try.prog 6 #[.slice ao vs.length c, .agg #[.int .i64 ax, .string f, .string t]] w R := by
  have HR := Lib.hid hR
  have HC := Lib.hid hc
  have HV := Lib.hid hv
  obtain ⟨w1, E1, HB1, s1, X1⟩ := box_ex w #[.slice ao vs.length c] 22
  obtain ⟨w2, E2, HB2, s2, X2⟩ := box_ex w1 #[.int .i64 ax, .string f, .string t] 24
  have B2 : Hid (Below w.heap.size w w2) := HB1.out.trans (HB2.out.mono (Nat.le_of_lt s1))
  have y0 := cellB HB2.out (cell_of X1.out (j := 0) rfl) s1
  have z0 := cell_of X2.out (j := 0) rfl
  have z1 := cell_of X2.out (j := 1) rfl
  have z2 := cell_of X2.out (j := 2) rfl
  obtain ⟨E, hE⟩ : ∃ E, Hid (asE vs ax f t = E) := ⟨_, rfl⟩
  have K : (E != 0) = true := by have := hE.out; simpa using (this ▸ h0)
  rw [hE.out] at HR
  clear hR hc hv h0
  go_enter Try.func6, Try.ntmps6
  go_wp2_with (first | rw [E1] | rw [E2])
  refine asked_any ao vs c ax f t _ _ (by omega) (HC.out.below B2.out) HV.out hf ht fun w3 hb => ?_
  rw [hE.out]
  have B3 : Hid (Below w.heap.size w w3) := B2.out.trans (hb.mono B2.out.size)
  clear hb
  go_wp2_with fail
  exact HR.out _ B3.out
end Go.Proofs.Ytgngllgknimgkaa
namespace Go.Proofs.Ytgngllgknimgkaa
open Go.RowKit Go.Maps

theorem wp_mapInsert {P : Program} (w : World) {ops : Array Oper} {rest : List Oper} {o : Oper} {a : Act} {Q : Exit → Act → World → Prop}
    (hg : o.guard = none) (m x v : Operand) (t : TypeId) (hop : o.op = Op.insert t m x v) (k e : TypeId) (hk : P.underlying k = some .string) (ht : P.underlying t = some (.map k e)) (b n : Nat) (f : SMap)
    (hm : a.eval m = .map (some b)) (h : MapIs P k w b n f) (hn : n < maxLen) (s : ByteArray) (val : Value) (hx : a.eval x = .string s) (hv : a.eval v = val) (hs : s.size ≤ maxLen)
    (hK : ∀ w', MapIs P k w' b (n + 1) (f.put s val) → w.grownBy w' (some b) → wpList P ops Q rest (a.put o.dst undef) w') :
    wpList P ops Q (o :: rest) a w := by
  refine wpList_plain hg fun K' hK' => ?_
  obtain ⟨w', hrun, h3, h4⟩ := h.store hk ht hn hs val
  unfold Oper.wp
  simp [execOp, hop, hm, hx, hv, hrun, Result.andThen]
  exact hK' _ _ (hK w' h3 h4)
theorem start7 (w : World) (x : Value) (t u k : TypeId) : ∃ w7, ((w.alloc (.cells #[x] t)).alloc (.cells #[.slice none 0 0] u)).alloc (.map #[] 0) = w7 ∧ Hid (Below w.heap.size w w7) ∧ w7.heap.size = w.heap.size + 1 + 1 + 1 ∧
    Hid (w7.heap[w.heap.size]? = some (.cells #[x] t (0, 0))) ∧ Hid (w7.heap[w.heap.size + 1]? = some (.cells #[.slice none 0 0] u (0, 0))) ∧ Hid (MapIs Try.prog k w7 (w.heap.size + 1 + 1) 0 (fun _ => none)) := by
  refine ⟨_, rfl, (((Below.refl _ w).alloc (Nat.le_refl _) _).alloc (by simp) _).alloc (by simp; omega) _, by simp, ?_, ?_, ?_⟩
  · have b1 : Below (w.heap.size + 1) (w.alloc (.cells #[x] t)) (((w.alloc (.cells #[x] t)).alloc (.cells #[.slice none 0 0] u)).alloc (.map #[] 0)) := ((Below.refl _ _).alloc (by simp) _).alloc (by simp) _
    exact (b1.block _ (Nat.lt_succ_self _)).trans (World.alloc_heap_new w _)
  · have b1 : Below (w.heap.size + 1 + 1) ((w.alloc (.cells #[x] t)).alloc (.cells #[.slice none 0 0] u)) (((w.alloc (.cells #[x] t)).alloc (.cells #[.slice none 0 0] u)).alloc (.map #[] 0)) := (Below.refl _ _).alloc (by simp) _
    have h := World.alloc_heap_new (w.alloc (.cells #[x] t)) (.cells #[.slice none 0 0] u)
    have hz : (w.alloc (.cells #[x] t)).heap.size = w.heap.size + 1 := by simp
    rw [hz] at h
    exact (b1.block _ (Nat.lt_succ_self _)).trans h
  · have h := mapIs_made (P := Try.prog) (k := k) ((w.alloc (.cells #[x] t)).alloc (.cells #[.slice none 0 0] u))
    have hz : ((w.alloc (.cells #[x] t)).alloc (.cells #[.slice none 0 0] u)).heap.size = w.heap.size + 1 + 1 := by simp
    rw [hz] at h
    exact h
theorem start9 (w : World) (x : Value) (t u : TypeId) : ∃ w9, (w.alloc (.cells #[x] t)).alloc (.cells #[.nilFunc] u) = w9 ∧ Hid (Below w.heap.size w w9) ∧ w9.heap.size = w.heap.size + 1 + 1 ∧
    Hid (w9.heap[w.heap.size]? = some (.cells #[x] t (0, 0))) ∧ Hid (w9.heap[w.heap.size + 1]? = some (.cells #[.nilFunc] u (0, 0))) := by
  refine ⟨_, rfl, ((Below.refl _ w).alloc (Nat.le_refl _) _).alloc (by simp) _, by simp, ?_, ?_⟩
  · have b1 : Below (w.heap.size + 1) (w.alloc (.cells #[x] t)) ((w.alloc (.cells #[x] t)).alloc (.cells #[.nilFunc] u)) := (Below.refl _ _).alloc (by simp) _
    exact (b1.block _ (Nat.lt_succ_self _)).trans (World.alloc_heap_new w _)
  · have h := World.alloc_heap_new (w.alloc (.cells #[x] t)) (.cells #[.nilFunc] u)
    have hz : (w.alloc (.cells #[x] t)).heap.size = w.heap.size + 1 := by simp
    rw [hz] at h
    exact h
theorem start10 (w : World) (b : Nat) (z x : Value) (u : TypeId) (h : w.heap[b]? = some (.cells #[z] u (0, 0))) : ∃ w10, w.setCell ⟨b, 0, none⟩ x = w10 ∧ Hid (Below b w w10) ∧ w10.heap.size = w.heap.size ∧ Hid (∀ j, j ≠ b → w10.heap[j]? = w.heap[j]?) ∧
    Hid (w10.heap[b]? = some (.cells #[x] u (0, 0))) :=
  ⟨_, rfl, (Below.refl b w).setCell (Nat.le_refl _) x, by simp [World.setCell], fun j hj => Below.heap_setCell _ _ _ _ hj, heap_setCell_same w b 0 _ _ _ h⟩
theorem nmG_len6 {vs : List Dm} {ax : Int} (hl : vs.length ≤ 6) : (nmG vs ax).length ≤ 12 := by
  have h1 := sortU_len (rawN vs ax vs.length)
  have h2 := rawN_len vs ax vs.length
  have h3 : nmG vs ax = sortU (rawN vs ax vs.length) := rfl
  rw [h3]; omega
/-- grow where it is called first. -/
theorem grow_from (G : GB) (vs : List Dm) (ax : Int) (f t : ByteArray) (h6 : vs.length ≤ 6) (hv : DmsOk vs) (hf : f.size ≤ maxLen) (hne : sameD f t = false) : GrowAt G vs ax f t f [f] (chN vs ax f t) 100000000000000000 := by
  have hl := nmG_len6 (ax := ax) h6
  by_cases hs : f ∈ nmG vs ax
  · refine (grow_any G vs ax f t h6 hv (by omega) (nmG vs ax).length f [f] (by simp) hf (by simp) (fun p hp => (show p = f by simpa using hp) ▸ hs) (by simp)).mono ?_
    have h1 : 16 ^ (nmG vs ax).length ≤ 16 ^ 12 := Nat.pow_le_pow_right (by omega) hl
    have h2 : (16 : Nat) ^ 12 = 281474976710656 := by decide
    omega
  · have hnt : f ≠ t := fun e => by rw [sameD_iff.2 e] at hne; cases hne
    have e1 : ntL vs ax vs.length f = [] := List.eq_nil_iff_forall_not_mem.2 fun y hy => hs (ntL_names hy).1
    have e2 : chN vs ax f t = [] := grN_from hs hnt _ _
    have h := grow_level G vs ax f t f [f] (fun _ => []) 0 (by omega) hv hne (by simp) hf (by rw [e1]; simp) (fun y hy => by rw [e1] at hy; simp at hy) (fun y hy => by rw [e1] at hy; simp at hy)
    rw [e1] at h
    rw [e2]
    exact h.mono (by simp)
end Go.Proofs.Ytgngllgknimgkaa
namespace Go.Proofs.Ytgngllgknimgkaa
open Go.RowKit Go.Maps

set_option maxRecDepth 100000 in
set_option maxHeartbeats 8000000 in
theorem all_good (ao : Option Addr) (vs : List Dm) (c : Nat) (ax : Int) (f t : ByteArray) (w : World) (R : Ending → World → Prop) (hl : vs.length ≤ 6) (hc : CellsAt w ao (dC vs)) (hv : DmsOk vs)
   (hf : f.size ≤ 9223372036854775807) (ht : t.size ≤ 9223372036854775807) (h0 : asE vs ax f t = 0)
   (hR : ∀ w' v, Below w.heap.size w w' → ChsAt w' w.heap.size v (chN vs ax f t) → R (.returned (.tuple #[v, .int .i64 0])) w') :
    Calls Try.prog 6 #[.slice ao vs.length c, .agg #[.int .i64 ax, .string f, .string t]] w R := by
  have HR := Lib.hid hR
  have HC := Lib.hid hc
  have HV := Lib.hid hv
  obtain ⟨w1, E1, HB1, s1, X1⟩ := box_ex w #[.slice ao vs.length c] 22
  obtain ⟨w2, E2, HB2, s2, X2⟩ := box_ex w1 #[.int .i64 ax, .string f, .string t] 24
  have B2 : Hid (Below w.heap.size w w2) := HB1.out.trans (HB2.out.mono (Nat.le_of_lt s1))
  have y0 := cellB HB2.out (cell_of X1.out (j := 0) rfl) s1
  have z0 := cell_of X2.out (j := 0) rfl
  have z1 := cell_of X2.out (j := 1) rfl
  have z2 := cell_of X2.out (j := 2) rfl
  obtain ⟨E, hE⟩ : ∃ E, Hid (asE vs ax f t = E) := ⟨_, rfl⟩
  obtain rfl : E = 0 := hE.out.symm.trans h0
  clear hR hc hv h0
  go_enter Try.func6, Try.ntmps6
  go_wp2_with (first | rw [E1] | rw [E2])
  refine asked_any ao vs c ax f t _ _ (by omega) (HC.out.below B2.out) HV.out hf ht fun w3 hb => ?_
  rw [hE.out]
  have B3 : Hid (Below w.heap.size w w3) := B2.out.trans (hb.mono B2.out.size)
  have D3 := Lib.hid (hb.block w1.heap.size s2)
  have D4 := Lib.hid ((hb.block w.heap.size (Nat.lt_trans s1 s2)).trans (HB2.out.block w.heap.size s1))
  have y3 := cellB hb y0 (Nat.lt_trans s1 s2)
  have x0 := cellB hb z0 s2
  have x1 := cellB hb z1 s2
  have x2 := cellB hb z2 s2
  have s3 := hb.size
  clear hb y0 z0 z1 z2
  go_wp2_with fail
  refine joined13_any ao vs c ax w3 _ (by omega) (HC.out.below B3.out) HV.out fun w4 hb hnet => ?_
  have hmm := @run_makeMap Try.prog
  have B4 : Hid (Below w.heap.size w w4) := B3.out.trans (hb.mono B3.out.size)
  have HNet := Lib.hid hnet
  have s4 := hnet
  have m34 : w3.heap.size < w4.heap.size := by obtain ⟨K, fn, hm, _⟩ := hnet; exact hm.lt
  have x14 := cellB hb x1 (Nat.lt_of_lt_of_le s2 s3)
  have D5 := Lib.hid ((hb.block w1.heap.size (by omega)).trans D3.out)
  have D6 := Lib.hid ((hb.block w.heap.size (by omega)).trans D4.out)
  obtain ⟨w7, E7, B7, z7, N7, O7, M7⟩ := start7 w4 (.map (some w3.heap.size)) 49 27 9
  have x17 := cellB B7.out x14 (by omega)
  clear hb hnet s4 x14 x0 x1 x2
  go_wp2_with (first | rw [E7] | (refine wp_mapInsert _ rfl _ _ _ 52 rfl 9 4 Try.underlying9 Try.underlying52 (w4.heap.size + 1 + 1) 0 (fun _ => none) rfl M7.out (by unfold maxLen; omega) f (.bool true) rfl rfl hf ?_; intro w8 h8 g8; have M8 := Lib.hid h8; have G8 := Lib.hid g8; clear h8 g8; have z8 := G8.out.size; have x18 := (World.cell?_of_block (a := ⟨w1.heap.size, 1, none⟩) (G8.out.block w1.heap.size (by omega) (fun e => by have := Option.some.inj e; omega))).trans x17;  obtain ⟨w9, E9, B9, z9, P9, Q9⟩ := start9 w8 (.map (some (w4.heap.size + 1 + 1))) 52 53;  have r9 := cell_of Q9.out (j := 0) rfl; have f9 := frozen_of Q9.out 0; have x19 := cellB B9.out x18 (by omega);  obtain ⟨w10, E10, B10, z10, S10, Q10⟩ := start10 w9 (w8.heap.size + 1) _ (.func (.func 15) #[] #[.pointer (some ⟨w1.heap.size, 0, none⟩), .pointer (some ⟨w4.heap.size + 1, 0, none⟩), .pointer (some ⟨w4.heap.size, 0, none⟩), .pointer (some ⟨w.heap.size, 0, none⟩), .pointer (some ⟨w8.heap.size, 0, none⟩), .pointer (some ⟨w8.heap.size + 1, 0, none⟩)]) _ Q9.out;  have r10 := cell_of Q10.out (j := 0) rfl; have x110 := (World.cell?_of_block (a := ⟨w1.heap.size, 1, none⟩) (S10.out w1.heap.size (by omega))).trans x19) | rw [E9] | rw [E10])
  have D10 : ∀ j, j < w4.heap.size → w10.heap[j]? = w4.heap[j]? := fun j hj => (S10.out j (by omega)).trans ((B9.out.block j (by omega)).trans ((G8.out.block j (by omega) (fun e => by have := Option.some.inj e; omega)).trans (B7.out.block j hj)))
  have hne : sameD f t = false := by
    cases h : sameD f t with
    | false => rfl
    | true =>
      have h1 := hE.out
      unfold asE at h1
      rw [h] at h1
      split at h1
      · split at h1
        · cases h1
        · split at h1
          · split at h1
            · cases h1
            · exact absurd h1 (by assumption)
          · exact absurd h1 (by assumption)
      · exact absurd h1 (by assumption)
  obtain ⟨G, hG⟩ : ∃ G : GB, G = ⟨w.heap.size, w1.heap.size, w3.heap.size, w4.heap.size, w4.heap.size, w4.heap.size + 1, w4.heap.size + 1 + 1, w8.heap.size, w8.heap.size + 1, w8.heap.size + 1 + 1, ao, c⟩ := ⟨_, rfl⟩
  have HEnv : GEnv w10 G vs ax f t := by
    subst hG
    refine ⟨⟨by dsimp; omega, by dsimp; omega, by dsimp; omega, by dsimp; omega, by dsimp; omega, by dsimp; omega, by dsimp; omega, by dsimp; omega, by dsimp; omega⟩, by dsimp; omega, (D10 w1.heap.size (by omega)).trans (D5.out.trans X2.out), ?_, (D10 w.heap.size (by omega)).trans (D6.out.trans X1.out), ?_, Q10.out, ⟨?_, ?_⟩, ?_⟩
    · exact (S10.out _ (by dsimp; omega)).trans ((B9.out.block _ (by dsimp; omega)).trans ((G8.out.block _ (by dsimp; omega) (fun e => by have := Option.some.inj e; dsimp at this; omega)).trans N7.out))
    · exact (S10.out _ (by dsimp; omega)).trans P9.out
    · exact cellsAt_block (HC.out.below B4.out) fun a _ hl => D10 _ hl
    · intro a ha h0
      obtain ⟨b, o, e, hb, _⟩ := HC.out h0
      have e1 : ao = some a := ha
      rw [e1] at e
      obtain rfl := Option.some.inj e
      have := B4.out.size
      show b < w4.heap.size
      omega
    · obtain ⟨K, fn, hm, hr⟩ := HNet.out
      refine ⟨K, fn, hm.keep (D10 _ m34), fun p => ?_⟩
      obtain ⟨ra, rc, e1, e2, e3⟩ := hr p
      exact ⟨ra, rc, e1, cellsAt_block e2 fun a _ hl => D10 _ hl, e3⟩
  have HPas : PasAt w10 G 1 [f] := by
    subst hG
    refine ⟨_, M8.out.keep ((S10.out _ (by dsimp; omega)).trans (B9.out.block _ (by have := M8.out.lt; omega))), fun p => ?_⟩
    unfold SMap.put
    by_cases e : p = f
    · rw [if_pos e]
      have : hasL [f] p = true := hasL_iff.2 (by simp [e])
      rw [this]; rfl
    · rw [if_neg e]
      have : hasL [f] p = false := by
        cases h : hasL [f] p with
        | false => rfl
        | true => exact absurd (by simpa using hasL_iff.1 h) e
      rw [this]; rfl
  have HOut : GOut w10 G (fun _ => False) (.slice none 0 0) [] := by
    subst hG
    refine ⟨(S10.out _ (by dsimp; omega)).trans ((B9.out.block _ (by dsimp; omega)).trans ((G8.out.block _ (by dsimp; omega) (fun e => by have := Option.some.inj e; dsimp at this; omega)).trans O7.out)), [], rfl, ⟨rfl, .inl ⟨rfl, rfl⟩⟩, fun i hi => by simp at hi⟩
  have hlo : w4.heap.size ≤ G.B0 ∧ G.bo = w4.heap.size + 1 ∧ G.mp = w4.heap.size + 1 + 1 := by subst hG; dsimp; omega
  have hcaps : (#[.string f, .slice none 0 0] ++ #[.pointer (some ⟨G.bx, 0, none⟩), .pointer (some ⟨G.bo, 0, none⟩), .pointer (some ⟨G.bn, 0, none⟩), .pointer (some ⟨G.bl, 0, none⟩), .pointer (some ⟨G.bp, 0, none⟩), .pointer (some ⟨G.bg, 0, none⟩)] : Array Value) = #[Value.string f, .slice none 0 0, .pointer (some ⟨w1.heap.size, 0, none⟩), .pointer (some ⟨w4.heap.size + 1, 0, none⟩), .pointer (some ⟨w4.heap.size, 0, none⟩), .pointer (some ⟨w.heap.size, 0, none⟩), .pointer (some ⟨w8.heap.size, 0, none⟩), .pointer (some ⟨w8.heap.size + 1, 0, none⟩)] := by
    subst hG; rfl
  rw [← hcaps]
  have hmx : (chN vs ax f t).length ≤ 720 := grN_few hl _ _ (by simp)
  refine grow_from G vs ax f t hl HV.out hf hne [] (fun _ => False) (.slice none 0 0) (.slice none 0 0) [] 1 w10 _ HEnv ⟨rfl, .inl ⟨rfl, rfl⟩⟩ (fun j e => by cases e) (fun j e => e.elim) HOut HPas (by simp) (by simp; omega) (by omega) fun W' vo' K' b1 b2 b3 b4 b5 b6 => ?_
  have b30 := b3.1
  have rW := cell_of b30 (j := 0) rfl
  rw [hlo.2.1] at rW
  have F1 := Lib.hid b1
  have O1 := Lib.hid b3
  clear b1 b2 b3 b4 b5 b6 b30 HEnv HPas HOut hcaps
  go_wp2_with fail
  refine HR.out _ _ ?_ ?_
  · have h1 : Below w4.heap.size w4 W' := by
      have h2 : Below w4.heap.size w10 W' := ⟨F1.out.low.os, F1.out.low.tape, F1.out.low.output, F1.out.low.size, fun j hj => F1.out.block j (by omega) (fun e => by
        rcases e with e | e | e | e
        · omega
        · omega
        · cases e
        · cases e)⟩
      have h3 : Below w4.heap.size w7 w8 := ⟨G8.out.os, G8.out.tape, G8.out.output, G8.out.size, fun j hj => G8.out.block j (by omega) (fun e => by have := Option.some.inj e; omega)⟩
      exact (((B7.out.trans h3).trans (B9.out.mono (by omega))).trans (B10.out.mono (by omega))).trans h2
    exact B4.out.trans (h1.mono B4.out.size)
  · obtain ⟨_, us, q2, q3, q4⟩ := O1.out
    simp only [List.nil_append, List.map_id'] at q2 q3 q4
    have hs4 := B4.out.size
    exact ⟨us, q2, ownsRow_mono q3 (by omega), fun i hi => by obtain ⟨ca, cc, e1, e2, _⟩ := q4 i hi; exact ⟨ca, cc, e1, e2⟩⟩
end Go.Proofs.Ytgngllgknimgkaa
namespace Go.Proofs.Ytgngllgknimgkaa
open Go.RowKit Go.Maps

theorem low_any (l h s : Int) (w : World) (R : Ending → World → Prop) (hR : ∀ w', Below w.heap.size w w' → R (.returned (.int .i64 (if s < 0 then h else l))) w') :
    Calls Try.prog 35 #[.agg #[.int .i64 l, .int .i64 h], .int .i64 s] w R := by
  have HR := Lib.hid hR
  have HA : Hid (Below w.heap.size w (w.alloc (.cells #[.int .i64 l, .int .i64 h] 32))) := (Below.refl _ _).alloc (Nat.le_refl _) _
  clear hR
  by_cases h0 : s < 0
  · have e : Hid ((if s < 0 then h else l) = h) := if_pos h0
    rw [e.out] at HR
    go_enter Try.func35, Try.ntmps35
    go_wp2_with fail
    exact HR.out _ HA.out
  · have e : Hid ((if s < 0 then h else l) = l) := if_neg h0
    rw [e.out] at HR
    go_enter Try.func35, Try.ntmps35
    go_wp2_with fail
    exact HR.out _ HA.out
theorem high_any (l h s : Int) (w : World) (R : Ending → World → Prop) (hw : IntKind.i64.wrap (-s) = -s) (hR : ∀ w', Below w.heap.size w w' → R (.returned (.int .i64 (if -s < 0 then h else l))) w') :
    Calls Try.prog 36 #[.agg #[.int .i64 l, .int .i64 h], .int .i64 s] w R := by
  have HR := Lib.hid hR
  have HA : Hid (Below w.heap.size w (w.alloc (.cells #[.int .i64 l, .int .i64 h] 32))) := (Below.refl _ _).alloc (Nat.le_refl _) _
  clear hR
  go_enter Try.func36, Try.ntmps36
  go_wp2_with fail
  refine low_any l h (-s) _ _ fun w' hb => ?_
  obtain ⟨v, hv⟩ : ∃ v, (if -s < 0 then h else l) = v := ⟨_, rfl⟩
  rw [hv] at HR ⊢
  go_wp2_with fail
  exact HR.out _ (HA.out.trans (hb.mono HA.out.size))
theorem zeroB13 (w : World) : (zeroValue 4).run Try.prog w = .ok (.bool false) w := by kernel_rfl
/-- The text that chain has as its last end. -/
def lsC (vs : List Dm) (cs : List Sp) (k : Nat) : ByteArray := if k = 0 then ByteArray.empty else enT vs (pAt cs (k - 1))
def fsC (s : ByteArray) (k : Nat) : ByteArray := if k = 0 then ByteArray.empty else s
set_option maxRecDepth 100000 in
set_option maxHeartbeats 8000000 in
theorem chain_good (ao : Option Addr) (vs : List Dm) (c : Nat) (ax : Int) (s : ByteArray) (ca : Option Addr) (cs : List Sp) (cc : Nat) (w : World) (R : Ending → World → Prop) (hl : vs.length ≤ 256) (hcl : cs.length ≤ 256)
   (hc : CellsAt w ao (dC vs)) (hv : DmsOk vs) (hcs : CellsAt w ca (pC cs)) (hg : Good vs ax s cs) (hR : ∀ w', Below w.heap.size w w' → R (.returned (.int .i64 0)) w') :
    Calls Try.prog 70 #[.slice ao vs.length c, .slice ca cs.length cc] w R := by
  have HR := Lib.hid hR
  have HC := Lib.hid hc
  have HV := Lib.hid hv
  have HCS := Lib.hid hcs
  have HG := Lib.hid hg
  have hpos := hg.pos
  have k1 : ((cs.length : Int) == 0) = false := by rw [beq_eq_false_iff_ne]; omega
  have hmm := @run_makeMap Try.prog
  have BS : Hid (Below w.heap.size w ((w.alloc (.map #[] 0)).alloc (.map #[] 0))) := ((Below.refl _ w).alloc (Nat.le_refl _) _).alloc (by simp) _
  have m0 : IMapIs Try.prog 3 ((w.alloc (.map #[] 0)).alloc (.map #[] 0)) w.heap.size 0 (fun _ => none) := (imapIs_made w).keep (Below.heap_alloc _ _ _ (by simp))
  have m1 : MapIs Try.prog 9 ((w.alloc (.map #[] 0)).alloc (.map #[] 0)) (w.heap.size + 1) 0 (fun _ => none) := by
    have h := mapIs_made (P := Try.prog) (k := 9) (w.alloc (.map #[] 0))
    rwa [World.size_alloc] at h
  obtain ⟨w1, E1⟩ : ∃ w1, (w.alloc (.map #[] 0)).alloc (.map #[] 0) = w1 := ⟨_, rfl⟩
  rw [E1] at BS m0 m1
  have M0 := Lib.hid m0
  have M1 := Lib.hid m1
  clear hR hc hv hcs hg m0 m1
  go_enter Try.func70, Try.ntmps70
  go_wp2_with (rw [E1])
  have hs1 := M1.out.lt
  go_loopw [25, 7, 8] (fun j fi la wr => ∃ (k : Nat) (fu : IMap) (fb : SMap), k ≤ cs.length ∧ j = .int .i64 k ∧ fi = .string (fsC s k) ∧ la = .string (lsC vs cs k) ∧ Hid (Below w.heap.size w wr) ∧ Hid (IMapIs Try.prog 3 wr w.heap.size k fu) ∧ Hid (MapIs Try.prog 9 wr (w.heap.size + 1) k fb) ∧
      Hid (∀ n, (∀ i, i < k → (pAt cs i).i ≠ n) → fu n = none) ∧ Hid (∀ p, (∀ i, 0 < i → i < k → enF vs (pAt cs i) ≠ p) → fb p = none)) (fun j _ _ _ => cs.length - (intOf j).toNat)
  case atStart => exact ⟨0, _, _, Nat.zero_le _, rfl, rfl, rfl, BS, M0, M1, fun _ _ => rfl, fun _ _ => rfl⟩
  case round =>
    obtain ⟨k, fu, fb, hk, rfl, rfl, rfl, HB, MU, MB, FU, FB⟩ := hrel
    have hsB := HB.out.size
    have hmb := MB.out.lt
    by_cases hlt : k < cs.length
    · obtain ⟨y, hy⟩ : ∃ y, pAt cs k = y := ⟨_, rfl⟩
      have hky := HG.out.kn k hlt
      have hax := HG.out.ax k hlt
      obtain ⟨x, hx⟩ : ∃ x, pAt cs 0 = x := ⟨_, rfl⟩
      have hkx := HG.out.kn 0 hpos
      have hax0 := HG.out.ax 0 hpos
      have fuy : fu y.i = none := FU.out _ fun i hi => by rw [← hy]; exact HG.out.dims i k hi hlt
      have hFe : ∀ i, i < cs.length → enF vs (pAt cs i) = (if i = 0 then s else enT vs (pAt cs (i - 1))) := fun i hi => by
        by_cases e0 : i = 0
        · subst e0; rw [if_pos rfl]; exact HG.out.first
        · rw [if_neg e0]
          obtain ⟨q, rfl⟩ : ∃ q, i = q + 1 := ⟨i - 1, by omega⟩
          exact HG.out.next q hi
      have fbt : fb (enT vs y) = none := FB.out _ fun i h0 hi => by
        rw [hFe i (by omega), if_neg (by omega), ← hy]
        exact HG.out.apart (i - 1) k (by omega) hlt
      have hfy := hFe k hlt
      have hnw : 0 < k → enT vs (pAt cs (k - 1)) ≠ s := fun h0 => HG.out.new (k - 1) (by omega)
      obtain ⟨bp, op, rfl, hbp, hpc⟩ := HCS.out.sps (by omega)
      obtain ⟨d0, d1⟩ := hpc k hlt
      obtain ⟨c0, _⟩ := hpc 0 hpos
      have hvl : 0 < vs.length := by have := (knS_iff.1 hkx); omega
      obtain ⟨bl, ol, rfl, hbl, hdc⟩ := HC.out.dms hvl
      rw [hy] at d0 d1 hky hax hfy
      rw [hx] at c0 hkx hax0
      obtain ⟨yi, yb⟩ := y
      obtain ⟨n, rfl⟩ : ∃ n : Nat, yi = n := ⟨yi.toNat, by have := (knS_iff.1 hky).1; exact (Int.toNat_of_nonneg this).symm⟩
      obtain ⟨m, hm⟩ : ∃ m : Nat, x.i = m := ⟨x.i.toNat, by have := knS_iff.1 hkx; omega⟩
      have hnv : n < vs.length := by have := (knS_iff.1 hky).2; simpa using this
      have hmv : m < vs.length := by have := knS_iff.1 hkx; omega
      obtain ⟨_, _, a2, _, _⟩ := hdc n hnv
      obtain ⟨_, _, b2, _, _⟩ := hdc m hmv
      have hmt : x.i.toNat = m := by omega
      rw [show (⟨(n : Int), yb⟩ : Sp).i.toNat = n from rfl] at hax
      rw [hmt] at hax0
      simp only [Nat.zero_mul, Nat.add_zero, hm] at c0
      rw [hax] at a2
      rw [hax0] at b2
      have d0r := cellB HB.out d0 hbp
      have d1r := cellB HB.out d1 hbp
      obtain ⟨w4, E4, U4, s4, X4⟩ := box_ex wr #[.int .i64 n, .bool yb] 46
      have E4' := Lib.hid E4
      have B4 : Hid (Below w.heap.size w w4) := HB.out.trans (U4.out.mono hsB)
      have e0 := cell_of X4.out (j := 0) rfl
      have e1 := cell_of X4.out (j := 1) rfl
      have KY := Lib.hid hky
      have hTs : (enT vs ⟨n, yb⟩).size ≤ maxLen := enT_size13 HV.out hky
      have hFs : (enF vs ⟨n, yb⟩).size ≤ maxLen := enF_size HV.out hky
      have HFY := Lib.hid hfy
      have HNW := Lib.hid hnw
      have FUY := Lib.hid fuy
      have FBT := Lib.hid fbt
      have HY := Lib.hid hy
      have HFE := Lib.hid hFe
      have hnn : ((n : Int) < 0) = False := by simp
      clear E4 hpc hdc hx hkx hax0 hm hmt hfy hnw fuy fbt hy hFe hax hky d0 d1
      go_wp2_with (rw [E4'.out])
      refine ends13_any (some ⟨bl, ol, none⟩) vs c ⟨n, yb⟩ w4 _ (HC.out.below B4.out) KY.out fun w5 hb5 => ?_
      have B5 : Hid (Below w.heap.size w w5) := B4.out.trans (hb5.mono B4.out.size)
      have U5 : Hid (Below wr.heap.size wr w5) := U4.out.trans (hb5.mono (Nat.le_of_lt s4))
      have s5 : wr.heap.size < w5.heap.size := Nat.lt_of_lt_of_le s4 hb5.size
      have MU5 := Lib.hid (MU.out.keep (U5.out.block _ MU.out.lt))
      have MB5 := Lib.hid (MB.out.below U5.out MB.out.lt)
      have g0 := cellB hb5 e0 s4
      have g1 := cellB hb5 e1 s4
      have a5 := cellB B5.out a2 hbl
      have b5 := cellB B5.out b2 hbl
      have c5 := cellB B5.out c0 hbp
      clear hb5 e0 e1
      obtain ⟨T, hT⟩ : ∃ T, enT vs ⟨n, yb⟩ = T := ⟨_, rfl⟩
      obtain ⟨F, hF⟩ : ∃ F, enF vs ⟨n, yb⟩ = F := ⟨_, rfl⟩
      have HT := Lib.hid hT
      have HF := Lib.hid hF
      rw [hT] at hTs ⊢
      rw [hF] at hFs ⊢
      clear hT hF
      have NEWU : Hid (∀ n', (∀ i, i < k + 1 → (pAt cs i).i ≠ n') → fu.put n (.bool true) n' = none) := fun n' h => by
        have h1 := h k (Nat.lt_succ_self k)
        rw [HY.out] at h1
        unfold IMap.put
        rw [if_neg (fun e => h1 e.symm)]
        exact FU.out n' fun i hi => h i (Nat.lt_succ_of_lt hi)
      by_cases h0 : k = 0
      · subst h0
        have HS : Hid (F = s) := by have := HFY.out; rw [if_pos rfl, HF.out] at this; exact this
        go_wp2_with fail
        go_quiet (fail)
        have B6' : Hid (Below w.heap.size w (w5.drewN nq)) := B5.out.trans ⟨rfl, rfl, rfl, Nat.le_refl _, fun _ _ => rfl⟩
        have MU6' : Hid (IMapIs Try.prog 3 (w5.drewN nq) w.heap.size 0 fu) := MU5.out.keep rfl
        have MB6' : Hid (MapIs Try.prog 9 (w5.drewN nq) (w.heap.size + 1) 0 fb) := MB5.out.keep rfl
        have g0' : (w5.drewN nq).cell? ⟨wr.heap.size, 0, none⟩ = some (.int .i64 n) := g0
        obtain ⟨w6, hw6⟩ : ∃ w6, w5.drewN nq = w6 := ⟨_, rfl⟩
        have z6 : w6.heap.size = w5.heap.size := by rw [← hw6]; rfl
        rw [hw6] at B6' MU6' MB6' g0' ⊢
        have lk1 := MU6'.out.look (t := 138) Try.underlying3 Try.underlying138 (zeroB13 _) (x := (n : Int)) (wf_i64 (by omega) (by omega))
        have lk2 := MB6'.out.look (t := 52) Try.underlying9 Try.underlying52 (zeroB22 _) hTs
        rw [FUY.out] at lk1
        rw [HT.out] at FBT
        rw [FBT.out] at lk2
        simp only [Option.getD_none] at lk1 lk2
        clear hw6 g0 g1 a5 b5 c5
        go_wp2_with (refine wp_imapStore _ rfl _ _ _ 138 rfl 3 4 Try.underlying3 Try.underlying138 w.heap.size 0 fu rfl MU6'.out (by unfold maxLen; omega) n (.bool true) rfl rfl (wf_i64 (by omega) (by omega)) ?_; intro w7 h7 g7; have M7 := Lib.hid h7; have G7 := Lib.hid g7; clear h7 g7)
        refine ⟨⟨1, _, fb, by omega, rfl, by rw [HS.out]; rfl, ?_, (B6'.out.grown G7.out B6'.out.size (fun j e => by cases e; omega)), M7.out, (MB6'.out.keep (G7.out.block _ MB6'.out.lt (fun e => by have := Option.some.inj e; omega))).mono (by omega), NEWU.out, fun p h => FB.out p fun i h0 hi => h i h0 (by omega)⟩, by simp [intOf]; omega⟩
        unfold lsC
        rw [if_neg (by omega), show 1 - 1 = 0 from rfl, HY.out, HT.out]
      · have hp : (0 < k) = True := eq_true (by omega)
        have hk0 : ((k : Int) == 0) = false := by rw [beq_eq_false_iff_ne]; omega
        have e1 : enT vs (pAt cs (k - 1)) = F := by have := HFY.out; rw [if_neg h0, HF.out] at this; exact this.symm
        have e2 : (F.toList == s.toList) = false := by
          have h1 := HNW.out (by omega)
          rw [e1] at h1
          cases h : (F.toList == s.toList) with
          | false => rfl
          | true => exact absurd (sameD_iff.1 h) h1
        have e3 : lsC vs cs k = F := by unfold lsC; rw [if_neg h0]; exact e1
        have e4 : fsC s k = s := by unfold fsC; rw [if_neg h0]
        rw [e3, e4]
        clear e1 e3
        go_wp2_with fail
        go_quiet (fail)
        have B6' : Hid (Below w.heap.size w (w5.drewN nq)) := B5.out.trans ⟨rfl, rfl, rfl, Nat.le_refl _, fun _ _ => rfl⟩
        have MU6' : Hid (IMapIs Try.prog 3 (w5.drewN nq) w.heap.size k fu) := MU5.out.keep rfl
        have MB6' : Hid (MapIs Try.prog 9 (w5.drewN nq) (w.heap.size + 1) k fb) := MB5.out.keep rfl
        have g0' : (w5.drewN nq).cell? ⟨wr.heap.size, 0, none⟩ = some (.int .i64 n) := g0
        obtain ⟨w6, hw6⟩ : ∃ w6, w5.drewN nq = w6 := ⟨_, rfl⟩
        have z6 : w6.heap.size = w5.heap.size := by rw [← hw6]; rfl
        rw [hw6] at B6' MU6' MB6' g0' ⊢
        have lk1 := MU6'.out.look (t := 138) Try.underlying3 Try.underlying138 (zeroB13 _) (x := (n : Int)) (wf_i64 (by omega) (by omega))
        have lk2 := MB6'.out.look (t := 52) Try.underlying9 Try.underlying52 (zeroB22 _) hTs
        rw [FUY.out] at lk1
        rw [HT.out] at FBT
        rw [FBT.out] at lk2
        simp only [Option.getD_none] at lk1 lk2
        clear hw6 g0 g1 a5 b5 c5
        go_wp2_with (first | (refine wp_mapStore _ rfl _ _ _ 52 rfl 9 4 Try.underlying9 Try.underlying52 (w.heap.size + 1) k fb rfl MB6'.out (by unfold maxLen; omega) F (.bool true) rfl rfl hFs ?_; intro w7 h7 g7; have M7 := Lib.hid h7; have G7 := Lib.hid g7; have MU7 := Lib.hid (MU6'.out.keep (G7.out.block _ MU6'.out.lt (fun e => by have := Option.some.inj e; omega))); have s7 := G7.out.size; have x7 := (World.cell?_of_block (a := ⟨wr.heap.size, 0, none⟩) (G7.out.block wr.heap.size (by omega) (fun e => by have := Option.some.inj e; omega))).trans g0'; clear h7 g7) | (refine wp_imapStore _ rfl _ _ _ 138 rfl 3 4 Try.underlying3 Try.underlying138 w.heap.size k fu rfl MU7.out (by unfold maxLen; omega) n (.bool true) rfl rfl (wf_i64 (by omega) (by omega)) ?_; intro w8 h8 g8; have M8 := Lib.hid h8; have G8 := Lib.hid g8; clear h8 g8))
        have B7 := B6'.out.grown G7.out B6'.out.size (fun j e => by cases e; omega)
        refine ⟨⟨k + 1, _, _, by omega, by go_num, ?_, ?_, (B7.grown G8.out B7.size (fun j e => by cases e; omega)), M8.out, M7.out.keep (G8.out.block _ M7.out.lt (fun e => by have := Option.some.inj e; omega)), NEWU.out, fun p h => ?_⟩, by simp [intOf]; omega⟩
        · unfold fsC
          rw [if_neg (by omega)]
        · unfold lsC
          rw [if_neg (by omega), Nat.add_sub_cancel, HY.out, HT.out]
        · have h1 := h k (by omega) (Nat.lt_succ_self k)
          rw [HY.out, HF.out] at h1
          unfold SMap.put
          rw [if_neg (fun e => h1 e.symm)]
          exact FB.out p fun i h0 hi => h i h0 (by omega)
    · obtain rfl : k = cs.length := by omega
      go_wp2_with fail
      exact HR.out _ HB.out
end Go.Proofs.Ytgngllgknimgkaa
namespace Go.Proofs.Ytgngllgknimgkaa
open Go.RowKit Go.Maps

theorem lcheck_good (ao : Option Addr) (vs : List Dm) (c : Nat) (ax : Int) (s : ByteArray) (ca : Option Addr) (cs : List Sp) (cc : Nat) (w : World) (R : Ending → World → Prop) (hl : vs.length ≤ 256) (hcl : cs.length ≤ 256)
   (hc : CellsAt w ao (dC vs)) (hv : DmsOk vs) (h0 : goE vs = 0) (hcs : CellsAt w ca (pC cs)) (hg : Good vs ax s cs) (hR : ∀ w', Below w.heap.size w w' → R (.returned (.int .i64 0)) w') :
    Calls Try.prog 51 #[.slice ao vs.length c, .slice ca cs.length cc] w R := by
  have HR := Lib.hid hR
  have HC := Lib.hid hc
  have HV := Lib.hid hv
  have H0 := Lib.hid h0
  have HCS := Lib.hid hcs
  have HG := Lib.hid hg
  clear hR hc hv hcs hg h0
  go_enter Try.func51, Try.ntmps51
  go_wp2_with fail
  refine given13_any ao vs c _ _ (by omega) HC.out HV.out fun w1 hb => ?_
  rw [H0.out]
  have B1 := Lib.hid hb
  clear hb
  go_wp2_with fail
  refine chain_good ao vs c ax s ca cs cc _ _ hl hcl (HC.out.below B1.out) HV.out (HCS.out.below B1.out) HG.out fun w2 hb => ?_
  have B2 := Lib.hid hb
  clear hb
  go_wp2_with fail
  exact HR.out _ (B1.out.trans (B2.out.mono B1.out.size))
def tkV (ao : Option Addr) (n c : Nat) (ca : Option Addr) (m cc : Nat) : Value := .agg #[.slice ao n c, .slice ca m cc, .int .i64 0, .int .i64 0]
theorem lmE_zero : lmE 0 0 = 0 := by decide
theorem scheck_good (ao : Option Addr) (vs : List Dm) (c : Nat) (ax : Int) (s : ByteArray) (ca : Option Addr) (cs : List Sp) (cc : Nat) (w : World) (R : Ending → World → Prop) (hl : vs.length ≤ 256) (hcl : cs.length ≤ 256)
   (hc : CellsAt w ao (dC vs)) (hv : DmsOk vs) (h0 : goE vs = 0) (hcs : CellsAt w ca (pC cs)) (hg : Good vs ax s cs) (hR : ∀ w', Below w.heap.size w w' → R (.returned (.int .i64 0)) w') :
    Calls Try.prog 34 #[.agg #[.slice ao vs.length c, .slice ca cs.length cc, .int .i64 0, .int .i64 0]] w R := by
  have HR := Lib.hid hR
  have HC := Lib.hid hc
  have HV := Lib.hid hv
  have H0 := Lib.hid h0
  have HCS := Lib.hid hcs
  have HG := Lib.hid hg
  obtain ⟨w1, E1, HB1, s1, X1⟩ := box_ex w #[.slice ao vs.length c, .slice ca cs.length cc, .int .i64 0, .int .i64 0] 38
  have x0 := cell_of X1.out (j := 0) rfl
  have x1 := cell_of X1.out (j := 1) rfl
  have x2 := cell_of X1.out (j := 2) rfl
  have x3 := cell_of X1.out (j := 3) rfl
  clear hR hc hv hcs hg h0
  go_enter Try.func34, Try.ntmps34
  go_wp2_with (rw [E1])
  refine lcheck_good ao vs c ax s ca cs cc _ _ hl hcl (HC.out.below HB1.out) HV.out H0.out (HCS.out.below HB1.out) HG.out fun w2 hb => ?_
  have B2 : Hid (Below w.heap.size w w2) := HB1.out.trans (hb.mono (Nat.le_of_lt s1))
  have y2 := cellB hb x2 s1
  have y3 := cellB hb x3 s1
  clear hb x0 x1 x2 x3
  go_wp2_with fail
  refine check17_any 0 0 _ _ fun w3 hb => ?_
  rw [lmE_zero]
  have B3 : Hid (Below w.heap.size w w3) := B2.out.trans (hb.mono B2.out.size)
  clear hb
  go_wp2_with fail
  exact HR.out _ B3.out
/-- What 'of' returns. -/
def wsV (ao : Option Addr) (n c : Nat) (ca : Option Addr) (m cc : Nat) : Array Value := #[.slice ao n c, .slice ca m cc, .int .i64 0, .int .i64 0, .func (.func 35) #[] #[], .func (.func 36) #[] #[]]
set_option maxRecDepth 100000 in
set_option maxHeartbeats 2000000 in
theorem of_good (ao : Option Addr) (vs : List Dm) (c : Nat) (ax : Int) (s : ByteArray) (ca : Option Addr) (cs : List Sp) (cc : Nat) (w : World) (R : Ending → World → Prop) (hl : vs.length ≤ 256) (hcl : cs.length ≤ 256)
   (hc : CellsAt w ao (dC vs)) (hv : DmsOk vs) (h0 : goE vs = 0) (hcs : CellsAt w ca (pC cs)) (hg : Good vs ax s cs) (hR : ∀ w', Below w.heap.size w w' → R (.returned (.tuple #[.agg (wsV ao vs.length c ca cs.length cc), .int .i64 0])) w') :
    Calls Try.prog 23 #[.agg #[.slice ao vs.length c, .slice ca cs.length cc, .int .i64 0, .int .i64 0]] w R := by
  have HR := Lib.hid hR
  have HC := Lib.hid hc
  have HV := Lib.hid hv
  have H0 := Lib.hid h0
  have HCS := Lib.hid hcs
  have HG := Lib.hid hg
  obtain ⟨w1, E1, HB1, s1, X1⟩ := box_ex w #[.slice ao vs.length c, .slice ca cs.length cc, .int .i64 0, .int .i64 0] 38
  obtain ⟨w2, E2, HB2, s2, X2⟩ := box_ex w1 #[.slice none 0 0, .slice none 0 0, .int .i64 0, .int .i64 0, .nilFunc, .nilFunc] 73
  have B2 : Hid (Below w.heap.size w w2) := HB1.out.trans (HB2.out.mono (Nat.le_of_lt s1))
  have x0 := cellB HB2.out (cell_of X1.out (j := 0) rfl) s1
  have x1 := cellB HB2.out (cell_of X1.out (j := 1) rfl) s1
  have x2 := cellB HB2.out (cell_of X1.out (j := 2) rfl) s1
  have x3 := cellB HB2.out (cell_of X1.out (j := 3) rfl) s1
  clear hR hc hv hcs hg h0
  go_enter Try.func23, Try.ntmps23
  go_wp2_with (first | rw [E1] | rw [E2])
  refine scheck_good ao vs c ax s ca cs cc _ _ hl hcl (HC.out.below B2.out) HV.out H0.out (HCS.out.below B2.out) HG.out fun w3 hb => ?_
  have B3 : Hid (Below w.heap.size w w3) := B2.out.trans (hb.mono B2.out.size)
  have X3 := (hb.block w1.heap.size s2).trans X2.out
  have y0 := cellB hb x0 (Nat.lt_trans s1 s2)
  have y1 := cellB hb x1 (Nat.lt_trans s1 s2)
  have y2 := cellB hb x2 (Nat.lt_trans s1 s2)
  have y3 := cellB hb x3 (Nat.lt_trans s1 s2)
  have z0 := cell_of X3 (j := 0) rfl
  have z1 := cell_of X3 (j := 1) rfl
  have z2 := cell_of X3 (j := 2) rfl
  have z3 := cell_of X3 (j := 3) rfl
  have z4 := cell_of X3 (j := 4) rfl
  have z5 := cell_of X3 (j := 5) rfl
  have f0 := frozen_of X3 0
  have f1 := frozen_of X3 1
  have f2 := frozen_of X3 2
  have f3 := frozen_of X3 3
  have f4 := frozen_of X3 4
  have f5 := frozen_of X3 5
  have h31 := B3.out.size
  clear hb x0 x1 x2 x3
  go_wp2_with fail
  have W6 := heap_setCell_same _ w1.heap.size 5 _ _ (.func (.func 36) #[] #[]) (heap_setCell_same _ w1.heap.size 4 _ _ (.func (.func 35) #[] #[]) (heap_setCell_same _ w1.heap.size 3 _ _ (.int .i64 0) (heap_setCell_same _ w1.heap.size 2 _ _ (.int .i64 0) (heap_setCell_same _ w1.heap.size 1 _ _ (.slice ca cs.length cc) (heap_setCell_same w3 w1.heap.size 0 _ _ (.slice ao vs.length c) X3)))))
  have hw1 : w.heap.size ≤ w1.heap.size := Nat.le_of_lt s1
  have B9 : Below w.heap.size w ((((((w3.setCell ⟨w1.heap.size, 0, none⟩ (.slice ao vs.length c)).setCell ⟨w1.heap.size, 1, none⟩ (.slice ca cs.length cc)).setCell ⟨w1.heap.size, 2, none⟩ (.int .i64 0)).setCell ⟨w1.heap.size, 3, none⟩ (.int .i64 0)).setCell ⟨w1.heap.size, 4, none⟩ (.func (.func 35) #[] #[])).setCell ⟨w1.heap.size, 5, none⟩ (.func (.func 36) #[] #[])) :=
    (((((B3.out.setCell (p := ⟨w1.heap.size, 0, none⟩) hw1 _).setCell (p := ⟨w1.heap.size, 1, none⟩) hw1 _).setCell (p := ⟨w1.heap.size, 2, none⟩) hw1 _).setCell (p := ⟨w1.heap.size, 3, none⟩) hw1 _).setCell (p := ⟨w1.heap.size, 4, none⟩) hw1 _).setCell (p := ⟨w1.heap.size, 5, none⟩) hw1 _
  revert W6 B9
  generalize ((((((w3.setCell ⟨w1.heap.size, 0, none⟩ (.slice ao vs.length c)).setCell ⟨w1.heap.size, 1, none⟩ (.slice ca cs.length cc)).setCell ⟨w1.heap.size, 2, none⟩ (.int .i64 0)).setCell ⟨w1.heap.size, 3, none⟩ (.int .i64 0)).setCell ⟨w1.heap.size, 4, none⟩ (.func (.func 35) #[] #[])).setCell ⟨w1.heap.size, 5, none⟩ (.func (.func 36) #[] #[])) = w9
  intro W6 B9
  have q0 := cell_of W6 (j := 0) (v := .slice ao vs.length c) rfl
  have q1 := cell_of W6 (j := 1) (v := .slice ca cs.length cc) rfl
  have q2 := cell_of W6 (j := 2) (v := .int .i64 0) rfl
  have q3 := cell_of W6 (j := 3) (v := .int .i64 0) rfl
  have q4 := cell_of W6 (j := 4) (v := .func (.func 35) #[] #[]) rfl
  have q5 := cell_of W6 (j := 5) (v := .func (.func 36) #[] #[]) rfl
  refine bodyPost_ret (v := .tuple #[.agg (wsV ao vs.length c ca cs.length cc), .int .i64 0]) (by simp [results, Try.results23, go_sem, q0, q1, q2, q3, q4, q5, wsV]) rfl ?_
  exact HR.out _ B9
end Go.Proofs.Ytgngllgknimgkaa
