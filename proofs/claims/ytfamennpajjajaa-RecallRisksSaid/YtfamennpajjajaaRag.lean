/- The walks of Reason and AtRisk of the reference. -/
import Derived.Test.YtfamennpajjajaaRaf
namespace Go.Proofs.Ytfamennpajjajaa
open Go.RowKit

set_option maxRecDepth 100000 in
set_option maxHeartbeats 4000000 in
theorem rreason_any (ao : Option Addr) (vs : List Ev) (c : Nat) (p : ByteArray) (w : World) (R : Ending → World → Prop) (hl : vs.length ≤ 9223372036854775807) (hcap : vs.length ≤ c) (hpl : p.size ≤ 9223372036854775807) (hc : CellsAt w ao (eC vs)) (hv : LogOk vs)
   (hR1 : chk3 vs ≠ 0 → ∀ w', Below w.heap.size w w' → R (.returned (.tuple #[.int .i64 0, .int .i64 0, .int .i64 (chk3 vs)])) w')
   (hR2 : chk3 vs = 0 → nmE p ≠ 0 → ∀ w', Below w.heap.size w w' → R (.returned (.tuple #[.int .i64 0, .int .i64 0, .int .i64 (nmE p)])) w')
   (hR3 : chk3 vs = 0 → nmE p = 0 → anyTo (msQ p) vs vs.length = false → ∀ w', Below w.heap.size w w' → R (.returned (.tuple #[.int .i64 0, .int .i64 0, .int .i64 6])) w')
   (hR4 : chk3 vs = 0 → nmE p = 0 → anyTo (msQ p) vs vs.length = true → rcl vs p = false → ∀ w', Below w.heap.size w w' → R (.returned (.tuple #[.int .i64 0, .int .i64 0, .int .i64 14])) w')
   (hR0 : chk3 vs = 0 → nmE p = 0 → anyTo (msQ p) vs vs.length = true → rcl vs p = true → ∀ w', Below w.heap.size w w' → R (.returned (.tuple #[.int .i64 (frs vs p 3), .int .i64 (nx vs (frs vs p 3).toNat), .int .i64 0])) w') :
    Calls Try.prog 25 #[.slice ao vs.length c, .string p] w R := by
  have HR0 := Lib.hid hR0
  have HR1 := Lib.hid hR1
  have HR2 := Lib.hid hR2
  have HR3 := Lib.hid hR3
  have HR4 := Lib.hid hR4
  have HC := Lib.hid hc
  have HV := Lib.hid hv
  clear hR0 hR1 hR2 hR3 hR4 hc hv
  obtain ⟨E, hE⟩ : ∃ E, Hid (chk3 vs = E) := ⟨_, rfl⟩
  obtain ⟨E2, hE2⟩ : ∃ E, Hid (nmE p = E) := ⟨_, rfl⟩
  obtain ⟨E3, hE3⟩ : ∃ E, Hid (anyTo (msQ p) vs vs.length = E) := ⟨_, rfl⟩
  obtain ⟨E4, hE4⟩ : ∃ E, Hid (rcl vs p = E) := ⟨_, rfl⟩
  go_enter Try.func25, Try.ntmps25
  go_wp2_with fail
  refine rcheck53_any _ vs c _ _ hl hcap HC.out HV.out ?_
  intro w1 hb1
  have HB1 := Lib.hid hb1
  clear hb1
  rw [hE.out]
  by_cases h0 : E = 0
  · subst h0
    have hln : vs.length ≤ 1000000 := by have := chk3_le hE.out; omega
    go_wp2_with fail
    refine rname_any p _ _ hpl ?_
    rw [hE2.out]
    by_cases h2 : E2 = 0
    · subst h2
      go_wp2_with fail
      refine rms_any _ vs vs.length c p _ _ hl (Nat.le_refl _) (HC.out.below HB1.out) ?_
      rw [hE3.out]
      rintro w2 ⟨q2, rfl⟩
      cases E3 with
      | true =>
        go_wp2_with fail
        refine rrecalled_any _ vs c p _ _ hln (by repeat first | exact HC.out.below HB1.out | apply CellsAt.drewN) ?_
        rw [hE4.out]
        rintro w3 ⟨q3, rfl⟩
        cases E4 with
        | true =>
          have hx := hE4.out
          have hpos : ∃ j : Nat, Hid (frs vs p 3 = j) ∧ j < vs.length := by
            unfold rcl at hx
            rw [Bool.and_eq_true, decide_eq_true_eq] at hx
            rcases fsS_cases p 3 vs vs.length 0 with h | ⟨j, h1, h3, h4, h5⟩
            · have := hx.1; unfold frs at this; omega
            · exact ⟨j, h1, by omega⟩
          obtain ⟨j, hj, hjl⟩ := hpos
          clear hx
          go_wp2_with fail
          refine rfirst_any _ vs c p 3 _ _ hln (by repeat first | exact HC.out.below HB1.out | apply CellsAt.drewN) ?_
          rw [hj.out]
          rintro w4 ⟨q4, rfl⟩
          go_wp2_with fail
          refine rnext_any _ vs c j _ _ hln hjl (by repeat first | exact HC.out.below HB1.out | apply CellsAt.drewN) ?_
          rintro w5 ⟨q5, rfl⟩
          obtain ⟨N, hN⟩ : ∃ N, Hid (nx vs j = N) := ⟨_, rfl⟩
          rw [hN.out]
          go_wp2_with fail
          go_ret3
          have h := fun V (hV : Below w.heap.size w V) => HR0.out hE.out hE2.out hE3.out hE4.out V hV
          rw [hj.out, Int.toNat_natCast, hN.out] at h
          exact ret_eq (h _ (HB1.out.trans (Drew.below (by repeat first | exact Drew.refl _ | apply Drew.drewN) _))) rfl
        | false =>
          go_wp2_with fail
          go_ret3
          exact HR4.out hE.out hE2.out hE3.out hE4.out _ (HB1.out.trans (Drew.below (by repeat first | exact Drew.refl _ | apply Drew.drewN) _))
      | false =>
        go_wp2_with fail
        go_ret3
        exact HR3.out hE.out hE2.out hE3.out _ (HB1.out.trans (Drew.below (by repeat first | exact Drew.refl _ | apply Drew.drewN) _))
    · have HX := Lib.hid h2
      have K0 : (E2 != 0) = true := by simpa using h2
      clear h2
      go_wp2_with fail
      go_ret3
      have h := HR2.out hE.out (by rw [hE2.out]; exact HX.out) w1 HB1.out
      rw [hE2.out] at h
      exact h
  · have HX := Lib.hid h0
    have K0 : (E != 0) = true := by simpa using h0
    clear h0
    go_wp2_with fail
    go_ret3
    have h := HR1.out (by rw [hE.out]; exact HX.out) w1 HB1.out
    rw [hE.out] at h
    exact h

/-- The log with a bad check of a gauge behind it. -/
def badEv (g : ByteArray) : Ev := ⟨2, g, ⟨#[]⟩, ⟨#[]⟩⟩
def riskL (vs : List Ev) (g : ByteArray) : List ByteArray := (allL (vs ++ [badEv g])).filter fun p => !hasL (allL vs) p
theorem allL_len (vs : List Ev) : (allL vs).length ≤ vs.length := putsTo_len _ _ _
theorem wp_appendE {P : Program} {w : World} {ops : Array Oper} {rest : List Oper} {o : Oper} {a : Act} {Q : Exit → Act → World → Prop} (hgd : o.guard = none) (s x : Operand) (t : TypeId)
    (ho : o.op = .call { callee := .builtin .append, args := #[s, x], argTypes := #[t, t] })
    (base : Nat) (e : TypeId) {z : Value} {size bytes : Nat} (ht : P.underlying t = some (.slice e)) (hi : (P.info? e).map (fun i => (i.zero, i.size, i.bytes)) = some (some z, size, bytes))
    (hzs : z.cells.size = size) (hsz : 0 < size)
    (v : Value) (n : Nat) (xs : List Value) (hs : a.eval s = v) (hown : w.ownsRow base e size v n xs)
    (ad : Option Addr) (m c : Nat) (news : List Value) (hm : news.length = m * size) (hx : a.eval x = .slice ad m c) (hnil : ad = none → m = 0 ∧ c = 0) (hc : CellsAt w ad news) (h1 : ∀ u ∈ news, u.oneCell' = true)
    (hn : n + m ≤ 9223372036854775807) (hbytes : (n + m) * bytes ≤ 140737488355328) (hbase : base ≤ w.heap.size)
    (h : ∀ v' w', w'.ownsRow base e size v' (n + m) (xs ++ news) → Below base w w' → wpList P ops Q rest (a.put o.dst v') w') : wpList P ops Q (o :: rest) a w := by
  cases ad with
  | none =>
    obtain ⟨rfl, rfl⟩ := hnil rfl
    obtain ⟨i0, q1, q2, q3, q4⟩ := info_parts hi
    obtain rfl : news = [] := List.length_eq_zero_iff.1 (by simpa using hm)
    refine wpList_append_own_none hgd s x t ho base e i0 size ht q1 v n xs hs hown hx ?_
    exact h v w (by simpa using hown) (Below.refl _ _)
  | some ad =>
    refine wp_appendT hgd s x t ho base e ht hi hzs hsz v n xs hs hown ad m c news hm hx hc h1 hn hbytes hbase ?_
    intro v' w' h2 h3 _
    exact h v' w' h2 ((Below.refl _ _).grown h3 hbase fun k hk => (hown.lt k hk).1)
theorem eC_one (vs : List Ev) : ∀ u ∈ eC vs, u.oneCell' = true := by
  intro u hu
  unfold eC at hu
  rw [List.mem_flatMap] at hu
  obtain ⟨b, _, hb⟩ := hu
  simp only [Ev.cells, List.mem_cons, List.not_mem_nil, or_false] at hb
  rcases hb with rfl | rfl | rfl | rfl <;> rfl
theorem filter_take {ks : List ByteArray} {q : ByteArray → Bool} {k : Nat} (h : k < ks.length) : (ks.take (k + 1)).filter q = (ks.take k).filter q ++ (if q (kat ks k) = true then [kat ks k] else []) := by
  rw [List.take_succ_eq_append_getElem h, List.filter_append, kat_lt h]
  congr 1
  cases hq : q ks[k] <;> simp [hq]

set_option maxRecDepth 100000 in
set_option maxHeartbeats 8000000 in
theorem ratRisk_any (ao : Option Addr) (vs : List Ev) (c : Nat) (g : ByteArray) (w : World) (R : Ending → World → Prop) (hl : vs.length ≤ 9223372036854775807) (hcap : vs.length ≤ c) (hnil : ao = none → vs.length = 0 ∧ c = 0) (hgl : g.size ≤ 9223372036854775807) (hc : CellsAt w ao (eC vs)) (hv : LogOk vs)
   (hR1 : chk3 vs ≠ 0 → ∀ w', Below w.heap.size w w' → R (.returned (.tuple #[.slice none 0 0, .int .i64 (chk3 vs)])) w')
   (hR2 : chk3 vs = 0 → nmE g ≠ 0 → ∀ w', Below w.heap.size w w' → R (.returned (.tuple #[.slice none 0 0, .int .i64 (nmE g)])) w')
   (hR0 : chk3 vs = 0 → nmE g = 0 → ∀ ao' c' w', Below w.heap.size w w' → CellsAt w' ao' (sC (riskL vs g)) → R (.returned (.tuple #[.slice ao' (riskL vs g).length c', .int .i64 0])) w') :
    Calls Try.prog 27 #[.slice ao vs.length c, .string g] w R := by
  have HR0 := Lib.hid hR0
  have HR1 := Lib.hid hR1
  have HR2 := Lib.hid hR2
  have HC := Lib.hid hc
  have HV := Lib.hid hv
  have HNil := Lib.hid hnil
  clear hR0 hR1 hR2 hc hv hnil
  obtain ⟨E, hE⟩ : ∃ E, Hid (chk3 vs = E) := ⟨_, rfl⟩
  obtain ⟨E2, hE2⟩ : ∃ E, Hid (nmE g = E) := ⟨_, rfl⟩
  go_enter Try.func27, Try.ntmps27
  go_wp2_with fail
  refine rcheck53_any _ vs c _ _ hl hcap HC.out HV.out ?_
  intro w1 hb1
  have HB1 := Lib.hid hb1
  clear hb1
  rw [hE.out]
  by_cases h0 : E = 0
  · subst h0
    have hln : vs.length ≤ 4096 := chk3_le hE.out
    go_wp2_with fail
    refine rname_any g _ _ hgl ?_
    rw [hE2.out]
    by_cases h2 : E2 = 0
    · subst h2
      go_wp2_with fail
      refine rall_any _ vs c _ _ (by omega) (HC.out.below HB1.out) ?_
      intro a2 c2 w2 hb2 h2
      have HB2 : Hid (Below w.heap.size w w2) := HB1.out.trans (hb2.mono HB1.out.size)
      have HA := Lib.hid h2
      have s2 := HB2.out.size
      clear hb2 h2
      obtain ⟨A, hA⟩ : ∃ A, Hid (allL vs = A) := ⟨_, rfl⟩
      have hAl : A.length ≤ 4096 := by rw [← hA.out]; exact Nat.le_trans (allL_len vs) hln
      rw [hA.out] at HA ⊢
      go_wp2_with (first | (at_builtin; refine wp_appendE rfl (.tmp 24) (.tmp 25) 31 rfl w2.heap.size 67 Try.underlying31 Try.infoREv rfl (by decide) _ 0 [] rfl (World.ownsRow_lit w2 #[] 0 (Nat.le_refl _) (by decide) rfl) ao vs.length c (eC vs) (eC_length vs) rfl HNil.out ((HC.out.below HB2.out).below ((Below.refl _ _).alloc (Nat.le_refl _) _)) (eC_one vs) (by omega) (by omega) (by simp only [World.size_alloc]; omega) ?_; intro v3 w3 hown hb; have HO3 := Lib.hid hown; have HB3 : Hid (Below w2.heap.size w2 w3) := ((Below.refl _ w2).alloc (Nat.le_refl _) _).trans hb; have s3 := HB3.out.size; clear hown hb) | (at_builtin; refine wp_appendE rfl (.tmp 26) (.tmp 29) 31 rfl w2.heap.size 67 Try.underlying31 Try.infoREv rfl (by decide) v3 (0 + vs.length) ([] ++ eC vs) rfl (ownsRow_below HO3.out ((Below.refl _ _).alloc (Nat.le_refl _) _)) (some ⟨w3.heap.size, 0, none⟩) 1 1 (eC [badEv g]) rfl rfl (by simp) (by exact cells4 w3 (.int .i64 2) (.string g) (.string ⟨#[]⟩) (.string ⟨#[]⟩) 67) (eC_one _) (by omega) (by omega) (by simp only [World.size_alloc]; omega) ?_; intro v4 w4 hown hb; have HB4 : Hid (Below w2.heap.size w2 w4) := (HB3.out.alloc s3 _).trans hb; have HO4 := Lib.hid hown; clear hown hb))
      have hO4 := HO4.out
      rw [List.nil_append, ← eC_append] at hO4
      obtain ⟨a5, c5, rfl, h5, _⟩ := ownsRow_read hO4
      have H5 := Lib.hid h5
      clear hO4 h5
      have hlen : 0 + vs.length + 1 = (vs ++ [badEv g]).length := by simp
      rw [hlen]
      refine rall_any _ (vs ++ [badEv g]) c5 _ _ (by simp; omega) H5.out ?_
      intro a6 c6 w6 hb6 h6
      have HB6 : Hid (Below w2.heap.size w2 w6) := HB4.out.trans (hb6.mono HB4.out.size)
      have HA6 : Hid (CellsAt w6 a2 (sC A)) := HA.out.below HB6.out
      have HF6 := Lib.hid h6
      have HB7 : Hid (Below w.heap.size w w6) := HB2.out.trans (HB6.out.mono s2)
      clear hb6 h6
      obtain ⟨F, hF⟩ : ∃ F, Hid (allL (vs ++ [badEv g]) = F) := ⟨_, rfl⟩
      have hFl : F.length ≤ 4097 := by rw [← hF.out]; exact Nat.le_trans (allL_len _) (by simp; omega)
      have hX : Hid (riskL vs g = F.filter fun p => !hasL A p) := by unfold Hid riskL; rw [hF.out, hA.out]
      obtain ⟨X, hX2⟩ : ∃ X, Hid ((F.filter fun p => !hasL A p) = X) := ⟨_, rfl⟩
      rw [hX.out, hX2.out] at HR0
      rw [hF.out] at HF6 ⊢
      have s6 := HB7.out.size
      go_wp2_with fail
      go_loopw [11, 10] (fun j v wr => ∃ (k : Nat) (L : List ByteArray), k ≤ F.length ∧ j = .int .i64 k ∧ Hid (Below w6.heap.size w6 wr) ∧ Hid (OwnL wr w6.heap.size 9 1 v L.length (sC L)) ∧ Hid ((F.take k).filter (fun p => !hasL A p) = L)) (fun j _ _ => F.length - (intOf j).toNat)
      case atStart => exact ⟨0, [], Nat.zero_le _, rfl, Below.refl _ _, OwnL.nil _ _ _ _, rfl⟩
      case round =>
        obtain ⟨k, L, hk, rfl, HB, HO, hL⟩ := hrel
        have sB := HB.out.size
        have hLl : L.length ≤ 4097 := by rw [← hL.out]; refine Nat.le_trans (List.length_filter_le _ _) ?_; rw [List.length_take]; omega
        by_cases hlt : k < F.length
        · obtain ⟨b, o, rfl, hbb, hcell⟩ := HF6.out.strs (by omega)
          have c0 := hcell k hlt
          have hst' := filter_take (q := fun p => !hasL A p) hlt
          obtain ⟨u, hu⟩ : ∃ u, kat F k = u := ⟨_, rfl⟩
          rw [hu] at c0 hst'
          rw [hL.out] at hst'
          have hst := Lib.hid hst'
          have d0 := cellB HB.out c0 hbb
          clear hcell hu c0 hst'
          obtain ⟨Z, hZ⟩ : ∃ Z, Hid (hasL A u = Z) := ⟨_, rfl⟩
          go_wp2_with fail
          refine rhas_any _ A c2 u _ _ (by omega) (HA6.out.below HB.out) ?_
          rw [hZ.out]
          rintro w8 ⟨q8, rfl⟩
          cases Z with
          | true =>
            go_wp2_with fail
            exact ⟨⟨k + 1, L, by omega, by go_num, HB.out.trans ((Drew.refl _).drewN.below _), HO.out.drewN _, by unfold Hid; rw [hst.out, hZ.out]; simp⟩, by simp [intOf]; omega⟩
          | false =>
            have d1 := cellB ((Drew.refl wr).drewN (n := q8) |>.below wr.heap.size) d0 (by omega)
            go_wp2_with (at_builtin; refine wp_append1 rfl (.tmp 45) (.tmp 50) 33 rfl w6.heap.size 9 Try.underlying33 Try.infoStr53 rfl (by decide) (by decide) u10 L.length (sC L) rfl ((HO.out.drewN _).alloc _) wr.heap.size [.string u] rfl rfl (new1 _ _ _) (one1 _ rfl) (by omega) (by simp; omega) ?_; intro v9 w9 hown hb; have HO9 := Lib.hid hown; have HB9 : Hid (Below w6.heap.size w6 w9) := ((HB.out.trans ((Drew.refl _).drewN.below _)).alloc (by exact sB) _).trans hb; clear hown hb)
            exact ⟨⟨k + 1, L ++ [u], by omega, by go_num, HB9, by unfold Hid; rw [sC_append, List.length_append]; exact HO9.out, by unfold Hid; rw [hst.out, hZ.out]; simp⟩, by simp [intOf]; omega⟩
        · obtain rfl : k = F.length := by omega
          rw [List.take_length] at hL
          have e : Hid (X = L) := by unfold Hid; rw [← hX2.out, ← hL.out]
          obtain ⟨a', c', rfl, h9, _⟩ := HO.out.read
          have H9 := Lib.hid h9
          clear h9
          go_wp2_with fail
          rw [e.out] at HR0
          exact HR0.out hE.out hE2.out a' c' wr (HB7.out.trans (HB.out.mono s6)) H9.out
    · have HX := Lib.hid h2
      have K0 : (E2 != 0) = true := by simpa using h2
      clear h2
      go_wp2_with fail
      have h := HR2.out hE.out (by rw [hE2.out]; exact HX.out) w1 HB1.out
      rw [hE2.out] at h
      exact h
  · have HX := Lib.hid h0
    have K0 : (E != 0) = true := by simpa using h0
    clear h0
    go_wp2_with fail
    have h := HR1.out (by rw [hE.out]; exact HX.out) w1 HB1.out
    rw [hE.out] at h
    exact h
end Go.Proofs.Ytfamennpajjajaa
