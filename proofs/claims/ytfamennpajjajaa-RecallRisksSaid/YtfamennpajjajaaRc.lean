/- The walks of named and form of the reference, of names of package recall. -/
import Derived.Test.YtfamennpajjajaaRb
namespace Go.Proofs.Ytfamennpajjajaa
open Go.RowKit

theorem rnamed_any (s : ByteArray) (u : Bool) (w : World) (R : Ending → World → Prop) (hs : s.size ≤ 9223372036854775807) (hR : R (.returned (.int .i64 (if u = true then nmE s else 0))) w) :
    Calls Try.prog 69 #[.string s, .bool u] w R := by
  have HR := Lib.hid hR
  clear hR
  cases u
  · go_enter Try.func69, Try.ntmps69
    go_wp2_with fail
    exact ret_i HR.out rfl rfl
  · go_enter Try.func69, Try.ntmps69
    go_wp2_with fail
    refine rname_any s _ _ hs ?_
    go_wp2_with fail
    exact ret_i HR.out rfl rfl

set_option maxRecDepth 100000 in
set_option maxHeartbeats 4000000 in
theorem rform_any (v : Ev) (w : World) (R : Ending → World → Prop) (hv : EvOk v) (hR : ∀ w', Below w.heap.size w w' → R (.returned (.int .i64 (evE v))) w') :
    Calls Try.prog 44 #[.agg #[.int .i64 v.k, .string v.g, .string v.p, .string v.t]] w R := by
  have HR := Lib.hid hR
  clear hR
  obtain ⟨hg, hp, ht⟩ := hv
  obtain ⟨k, g, p, t⟩ := v
  simp only at hg hp ht ⊢
  obtain ⟨w1, E1', HB1, s1, X1⟩ := box_ex w #[.int .i64 k, .string g, .string p, .string t] 67
  have E1 := Lib.hid E1'
  have a0 := cell_at X1.out (j := 0) (v := .int .i64 k) rfl
  have a1 := cell_at X1.out (j := 1) (v := .string g) rfl
  have a2 := cell_at X1.out (j := 2) (v := .string p) rfl
  have a3 := cell_at X1.out (j := 3) (v := .string t) rfl
  rw [← E1'] at a0 a1 a2 a3
  clear E1'
  have HB : Hid (Below w.heap.size w w1) := HB1
  by_cases hk : k < 0 ∨ 3 < k
  · have hE : Hid (evE ⟨k, g, p, t⟩ = 1) := by unfold Hid evE; rw [if_pos hk]
    by_cases h0 : k < 0
    · go_enter Try.func44, Try.ntmps44
      go_wp2_with fail
      rw [E1.out]
      exact ret_i (HR.out _ HB.out) rfl hE.out
    · have h3 : 3 < k := by omega
      clear hk
      go_enter Try.func44, Try.ntmps44
      go_wp2_with fail
      rw [E1.out]
      exact ret_i (HR.out _ HB.out) rfl hE.out
  · have hk4 : k = 0 ∨ k = 3 ∨ k = 1 ∨ k = 2 := by omega
    clear hk
    rcases hk4 with rfl | rfl | rfl | rfl
    · by_cases eg : nmE g = 0
      · have Hg := Lib.hid eg
        by_cases ep : nmE p = 0
        · have Hp := Lib.hid ep
          by_cases et : nmE t = 0
          · have Ht := Lib.hid et
            have hE : Hid (evE ⟨0, g, p, t⟩ = 0) := by unfold Hid evE; simp [eg, ep, et]
            clear eg ep et 
            go_enter Try.func44, Try.ntmps44
            go_wp2_with fail
            rw [E1.out] at a0 a1 a2 a3 ⊢
            go_quiet (fail)
            go_wp2_with fail
            refine rnamed_any g true _ _ hg ?_
            rw [if_pos rfl, Hg.out]
            go_wp2_with fail
            refine rnamed_any p true _ _ hp ?_
            rw [if_pos rfl, Hp.out]
            go_wp2_with fail
            refine rnamed_any t true _ _ ht ?_
            rw [if_pos rfl, Ht.out]
            go_wp2_with fail
            try (go_quiet (fail); go_wp2_with fail)
            exact ret_i (HR.out _ (HB.out.trans ((by repeat first | exact Drew.refl _ | apply Drew.drewN : Drew _ _).below _))) rfl hE.out
          · have nt : (nmE t == 0) = false := by simpa using et
            have mt : (nmE t != 0) = true := by simpa using et
            have hE : Hid (evE ⟨0, g, p, t⟩ = nmE t) := by unfold Hid evE; simp [eg, ep]
            clear eg ep et 
            go_enter Try.func44, Try.ntmps44
            go_wp2_with fail
            rw [E1.out] at a0 a1 a2 a3 ⊢
            go_quiet (fail)
            go_wp2_with fail
            refine rnamed_any g true _ _ hg ?_
            rw [if_pos rfl, Hg.out]
            go_wp2_with fail
            refine rnamed_any p true _ _ hp ?_
            rw [if_pos rfl, Hp.out]
            go_wp2_with fail
            refine rnamed_any t true _ _ ht ?_
            rw [if_pos rfl]
            go_wp2_with fail
            try (go_quiet (fail); go_wp2_with fail)
            exact ret_i (HR.out _ (HB.out.trans ((by repeat first | exact Drew.refl _ | apply Drew.drewN : Drew _ _).below _))) rfl hE.out
        · have np : (nmE p == 0) = false := by simpa using ep
          have mp : (nmE p != 0) = true := by simpa using ep
          have hE : Hid (evE ⟨0, g, p, t⟩ = nmE p) := by unfold Hid evE; simp [eg, ep]
          clear eg ep 
          go_enter Try.func44, Try.ntmps44
          go_wp2_with fail
          rw [E1.out] at a0 a1 a2 a3 ⊢
          go_quiet (fail)
          go_wp2_with fail
          refine rnamed_any g true _ _ hg ?_
          rw [if_pos rfl, Hg.out]
          go_wp2_with fail
          refine rnamed_any p true _ _ hp ?_
          rw [if_pos rfl]
          go_wp2_with fail
          try (go_quiet (fail); go_wp2_with fail)
          exact ret_i (HR.out _ (HB.out.trans ((by repeat first | exact Drew.refl _ | apply Drew.drewN : Drew _ _).below _))) rfl hE.out
      · have ng : (nmE g == 0) = false := by simpa using eg
        have mg : (nmE g != 0) = true := by simpa using eg
        have hE : Hid (evE ⟨0, g, p, t⟩ = nmE g) := by unfold Hid evE; simp [eg]
        clear eg 
        go_enter Try.func44, Try.ntmps44
        go_wp2_with fail
        rw [E1.out] at a0 a1 a2 a3 ⊢
        go_quiet (fail)
        go_wp2_with fail
        refine rnamed_any g true _ _ hg ?_
        rw [if_pos rfl]
        go_wp2_with fail
        try (go_quiet (fail); go_wp2_with fail)
        exact ret_i (HR.out _ (HB.out.trans ((by repeat first | exact Drew.refl _ | apply Drew.drewN : Drew _ _).below _))) rfl hE.out
    · by_cases ep : nmE p = 0
      · have Hp := Lib.hid ep
        by_cases zg : g.size = 0
        · have qg := empty_of zg
          by_cases zt : t.size = 0
          · have qt := empty_of zt
            have hE : Hid (evE ⟨3, g, p, t⟩ = 0) := by unfold Hid evE; simp [ep, zg, zt]
            clear ep zg zt
            go_enter Try.func44, Try.ntmps44
            go_wp2_with fail
            rw [E1.out] at a0 a1 a2 a3 ⊢
            go_quiet (fail)
            go_wp2_with fail
            refine rnamed_any g false _ _ hg ?_
            rw [if_neg (by decide)]
            go_wp2_with fail
            refine rnamed_any p true _ _ hp ?_
            rw [if_pos rfl, Hp.out]
            go_wp2_with fail
            refine rnamed_any t false _ _ ht ?_
            rw [if_neg (by decide)]
            go_wp2_with fail
            try (go_quiet (fail); go_wp2_with fail)
            exact ret_i (HR.out _ (HB.out.trans ((by repeat first | exact Drew.refl _ | apply Drew.drewN : Drew _ _).below _))) rfl hE.out
          · have qt := nempty_of zt
            have hE : Hid (evE ⟨3, g, p, t⟩ = 3) := by unfold Hid evE; simp [ep, zg, zt]
            clear ep zg zt
            go_enter Try.func44, Try.ntmps44
            go_wp2_with fail
            rw [E1.out] at a0 a1 a2 a3 ⊢
            go_quiet (fail)
            go_wp2_with fail
            refine rnamed_any g false _ _ hg ?_
            rw [if_neg (by decide)]
            go_wp2_with fail
            refine rnamed_any p true _ _ hp ?_
            rw [if_pos rfl, Hp.out]
            go_wp2_with fail
            refine rnamed_any t false _ _ ht ?_
            rw [if_neg (by decide)]
            go_wp2_with fail
            try (go_quiet (fail); go_wp2_with fail)
            exact ret_i (HR.out _ (HB.out.trans ((by repeat first | exact Drew.refl _ | apply Drew.drewN : Drew _ _).below _))) rfl hE.out
        · have qg := nempty_of zg
          have hE : Hid (evE ⟨3, g, p, t⟩ = 3) := by unfold Hid evE; simp [ep, zg]
          clear ep zg
          go_enter Try.func44, Try.ntmps44
          go_wp2_with fail
          rw [E1.out] at a0 a1 a2 a3 ⊢
          go_quiet (fail)
          go_wp2_with fail
          refine rnamed_any g false _ _ hg ?_
          rw [if_neg (by decide)]
          go_wp2_with fail
          refine rnamed_any p true _ _ hp ?_
          rw [if_pos rfl, Hp.out]
          go_wp2_with fail
          refine rnamed_any t false _ _ ht ?_
          rw [if_neg (by decide)]
          go_wp2_with fail
          try (go_quiet (fail); go_wp2_with fail)
          exact ret_i (HR.out _ (HB.out.trans ((by repeat first | exact Drew.refl _ | apply Drew.drewN : Drew _ _).below _))) rfl hE.out
      · have np : (nmE p == 0) = false := by simpa using ep
        have mp : (nmE p != 0) = true := by simpa using ep
        have hE : Hid (evE ⟨3, g, p, t⟩ = nmE p) := by unfold Hid evE; simp [ep]
        clear ep 
        go_enter Try.func44, Try.ntmps44
        go_wp2_with fail
        rw [E1.out] at a0 a1 a2 a3 ⊢
        go_quiet (fail)
        go_wp2_with fail
        refine rnamed_any g false _ _ hg ?_
        rw [if_neg (by decide)]
        go_wp2_with fail
        refine rnamed_any p true _ _ hp ?_
        rw [if_pos rfl]
        go_wp2_with fail
        try (go_quiet (fail); go_wp2_with fail)
        exact ret_i (HR.out _ (HB.out.trans ((by repeat first | exact Drew.refl _ | apply Drew.drewN : Drew _ _).below _))) rfl hE.out
    · by_cases eg : nmE g = 0
      · have Hg := Lib.hid eg
        by_cases zp : p.size = 0
        · have qp := empty_of zp
          by_cases zt : t.size = 0
          · have qt := empty_of zt
            have hE : Hid (evE ⟨1, g, p, t⟩ = 0) := by unfold Hid evE; simp [eg, zp, zt]
            clear eg zp zt
            go_enter Try.func44, Try.ntmps44
            go_wp2_with fail
            rw [E1.out] at a0 a1 a2 a3 ⊢
            go_quiet (fail)
            go_wp2_with fail
            refine rnamed_any g true _ _ hg ?_
            rw [if_pos rfl, Hg.out]
            go_wp2_with fail
            refine rnamed_any p false _ _ hp ?_
            rw [if_neg (by decide)]
            go_wp2_with fail
            refine rnamed_any t false _ _ ht ?_
            rw [if_neg (by decide)]
            go_wp2_with fail
            try (go_quiet (fail); go_wp2_with fail)
            exact ret_i (HR.out _ (HB.out.trans ((by repeat first | exact Drew.refl _ | apply Drew.drewN : Drew _ _).below _))) rfl hE.out
          · have qt := nempty_of zt
            have hE : Hid (evE ⟨1, g, p, t⟩ = 3) := by unfold Hid evE; simp [eg, zp, zt]
            clear eg zp zt
            go_enter Try.func44, Try.ntmps44
            go_wp2_with fail
            rw [E1.out] at a0 a1 a2 a3 ⊢
            go_quiet (fail)
            go_wp2_with fail
            refine rnamed_any g true _ _ hg ?_
            rw [if_pos rfl, Hg.out]
            go_wp2_with fail
            refine rnamed_any p false _ _ hp ?_
            rw [if_neg (by decide)]
            go_wp2_with fail
            refine rnamed_any t false _ _ ht ?_
            rw [if_neg (by decide)]
            go_wp2_with fail
            try (go_quiet (fail); go_wp2_with fail)
            exact ret_i (HR.out _ (HB.out.trans ((by repeat first | exact Drew.refl _ | apply Drew.drewN : Drew _ _).below _))) rfl hE.out
        · have qp := nempty_of zp
          have hE : Hid (evE ⟨1, g, p, t⟩ = 3) := by unfold Hid evE; simp [eg, zp]
          clear eg zp
          go_enter Try.func44, Try.ntmps44
          go_wp2_with fail
          rw [E1.out] at a0 a1 a2 a3 ⊢
          go_quiet (fail)
          go_wp2_with fail
          refine rnamed_any g true _ _ hg ?_
          rw [if_pos rfl, Hg.out]
          go_wp2_with fail
          refine rnamed_any p false _ _ hp ?_
          rw [if_neg (by decide)]
          go_wp2_with fail
          refine rnamed_any t false _ _ ht ?_
          rw [if_neg (by decide)]
          go_wp2_with fail
          try (go_quiet (fail); go_wp2_with fail)
          exact ret_i (HR.out _ (HB.out.trans ((by repeat first | exact Drew.refl _ | apply Drew.drewN : Drew _ _).below _))) rfl hE.out
      · have ng : (nmE g == 0) = false := by simpa using eg
        have mg : (nmE g != 0) = true := by simpa using eg
        have hE : Hid (evE ⟨1, g, p, t⟩ = nmE g) := by unfold Hid evE; simp [eg]
        clear eg 
        go_enter Try.func44, Try.ntmps44
        go_wp2_with fail
        rw [E1.out] at a0 a1 a2 a3 ⊢
        go_quiet (fail)
        go_wp2_with fail
        refine rnamed_any g true _ _ hg ?_
        rw [if_pos rfl]
        go_wp2_with fail
        try (go_quiet (fail); go_wp2_with fail)
        exact ret_i (HR.out _ (HB.out.trans ((by repeat first | exact Drew.refl _ | apply Drew.drewN : Drew _ _).below _))) rfl hE.out
    · by_cases eg : nmE g = 0
      · have Hg := Lib.hid eg
        by_cases zp : p.size = 0
        · have qp := empty_of zp
          by_cases zt : t.size = 0
          · have qt := empty_of zt
            have hE : Hid (evE ⟨2, g, p, t⟩ = 0) := by unfold Hid evE; simp [eg, zp, zt]
            clear eg zp zt
            go_enter Try.func44, Try.ntmps44
            go_wp2_with fail
            rw [E1.out] at a0 a1 a2 a3 ⊢
            go_quiet (fail)
            go_wp2_with fail
            refine rnamed_any g true _ _ hg ?_
            rw [if_pos rfl, Hg.out]
            go_wp2_with fail
            refine rnamed_any p false _ _ hp ?_
            rw [if_neg (by decide)]
            go_wp2_with fail
            refine rnamed_any t false _ _ ht ?_
            rw [if_neg (by decide)]
            go_wp2_with fail
            try (go_quiet (fail); go_wp2_with fail)
            exact ret_i (HR.out _ (HB.out.trans ((by repeat first | exact Drew.refl _ | apply Drew.drewN : Drew _ _).below _))) rfl hE.out
          · have qt := nempty_of zt
            have hE : Hid (evE ⟨2, g, p, t⟩ = 3) := by unfold Hid evE; simp [eg, zp, zt]
            clear eg zp zt
            go_enter Try.func44, Try.ntmps44
            go_wp2_with fail
            rw [E1.out] at a0 a1 a2 a3 ⊢
            go_quiet (fail)
            go_wp2_with fail
            refine rnamed_any g true _ _ hg ?_
            rw [if_pos rfl, Hg.out]
            go_wp2_with fail
            refine rnamed_any p false _ _ hp ?_
            rw [if_neg (by decide)]
            go_wp2_with fail
            refine rnamed_any t false _ _ ht ?_
            rw [if_neg (by decide)]
            go_wp2_with fail
            try (go_quiet (fail); go_wp2_with fail)
            exact ret_i (HR.out _ (HB.out.trans ((by repeat first | exact Drew.refl _ | apply Drew.drewN : Drew _ _).below _))) rfl hE.out
        · have qp := nempty_of zp
          have hE : Hid (evE ⟨2, g, p, t⟩ = 3) := by unfold Hid evE; simp [eg, zp]
          clear eg zp
          go_enter Try.func44, Try.ntmps44
          go_wp2_with fail
          rw [E1.out] at a0 a1 a2 a3 ⊢
          go_quiet (fail)
          go_wp2_with fail
          refine rnamed_any g true _ _ hg ?_
          rw [if_pos rfl, Hg.out]
          go_wp2_with fail
          refine rnamed_any p false _ _ hp ?_
          rw [if_neg (by decide)]
          go_wp2_with fail
          refine rnamed_any t false _ _ ht ?_
          rw [if_neg (by decide)]
          go_wp2_with fail
          try (go_quiet (fail); go_wp2_with fail)
          exact ret_i (HR.out _ (HB.out.trans ((by repeat first | exact Drew.refl _ | apply Drew.drewN : Drew _ _).below _))) rfl hE.out
      · have ng : (nmE g == 0) = false := by simpa using eg
        have mg : (nmE g != 0) = true := by simpa using eg
        have hE : Hid (evE ⟨2, g, p, t⟩ = nmE g) := by unfold Hid evE; simp [eg]
        clear eg 
        go_enter Try.func44, Try.ntmps44
        go_wp2_with fail
        rw [E1.out] at a0 a1 a2 a3 ⊢
        go_quiet (fail)
        go_wp2_with fail
        refine rnamed_any g true _ _ hg ?_
        rw [if_pos rfl]
        go_wp2_with fail
        try (go_quiet (fail); go_wp2_with fail)
        exact ret_i (HR.out _ (HB.out.trans ((by repeat first | exact Drew.refl _ | apply Drew.drewN : Drew _ _).below _))) rfl hE.out
end Go.Proofs.Ytfamennpajjajaa
