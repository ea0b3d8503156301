/- The walks of the reference's Added, Reach, steps, Standard. -/
import Derived.Test.YtdmolmdenfepkaaI
namespace Go.Proofs.Ytdmolmdenfepkaa
open Go.RowKit

def AddInv (ls : List Int) (n : Int) (W0 : World) (k : Nat) (v d : Value) (wr : World) : Prop :=
  ∃ (out : List Int) (b : Bool), d = .bool b ∧ OwnL wr W0.heap.size 3 1 v out.length (I64s out) ∧ out.length ≤ 2 * k ∧ addGo n (ls.drop k) (out, b) = addGo n ls ([], false) ∧ Below W0.heap.size W0 wr

theorem I64s_snoc (l : List Int) (x : Int) : I64s (l ++ [x]) = I64s l ++ [.int .i64 x] := by simp [I64s]

set_option maxHeartbeats 1000000 in
theorem added_any (ao : Option Addr) (ls : List Int) (c : Nat) (n : Int) (w : World) (R : Ending → World → Prop)
   (hl : ls.length ≤ 499999990) (hc : CellsAt w ao (I64s ls))
   (hR : ∀ v w', Below w.heap.size w w' → OwnL w' w.heap.size 3 1 v (added ls n).length (I64s (added ls n)) → R (.returned v) w') :
    Calls Try.prog 31 #[.slice ao ls.length c, .int .i64 n] w R := by
  have HR := Lib.hid hR
  clear hR
  go_enter Try.func31, Try.ntmps31
  go_wp2_with fail
  go_loopw [5, 6, 7] (fun v d vi wr => ∃ k : Nat, k ≤ ls.length ∧ vi = .int .i64 k ∧ AddInv ls n w k v d wr) (fun _ _ vi _ => ls.length - (intOf vi).toNat)
  case atStart => exact ⟨0, Nat.zero_le _, rfl, [], false, rfl, OwnL.nil _ _ _ _, by simp, rfl, Below.refl _ _⟩
  case round =>
    obtain ⟨k, hk, rfl, out, b, rfl, hown, hout, hgo, hbel⟩ := hrel
    have HO := Lib.hid hown
    have HG := Lib.hid hgo
    have HB := Lib.hid hbel
    by_cases hlt : k < ls.length
    · obtain ⟨bl, o, rfl, hblt, hcell⟩ := hc.ints (by omega)
      have d1 := (hbel.cell (p := ⟨bl, o + k, none⟩) hblt).trans (hcell k hlt)
      have hblr : bl < wr.heap.size := Nat.lt_of_lt_of_le hblt hbel.size
      have hdrop := addGo_drop (n := n) hlt (out, b)
      have HD := Lib.hid hdrop
      clear hown hgo hbel hcell hdrop
      have fin : ∀ (s : List Int × Bool) (v' : Value) (w2 : World), addS (at0 ls k) n (out, b) = s → OwnL w2 w.heap.size 3 1 v' s.1.length (I64s s.1) → s.1.length ≤ 2 * (k + 1) → Below w.heap.size w w2 → AddInv ls n w (k + 1) v' (.bool s.2) w2 := by
        intro s v' w2 e h1 h2 h3
        refine ⟨s.1, s.2, rfl, h1, h2, ?_, h3⟩
        have h := HG.out
        rw [HD.out, e] at h
        exact h
      have FIN := Lib.hid fin
      clear fin
      by_cases g1 : b = false ∧ n ≤ at0 ls k
      · obtain ⟨rfl, g2⟩ := g1
        by_cases g3 : at0 ls k = n
        · have g4 : (at0 ls k != n) = false := by simp [g3]
          have e : addS (at0 ls k) n (out, false) = (out ++ [n], true) := by simp [addS, g3]
          have E := Lib.hid e
          clear e g3
          go_wp2_with (at_builtin; refine wp_append1 rfl (.tmp 24) (.tmp 26) 22 rfl w.heap.size 3 Try.underlying22 Try.infoInt rfl (by decide) (by decide) _ out.length (I64s out) rfl (HO.out.alloc _) wr.heap.size [.int .i64 n] rfl rfl (new1 _ _ _) (one1 _ rfl) (by omega) (by have := HB.out.size; simp; omega) ?_; intro v1 w1 hown1 hb1; have H1 := Lib.hid hown1; have Hb1 := Lib.hid hb1; have e1 := (hb1.mono (Nat.le_refl _)); have d2 : w1.cell? ⟨bl, o + k, none⟩ = some (.int .i64 (at0 ls k)) := (hb1.cell (p := ⟨bl, o + k, none⟩) hblt).trans ((World.cell?_alloc_lt _ _ _ hblr).trans d1); clear hown1 hb1 e1)
          exact ⟨⟨k + 1, by omega, by go_num, FIN.out _ _ _ E.out (by simpa [I64s] using H1.out) (by simp; omega) ((HB.out.alloc HB.out.size _).trans Hb1.out)⟩, by simp [intOf]; omega⟩
        · have g4 : (at0 ls k != n) = true := by simp [g3]
          have e : addS (at0 ls k) n (out, false) = (out ++ [n] ++ [at0 ls k], true) := by simp [addS, g2, g3]
          have E := Lib.hid e
          clear e g3
          go_wp2_with (first
            | (at_builtin; refine wp_append1 rfl (.tmp 24) (.tmp 26) 22 rfl w.heap.size 3 Try.underlying22 Try.infoInt rfl (by decide) (by decide) _ out.length (I64s out) rfl (HO.out.alloc _) wr.heap.size [.int .i64 n] rfl rfl (new1 _ _ _) (one1 _ rfl) (by omega) (by have := HB.out.size; simp; omega) ?_; intro v1 w1 hown1 hb1; have H1 := Lib.hid hown1; have Hb1 := Lib.hid hb1; have hs1 : wr.heap.size + 1 ≤ w1.heap.size := (by have := hb1.size; simpa using this); have hblr1 : bl < w1.heap.size := (by omega); have d2 : w1.cell? ⟨bl, o + k, none⟩ = some (.int .i64 (at0 ls k)) := (hb1.cell (p := ⟨bl, o + k, none⟩) hblt).trans ((World.cell?_alloc_lt _ _ _ hblr).trans d1); clear hown1 hb1)
            | (at_builtin; refine wp_append1 rfl (.tmp 34) (.tmp 39) 22 rfl w.heap.size 3 Try.underlying22 Try.infoInt rfl (by decide) (by decide) _ (out.length + 1) (I64s out ++ [.int .i64 n]) rfl (H1.out.alloc _) w1.heap.size [.int .i64 (at0 ls k)] rfl rfl (new1 _ _ _) (one1 _ rfl) (by omega) (by have := HB.out.size; simp; omega) ?_; intro v2 w2 hown2 hb2; have H2 := Lib.hid hown2; have Hb2 := Lib.hid hb2; clear hown2 hb2))
          refine ⟨⟨k + 1, by omega, by go_num, FIN.out _ _ _ E.out ?_ (by simp; omega) ((((HB.out.alloc HB.out.size _).trans Hb1.out).alloc (by have := HB.out.size; omega) _).trans Hb2.out)⟩, by simp [intOf]; omega⟩
          have := H2.out
          simpa [I64s] using this
      · have HG1 := Lib.hid g1
        have hb' : b = true ∨ (b = false ∧ at0 ls k < n) := by
          cases b
          · exact .inr ⟨rfl, by have := HG1.out; simp at this; omega⟩
          · exact .inl rfl
        clear g1
        by_cases g3 : at0 ls k = n
        · have g4 : (at0 ls k != n) = false := by simp [g3]
          have hbt : b = true := by rcases hb' with h | h; exact h; omega
          subst hbt
          have e : addS (at0 ls k) n (out, true) = (out, true) := by simp [addS, g3]
          have E := Lib.hid e
          clear e g3 hb'
          go_wp2_with fail
          exact ⟨⟨k + 1, by omega, by go_num, FIN.out _ _ _ E.out HO.out (by simp; omega) HB.out⟩, by simp [intOf]; omega⟩
        · have g4 : (at0 ls k != n) = true := by simp [g3]
          have e : addS (at0 ls k) n (out, b) = (out ++ [at0 ls k], b) := by
            unfold addS; rw [if_neg HG1.out, if_neg g3]
          have E := Lib.hid e
          clear e g3
          rcases hb' with rfl | ⟨rfl, g5⟩
          all_goals
            go_wp2_with (at_builtin; refine wp_append1 rfl (.tmp 34) (.tmp 39) 22 rfl w.heap.size 3 Try.underlying22 Try.infoInt rfl (by decide) (by decide) _ out.length (I64s out) rfl (HO.out.alloc _) wr.heap.size [.int .i64 (at0 ls k)] rfl rfl (new1 _ _ _) (one1 _ rfl) (by omega) (by have := HB.out.size; simp; omega) ?_; intro v2 w2 hown2 hb2; have H2 := Lib.hid hown2; have Hb2 := Lib.hid hb2; clear hown2 hb2)
            exact ⟨⟨k + 1, by omega, by go_num, FIN.out _ _ _ E.out (by simpa [I64s] using H2.out) (by simp; omega) ((HB.out.alloc HB.out.size _).trans Hb2.out)⟩, by simp [intOf]; omega⟩
    · have hD : addGo n ls ([], false) = (out, b) := by
        have h := HG.out
        rw [List.drop_eq_nil_of_le (by omega)] at h
        exact h.symm
      have hs : out.length ≤ 999999980 := by omega
      clear hown hgo hbel
      cases b with
      | true =>
        have e : added ls n = out := by rw [added, hD]; rfl
        have HR' := Lib.hid (HR.out _ wr HB.out (by rw [e]; exact HO.out))
        clear e hD
        go_wp2_with fail
        exact HR'.out
      | false =>
        have e : added ls n = out ++ [n] := by rw [added, hD]; rfl
        have E := Lib.hid e
        clear e hD
        go_wp2_with (at_builtin; refine wp_append1 rfl (.tmp 43) (.tmp 45) 22 rfl w.heap.size 3 Try.underlying22 Try.infoInt rfl (by decide) (by decide) _ out.length (I64s out) rfl (HO.out.alloc _) wr.heap.size [.int .i64 n] rfl rfl (new1 _ _ _) (one1 _ rfl) (by omega) (by have := HB.out.size; simp; omega) ?_; intro v2 w2 hown2 hb2; have H2 := Lib.hid hown2; have Hb2 := Lib.hid hb2; clear hown2 hb2)
        refine HR.out _ _ ((HB.out.alloc HB.out.size _).trans Hb2.out) ?_
        rw [E.out]
        simpa [I64s] using H2.out
end Go.Proofs.Ytdmolmdenfepkaa
