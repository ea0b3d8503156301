/- Features and frames that came in, and the library's variables, as the rows of layer 19 read them. -/
import Derived.Deep.Slices
import Derived.Deep.Fields
import Derived.ChangeSame
import Derived.Lib.SmallJoins
import Derived.ProofKit
import Derived.Stop.LaidErr
import Derived.Lib.LaidTab
import Derived.Handed
import Derived.MakeChecks
import Derived.Test.YtciokmjhdbcmpaaGreatDoorRows
import Derived.Test.YtciokmjhdbcmpaaGreatDoorMfzd
namespace Go.Proofs.YtciokmjhdbcmpaaGreatDoor
open Go.RowKit Go.Joins Go.ChangeShapes Go.WideShapes Go.Deep

theorem spot_none {w : World} {x : Addr} {v : Value} (h : w.cell? x = some v) : ∃ b o, x = ⟨b, o, none⟩ ∧ b < w.heap.size := by
  obtain ⟨b, o, sp⟩ := x
  have hs : sp = none := by
    unfold World.cell? at h
    split at h
    · split at h
      · cases h
      · rename_i h2; simpa using h2
    · cases h
  subst hs
  exact ⟨b, o, rfl, lt_of_cell h⟩
theorem list_ex {α : Type} (z : α) {Q : Nat → α → Prop} : ∀ n : Nat, (∀ i, i < n → ∃ b, Q i b) → ∃ vs : List α, vs.length = n ∧ ∀ i, i < n → Q i (vs.getD i z)
  | 0, _ => ⟨[], rfl, fun i h => absurd h (by omega)⟩
  | n + 1, h => by
    obtain ⟨bs, h1, h2⟩ := list_ex z n fun i hi => h i (by omega)
    obtain ⟨b, hb⟩ := h n (by omega)
    refine ⟨bs ++ [b], by simp [h1], fun i hi => ?_⟩
    by_cases e : i = n
    · subst e
      have : (bs ++ [b]).getD i z = b := by rw [List.getD_eq_getElem?_getD, List.getElem?_append_right (by omega), h1]; simp
      rw [this]; exact hb
    · have : (bs ++ [b]).getD i z = bs.getD i z := by rw [List.getD_eq_getElem?_getD, List.getElem?_append_left (by omega), List.getD_eq_getElem?_getD]
      rw [this]; exact h2 i (by omega)
theorem cells_of_rows {w : World} {a : Addr} {n k : Nat} (L : List Value) (hl : L.length = n * k) (hk : 0 < k) (h : ∀ i r, i < n → r < k → ∃ v, L[i * k + r]? = some v ∧ w.cell? (a.add (i * k + r)) = some v) : CellsAt w (some a) L := by
  intro h0
  have hn : 0 < n := by
    rcases Nat.eq_zero_or_pos n with e | e
    · subst e; rw [Nat.zero_mul] at hl; omega
    · exact e
  obtain ⟨v, _, hq⟩ := h 0 0 hn hk
  obtain ⟨b, o, e, hlt⟩ := spot_none hq
  have ha : a = ⟨b, o, none⟩ := by
    rw [Nat.zero_mul] at e
    unfold Addr.add at e; simpa using e
  subst ha
  refine ⟨b, o, rfl, hlt, fun j hj => ?_⟩
  rw [hl] at hj
  have had : ∀ k, Addr.add ⟨b, o, none⟩ k = ⟨b, o + k, none⟩ := fun k => by unfold Addr.add; split <;> simp_all
  have h1 : j / k < n := (Nat.div_lt_iff_lt_mul hk).2 hj
  have h2 : j % k < k := Nat.mod_lt _ hk
  obtain ⟨v, h3, h4⟩ := h (j / k) (j % k) h1 h2
  have h5 : j / k * k + j % k = j := by rw [Nat.mul_comm]; exact Nat.div_add_mod j k
  rw [h5] at h3 h4
  rw [had] at h4
  rw [h4, List.getD_eq_getElem?_getD, h3]; rfl
theorem some_of {α : Type} {l : List α} {o : Option α} {i : Nat} (h : o = l[i]?) (hi : i < l.length) : o = some l[i] := h.trans (List.getElem?_eq_getElem hi)
section
variable {H : Type} {enc : TypeId × Value → H} {w : World} {base : Nat} {spare : Nat → Bool} {held : Bool}
set_option maxRecDepth 100000 in
theorem open_datums {fuel : Nat} {v : Value} {x : DataW H × List MemPlace} (h1 : DataW.trod enc Tryz.prog w base spare held fuel 29 [v] = some x) :
    ∃ (ae : Option Addr) (vs : List Dt) (c : Nat), v = .slice ae vs.length c ∧ CellsAt w ae (dtC vs) ∧ DtsOk vs ∧ vs.length ≤ 9223372036854775807 ∧ vs.length ≤ c ∧ (ae = none → vs.length = 0 ∧ c = 0) := by
  have hC : Tryz.prog.cellsOf 76 = 2 := by kernel_rfl
  have c1 : Tryz.prog.cellsOf 9 = 1 := by kernel_rfl
  have c2 : Tryz.prog.cellsOf 3 = 1 := by kernel_rfl
  have hm9 : maxLen ≤ 9223372036854775807 := by decide
  rcases open_slice Tryz.underlying29 h1 with ⟨hc1, _⟩ | ⟨a, n, cap, mm, k, D, Pl, hc1, _, hl, hm, hmm, hx, hi⟩
  · cases hc1
    exact ⟨none, [], 0, rfl, CellsAt.nil _ _, fun i h => absurd h (by simp), by simp, Nat.le_refl _, fun _ => ⟨rfl, rfl⟩⟩
  · cases hc1
    have hlm : n ≤ mm := by rw [hmm]; split <;> omega
    have hex : ∀ i, i < n → ∃ b : Dt, w.cell? (a.add (i * 2)) = some (.string b.n) ∧ w.cell? (a.add (i * 2 + 1)) = some (.int .i64 b.m) ∧ b.n.size ≤ maxLen := by
      intro i hil
      obtain ⟨cs', hcs, ht'⟩ := hi i (by omega)
      rw [hC] at hcs
      obtain ⟨ys, n', _, _, _, hyl, hf⟩ := DataW.trod_struct Tryz.underlying76 ht'
      obtain ⟨_, hcl, hat⟩ := World.cells?_some hcs
      have hy5 : ys.length = 2 := hyl
      obtain ⟨v0, v1, rfl⟩ : ∃ v0 v1, cs' = [v0, v1] := by
        match cs', hcl with
        | [v0, v1], _ => exact ⟨v0, v1, rfl⟩
      have t0 : DataW.trod enc Tryz.prog w base spare held n' 9 (([v0, v1].drop 0).take (Tryz.prog.cellsOf 9)) = ys[0]? := hf 0 _ rfl
      have t1 : DataW.trod enc Tryz.prog w base spare held n' 3 (([v0, v1].drop 1).take (Tryz.prog.cellsOf 3)) = ys[1]? := hf 1 _ rfl
      rw [c1] at t0
      rw [c2] at t1
      have t0 := some_of t0 (by omega)
      have t1 := some_of t1 (by omega)
      obtain ⟨s0, e0, _, hs0⟩ := DataW.trod_string Tryz.underlying9 (w := w) (cs := [v0]) t0
      obtain ⟨x1, e1, _, _⟩ := DataW.trod_int Tryz.underlying3 (w := w) (cs := [v1]) t1
      cases e0; cases e1
      have had : ∀ r, a.add (i * 2 + r) = (a.add (i * 2)).add r := fun r => (Go.Deep.add_add _ _ _).symm
      refine ⟨⟨s0, x1⟩, ?_, ?_, hs0⟩
      · have h := hat 0 (by decide)
        rw [← had] at h; exact h
      · have h := hat 1 (by decide)
        rw [← had] at h; exact h
    obtain ⟨vs, hbl, hb⟩ := list_ex Dt.zero n hex
    subst hbl
    refine ⟨some a, vs, cap, rfl, cells_of_rows (k := 2) _ (dtC_length vs) (by decide) fun i r hil hr => ?_, fun i hil => ?_, by omega, hl, fun e => by cases e⟩
    · obtain ⟨q0, q1, _⟩ := hb i hil
      obtain ⟨g0, g1⟩ := dtC_get vs i hil
      match r, hr with
      | 0, _ => exact ⟨_, g0, q0⟩
      | 1, _ => exact ⟨_, g1, q1⟩
    · exact Nat.le_trans (hb i hil).2.2 hm9
set_option maxRecDepth 100000 in
/-- The cells of a frame. -/
theorem open_frame_cells {fuel : Nat} {cs : List Value} {x : DataW H × List MemPlace} (hl : cs.length = 5) (h1 : DataW.trod enc Tryz.prog w base spare held fuel 31 cs = some x) :
    ∃ (f : Fm) (da : Option Addr) (dc : Nat), cs = [.int .i64 f.k, .bool f.d, .int .i64 f.t, .int .i64 f.m, .slice da f.ds.length dc] ∧ FmOk w f da dc := by
  have c1 : Tryz.prog.cellsOf 4 = 1 := by kernel_rfl
  have c2 : Tryz.prog.cellsOf 3 = 1 := by kernel_rfl
  have c3 : Tryz.prog.cellsOf 29 = 1 := by kernel_rfl
  obtain ⟨ys, n', _, _, _, hyl, hf⟩ := DataW.trod_struct Tryz.underlying31 h1
  have hy5 : ys.length = 5 := hyl
  obtain ⟨v0, v1, v2, v3, v4, rfl⟩ : ∃ v0 v1 v2 v3 v4, cs = [v0, v1, v2, v3, v4] := by
    match cs, hl with
    | [v0, v1, v2, v3, v4], _ => exact ⟨v0, v1, v2, v3, v4, rfl⟩
  have t0 : DataW.trod enc Tryz.prog w base spare held n' 3 (([v0, v1, v2, v3, v4].drop 0).take (Tryz.prog.cellsOf 3)) = ys[0]? := hf 0 _ rfl
  have t1 : DataW.trod enc Tryz.prog w base spare held n' 4 (([v0, v1, v2, v3, v4].drop 1).take (Tryz.prog.cellsOf 4)) = ys[1]? := hf 1 _ rfl
  have t2 : DataW.trod enc Tryz.prog w base spare held n' 3 (([v0, v1, v2, v3, v4].drop 2).take (Tryz.prog.cellsOf 3)) = ys[2]? := hf 2 _ rfl
  have t3 : DataW.trod enc Tryz.prog w base spare held n' 3 (([v0, v1, v2, v3, v4].drop 3).take (Tryz.prog.cellsOf 3)) = ys[3]? := hf 3 _ rfl
  have t4 : DataW.trod enc Tryz.prog w base spare held n' 29 (([v0, v1, v2, v3, v4].drop 4).take (Tryz.prog.cellsOf 29)) = ys[4]? := hf 4 _ rfl
  rw [c2] at t0 t2 t3
  rw [c1] at t1
  rw [c3] at t4
  have t0 := some_of t0 (by omega)
  have t1 := some_of t1 (by omega)
  have t2 := some_of t2 (by omega)
  have t3 := some_of t3 (by omega)
  have t4 := some_of t4 (by omega)
  obtain ⟨x0, e0, _, _⟩ := DataW.trod_int Tryz.underlying3 (w := w) (cs := [v0]) t0
  obtain ⟨b1, e1, _⟩ := DataW.trod_bool Tryz.underlying4 (w := w) (cs := [v1]) t1
  obtain ⟨x2, e2, _, _⟩ := DataW.trod_int Tryz.underlying3 (w := w) (cs := [v2]) t2
  obtain ⟨x3, e3, _, _⟩ := DataW.trod_int Tryz.underlying3 (w := w) (cs := [v3]) t3
  obtain ⟨ae, vs, c, rfl, q1, q2, q3, q4, q5⟩ := open_datums (v := v4) t4
  cases e0; cases e1; cases e2; cases e3
  exact ⟨⟨x0, b1, x2, x3, vs⟩, ae, c, rfl, ⟨q1, q2, q3, q5, q4⟩⟩
set_option maxRecDepth 100000 in
theorem open_frame {r : Reach} {b0 : Nat} {v : Value} {d : DataW H} {p : List MemPlace} (hv : Value.okWide Tryz.prog w r b0 31 v) (h : DataW.Trod enc Tryz.prog w base spare held 31 v d p) :
    ∃ (f : Fm) (da : Option Addr) (dc : Nat), v = fmV f da dc ∧ FmOk w f da dc := by
  have hC : Tryz.prog.cellsOf 31 = 5 := by kernel_rfl
  obtain ⟨cs, rfl, hsz⟩ := okWide_struct Tryz.underlying31 hv
  obtain ⟨fuel, hf⟩ := h
  obtain ⟨f, da, dc, e, hok⟩ := open_frame_cells (cs := cs.toList) (by rw [Array.length_toList, hsz, hC]) hf
  refine ⟨f, da, dc, ?_, hok⟩
  unfold fmV
  congr 1
  exact Array.toList_inj.1 e
set_option maxRecDepth 100000 in
theorem open_frames {fuel : Nat} {v : Value} {x : DataW H × List MemPlace} (h1 : DataW.trod enc Tryz.prog w base spare held fuel 26 [v] = some x) :
    ∃ (ae : Option Addr) (fs : List Fm) (c : Nat), v = .slice ae fs.length c ∧ FmsAt w ae fs ∧ fs.length ≤ 9223372036854775807 := by
  have hC : Tryz.prog.cellsOf 31 = 5 := by kernel_rfl
  have hm9 : maxLen ≤ 9223372036854775807 := by decide
  rcases open_slice Tryz.underlying26 h1 with ⟨hc1, _⟩ | ⟨a, n, cap, mm, k, D, Pl, hc1, _, hl, hm, hmm, hx, hi⟩
  · cases hc1
    exact ⟨none, [], 0, rfl, fun h => absurd h (by simp), by simp⟩
  · cases hc1
    have hlm : n ≤ mm := by rw [hmm]; split <;> omega
    have hex : ∀ i, i < n → ∃ b : Fm, ∃ da dc, FmOk w b da dc ∧ w.cell? (a.add (i * 5)) = some (.int .i64 b.k) ∧ w.cell? (a.add (i * 5 + 1)) = some (.bool b.d) ∧ w.cell? (a.add (i * 5 + 2)) = some (.int .i64 b.t) ∧ w.cell? (a.add (i * 5 + 3)) = some (.int .i64 b.m) ∧ w.cell? (a.add (i * 5 + 4)) = some (.slice da b.ds.length dc) := by
      intro i hil
      obtain ⟨cs', hcs, ht'⟩ := hi i (by omega)
      rw [hC] at hcs
      obtain ⟨_, hcl, hat⟩ := World.cells?_some hcs
      obtain ⟨f, da, dc, rfl, hok⟩ := open_frame_cells hcl ht'
      have had : ∀ r, a.add (i * 5 + r) = (a.add (i * 5)).add r := fun r => (Go.Deep.add_add _ _ _).symm
      refine ⟨f, da, dc, hok, ?_, ?_, ?_, ?_, ?_⟩
      · have h := hat 0 (by decide)
        rw [← had] at h; exact h
      · have h := hat 1 (by decide)
        rw [← had] at h; exact h
      · have h := hat 2 (by decide)
        rw [← had] at h; exact h
      · have h := hat 3 (by decide)
        rw [← had] at h; exact h
      · have h := hat 4 (by decide)
        rw [← had] at h; exact h
    obtain ⟨fs, hbl, hb⟩ := list_ex Fm.zero n hex
    subst hbl
    refine ⟨some a, fs, cap, rfl, fun h0 => ?_, by omega⟩
    obtain ⟨_, _, _, q0, _⟩ := hb 0 h0
    obtain ⟨b, o, e, hlt⟩ := spot_none q0
    have ha : a = ⟨b, o, none⟩ := by
      rw [Nat.zero_mul] at e
      unfold Addr.add at e; simpa using e
    subst ha
    have had : ∀ k, Addr.add ⟨b, o, none⟩ k = ⟨b, o + k, none⟩ := fun k => by unfold Addr.add; split <;> simp_all
    refine ⟨b, o, rfl, hlt, fun i hil => ?_⟩
    obtain ⟨da, dc, hok, q0, q1, q2, q3, q4⟩ := hb i hil
    rw [had] at q0 q1 q2 q3 q4
    exact ⟨da, dc, hok, q0, q1, q2, q3, q4⟩
set_option maxRecDepth 100000 in
theorem open_feature {r : Reach} {b0 : Nat} {v : Value} {d : DataW H} {p : List MemPlace} (hv : Value.okWide Tryz.prog w r b0 28 v) (h : DataW.Trod enc Tryz.prog w base spare held 28 v d p) :
    ∃ (f : Ft) (fo : Option Addr) (fc : Nat), v = ftV f fo fc ∧ FtOk w f fo fc := by
  have hC : Tryz.prog.cellsOf 28 = 9 := by kernel_rfl
  have c1 : Tryz.prog.cellsOf 9 = 1 := by kernel_rfl
  have c2 : Tryz.prog.cellsOf 3 = 1 := by kernel_rfl
  have c3 : Tryz.prog.cellsOf 23 = 3 := by kernel_rfl
  have c4 : Tryz.prog.cellsOf 25 = 2 := by kernel_rfl
  have c5 : Tryz.prog.cellsOf 26 = 1 := by kernel_rfl
  have hm9 : maxLen ≤ 9223372036854775807 := by decide
  obtain ⟨cs, rfl, hsz⟩ := okWide_struct Tryz.underlying28 hv
  obtain ⟨fuel, hf0⟩ := h
  obtain ⟨ys, n', _, _, _, hyl, hf⟩ := DataW.trod_struct Tryz.underlying28 hf0
  have hy5 : ys.length = 6 := hyl
  have hcl : cs.toList.length = 9 := by rw [Array.length_toList, hsz, hC]
  obtain ⟨v0, v1, v2, v3, v4, v5, v6, v7, v8, e⟩ : ∃ v0 v1 v2 v3 v4 v5 v6 v7 v8, cs.toList = [v0, v1, v2, v3, v4, v5, v6, v7, v8] := by
    match hh : cs.toList, hcl with
    | [v0, v1, v2, v3, v4, v5, v6, v7, v8], _ => exact ⟨v0, v1, v2, v3, v4, v5, v6, v7, v8, rfl⟩
  obtain rfl : cs = #[v0, v1, v2, v3, v4, v5, v6, v7, v8] := Array.toList_inj.1 e
  have t0 : DataW.trod enc Tryz.prog w base spare held n' 9 (([v0, v1, v2, v3, v4, v5, v6, v7, v8].drop 0).take (Tryz.prog.cellsOf 9)) = ys[0]? := hf 0 _ rfl
  have t1 : DataW.trod enc Tryz.prog w base spare held n' 3 (([v0, v1, v2, v3, v4, v5, v6, v7, v8].drop 1).take (Tryz.prog.cellsOf 3)) = ys[1]? := hf 1 _ rfl
  have t2 : DataW.trod enc Tryz.prog w base spare held n' 3 (([v0, v1, v2, v3, v4, v5, v6, v7, v8].drop 2).take (Tryz.prog.cellsOf 3)) = ys[2]? := hf 2 _ rfl
  have t3 : DataW.trod enc Tryz.prog w base spare held n' 23 (([v0, v1, v2, v3, v4, v5, v6, v7, v8].drop 3).take (Tryz.prog.cellsOf 23)) = ys[3]? := hf 3 _ rfl
  have t4 : DataW.trod enc Tryz.prog w base spare held n' 25 (([v0, v1, v2, v3, v4, v5, v6, v7, v8].drop 6).take (Tryz.prog.cellsOf 25)) = ys[4]? := hf 4 _ rfl
  have t5 : DataW.trod enc Tryz.prog w base spare held n' 26 (([v0, v1, v2, v3, v4, v5, v6, v7, v8].drop 8).take (Tryz.prog.cellsOf 26)) = ys[5]? := hf 5 _ rfl
  rw [c1] at t0
  rw [c2] at t1 t2
  rw [c3] at t3
  rw [c4] at t4
  rw [c5] at t5
  have t0 := some_of t0 (by omega)
  have t1 := some_of t1 (by omega)
  have t2 := some_of t2 (by omega)
  have t3 := some_of t3 (by omega)
  have t4 := some_of t4 (by omega)
  have t5 := some_of t5 (by omega)
  obtain ⟨zs, n2, _, _, _, hzl, hg⟩ := DataW.trod_struct Tryz.underlying23 t3
  have hz3 : zs.length = 3 := hzl
  have u0 : DataW.trod enc Tryz.prog w base spare held n2 3 (((([v0, v1, v2, v3, v4, v5, v6, v7, v8].drop 3).take 3).drop 0).take (Tryz.prog.cellsOf 3)) = zs[0]? := hg 0 _ rfl
  have u1 : DataW.trod enc Tryz.prog w base spare held n2 3 (((([v0, v1, v2, v3, v4, v5, v6, v7, v8].drop 3).take 3).drop 1).take (Tryz.prog.cellsOf 3)) = zs[1]? := hg 1 _ rfl
  have u2 : DataW.trod enc Tryz.prog w base spare held n2 3 (((([v0, v1, v2, v3, v4, v5, v6, v7, v8].drop 3).take 3).drop 2).take (Tryz.prog.cellsOf 3)) = zs[2]? := hg 2 _ rfl
  obtain ⟨qs, n3, _, _, _, hql, hh⟩ := DataW.trod_struct Tryz.underlying25 t4
  have hq2 : qs.length = 2 := hql
  have w0 : DataW.trod enc Tryz.prog w base spare held n3 3 (((([v0, v1, v2, v3, v4, v5, v6, v7, v8].drop 6).take 2).drop 0).take (Tryz.prog.cellsOf 3)) = qs[0]? := hh 0 _ rfl
  have w1 : DataW.trod enc Tryz.prog w base spare held n3 3 (((([v0, v1, v2, v3, v4, v5, v6, v7, v8].drop 6).take 2).drop 1).take (Tryz.prog.cellsOf 3)) = qs[1]? := hh 1 _ rfl
  rw [c2] at u0 u1 u2 w0 w1
  have u0 := some_of u0 (by omega)
  have u1 := some_of u1 (by omega)
  have u2 := some_of u2 (by omega)
  have w0 := some_of w0 (by omega)
  have w1 := some_of w1 (by omega)
  obtain ⟨s0, e0, _, hs0⟩ := DataW.trod_string Tryz.underlying9 (w := w) (cs := [v0]) t0
  obtain ⟨x1, e1, _, _⟩ := DataW.trod_int Tryz.underlying3 (w := w) (cs := [v1]) t1
  obtain ⟨x2, e2, _, _⟩ := DataW.trod_int Tryz.underlying3 (w := w) (cs := [v2]) t2
  obtain ⟨x3, e3, _, _⟩ := DataW.trod_int Tryz.underlying3 (w := w) (cs := [v3]) u0
  obtain ⟨x4, e4, _, _⟩ := DataW.trod_int Tryz.underlying3 (w := w) (cs := [v4]) u1
  obtain ⟨x5, e5, _, _⟩ := DataW.trod_int Tryz.underlying3 (w := w) (cs := [v5]) u2
  obtain ⟨x6, e6, _, _⟩ := DataW.trod_int Tryz.underlying3 (w := w) (cs := [v6]) w0
  obtain ⟨x7, e7, _, _⟩ := DataW.trod_int Tryz.underlying3 (w := w) (cs := [v7]) w1
  obtain ⟨ae, fs, c, rfl, k1, k2⟩ := open_frames (v := v8) t5
  cases e0; cases e1; cases e2; cases e3; cases e4; cases e5; cases e6; cases e7
  exact ⟨⟨s0, x1, x2, x3, x4, x5, x6, x7, fs⟩, ae, c, rfl, ⟨k1, Nat.le_trans hs0 hm9, k2⟩⟩
end
/-! ### the library's variables -/
theorem star19 : "*" ++ "errors.errorString" = "*errors.errorString" := by decide
theorem rowErr (u : TypeId) (h : Tryz.prog.typeName? 3 u = some "*errors.errorString") : u = 195 :=
  typeName_ptr_named (nm := "errors.errorString") (by rw [star19]; kernel_rfl) (by kernel_rfl) (by decide) u (by rw [star19]; exact h)
theorem cellsErr : Tryz.prog.cellsOf 197 = 1 := by kernel_rfl
theorem cellsStr : Tryz.prog.cellsOf 9 = 1 := by kernel_rfl
set_option maxRecDepth 100000 in
theorem env_of {W : World} {r : List (String × DataW Unit)} (h : laidMet Tryz.prog (("math/bits.deBruijn32tab", Rows.laid_math_bits_deBruijn32tab) :: ("math/bits.deBruijn64tab", Rows.laid_math_bits_deBruijn64tab) :: ("internal/strconv.uint64pow10", Rows.laid_internal_strconv_uint64pow10) :: ("unicode/utf8.acceptRanges", Rows.laid_unicode_utf8_acceptRanges) :: ("strconv.ErrRange", Rows.laid_strconv_ErrRange) :: ("strconv.ErrSyntax", Rows.laid_strconv_ErrSyntax) :: r) W)
   (hsh : W.ShapedOpen Tryz.prog) : Env W := by
  have h1 := h.tail.tail
  have h2 := h1.tail.tail
  have h3 := h2.tail
  refine ⟨Tryz.laysM146.s1_3 W hsh, ?_, ?_, ?_⟩
  · exact Lib.tabIs_of_head (k := .u64) (zs := Lib.pow10Tab) (g := 3) (t := 192) (e := 169) (n := 20) (by kernel_rfl) (by kernel_rfl) (by kernel_rfl) (by kernel_rfl) (by kernel_rfl) (by kernel_rfl) h1
  · obtain ⟨a, _, hv, _⟩ := laid_sentinel (g := 1) (ti := 104) h3 (by kernel_rfl) (by kernel_rfl) Tryz.underlying104 rowErr Tryz.underlying195 Tryz.underlying197 rfl rfl Tryz.underlying9 cellsErr cellsStr
    exact ⟨_, _, hv⟩
  · obtain ⟨a, _, hv, _⟩ := laid_sentinel (g := 2) (ti := 104) h2 (by kernel_rfl) (by kernel_rfl) Tryz.underlying104 rowErr Tryz.underlying195 Tryz.underlying197 rfl rfl Tryz.underlying9 cellsErr cellsStr
    exact ⟨_, _, hv⟩
section
variable {H : Type} {enc : TypeId × Value → H}
/-- As the kit's builder, with the shape of the first world handed on. -/
theorem returns_laid {a : Assume} {C : Checked} {os : Os} {f : FuncId} {fn : Func} {s : ChangeSpec} {conds : List PathCond} {apart fresh handsOn again : Bool} {X : World → Array Value → Prop}
    (hX : ∀ (w w' : World) (args : Array Value), w.heap = w'.heap → X w args → X w' args)
    (own : ownKnob C.prog.godebug = none) (started : os.Started) (noInit : C.prog.inits.idxOf? f = none) (hfn : C.prog.funcs[f]? = some fn)
    (witness : ∃ (w : World) (tape : Tape) (i : Input), w.os = os ∧ (w.forCall tape i).Shaped C.prog ∧ i.vars = [] ∧ Input.okWide C.prog (w.forCall tape i) .any w.heap.size f i ∧
      ((s.pre enc C.prog fn conds apart (w.forCall tape i).memory i.args ∧ X (w.forCall tape i).memory i.args) ∧ sizedMet enc C.prog fn (OpenSpec.ofChange s) apart (w.forCall tape i).memory i.args) ∧ a.holds C.prog (lone (Frame.enter C.prog f i.args .normal) [] (w.forCall tape i)))
    (contract : ∀ (W : World) (base : Nat) (args : Array Value) (ds gs : List (DataW H)) (before : List MemPlace),
      (∀ (j : Nat) t v, fn.params[j]? = some t → args[j]? = some v → Value.okWide C.prog W .any base t v) →
      DataW.Whole enc C.prog fn.params.toList s.vars apart W args.toList ds gs before →
      conds.all (PathCond.test C.prog ⟨fn.params.toList, ds, s.plain.varTypes C.prog, gs⟩) = true →
      (DataW.weightsEach C.prog (fn.params.toList ++ s.plain.varTypes C.prog) (ds ++ gs)).all (· ≤ reachBytes) = true → X W args → W.ShapedOpen C.prog →
      a.holds C.prog (lone (Frame.enter C.prog f args .normal) [] W) →
      Calls C.prog f args W fun e W' => ∃ v, e = .returned v ∧ s.post enc C.prog fn apart fresh handsOn again W args v W') :
    ReturnsInHanded a C os f .any (fun w args => (s.pre enc C.prog fn conds apart w args ∧ X w args) ∧ sizedMet enc C.prog fn (OpenSpec.ofChange s) apart w args) (s.post enc C.prog fn apart fresh handsOn again) := by
  refine returnsInHanded_of_calls own started noInit witness ?_
  intro w tape i _ hsh _ hok hpre hholds
  obtain ⟨_, _, _, fn', hfn', _, _, _, _, hval⟩ := hok
  have e : fn' = fn := Option.some.inj (hfn'.symm.trans hfn)
  subst e
  obtain ⟨⟨⟨ds, gs, before, hw, hc⟩, hx⟩, hz⟩ := hpre
  have hw' := DataW.Whole.of_heap (w' := w.forCall tape i) (by rfl) hw
  refine (contract (w.forCall tape i) w.heap.size i.args ds gs before hval hw' hc (hz.weights hw) (hX _ _ _ (by rfl) hx) hsh hholds).mono fun e W' ⟨v, he, hp⟩ => ?_
  subst he
  exact ChangeSpec.post_blind hp
end
end Go.Proofs.YtciokmjhdbcmpaaGreatDoor
