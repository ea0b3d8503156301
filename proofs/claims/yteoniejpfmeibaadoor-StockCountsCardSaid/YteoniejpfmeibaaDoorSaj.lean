/- Events of a stock as data; what done and Run compute; a stock stays right. -/
import Derived.Test.YteoniejpfmeibaaDoorSah
namespace Go.Proofs.YteoniejpfmeibaaDoor
open Go.RowKit

/-- An event. -/
structure V5 where
  k : Int
  who : ByteArray
  l : Int
  x : Int
def V5.cells (v : V5) : List Value := [.int .i64 v.k, .string v.who, .int .i64 v.l, .int .i64 v.x]
def vC (vs : List V5) : List Value := vs.flatMap V5.cells
def vAt (vs : List V5) (i : Nat) : V5 := vs.getD i ⟨0, ⟨#[]⟩, 0, 0⟩
theorem vC_length (vs : List V5) : (vC vs).length = vs.length * 4 := by
  induction vs with
  | nil => rfl
  | cons b bs ih => show (b.cells ++ vC bs).length = _; rw [List.length_append, ih]; simp [V5.cells]; omega
theorem vC_cons (v : V5) (vs : List V5) : vC (v :: vs) = .int .i64 v.k :: .string v.who :: .int .i64 v.l :: .int .i64 v.x :: vC vs := rfl
theorem vAt_succ (v : V5) (vs : List V5) (i : Nat) : vAt (v :: vs) (i + 1) = vAt vs i := rfl
theorem vC_get (vs : List V5) : ∀ (i : Nat), i < vs.length → (vC vs)[i * 4]? = some (.int .i64 (vAt vs i).k) ∧ (vC vs)[i * 4 + 1]? = some (.string (vAt vs i).who) ∧ (vC vs)[i * 4 + 2]? = some (.int .i64 (vAt vs i).l) ∧ (vC vs)[i * 4 + 3]? = some (.int .i64 (vAt vs i).x) := by
  induction vs with
  | nil => intro i hi; exact absurd hi (by simp)
  | cons b bs ih =>
    intro i hi
    cases i with
    | zero => exact ⟨rfl, rfl, rfl, rfl⟩
    | succ i =>
      have h := ih i (by simpa using hi)
      rw [vAt_succ, vC_cons, show (i + 1) * 4 = i * 4 + 4 from by omega]
      exact h
theorem CellsAt.evs {w : World} {ao : Option Addr} {vs : List V5} (h : CellsAt w ao (vC vs)) (h0 : 0 < vs.length) :
    ∃ b o, ao = some ⟨b, o, none⟩ ∧ b < w.heap.size ∧ ∀ i, i < vs.length → w.cell? ⟨b, o + i * 4, none⟩ = some (.int .i64 (vAt vs i).k) ∧ w.cell? ⟨b, o + i * 4 + 1, none⟩ = some (.string (vAt vs i).who) ∧ w.cell? ⟨b, o + i * 4 + 2, none⟩ = some (.int .i64 (vAt vs i).l) ∧ w.cell? ⟨b, o + i * 4 + 3, none⟩ = some (.int .i64 (vAt vs i).x) := by
  obtain ⟨b, o, e, hl, _⟩ := h (by rw [vC_length]; omega)
  refine ⟨b, o, e, hl, fun i hi => ?_⟩
  obtain ⟨h1, h2, h3, h4⟩ := vC_get vs i hi
  exact ⟨h.get e h1, h.get e h2, h.get e h3, h.get e h4⟩
/-- Strings are strings. -/
def WhoOk (vs : List V5) : Prop := ∀ i, i < vs.length → (vAt vs i).who.size ≤ 9223372036854775807

/-! ### done, Run -/
def dnE (m : Int) (bs : List B5) (v : V5) : Int :=
  if v.k = 0 then tkE m bs v.who v.l else if v.k = 1 then rtE m bs v.who v.x else if v.k = 2 then clE m bs v.l v.x else if v.k = 3 then rsE m bs v.l else 1
def dnB (m : Int) (bs : List B5) (v : V5) : List B5 :=
  if v.k = 0 then tkB m bs v.who v.l else if v.k = 1 then rtB m bs v.who v.x else if v.k = 2 then clB m bs v.l v.x else if v.k = 3 then rpB m bs v.l else []
def rnF (m : Int) (vs : List V5) (i : Nat) (s : List B5) : List B5 ⊕ (Nat × Int) := if dnE m s (vAt vs i) = 0 then .inl (dnB m s (vAt vs i)) else .inr (i, dnE m s (vAt vs i))
def rnX (m : Int) (bs : List B5) (vs : List V5) : List B5 ⊕ (Nat × Int) := loopE (rnF m vs) vs.length 0 bs
def rnR1 : List B5 ⊕ (Nat × Int) → List B5 | .inl s => s | .inr _ => []
def rnR2 : List B5 ⊕ (Nat × Int) → Nat × Int | .inl _ => (0, 0) | .inr r => r
def rnI (m : Int) (bs : List B5) (vs : List V5) : Nat := if chkS m bs = 0 then if 4096 < vs.length then 0 else (rnR2 (rnX m bs vs)).1 else 0
def rnE (m : Int) (bs : List B5) (vs : List V5) : Int := if chkS m bs = 0 then if 4096 < vs.length then 5 else (rnR2 (rnX m bs vs)).2 else chkS m bs
def rnB (m : Int) (bs : List B5) (vs : List V5) : List B5 := if rnE m bs vs = 0 then rnR1 (rnX m bs vs) else []

/-! ### a stock stays right -/
/-- Right, and with the lengths of another one. -/
structure Kin (m : Int) (bs B : List B5) : Prop where
  right : RightS m B
  len : B.length = bs.length
  lens : ∀ i, i < bs.length → (bAt B i).l = (bAt bs i).l
theorem Kin.refl {m : Int} {bs : List B5} (h : RightS m bs) : Kin m bs bs := ⟨h, rfl, fun _ _ => rfl⟩
theorem Kin.trans {m : Int} {a b c : List B5} (h : Kin m a b) (h2 : Kin m b c) : Kin m a c := ⟨h2.right, h2.len.trans h.len, fun i hi => (h2.lens i (by have := h.len; omega)).trans (h.lens i hi)⟩
theorem Kin.point {m : Int} {bs B : List B5} (h : RightS m bs) (hl : B.length = bs.length) (hp : ∀ i, i < bs.length → (bAt B i).l = (bAt bs i).l ∧ OkB m (bAt B i)) : Kin m bs B := ⟨h.point hl hp, hl, fun i hi => (hp i hi).1⟩
theorem tk_kin {m : Int} {bs : List B5} {who : ByteArray} {l : Int} (h : tkE m bs who l = 0) : Kin m bs (tkB m bs who l) := by
  have T := took h
  exact ⟨T.right, T.len, fun i _ => by rw [T.at1 i]; split <;> rfl⟩
theorem rt_kin {m : Int} {bs : List B5} {who : ByteArray} {x : Int} (h : rtE m bs who x = 0) : Kin m bs (rtB m bs who x) := by
  have h0 := h
  unfold rtE at h
  split at h
  · rename_i hn
    have hr := (chkS_zero _ _).1 (nmS_chk hn)
    split at h
    · rename_i hx
      have hx := inB_iff.1 hx
      split at h
      · cases h
      · have eB : rtB m bs who x = rtR1 (rtX bs (pickL (heldP who) bs) x) := by unfold rtB; rw [if_pos h0]
        rcases rt_ok (O := pickL (heldP who) bs) (B := bs) x (pick_asc _) (fun y hy => by obtain ⟨i, h1, h2, _⟩ := (pickTo_mem _).1 hy; exact ⟨i, h2, h1⟩) with ⟨R, h1, h2⟩ | h1
        · rw [h1] at eB
          rw [eB]
          show Kin m bs R
          refine Kin.point hr h2.len fun i hi => ?_
          have h3 := (hr.2.2 i hi).1
          rw [h2.at1 i]
          split
          · rename_i hm
            have h4 := h2.bd i hm
            have e1 : wrap64 ((bAt bs i).w + x) = (bAt bs i).w + x := by have := h3.2.1; unfold wrap64; omega
            have e2 : wrap64 ((bAt bs i).u + 1) = (bAt bs i).u + 1 := by have := h3.2.2.1; unfold wrap64; omega
            rw [e1, e2] at h4 ⊢
            exact ⟨rfl, h3.1, ⟨by have := h3.2.1.1; show 0 ≤ (bAt bs i).w + x; omega, h4.1⟩, ⟨by have := h3.2.2.1.1; show 0 ≤ (bAt bs i).u + 1; omega, h4.2⟩, empty_ok, fun _ => rfl⟩
          · exact ⟨rfl, h3⟩
        · rw [h1] at h; cases h
    · cases h
  · rename_i hn; exact absurd h hn
theorem rs_kin {m : Int} {bs : List B5} {l : Int} (h : rsE m bs l = 0) : RightS m bs ∧ rsI bs l < bs.length ∧ (bAt bs (rsI bs l)).l = l ∧ (bAt bs (rsI bs l)).h.size = 0 := by
  unfold rsE at h
  split at h
  · rename_i hc
    split at h
    · cases h
    · rename_i hl
      split at h
      · rename_i hh
        obtain ⟨i, h1, h2, h3⟩ := pick_bd (p := lenP l) (bs := bs) (j := 0) (by unfold plL at hl; omega)
        have e : rsI bs l = i := by unfold rsI plL; omega
        rw [e]
        have hh' : (bAt bs i).h.size = 0 := by rw [← e]; exact hh
        exact ⟨(chkS_zero _ _).1 hc, h2, by simpa [lenP] using h3, hh'⟩
      · cases h
  · rename_i hc; exact absurd h hc
theorem cl_kin {m : Int} {bs : List B5} {l x : Int} (h : clE m bs l x = 0) : Kin m bs (clB m bs l x) := by
  have eB : clB m bs l x = bs.set (rsI bs l) { bAt bs (rsI bs l) with w := x } := by unfold clB; rw [if_pos h]
  unfold clE at h
  split at h
  · rename_i hr
    obtain ⟨h1, h2, _, h4⟩ := rs_kin hr
    split at h
    · rename_i hx
      have hx := inB_iff.1 hx
      rw [eB]
      refine Kin.point h1 (by rw [List.length_set]) fun i hi => ?_
      rw [bAt_set h2]
      have h5 := (h1.2.2 i hi).1
      split
      · rename_i e
        rw [e] at h4 ⊢
        exact ⟨rfl, h5.1, hx, h5.2.2.1, h5.2.2.2.1, fun _ => h4⟩
      · exact ⟨rfl, h5⟩
    · cases h
  · rename_i hr; exact absurd h hr
theorem rp_kin {m : Int} {bs : List B5} {l : Int} (h : rsE m bs l = 0) : Kin m bs (rpB m bs l) := by
  obtain ⟨h1, h2, h3, h4⟩ := rs_kin h
  unfold rpB
  rw [if_pos h]
  refine Kin.point h1 (by rw [List.length_set]) fun i hi => ?_
  rw [bAt_set h2]
  have h5 := (h1.2.2 i hi).1
  split
  · rename_i e
    rw [e] at h3
    refine ⟨h3.symm, ?_, ⟨Int.le_refl 0, by show (0 : Int) ≤ 100000; omega⟩, ⟨Int.le_refl 0, by show (0 : Int) ≤ 1048576; omega⟩, empty_ok, fun _ => rfl⟩
    show 1 ≤ l ∧ l ≤ 100000
    rw [← h3]; exact h5.1
  · exact ⟨rfl, h5⟩
theorem dn_kin {m : Int} {bs : List B5} {v : V5} (h : dnE m bs v = 0) : Kin m bs (dnB m bs v) := by
  unfold dnE at h
  unfold dnB
  split at h
  · rename_i e; rw [if_pos e]; exact tk_kin h
  · rename_i e; rw [if_neg e]
    split at h
    · rename_i e; rw [if_pos e]; exact rt_kin h
    · rename_i e; rw [if_neg e]
      split at h
      · rename_i e; rw [if_pos e]; exact cl_kin h
      · rename_i e; rw [if_neg e]
        split at h
        · rename_i e; rw [if_pos e]; exact rp_kin h
        · cases h
theorem rn_loop {m : Int} {vs : List V5} {bs : List B5} : ∀ (d i : Nat) (s B : List B5), Kin m bs s → loopE (rnF m vs) d i s = .inl B → Kin m bs B
  | 0, _, s, B, hk, h => by cases h; exact hk
  | d + 1, i, s, B, hk, h => by
    rw [loopE] at h
    by_cases e : dnE m s (vAt vs i) = 0
    · have : rnF m vs i s = .inl (dnB m s (vAt vs i)) := by unfold rnF; rw [if_pos e]
      rw [this] at h
      exact rn_loop d (i + 1) _ B (hk.trans (dn_kin e)) h
    · have : rnF m vs i s = .inr (i, dnE m s (vAt vs i)) := by unfold rnF; rw [if_neg e]
      rw [this] at h; cases h
theorem rn_kin {m : Int} {bs : List B5} {vs : List V5} (h : rnE m bs vs = 0) : Kin m bs (rnB m bs vs) := by
  have eB : rnB m bs vs = rnR1 (rnX m bs vs) := by unfold rnB; rw [if_pos h]
  unfold rnE at h
  split at h
  · rename_i hc
    split at h
    · cases h
    · rw [eB]
      cases e : rnX m bs vs with
      | inl B => exact rn_loop _ _ _ _ (Kin.refl ((chkS_zero _ _).1 hc)) e
      | inr r =>
        rw [e] at h
        unfold rnX at e
        have : ∀ (d i : Nat) (s : List B5), loopE (rnF m vs) d i s = .inr r → r.2 ≠ 0 := by
          intro d
          induction d with
          | zero => intro i s h; cases h
          | succ d ih =>
            intro i s h
            rw [loopE] at h
            by_cases hd : dnE m s (vAt vs i) = 0
            · have : rnF m vs i s = .inl (dnB m s (vAt vs i)) := by unfold rnF; rw [if_pos hd]
              rw [this] at h
              exact ih _ _ h
            · have : rnF m vs i s = .inr (i, dnE m s (vAt vs i)) := by unfold rnF; rw [if_neg hd]
              rw [this] at h
              obtain rfl := Sum.inr.inj h
              exact hd
        exact absurd h (this _ _ _ e)
  · rename_i hc; exact absurd h hc
end Go.Proofs.YteoniejpfmeibaaDoor
