/- slices.Backward at events: its iterator. -/
import Derived.Test.YtfamennpajjajaaRm
namespace Go.Proofs.Ytfamennpajjajaa
open Go.RowKit Go.Maps
attribute [local go_sem] Oper.semAt_some

/-- The indices from the last one down, k of them. -/
def dnp (n k : Nat) : List Nat := (List.range k).map fun j => n - 1 - j
theorem dnp_length (n k : Nat) : (dnp n k).length = k := by simp [dnp]
theorem dnp_succ (n k : Nat) : dnp n (k + 1) = dnp n k ++ [n - 1 - k] := by simp [dnp, List.range_succ]
theorem dnp_prefix (n : Nat) {k m : Nat} (h : k ≤ m) : dnp n k <+: dnp n m := by
  induction m with
  | zero => obtain rfl : k = 0 := by omega
            exact List.prefix_refl _
  | succ c ih =>
    by_cases e : k = c + 1
    · subst e; exact List.prefix_refl _
    · rw [dnp_succ]; exact (ih (by omega)).trans (List.prefix_append _ _)
/-- What came before x: k indices, x is the next. -/
theorem dnp_at {n : Nat} {pre : List Nat} {x : Nat} (h : (pre ++ [x]) <+: dnp n n) : pre.length < n ∧ pre = dnp n pre.length ∧ x = n - 1 - pre.length := by
  have hl := h.length_le
  simp [dnp_length] at hl
  have h2 := dnp_prefix n (show pre.length + 1 ≤ n from hl)
  have h3 : (pre ++ [x]) = dnp n (pre.length + 1) := by
    have e1 := List.prefix_iff_eq_take.1 h
    have e2 := List.prefix_iff_eq_take.1 h2
    rw [e2, dnp_length, e1]; simp
  rw [dnp_succ] at h3
  have h4 := List.append_inj h3 (by rw [dnp_length])
  exact ⟨hl, h4.1, by simpa using h4.2⟩
def evEnc (vs : List Ev) (i : Nat) : Array Value := #[.int .i64 i, .agg #[.int .i64 (eAt vs i).k, .string (eAt vs i).g, .string (eAt vs i).p, .string (eAt vs i).t]]

/-- The block of a log. -/
def logBs (vs : List Ev) (ao : Option Addr) : List Nat := if vs.length = 0 then [] else match ao with | some a => [a.block] | none => []
theorem logBs_mem {vs : List Ev} {ao : Option Addr} (h0 : 0 < vs.length) (b o : Nat) (e : ao = some ⟨b, o, none⟩) : b ∈ logBs vs ao := by
  unfold logBs; rw [if_neg (by omega), e]; exact List.mem_singleton.2 rfl
theorem logBs_lt {vs : List Ev} {ao : Option Addr} {w : World} (h : CellsAt w ao (eC vs)) : ∀ k ∈ logBs vs ao, k < w.heap.size := by
  intro k hk
  unfold logBs at hk
  by_cases h0 : vs.length = 0
  · rw [if_pos h0] at hk; cases hk
  · obtain ⟨b, o, rfl, hb, _⟩ := h (by rw [eC_length]; omega)
    rw [if_neg h0] at hk
    rw [List.mem_singleton.1 hk]; exact hb
theorem logBs_keep {vs : List Ev} {ao : Option Addr} {w V V' : World} (h : CellsAt w ao (eC vs)) (hb : Below w.heap.size V V') : KeepsBs (logBs vs ao) V V' := fun k hk => hb.block k (logBs_lt h k hk)

theorem bwd_in (F : Fence) (n : Nat) (h5 : F.fn 65) (hro : F.round = none) (ao : Option Addr) (m c : Nat) (w : World) :
    CallsIn F n Try.prog 65 #[.slice ao m c] w fun e w' => e = .returned (.func (.func 84) #[] #[.pointer (some ⟨w.heap.size, 0, none⟩)]) ∧
      w' = w.alloc (.cells #[.slice ao m c] 22) := by
  refine callsIn_of_wp Try.func65 rfl h5 ?_ hro
  simp only [Try.ntmps65, List.size_toArray, List.length_cons, List.length_nil, Nat.reduceAdd, Nat.reduceSub, Array.replicate_succ, Array.replicate_zero, List.push_toArray, List.append_toArray, List.nil_append, List.cons_append]
  gi_wp2
  go_ret
  exact ⟨rfl, rfl⟩

set_option maxHeartbeats 1000000 in
theorem bwd1_gives (F : Fence) (n : Nat) (h84 : F.fn 84) (hro : F.round = none) (hn : 1 ≤ n) (Bn : Nat) (bs : List Nat) (ao : Option Addr) (vs : List Ev) (c : Nat) (w0 : World)
    (hl : vs.length ≤ 1000000) (hB : w0.cell? ⟨Bn, 0, none⟩ = some (.slice ao vs.length c)) (hBl : Bn < w0.heap.size) (hBm : Bn ∈ bs) (hc : CellsAt w0 ao (eC vs)) (hbm : 0 < vs.length → ∀ b o, ao = some ⟨b, o, none⟩ → b ∈ bs) :
    Gives F n Try.prog 84 #[.pointer (some ⟨Bn, 0, none⟩)] (evEnc vs) bs (dnp vs.length vs.length) w0 := by
  intro l J W hW hJ hY hJ0
  have HY := Lib.hid hY
  have HC := Lib.hid hc
  have HW := Lib.hid hW
  have HBm := Lib.hid hBm
  have Hbm := Lib.hid hbm
  have HBc := Lib.hid ((hW.cell (p := ⟨Bn, 0, none⟩) hBl).trans hB)
  clear hY hc hW hJ hB hBm hbm
  refine callsIn_of_wp Try.func84 rfl h84 ?_ hro
  simp only [Try.ntmps84, List.size_toArray, List.length_cons, List.length_nil, Nat.reduceAdd, Nat.reduceSub, Array.replicate_succ, Array.replicate_zero, List.push_toArray, List.append_toArray, List.nil_append, List.cons_append]
  have hb0 := HBc.out
  gi_wp2
  gi_loopw [3] (fun p wr => ∃ k : Nat, k ≤ vs.length ∧ p = .int .i64 ((vs.length : Int) - 1 - k) ∧ J (dnp vs.length k) wr ∧ KeepsBs bs W wr) (fun p _ => (intOf p + 1).toNat)
  case atStart => exact ⟨0, Nat.zero_le _, by go_num, hJ0, fun _ _ => rfl⟩
  case round =>
    obtain ⟨k, hk, rfl, hJ, hK⟩ := hrel
    by_cases hlt : k < vs.length
    · obtain ⟨i, hi⟩ : ∃ i : Nat, vs.length - 1 - k = i := ⟨_, rfl⟩
      have hii : ((vs.length : Int) - 1 - k) = i := by omega
      have hiv : i < vs.length := by omega
      obtain ⟨b, o, rfl, hbb, hcell⟩ := HC.out.evts (by omega)
      obtain ⟨a0, a1, a2, a3⟩ := hcell i hiv
      have hbk : wr.heap[b]? = w0.heap[b]? := (hK b (Hbm.out (by omega) b o rfl)).trans (HW.out.block b hbb)
      have d0 := (World.cell?_of_block (a := ⟨b, o + i * 4, none⟩) hbk).trans a0
      have d1 := (World.cell?_of_block (a := ⟨b, o + i * 4 + 1, none⟩) hbk).trans a1
      have d2 := (World.cell?_of_block (a := ⟨b, o + i * 4 + 2, none⟩) hbk).trans a2
      have d3 := (World.cell?_of_block (a := ⟨b, o + i * 4 + 3, none⟩) hbk).trans a3
      have hb1 := (World.cell?_of_block (a := ⟨Bn, 0, none⟩) (hK Bn HBm.out)).trans HBc.out
      have hpre : (dnp vs.length k ++ [i]) <+: dnp vs.length vs.length := by rw [← hi, ← dnp_succ]; exact dnp_prefix _ hlt
      obtain ⟨fn, tmps, assign, body, hy, hR⟩ := HY.out (dnp vs.length k) i wr hJ hpre
      unfold evEnc at hy
      rw [hii]
      have HI := Lib.hid hi
      have HK := Lib.hid hK
      clear hcell hK hJ hi hii hb0 hbk a0 a1 a2 a3 hpre
      gi_wp2
      refine hR.mono ?_
      rintro e W3 ⟨rfl, hJ3, hk3, hb3⟩
      have HB3 := Lib.hid hb3
      have HI3 : Hid (J (dnp vs.length (k + 1)) W3) := by unfold Hid; rw [dnp_succ, HI.out]; exact hJ3
      clear hk3 hJ3 hb3 d0 d1 d2 d3 hb1
      gi_wp2
      go_roundw
      case rel =>
        refine ⟨k + 1, by omega, ?_, HI3.out, fun x hx => (HB3.out x hx).trans (HK.out x hx)⟩
        have := HI.out
        congr 1; omega
      case measure => simp [intOf] <;> omega
    · obtain rfl : k = vs.length := by omega
      have e : ((vs.length : Int) - 1 - vs.length) = -1 := by omega
      rw [e]
      gi_wp2
      go_end0
      exact ⟨⟨_, rfl⟩, hJ⟩
end Go.Proofs.Ytfamennpajjajaa
