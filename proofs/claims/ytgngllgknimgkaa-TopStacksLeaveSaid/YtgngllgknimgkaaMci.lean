/- The walk of groups of package complete. The graph of a list along an axis, whole; its groups; joined of package complete. The walks of Names and Redundant of package complete. The walk of Verify of package complete. Regions inside a round, out of regions outside of one. A law for a range over an iterator all of whose rounds go on, and that may keep memory of its own between rounds; stores and look-ups in rounds. slices.Backward at events: its iterator. The iterator 'arcs' of package complete: the arcs of the graph's dimensions. -/
import Derived.Deep.QuietTactic
import Derived.Test.YtgngllgknimgkaaMce
import Derived.Deep.RegionHeld3
import Derived.Test.YtgngllgknimgkaaMcb
import Derived.KernelRfl
import Derived.OrdersIn
import Derived.Shelf.RegionOpen
import Derived.Sort.QuietThIn
import Derived.RangeFuncNested
import Derived.RangeFuncBound
import Derived.RangeFuncCalls
import Derived.RangeFuncLeaves
import Derived.RangeFuncBox
import Derived.Shelf.Abstract
import Derived.OwnWalkIn
import Derived.TacticsInMore
import Derived.LoopNIn
import Derived.LoopIn
import Derived.Maps.AppendAt
import Derived.Maps.OwnIn
import Derived.Sort.QuietIn
namespace Go.Proofs.Ytgngllgknimgkaa
open Go.RowKit Go.Maps

theorem zeroI22 (w : World) : (zeroValue 3).run Try.prog w = .ok (.int .i64 0) w := by kernel_rfl
/-- What groups asks of the dimensions' ends. -/
def EndsOk (vs : List Dm) (f : SMap) (n : Nat) (p q : Nat → Nat) (is : List Nat) : Prop :=
  ∀ i, i ∈ is → i < vs.length ∧ f (dAt vs i).f = some (.int .i64 (p i)) ∧ p i < n ∧ f (dAt vs i).t = some (.int .i64 (q i)) ∧ q i < n
set_option maxRecDepth 100000 in
set_option maxHeartbeats 8000000 in
theorem groups_any (ao : Option Addr) (vs : List Dm) (c b kk : Nat) (nv dv : Value) (ks : List ByteArray) (is : List Nat) (f : SMap) (p q : Nat → Nat) (w : World) (R : Ending → World → Prop) (hl : ks.length ≤ 512) (hil : is.length ≤ 256) (hc : CellsAt w ao (dC vs)) (hv : DmsOk vs)
   (hg : GrAt w b nv dv (.slice ao vs.length c) ks is kk f) (he : EndsOk vs f ks.length p q is)
   (hR : ∀ g w', w.heap.size ≤ g → Below w.heap.size w w' → Blk w' g 3 (dI (grp p q (List.range ks.length) is)) → R (.returned (.slice (some ⟨g, 0, none⟩) ks.length ks.length)) w') :
    Calls Try.prog 31 #[.pointer (some ⟨b + 1, 0, none⟩)] w R := by
  have HR := Lib.hid hR
  have HC := Lib.hid hc
  have HV := Lib.hid hv
  have HG := Lib.hid hg
  have HE := Lib.hid he
  have hmk := fun w => make_row (P := Try.prog) (t := 63) Try.underlying63 Try.infoI22 rfl ks.length (by omega) (by omega) w
  clear hR hc hv hg he
  obtain ⟨na, nc, rfl, _, _⟩ := ownsRow_read HG.out.names
  obtain ⟨da, dc, rfl, hdc, _⟩ := ownsRow_read HG.out.dims
  have HDC := Lib.hid hdc
  clear hdc
  have sG := HG.out.size
  obtain ⟨g0, g1, g2, g3⟩ := HG.out.cell
  have hgs : b + 1 < w.heap.size := by omega
  go_enter Try.func31, Try.ntmps31
  go_wp2_with fail
  rw [dI_zero]
  have X0' := Blk.new w (dI (List.replicate ks.length 0)) 3
  have B0' : Below w.heap.size w (w.alloc (.cells (dI (List.replicate ks.length 0)).toArray 3)) := (Below.refl _ _).alloc (Nat.le_refl _) _
  obtain ⟨w1, hw1⟩ : ∃ w1, w.alloc (.cells (dI (List.replicate ks.length 0)).toArray 3) = w1 := ⟨_, rfl⟩
  rw [hw1] at X0' B0' ⊢
  have X0 := Lib.hid X0'
  have B0 := Lib.hid B0'
  clear hw1 X0' B0' hmk
  go_loopw [18] (fun j wr => ∃ (k : Nat), k ≤ ks.length ∧ j = .int .i64 k ∧ Hid (Below w.heap.size w wr) ∧ Hid (Blk wr w.heap.size 3 (dI (iniL ks.length k)))) (fun j _ => ks.length - (intOf j).toNat)
  case atStart => exact ⟨0, Nat.zero_le _, rfl, B0, by unfold iniL; simpa using X0⟩
  case round =>
    obtain ⟨k, hk, rfl, HB, HX⟩ := hrel
    by_cases hlt : k < ks.length
    · have hln := iniL_len hk
      have x1 := HX.out.cell (j := k) (by rw [dI_length, hln]; exact hlt)
      have x2 := HX.out.frozen k
      have hxl := HX.out.lt
      rw [dI_get (by rw [hln]; exact hlt)] at x1
      have X2 := Lib.hid (HX.out.set k (.int .i64 k))
      have B2 := Lib.hid (HB.out.setCell (p := ⟨w.heap.size, k, none⟩) (Nat.le_refl _) (.int .i64 k))
      go_wp2_with fail
      refine ⟨⟨k + 1, by omega, by go_num, B2, ?_⟩, by simp [intOf]; omega⟩
      have h := X2.out
      rw [dI_set, iniL_set hlt] at h; exact h
    · obtain rfl : k = ks.length := by omega
      have hX := HX.out
      rw [show iniL ks.length ks.length = List.range ks.length from by simp [iniL]] at hX
      have HX2 := Lib.hid hX
      obtain ⟨L0, hL0⟩ : ∃ L0, List.range ks.length = L0 := ⟨_, rfl⟩
      have hLn : L0.length = ks.length := by rw [← hL0]; simp
      rw [hL0] at HX2 HR
      have HLn := Lib.hid hLn
      have k2 := cellB HB.out g2 hgs
      clear hX HX hL0 hLn
      go_wp2_with fail
      go_loopw [31] (fun j wr => ∃ (m : Nat) (L : List Nat), m ≤ is.length ∧ j = .int .i64 m ∧ Hid (Below w.heap.size w wr) ∧ Hid (Blk wr w.heap.size 3 (dI L)) ∧ Hid (L.length = ks.length) ∧ Hid (grp p q L (is.drop m) = grp p q L0 is)) (fun j _ => is.length - (intOf j).toNat)
      case atStart => exact ⟨0, L0, Nat.zero_le _, rfl, HB, HX2, HLn, rfl⟩
      case round =>
        clear HB HX2 HLn k2
        obtain ⟨m, L, hm, rfl, HB, HX, hLn, hgr⟩ := hrel
        by_cases hlm : m < is.length
        · obtain ⟨i, hi⟩ : ∃ i, nAt is m = i := ⟨_, rfl⟩
          have him : i ∈ is := by rw [← hi, nAt_lt hlm]; exact List.getElem_mem hlm
          obtain ⟨hiv, hf, hp, ht, hq⟩ := HE.out i him
          obtain ⟨b2, o2, rfl, hb2, _⟩ := HDC.out (by rw [dI_length]; omega)
          have i1 := cellB HB.out (HDC.out.get rfl (dI_get? hlm)) hb2
          rw [hi] at i1
          have hst : Hid (grp p q (L.map (mrg (nAt L (p i)) (nAt L (q i)))) (is.drop (m + 1)) = grp p q L0 is) := by
            have h := hgr.out
            rw [List.drop_eq_getElem_cons hlm, ← nAt_lt hlm, hi, grp] at h; exact h
          obtain ⟨P, hP⟩ : ∃ P, p i = P := ⟨_, rfl⟩
          obtain ⟨Q, hQ⟩ : ∃ Q, q i = Q := ⟨_, rfl⟩
          rw [hP] at hf hp hst
          rw [hQ] at ht hq hst
          have x1 := HX.out.cell (j := P) (by rw [dI_length, hLn.out]; exact hp)
          have x2 := HX.out.cell (j := Q) (by rw [dI_length, hLn.out]; exact hq)
          rw [dI_get (by rw [hLn.out]; exact hp)] at x1
          rw [dI_get (by rw [hLn.out]; exact hq)] at x2
          obtain ⟨A, hA⟩ : ∃ A, nAt L P = A := ⟨_, rfl⟩
          obtain ⟨B, hB⟩ : ∃ B, nAt L Q = B := ⟨_, rfl⟩
          rw [hA] at x1 hst
          rw [hB] at x2 hst
          obtain ⟨bd, od, rfl, hbd, hcell⟩ := HC.out.dms (by omega)
          obtain ⟨c0, c1, _, _, _⟩ := hcell i hiv
          have d0 := cellB HB.out c0 hbd
          have d1 := cellB HB.out c1 hbd
          have hok := HV.out i hiv
          have hlf := fun n => ((HG.out.map.below HB.out (by omega)).keep (w' := wr.drewN n) rfl).look (t := 62) Try.underlying9 Try.underlying62 (zeroI22 _) hok.1
          have hlt' := fun n => ((HG.out.map.below HB.out (by omega)).keep (w' := wr.drewN n) rfl).look (t := 62) Try.underlying9 Try.underlying62 (zeroI22 _) hok.2
          rw [hf] at hlf
          rw [ht] at hlt'
          simp only [Option.getD_some] at hlf hlt'
          have k1 := cellB HB.out g1 hgs
          have k3 := cellB HB.out g3 hgs
          have hxl := HX.out.lt
          obtain ⟨uf, huf⟩ : ∃ uf, (dAt vs i).f = uf := ⟨_, rfl⟩
          obtain ⟨ut, hut⟩ : ∃ ut, (dAt vs i).t = ut := ⟨_, rfl⟩
          rw [huf] at d0 hlf
          rw [hut] at d1 hlt'
          clear hcell hi him hf ht hP hQ hA hB c0 c1 hok huf hut hgr
          go_wp2_with fail
          go_quiet (fail)
          have HB9' : Below w.heap.size w (wr.drewN nq) := HB.out.trans ⟨rfl, rfl, rfl, Nat.le_refl _, fun _ _ => rfl⟩
          have HX9' : Blk (wr.drewN nq) w.heap.size 3 (dI L) := HX.out.drewN nq
          obtain ⟨w9, hw9⟩ : ∃ w9, wr.drewN nq = w9 := ⟨_, rfl⟩
          rw [hw9] at HB9' HX9' ⊢
          have HB9 := Lib.hid HB9'
          have HX9 := Lib.hid HX9'
          clear hw9 HB9' HX9' hlf hlt' d0 d1 k1 k3 x1 x2 hxl i1
          go_wp2_with fail
          go_loopw [69] (fun j wr => ∃ (k : Nat), k ≤ ks.length ∧ j = .int .i64 k ∧ Hid (Below w.heap.size w wr) ∧ Hid (Blk wr w.heap.size 3 (dI (mid A B L k)))) (fun j _ => ks.length - (intOf j).toNat)
          case atStart => exact ⟨0, Nat.zero_le _, rfl, HB9, by rw [mid_zero]; exact HX9⟩
          case round =>
            clear HB HX HB9 HX9
            obtain ⟨k, hk, rfl, HB, HX⟩ := hrel
            by_cases hlk : k < ks.length
            · have hlL : k < L.length := by rw [hLn.out]; exact hlk
              have hml := mid_len (a := A) (b := B) (Nat.le_of_lt hlL)
              have x1 := HX.out.cell (j := k) (by rw [dI_length, hml]; exact hlL)
              rw [dI_get (by rw [hml]; exact hlL), mid_get hlL] at x1
              have x2 := HX.out.frozen k
              have hxl := HX.out.lt
              have hsetX : Hid ((mid A B L k).set k (mrg A B (nAt L k)) = mid A B L (k + 1)) := mid_set hlL
              have hkeepX : Hid (¬ (nAt L k = A ∨ nAt L k = B) → mid A B L (k + 1) = mid A B L k) := fun h => mid_keep hlL h
              obtain ⟨X, hXe⟩ : ∃ X, nAt L k = X := ⟨_, rfl⟩
              rw [hXe] at x1 hsetX hkeepX
              have B2 : ∀ u, Hid (Below w.heap.size w (wr.setCell ⟨w.heap.size, k, none⟩ u)) := fun u => HB.out.setCell (p := ⟨w.heap.size, k, none⟩) (Nat.le_refl _) u
              have X2 : Hid (Blk (wr.setCell ⟨w.heap.size, k, none⟩ (.int .i64 (mrg A B X))) w.heap.size 3 (dI (mid A B L (k + 1)))) := by
                have h := HX.out.set k (.int .i64 (mrg A B X))
                rw [dI_set, hsetX.out] at h; exact h
              clear hXe hsetX hml hlL
              by_cases hA : X = A
              · subst hA
                have hm1 : mrg X B X = min X B := by unfold mrg; rw [if_pos (.inl rfl)]
                rw [hm1, show ((min X B : Nat) : Int) = min (X : Int) (B : Int) from by omega] at X2
                clear hkeepX hm1
                go_wp2_with fail
                exact ⟨⟨k + 1, by omega, by go_num, B2 _, X2⟩, by simp [intOf]; omega⟩
              · have KA : ((X : Int) == (A : Int)) = false := by simp; omega
                by_cases hB' : X = B
                · subst hB'
                  have hm1 : mrg A X X = min A X := by unfold mrg; rw [if_pos (.inr rfl)]
                  rw [hm1, show ((min A X : Nat) : Int) = min (A : Int) (X : Int) from by omega] at X2
                  clear hkeepX hm1 hA
                  go_wp2_with fail
                  exact ⟨⟨k + 1, by omega, by go_num, B2 _, X2⟩, by simp [intOf]; omega⟩
                · have KB : ((X : Int) == (B : Int)) = false := by simp; omega
                  have hke := Lib.hid (hkeepX.out (by rintro (h | h); exact hA h; exact hB' h))
                  clear hkeepX X2 hA hB'
                  go_wp2_with fail
                  exact ⟨⟨k + 1, by omega, by go_num, HB, by rw [hke.out]; exact HX⟩, by simp [intOf]; omega⟩
            · obtain rfl : k = ks.length := by omega
              have hX9 := HX.out
              rw [← hLn.out, mid_all] at hX9
              have HX9 := Lib.hid hX9
              have hLm : Hid ((L.map (mrg A B)).length = ks.length) := by unfold Hid; rw [List.length_map]; exact hLn.out
              clear hX9 HX
              go_wp2_with fail
              exact ⟨⟨m + 1, _, by omega, by go_num, HB, HX9, hLm, hst⟩, by simp [intOf]; omega⟩
        · obtain rfl : m = is.length := by omega
          have hfin : Hid (grp p q L0 is = L) := by have h := hgr.out; rw [List.drop_length, grp] at h; exact h.symm
          go_wp2_with fail
          refine HR.out w.heap.size _ (Nat.le_refl _) HB.out ?_
          rw [hfin.out]; exact HX.out
end Go.Proofs.Ytgngllgknimgkaa
namespace Go.Proofs.Ytgngllgknimgkaa
open Go.RowKit Go.Maps

/-- The graph of dimensions vs along axis ax lies at block b. -/
def GrX (W : World) (b : Nat) (ao : Option Addr) (c : Nat) (vs : List Dm) (ax : Int) : Prop :=
  ∃ nv dv, GrAt W b nv dv (.slice ao vs.length c) (nmG vs ax) (onA vs ax vs.length) (nmG vs ax).length (plF (nmG vs ax) (nmG vs ax).length)
theorem GrX.below {W W' : World} {b : Nat} {ao : Option Addr} {c : Nat} {vs : List Dm} {ax : Int} (h : GrX W b ao c vs ax) {B : Nat} (hb : Below B W W') (hB : W.heap.size ≤ B) : GrX W' b ao c vs ax := by
  obtain ⟨nv, dv, h⟩ := h
  exact ⟨nv, dv, h.below (hb.mono hB)⟩
theorem GrX.size {W : World} {b : Nat} {ao : Option Addr} {c : Nat} {vs : List Dm} {ax : Int} (h : GrX W b ao c vs ax) : b + 2 ≤ W.heap.size := by
  obtain ⟨nv, dv, h⟩ := h
  exact h.size
def nmN (vs : List Dm) (ax : Int) : Nat := (nmG vs ax).length
def pF (vs : List Dm) (ax : Int) (i : Nat) : Nat := pos (nmG vs ax) (dAt vs i).f
def pT (vs : List Dm) (ax : Int) (i : Nat) : Nat := pos (nmG vs ax) (dAt vs i).t
/-- The least places of the groups. -/
def grG (vs : List Dm) (ax : Int) : List Nat := grp (pF vs ax) (pT vs ax) (List.range (nmN vs ax)) (onA vs ax vs.length)
theorem nmG_nodup (vs : List Dm) (ax : Int) : (nmG vs ax).Nodup := sortU_nodup _
theorem nmG_len {vs : List Dm} {ax : Int} (hl : vs.length ≤ 256) : (nmG vs ax).length ≤ 512 := by
  have h1 := sortU_len (rawN vs ax vs.length)
  have h2 := rawN_len vs ax vs.length
  have h3 : nmG vs ax = sortU (rawN vs ax vs.length) := rfl
  rw [h3]; omega
theorem endsOk (vs : List Dm) (ax : Int) : EndsOk vs (plF (nmG vs ax) (nmG vs ax).length) (nmG vs ax).length (pF vs ax) (pT vs ax) (onA vs ax vs.length) := fun _i h =>
  have ⟨h1, h2, h3⟩ := onA_names h
  ⟨h1, place_in (nmG_nodup vs ax) h2, pos_lt h2, place_in (nmG_nodup vs ax) h3, pos_lt h3⟩
theorem grG_len (vs : List Dm) (ax : Int) : (grG vs ax).length = (nmG vs ax).length := by
  unfold grG; rw [grp_len, List.length_range]; rfl
theorem graphX_any (ao : Option Addr) (vs : List Dm) (c : Nat) (ax : Int) (w : World) (R : Ending → World → Prop) (hl : vs.length ≤ 256) (hc : CellsAt w ao (dC vs)) (hv : DmsOk vs)
   (hR : ∀ w', Below w.heap.size w w' → GrX w' w.heap.size ao c vs ax → R (.returned (.pointer (some ⟨w.heap.size + 1, 0, none⟩))) w') :
    Calls Try.prog 19 #[.slice ao vs.length c, .int .i64 ax] w R :=
  graphOf_any ao vs c ax w R hl hc hv fun nv dv w' hb hg => hR w' hb ⟨nv, dv, hg⟩
theorem groupsX_any (ao : Option Addr) (vs : List Dm) (c b : Nat) (ax : Int) (w : World) (R : Ending → World → Prop) (hl : vs.length ≤ 256) (hc : CellsAt w ao (dC vs)) (hv : DmsOk vs) (hg : GrX w b ao c vs ax)
   (hR : ∀ g w', w.heap.size ≤ g → Below w.heap.size w w' → Blk w' g 3 (dI (grG vs ax)) → R (.returned (.slice (some ⟨g, 0, none⟩) (nmG vs ax).length (nmG vs ax).length)) w') :
    Calls Try.prog 31 #[.pointer (some ⟨b + 1, 0, none⟩)] w R := by
  obtain ⟨nv, dv, hg⟩ := hg
  exact groups_any ao vs c b _ nv dv _ _ _ (pF vs ax) (pT vs ax) w R (nmG_len hl) (Nat.le_trans (onA_len vs ax _) hl) hc hv hg (endsOk vs ax) hR

/-! ### joined -/
def inK (ks : List ByteArray) (s : ByteArray) : Bool := (ks.map bL).contains (bL s)
theorem inK_iff {ks : List ByteArray} {s : ByteArray} : inK ks s = true ↔ s ∈ ks := by
  unfold inK
  rw [List.contains_iff_mem, List.mem_map]
  exact ⟨fun ⟨t, h1, h2⟩ => bL_inj h2 ▸ h1, fun h => ⟨s, h, rfl⟩⟩
theorem place_all {ks : List ByteArray} (hn : ks.Nodup) (s : ByteArray) : plF ks ks.length s = if inK ks s = true then some (.int .i64 (pos ks s)) else none := by
  by_cases h : s ∈ ks
  · rw [if_pos (inK_iff.2 h)]; exact place_in hn h
  · rw [if_neg (fun e => h (inK_iff.1 e))]; exact place_out h
def jnX (vs : List Dm) (ax : Int) (s t : ByteArray) : Bool := inK (nmG vs ax) s && inK (nmG vs ax) t && nAt (grG vs ax) (pos (nmG vs ax) s) == nAt (grG vs ax) (pos (nmG vs ax) t)
set_option maxRecDepth 100000 in
set_option maxHeartbeats 8000000 in
theorem joined_any (ao : Option Addr) (vs : List Dm) (c b : Nat) (ax : Int) (s t : ByteArray) (w : World) (R : Ending → World → Prop) (hl : vs.length ≤ 256) (hc : CellsAt w ao (dC vs)) (hv : DmsOk vs) (hg : GrX w b ao c vs ax) (hs : s.size ≤ 9223372036854775807) (ht : t.size ≤ 9223372036854775807)
   (hR : ∀ w', Below w.heap.size w w' → R (.returned (.bool (jnX vs ax s t))) w') :
    Calls Try.prog 20 #[.pointer (some ⟨b + 1, 0, none⟩), .string s, .string t] w R := by
  have HR := Lib.hid hR
  have HC := Lib.hid hc
  have HV := Lib.hid hv
  have HG := Lib.hid hg
  clear hR hc hv
  obtain ⟨nv, dv, hg⟩ := hg
  obtain ⟨_, g1, _, _⟩ := hg.cell
  have sG := hg.size
  have hbs : b + 1 < w.heap.size := by omega
  have hls := hg.map.lookOk (t := 62) Try.underlying9 Try.underlying62 (zeroI22 _) hs
  have hlt := hg.map.lookOk (t := 62) Try.underlying9 Try.underlying62 (zeroI22 _) ht
  rw [place_all (nmG_nodup vs ax)] at hls hlt
  have hps : inK (nmG vs ax) s = true → pos (nmG vs ax) s < (nmG vs ax).length := fun h => pos_lt (inK_iff.1 h)
  have hpt : inK (nmG vs ax) t = true → pos (nmG vs ax) t < (nmG vs ax).length := fun h => pos_lt (inK_iff.1 h)
  have hJ : Hid (jnX vs ax s t = (inK (nmG vs ax) s && inK (nmG vs ax) t && nAt (grG vs ax) (pos (nmG vs ax) s) == nAt (grG vs ax) (pos (nmG vs ax) t))) := rfl
  obtain ⟨p1, hp1⟩ : ∃ p1, pos (nmG vs ax) s = p1 := ⟨_, rfl⟩
  obtain ⟨p2, hp2⟩ : ∃ p2, pos (nmG vs ax) t = p2 := ⟨_, rfl⟩
  obtain ⟨b1, hb1⟩ : ∃ b1, inK (nmG vs ax) s = b1 := ⟨_, rfl⟩
  obtain ⟨b2, hb2⟩ : ∃ b2, inK (nmG vs ax) t = b2 := ⟨_, rfl⟩
  rw [hp1, hb1] at hls hps hJ
  rw [hp2, hb2] at hlt hpt hJ
  have hGl := Lib.hid (grG_len vs ax)
  clear hg hp1 hp2 hb1 hb2
  have main : ∀ (hls : (Instr.lookup 62 (.map (some b)) (.string s) true).run Try.prog w = .ok (.tuple #[.int .i64 (if b1 = true then (p1 : Int) else 0), .bool b1]) w) (hlt : (Instr.lookup 62 (.map (some b)) (.string t) true).run Try.prog w = .ok (.tuple #[.int .i64 (if b2 = true then (p2 : Int) else 0), .bool b2]) w), Calls Try.prog 20 #[.pointer (some ⟨b + 1, 0, none⟩), .string s, .string t] w R := by
    clear hls hlt
    intro hls hlt
    cases b1 with
    | false =>
      simp only [if_neg (by simp : ¬ false = true)] at hls
      obtain ⟨z2, hz2⟩ : ∃ z2, (if b2 = true then (p2 : Int) else 0) = z2 := ⟨_, rfl⟩
      rw [hz2] at hlt
      rw [Bool.false_and, Bool.false_and] at hJ
      clear hps hpt hz2
      go_enter Try.func20, Try.ntmps20
      go_wp2_with fail
      refine groupsX_any ao vs c b ax _ _ hl HC.out HV.out HG.out ?_
      intro g w1 hgb hb hx
      have HB1 := Lib.hid hb
      clear hb hx
      go_wp2_with fail
      go_quiet (fail)
      go_wp2_with fail
      have h := HR.out _ (HB1.out.trans (c := w1.drewN nq) ⟨rfl, rfl, rfl, Nat.le_refl _, fun _ _ => rfl⟩)
      rw [hJ.out] at h; exact h
    | true =>
      simp only [] at hls
      have h1 := hps rfl
      cases b2 with
      | false =>
        simp only [if_neg (by simp : ¬ false = true)] at hlt
        rw [Bool.true_and, Bool.false_and] at hJ
        clear hps hpt
        go_enter Try.func20, Try.ntmps20
        go_wp2_with fail
        refine groupsX_any ao vs c b ax _ _ hl HC.out HV.out HG.out ?_
        intro g w1 hgb hb hx
        have HB1 := Lib.hid hb
        clear hb hx
        go_wp2_with fail
        go_quiet (fail)
        go_wp2_with fail
        have h := HR.out _ (HB1.out.trans (c := w1.drewN nq) ⟨rfl, rfl, rfl, Nat.le_refl _, fun _ _ => rfl⟩)
        rw [hJ.out] at h; exact h
      | true =>
        simp only [] at hlt
        rw [Bool.true_and, Bool.true_and] at hJ
        have h2 := hpt rfl
        clear hps hpt
        go_enter Try.func20, Try.ntmps20
        go_wp2_with fail
        refine groupsX_any ao vs c b ax _ _ hl HC.out HV.out HG.out ?_
        intro g w1 hgb hb hx
        have HB1 := Lib.hid hb
        have x1 := hx.cell (j := p1) (by rw [dI_length, hGl.out]; exact h1)
        have x2 := hx.cell (j := p2) (by rw [dI_length, hGl.out]; exact h2)
        rw [dI_get (by rw [hGl.out]; exact h1)] at x1
        rw [dI_get (by rw [hGl.out]; exact h2)] at x2
        have hxl := hx.lt
        obtain ⟨A, hA⟩ : ∃ A, nAt (grG vs ax) p1 = A := ⟨_, rfl⟩
        obtain ⟨B, hB⟩ : ∃ B, nAt (grG vs ax) p2 = B := ⟨_, rfl⟩
        rw [hA] at x1 hJ
        rw [hB] at x2 hJ
        have hAB : Hid (((A : Int) == (B : Int)) = (A == B)) := by
          unfold Hid
          by_cases e : A = B
          · subst e; simp
          · rw [show (A == B) = false from by simpa using e]; simp; omega
        rw [← hAB.out] at hJ
        clear hb hx hA hB hAB
        go_wp2_with fail
        go_quiet (fail)
        go_wp2_with fail
        have h := HR.out _ (HB1.out.trans (c := w1.drewN nq) ⟨rfl, rfl, rfl, Nat.le_refl _, fun _ _ => rfl⟩)
        rw [hJ.out] at h; exact h
  cases b1 <;> cases b2 <;> exact main hls hlt
end Go.Proofs.Ytgngllgknimgkaa
namespace Go.Proofs.Ytgngllgknimgkaa
open Go.RowKit Go.Maps

theorem giE_len {vs : List Dm} {ax : Int} (h : giE vs ax = 0) : vs.length ≤ 256 := by
  unfold giE at h
  by_cases e : 256 < vs.length
  · rw [if_pos e] at h; omega
  · omega
theorem take_ok {vs : List Dm} (h : DmsOk vs) (k : Nat) : DmsOk (vs.take k) := fun i hi => by
  have hi' : i < vs.length := by rw [List.length_take] at hi; omega
  rw [dAt_lt hi, List.getElem_take, ← dAt_lt hi']; exact h i hi'
theorem cells_takeD {w : World} {ao : Option Addr} {vs : List Dm} (h : CellsAt w ao (dC vs)) (k : Nat) : CellsAt w ao (dC (vs.take k)) := by
  intro h0
  have hsplit : dC vs = dC (vs.take k) ++ dC (vs.drop k) := by rw [← dC_append, List.take_append_drop]
  obtain ⟨b, o, e, hl, hj⟩ := h (by rw [hsplit, List.length_append]; omega)
  refine ⟨b, o, e, hl, fun j hj' => ?_⟩
  rw [hj j (by rw [hsplit, List.length_append]; omega), hsplit]
  simp only [List.getD_eq_getElem?_getD]
  rw [List.getElem?_append_left hj']
/-- The names, or none behind an error. -/
def nmX (vs : List Dm) (ax : Int) : List ByteArray := if giE vs ax = 0 then nmG vs ax else []
/-- The redundant dimensions. -/
def rdF (vs : List Dm) (ax : Int) : Nat → List Nat
  | 0 => []
  | k + 1 => if ((dAt vs k).x == ax && jnX (vs.take k) ax (dAt vs k).f (dAt vs k).t) = true then rdF vs ax k ++ [k] else rdF vs ax k
theorem rdF_len (vs : List Dm) (ax : Int) : ∀ k, (rdF vs ax k).length ≤ k
  | 0 => Nat.le_refl _
  | k + 1 => by
    have := rdF_len vs ax k
    rw [rdF]
    split
    · rw [List.length_append]; simp; omega
    · omega
def rdX (vs : List Dm) (ax : Int) : List Nat := if giE vs ax = 0 then rdF vs ax vs.length else []
theorem graphT_any (ao : Option Addr) (vs : List Dm) (k c : Nat) (ax : Int) (w : World) (R : Ending → World → Prop) (hk : k ≤ vs.length) (hl : vs.length ≤ 256) (hc : CellsAt w ao (dC vs)) (hv : DmsOk vs)
   (hR : ∀ w', Below w.heap.size w w' → GrX w' w.heap.size ao c (vs.take k) ax → R (.returned (.pointer (some ⟨w.heap.size + 1, 0, none⟩))) w') :
    Calls Try.prog 19 #[.slice ao k c, .int .i64 ax] w R := by
  have hlen : (vs.take k).length = k := by rw [List.length_take]; omega
  have h := graphX_any ao (vs.take k) c ax w R (by omega) (cells_takeD hc k) (take_ok hv k) hR
  rw [hlen] at h; exact h
end Go.Proofs.Ytgngllgknimgkaa
namespace Go.Proofs.Ytgngllgknimgkaa
open Go.RowKit Go.Maps

/-- The names at which the first steps begin. -/
def snF (vs : List Dm) (ls : List Sp) : Nat → ByteArray → Bool
  | 0, _ => false
  | k + 1, p => snF vs ls k p || sameD (enF vs (pAt ls k)) p
def bfr (ls : List Sp) (k : Nat) : Sp := pAt ls (if k = 0 then ls.length - 1 else k - 1)
def vfF (vs : List Dm) (ax : Int) (ls : List Sp) (k : Nat) (sum : Int) : Int ⊕ Int :=
  if knS vs.length (pAt ls k) = true then
    if ((dAt vs (pAt ls k).i.toNat).x != ax) = true then .inr 1
    else if knS vs.length (bfr ls k) = true then
      if sameD (enT vs (bfr ls k)) (enF vs (pAt ls k)) = true then
        if snF vs ls k (enF vs (pAt ls k)) = true then .inr 7 else .inl (sum + enA vs (pAt ls k))
      else .inr 8
    else .inr 8
  else .inr 2
def vfR : Int ⊕ Int → Int
  | .inl s => if 0 ≤ s then 15 else 0
  | .inr r => r
def vfE (vs : List Dm) (ax : Int) (ls : List Sp) : Int :=
  if giE vs ax = 0 then
    if ls.length = 0 then 13 else if 256 < ls.length then 5 else vfR (loopE (vfF vs ax ls) ls.length 0 0)
  else giE vs ax
structure StV (W : World) (Bl b : Nat) (lv : Value) (s : Sp) (k : Nat) (f : SMap) : Prop where
  l : W.cell? ⟨Bl, 0, none⟩ = some lv
  bb : W.heap[b]? = some (.cells #[.int .i64 s.i, .bool s.b] 111 (0, 0))
  m : MapIs Try.prog 9 W (b + 1) k f
  lo : Bl < b
theorem StV.size {W : World} {Bl b : Nat} {lv : Value} {s : Sp} {k : Nat} {f : SMap} (h : StV W Bl b lv s k f) : b + 1 < W.heap.size := h.m.lt
theorem StV.below {W W' : World} {Bl b : Nat} {lv : Value} {s : Sp} {k : Nat} {f : SMap} (h : StV W Bl b lv s k f) (hb : Below W.heap.size W W') : StV W' Bl b lv s k f :=
  have hs := h.size
  have hlo := h.lo
  ⟨(hb.cell (p := ⟨Bl, 0, none⟩) (by show Bl < _; omega)).trans h.l, (hb.block b (by omega)).trans h.bb, h.m.keep (hb.block (b + 1) hs), hlo⟩
theorem giF_all (vs : List Dm) : ∀ m i, loopE (giF vs) m i () = .inl () → ∀ j, i ≤ j → j < i + m → vaE (dAt vs j) = 0
  | 0, i, _, j, h1, h2 => by omega
  | m + 1, i, h, j, h1, h2 => by
    rw [loopE] at h
    by_cases e : vaE (dAt vs i) = 0
    · have e2 : giF vs i () = .inl () := by unfold giF; rw [if_pos e]
      rw [e2] at h
      by_cases e3 : j = i
      · rw [e3]; exact e
      · exact giF_all vs m (i + 1) h j (by omega) (by omega)
    · have e2 : giF vs i () = .inr (vaE (dAt vs i)) := by unfold giF; rw [if_neg e]
      rw [e2] at h; cases h
theorem giE_all {vs : List Dm} {ax : Int} (h : giE vs ax = 0) : vs.length ≤ 256 ∧ ∀ j, j < vs.length → vaE (dAt vs j) = 0 := by
  unfold giE at h
  by_cases e : 256 < vs.length
  · rw [if_pos e] at h; omega
  · rw [if_neg e] at h
    cases hq : loopE (giF vs) vs.length 0 () with
    | inl u => exact ⟨by omega, fun j hj => giF_all vs _ 0 hq j (by omega) (by omega)⟩
    | inr r =>
      rw [hq] at h
      have hr : r = 0 := h
      have : ∀ m i, loopE (giF vs) m i () = .inr r → r ≠ 0 := by
        intro m
        induction m with
        | zero => intro i h; rw [loopE] at h; cases h
        | succ m ih =>
          intro i h
          rw [loopE] at h
          by_cases e : vaE (dAt vs i) = 0
          · have e2 : giF vs i () = .inl () := by unfold giF; rw [if_pos e]
            rw [e2] at h; exact ih (i + 1) h
          · have e2 : giF vs i () = .inr (vaE (dAt vs i)) := by unfold giF; rw [if_neg e]
            rw [e2] at h; cases h; exact e
      exact absurd hr (this _ _ hq)
theorem vaE_bounds {v : Dm} (h : vaE v = 0) : -100000 ≤ v.l ∧ v.l ≤ 100000 ∧ -100000 ≤ v.h ∧ v.h ≤ 100000 := by
  unfold vaE at h
  by_cases a : nmE v.f = 0
  · rw [if_pos a] at h
    by_cases b : nmE v.t = 0
    · rw [if_pos b] at h
      split at h
      · omega
      · split at h
        · omega
        · unfold lmE inR at h
          split at h
          · rename_i hh
            simp at hh
            omega
          · omega
    · rw [if_neg b] at h; exact absurd h b
  · rw [if_neg a] at h; exact absurd h a
theorem enA_bounds {vs : List Dm} (h : ∀ j, j < vs.length → vaE (dAt vs j) = 0) {s : Sp} (hk : knS vs.length s = true) : -100000 ≤ enA vs s ∧ enA vs s ≤ 100000 ∧ IntKind.i64.wrap (-(dAt vs s.i.toNat).l) = -(dAt vs s.i.toNat).l := by
  obtain ⟨h0, h1⟩ := knS_iff.1 hk
  have hb := vaE_bounds (h s.i.toNat (by omega))
  refine ⟨?_, ?_, ?_⟩
  · unfold enA; split <;> omega
  · unfold enA; split <;> omega
  · rw [IntKind.wrap_i64]; omega
end Go.Proofs.Ytgngllgknimgkaa
namespace Go.Proofs.Ytgngllgknimgkaa

variable {F : Fence} {n : Nat} {P : Program} {md : Region.Mode} {ops : Array Oper} {Q : Exit → Act → World → Prop}
theorem calls_round {l : Nat} {f : FuncId} {args : Array Value} {w : World} {R : Ending → World → Prop} (h : CallsIn F n P f args w R) : CallsIn (F.inRound l) n P f args w R := h
theorem rows_round {l : Nat} {row : String} {args : Array Value} {w : World} {R : Value → World → Prop} (h : RowsIn F n P row args w R) : RowsIn (F.inRound l) n P row args w R := h
theorem oper_round {l : Nat} {o : Oper} {a : Act} {w : World} {K : Act → World → Prop} (_hro : F.round = none) (hd : ∀ c, o.op ≠ Op.defer c) (h : o.wpIn F n P a w K Q) : o.wpIn (F.inRound l) n P a w K Q := by
  unfold Oper.wpIn at *
  refine ⟨h.1, ?_⟩
  have hh := h.2
  rw [Oper.semAt_eq _ _ _ hd] at hh ⊢
  generalize (execOp a.eval o).run P w = r at *
  cases r with
  | ok x w' => cases x <;> exact hh
  | halt x w' => cases x <;> exact hh
theorem wpAnyIn_round {l : Nat} (hro : F.round = none) (hd : ∀ (j : Nat) (o : Oper) (c : Call), ops[j]? = some o → o.op ≠ Op.defer c) : ∀ (fuel : Nat) (listed : Array Bool) (a : Act) (w : World),
    wpAnyIn F n P md ops Q fuel listed a w → wpAnyIn (F.inRound l) n P md ops Q fuel listed a w
  | 0, _, _, _, h => h
  | fuel + 1, listed, a, w, h => by
    refine ⟨h.1, fun i hi => ?_⟩
    have h1 := h.2 i hi
    unfold wpOpIn at *
    split
    · rename_i ho
      simp only [ho] at h1
      exact wpAnyIn_round hro hd fuel _ _ _ h1
    · rename_i o ho
      simp only [ho] at h1
      split
      · rename_i hw
        simp only [hw, if_true] at h1
        exact Oper.wpIn_mono (fun a' w' h' => wpAnyIn_round hro hd fuel _ _ _ h') (oper_round hro (fun c => hd i o c ho) h1)
      · rename_i hw
        simp only [hw] at h1
        exact ⟨h1.1, wpAnyIn_round hro hd fuel _ _ _ h1.2⟩
/-- No operation defers. -/
def noDefer (ops : Array Oper) : Bool := ops.all fun o => match o.op with | .defer _ => false | _ => true
theorem noDefer_all {ops : Array Oper} (h : noDefer ops = true) : ∀ (j : Nat) (o : Oper) (c : Call), ops[j]? = some o → o.op ≠ Op.defer c := by
  intro j o c hj e
  unfold noDefer at h
  rw [Array.all_eq_true] at h
  obtain ⟨hlt, he⟩ := Array.getElem?_eq_some_iff.1 hj
  have h1 := h j hlt
  rw [he, e] at h1
  cases h1
/-- A region that draws inside a round: walk it outside of one. -/
theorem region_round {l id : Nat} {a : Act} {w : World} (hm : P.follows .mixedOrders = true) (hro : F.round = none) (hd : noDefer ops = true)
    (h : wpAnyIn F n P .any ops Q ops.size (Array.replicate ops.size false) a { w with drawn := w.drawn + 1 }) : (Code.region id ops true).wpIn (F.inRound l) n P Q a w :=
  wpIn_region_any hm (wpAnyIn_round hro (noDefer_all hd) _ _ _ _ h)
theorem region_round_quiet_lit {l id : Nat} {a : Act} {w : World} {os : List Oper} (hm : P.follows .mixedOrders = true) (hB : Region.lexB .any os.toArray = true) (hd : noDefer os.toArray = true) (hro : F.round = none)
    (h : wpQuietIn F n P os.toArray (fun w' => ∃ n, w' = w.drewN n) (fun a' => ∀ w', (∃ n, w' = w.drewN n) → Q .normal a' w') os a) : (Code.region id os.toArray true).wpIn (F.inRound l) n P Q a w := by
  have hB' := hB
  simp only [Region.lexB, Bool.and_eq_true] at hB'
  refine region_round hm hro hd (wpAnyIn_of_quiet (C := fun w' => ∃ n, w' = w.drewN n) (Q := fun a' => ∀ w', (∃ n, w' = w.drewN n) → Q .normal a' w') hro (fun _ w' hw' h => h w' hw') _ _ _ _ ⟨1, rfl⟩ ?_)
  have := wpAnyQIn_lex (F := F) (n := n) (C := fun w' => ∃ n, w' = w.drewN n) (md := .any) hB'.1 os.toArray.toList 0 (Array.replicate os.toArray.size false) a (by simp) (by simpa using hB'.2) (by simpa using h)
  simpa using this
end Go.Proofs.Ytgngllgknimgkaa
namespace Go.Proofs.Ytgngllgknimgkaa
open Go.RowKit Go.Maps

/-- It rests on what lay below B alone. -/
def Old {β : Type} (B : Nat) (J : β → World → Prop) : Prop := ∀ s W W', J s W → Below B W W' → J s W'
/-- What lies at or beyond B lies as it lay. -/
structure KeepsUp (B : Nat) (W W' : World) : Prop where
  size : W.heap.size ≤ W'.heap.size
  block : ∀ k, B ≤ k → k < W.heap.size → W'.heap[k]? = W.heap[k]?
theorem KeepsUp.refl (B : Nat) (W : World) : KeepsUp B W W := ⟨Nat.le_refl _, fun _ _ _ => rfl⟩
theorem KeepsUp.trans {B : Nat} {X Y Z : World} (h : KeepsUp B X Y) (k : KeepsUp B Y Z) : KeepsUp B X Z :=
  ⟨Nat.le_trans h.size k.size, fun i hB hi => (k.block i hB (Nat.lt_of_lt_of_le hi h.size)).trans (h.block i hB hi)⟩
theorem KeepsUp.alloc {B : Nat} {X Y : World} (h : KeepsUp B X Y) (o : Obj) : KeepsUp B X (Y.alloc o) :=
  h.trans ⟨by simp, fun _ _ hk => Below.heap_alloc _ _ _ hk⟩
theorem KeepsUp.drew {B : Nat} {X Y : World} (h : KeepsUp B X Y) : KeepsUp B X Y.drew := ⟨h.size, h.block⟩
theorem KeepsUp.mono {B B' : Nat} {X Y : World} (h : KeepsUp B X Y) (hB : B ≤ B') : KeepsUp B' X Y := ⟨h.size, fun k h1 h2 => h.block k (by omega) h2⟩
theorem KeepsUp.below {B B' : Nat} {X Y : World} (h : Below B X Y) (hB : X.heap.size ≤ B) : KeepsUp B' X Y := ⟨h.size, fun k _ h2 => h.block k (by omega)⟩
/-- A store, a turn of a block below B or laid since. -/
theorem KeepsUp.grown {B : Nat} {X Y Z : World} {row : Option Nat} (h : KeepsUp B X Y) (hg : Y.grownBy Z row) (hr : ∀ k, row = some k → k < B ∨ X.heap.size ≤ k) : KeepsUp B X Z :=
  ⟨Nat.le_trans h.size hg.size, fun k h1 h2 => (hg.block k (Nat.lt_of_lt_of_le h2 h.size) (fun e => by rcases hr k e.symm with h3 | h3 <;> omega)).trans (h.block k h1 h2)⟩
theorem KeepsUp.setCell {B : Nat} {X Y : World} (h : KeepsUp B X Y) {p : Addr} (hp : p.block < B ∨ X.heap.size ≤ p.block) (u : Value) : KeepsUp B X (Y.setCell p u) := by
  refine ⟨Nat.le_trans h.size (Below.setCell (Below.refl p.block Y) (Nat.le_refl _) u).size, fun k h1 h2 => ?_⟩
  have hne : k ≠ p.block := by intro e; rcases hp with h3 | h3 <;> omega
  exact (Below.heap_setCell Y p u k hne).trans (h.block k h1 h2)
/-- These blocks lie as they lay. -/
def KeepsBs (bs : List Nat) (W W' : World) : Prop := ∀ k ∈ bs, W'.heap[k]? = W.heap[k]?

/-- What an iterator does all of whose rounds go on: xs come, in this order. -/
def Gives {α : Type} (F : Fence) (n : Nat) (P : Program) (g : Nat) (lb : Array Value) (encs : α → Array Value) (bs : List Nat) (xs : List α) (w0 : World) : Prop :=
  ∀ (l : Nat) (J : List α → World → Prop) (W : World), Below w0.heap.size w0 W → Old W.heap.size J →
    (∀ pre x W1, J pre W1 → (pre ++ [x]) <+: xs → YieldAt F (n - 1) P l (encs x) W1 fun e W' => e = .returned (.bool true) ∧ J (pre ++ [x]) W' ∧ KeepsUp W.heap.size W1 W' ∧ KeepsBs bs W1 W') →
    J [] W → CallsIn F n P g (#[.func (.yield l) #[] #[]] ++ lb) W fun e W' => (∃ v, e = .returned v) ∧ J xs W'

/-- How a round's body is left: off its end. -/
def allPost {α : Type} (B : Nat) (bs : List Nat) (I : List α → World → Prop) (xs : List α) (W : World) : Exit → Act → World → Prop
  | .normal, _, W' => KeepsUp B W W' ∧ KeepsBs bs W W' ∧ I xs W'
  | _, _, _ => False

theorem wpIn_rangeFunc_all {F : Fence} {n : Nat} {P : Program} {α : Type} {g : Operand} {ps : Array Tmp} {assign body : Code} {Q : Exit → Act → World → Prop} {a : Act} {w : World}
    (hro : F.round = none) (h1 : 1 ≤ n) {gf : Nat} {lb : Array Value} (hg : a.eval g = .func (.func gf) #[] lb) (hFg : F.fn gf) (eg : ∀ args w, (callFunc gf args).run P w = .ok (.enter gf args) w)
    {encs : α → Array Value} {bs : List Nat} {xs : List α} {w0 : World} (hseq : Gives F (n - 1) P gf lb encs bs xs w0) (hb0 : Below w0.heap.size w0 w) (hps : ∀ x, (encs x).size = ps.size) (hbs : ∀ k ∈ bs, k < w.heap.size)
    (I : List α → World → Prop) (hI : Old w.heap.size I) (h0 : I [] w) (Ax : α → Act → World → Prop) (hAx : ∀ x a' W l r o, W.heap[l]? = some (.loop r) → Ax x a' W → Ax x a' (W.putObj l o))
    (hassign : ∀ (l : Nat) (pre : List α) (x : α) (W : World) (K : Act → World → Prop), I pre W → w.heap.size ≤ W.heap.size → (pre ++ [x]) <+: xs → (∀ a' W', Below W.heap.size W W' → Ax x a' W' → K a' W') →
      assign.wpIn (F.inRound l) (n - 1 - 1) P (Exit.then K (fun _ _ _ => False)) { tmps := (ps.zip (encs x)).foldl (fun t (p, v) => t.setIfInBounds p v) a.tmps, defers := [] } W)
    (hbody : ∀ (l : Nat) (pre : List α) (x : α) (a' : Act) (W : World), I pre W → Ax x a' W → w.heap.size ≤ W.heap.size → (pre ++ [x]) <+: xs → body.wpIn (F.inRound l) (n - 1 - 1) P (allPost w.heap.size bs I (pre ++ [x]) W) a' W)
    (hdone : ∀ (D : Nat) (W : World), w.heap.size ≤ D → I xs W → W.heap[D]? = some (.deferred (some [])) → Q .normal { a with defers := { target := .collected D, args := #[] } :: a.defers } W) :
    (Code.rangeFunc g ps assign body).wpIn F n P Q a w := by
  refine wpIn_rangeFunc ?_
  intro fn hfn
  rw [hro]
  obtain ⟨W0, hW0⟩ : ∃ W0, ((w.alloc (.deferred (some []))).alloc (.loop { state := .ready, pending := none, fn, tmps := a.tmps, params := ps, assign, body, defers := w.heap.size })) = W0 := ⟨_, rfl⟩
  have hB : w.heap.size + 2 = W0.heap.size := by rw [← hW0]; simp
  have hL : W0.heap[w.heap.size + 1]? = some (.loop { state := .ready, pending := none, fn, tmps := a.tmps, params := ps, assign, body, defers := w.heap.size }) := by
    rw [← hW0]
    have := World.alloc_heap_new (w.alloc (.deferred (some []))) (.loop { state := .ready, pending := none, fn, tmps := a.tmps, params := ps, assign, body, defers := w.heap.size }); rwa [World.size_alloc] at this
  have hK : W0.heap[w.heap.size]? = some (.deferred (some [])) := by
    rw [← hW0]; exact (Below.heap_alloc _ _ _ (by simp)).trans (World.alloc_heap_new w _)
  have hbl : Below w.heap.size w W0 := by
    rw [← hW0]; exact ((Below.refl _ w).alloc (Nat.le_refl _) _).alloc (by simp) _
  refine ⟨w.heap.size + 1, [{ target := .collected w.heap.size, args := #[] }], W0, { target := .fn (.func gf) lb, args := #[.func (.yield (w.heap.size + 1)) #[] #[]] }, W0, gf,
    #[.func (.yield (w.heap.size + 1)) #[] #[]] ++ lb, W0, ?_, ?_, ?_, ?_, fun _ => h1, ?_⟩
  · rw [← hW0]; exact run_enterLoop_outer _ _ _ _ _
  · simp only [resolve, hg]
    simp [go_sem]
  · intro f' hf'; simp [Target.leads] at hf'; subst hf'; exact hFg
  · simp [invoke, go_sem, eg]
  · clear hW0
    refine (hseq (w.heap.size + 1)
      (fun pre W => I pre W ∧ W.heap[w.heap.size + 1]? = some (.loop { state := .ready, pending := none, fn, tmps := a.tmps, params := ps, assign, body, defers := w.heap.size }) ∧ W.heap[w.heap.size]? = some (.deferred (some [])))
      W0 (hb0.trans (hbl.mono hb0.size))
      (fun s A B hs hAB => ⟨hI s A B hs.1 (hAB.mono (by omega)), (hAB.block _ (by omega)).trans hs.2.1, (hAB.block _ (by omega)).trans hs.2.2⟩)
      ?_ ⟨hI _ _ _ h0 hbl, hL, hK⟩).mono ?_
    · rintro pre x W ⟨hi, hl, hk⟩ hpre
      have hlt : w.heap.size + 1 < W.heap.size := (Array.getElem?_eq_some_iff.1 hl).1
      refine ⟨fn, _, assign, body, run_yield (P := P) (args := encs x) hl (hps x), roundIn_of_wpIn hfn (hassign _ pre x W _ hi (by omega) hpre ?_)⟩
      intro a' Wa hba hax
      have hla := (hba.block _ hlt).trans hl
      have hka := (hba.block w.heap.size (by omega)).trans hk
      have hia := hI _ _ _ hi (hba.mono (by omega))
      have hsa := hba.size
      refine ⟨_, run_beginRound hla rfl, ?_⟩
      have hp : ∀ (V : World) (o : Obj), Below w.heap.size V (V.putObj (w.heap.size + 1) o) := fun V o => ⟨rfl, rfl, rfl, by simp, fun k hk => World.putObj_heap_other (by omega)⟩
      refine wpIn_mono (hbody _ pre x a' _ (hI _ _ _ hia (hp _ _)) (hAx _ _ _ _ _ _ hla hax) (by simp; omega) hpre) ?_
      rintro e a3 W3 hpost
      cases e with
      | normal =>
        obtain ⟨k1, k2, k3⟩ := hpost
        have hl3 := (k1.block (w.heap.size + 1) (by omega) (by simp; omega)).trans (World.putObj_heap_same (by omega))
        have hk3 := ((k1.block w.heap.size (by omega) (by simp; omega)).trans (World.putObj_heap_other (by omega))).trans hka
        refine ⟨_, _, run_endRound (P := P) none hl3, rfl, ⟨hI _ _ _ k3 (hp _ _), World.putObj_heap_same (Array.getElem?_eq_some_iff.1 hl3).1, (World.putObj_heap_other (by omega)).trans hk3⟩, ⟨?_, ?_⟩, ?_⟩
        · have := k1.size; simp at this ⊢; omega
        · intro k h1 h2
          exact ((World.putObj_heap_other (by omega)).trans (k1.block k (by omega) (by simp; omega))).trans ((World.putObj_heap_other (by omega)).trans (hba.block k h2))
        · intro k hk'
          have h2 := hbs k hk'
          exact ((World.putObj_heap_other (by omega)).trans (k2 k hk')).trans ((World.putObj_heap_other (by omega)).trans (hba.block k (by omega)))
      | ret => exact hpost.elim
      | exit id => exact hpost.elim
      | goto t => exact hpost.elim
      | panic ch => exact hpost.elim
      | outgrown => exact hpost.elim
    · rintro e W2 ⟨⟨v, rfl⟩, hi, hl, hk⟩
      have hlt : w.heap.size + 1 < W2.heap.size := (Array.getElem?_eq_some_iff.1 hl).1
      exact ⟨none, _, run_endLoop (P := P) hl (by simp), hdone _ _ (Nat.le_refl _) (hI _ _ _ hi ⟨rfl, rfl, rfl, by simp, fun k hk => World.putObj_heap_other (by omega)⟩) ((World.putObj_heap_other (by omega)).trans hk)⟩

/-! ### the function's end behind such loops -/
theorem endM {F : Fence} {n : Nat} {P : Program} {fn : Func} {R : Ending → World → Prop} {tmps : Array Value} {V : World} {v : Value} {D : Nat} (hK : V.heap[D]? = some (.deferred (some [])))
    (hr : ∀ w, (results fn tmps).run P w = .ok v w) (hR : Below D V (V.putObj D (.deferred none)) → R (.returned v) (V.putObj D (.deferred none))) :
    bodyPostM F n P fn R .ret { tmps := tmps, defers := [{ target := .collected D, args := #[] }] } V :=
  ⟨by simp, .inl ⟨_, _, rfl, run_takeDeferred hK, ⟨_, hr _, hR ⟨rfl, rfl, rfl, by simp, fun k hk => World.putObj_heap_other (by omega)⟩⟩⟩⟩
theorem endM0 {F : Fence} {n : Nat} {P : Program} {fn : Func} {R : Ending → World → Prop} {tmps : Array Value} {V : World} {v : Value}
    (hr : ∀ w, (results fn tmps).run P w = .ok v w) (hR : R (.returned v) V) : bodyPostM F n P fn R .ret { tmps := tmps, defers := [] } V := ⟨_, hr _, hR⟩
theorem res1 {fn : Func} {t : Tmp} {P : Program} (h : fn.results = #[.tmp t]) {tmps : Array Value} {x : Value} (hx : tmps.getD t undef = x) (w : World) : (results fn tmps).run P w = .ok x w := by rw [results_tmp h, hx]
theorem res2 {fn : Func} {t u : Tmp} {P : Program} (h : fn.results = #[.tmp t, .tmp u]) {tmps : Array Value} {x y : Value} (hx : tmps.getD t undef = x) (hy : tmps.getD u undef = y) (w : World) : (results fn tmps).run P w = .ok (.tuple #[x, y]) w := by rw [results_tmp2 h, hx, hy]

/-! ### maps in rounds -/
section
variable {F : Fence} {nF : Nat} {P : Program} {k t e : TypeId} {b n : Nat} {f : SMap}
theorem wpIn_mapStore (w : World) {ops : Array Oper} {rest : List Oper} {o : Oper} {a : Act} {Q : Exit → Act → World → Prop}
    (hg : o.guard = none) (m x v : Operand) (t : TypeId) (hop : o.op = Op.mapUpdate t m x v) (k e : TypeId) (hk : P.underlying k = some .string) (ht : P.underlying t = some (.map k e)) (b n : Nat) (f : SMap)
    (hm : a.eval m = .map (some b)) (h : MapIs P k w b n f) (hn : n < maxLen) (s : ByteArray) (val : Value) (hx : a.eval x = .string s) (hv : a.eval v = val) (hs : s.size ≤ maxLen)
    (hK : ∀ w', MapIs P k w' b (n + 1) (f.put s val) → w.grownBy w' (some b) → wpListIn F nF P ops Q rest (a.put o.dst undef) w') :
    wpListIn F nF P ops Q (o :: rest) a w := by
  obtain ⟨D, h1, h2⟩ := h
  exact wpListIn_mapUpdate_own w hg m x v t hop k e (string_keyed hk) ht heldR b n D hm h1 hn (.string s) val (keyL s) hx hv (keyOfS hk hs) (.held val) [] rfl
    fun w' h3 h4 => hK w' ⟨_, h3, put_view h1.isMap h2 s val⟩ h4
theorem wpIn_mapLookOk (w : World) {ops : Array Oper} {rest : List Oper} {o : Oper} {a : Act} {Q : Exit → Act → World → Prop}
    (hg : o.guard = none) (m x : Operand) (t : TypeId) (hop : o.op = Op.lookup t m x true) (k e : TypeId) (hk : P.underlying k = some .string) (ht : P.underlying t = some (.map k e)) (b n : Nat) (f : SMap)
    (hm : a.eval m = .map (some b)) (h : MapIs P k w b n f) {z : Value} (hz : (zeroValue e).run P w = .ok z w) (s : ByteArray) (hx : a.eval x = .string s) (hs : s.size ≤ maxLen) (u : Value) (ok : Bool) (hu : (f s).getD z = u) (hok : (f s).isSome = ok)
    (hK : wpListIn F nF P ops Q rest (a.put o.dst (.tuple #[u, .bool ok])) w) :
    wpListIn F nF P ops Q (o :: rest) a w := by
  refine wpListIn_plain hg fun K' hK' => ?_
  have hrun := h.lookOk hk ht hz hs
  rw [hu, hok] at hrun
  unfold Oper.wpIn
  refine ⟨by simp [Oper.about, hop], ?_⟩
  rw [Oper.semAt_plain F _ _ (by rw [hop]; intro c hc'; cases hc')]
  simp [execOp, hop, hm, hx, hrun, Result.andThen]
  exact hK' _ _ hK
theorem wpIn_mapLook (w : World) {ops : Array Oper} {rest : List Oper} {o : Oper} {a : Act} {Q : Exit → Act → World → Prop}
    (hg : o.guard = none) (m x : Operand) (t : TypeId) (hop : o.op = Op.lookup t m x false) (k e : TypeId) (hk : P.underlying k = some .string) (ht : P.underlying t = some (.map k e)) (b n : Nat) (f : SMap)
    (hm : a.eval m = .map (some b)) (h : MapIs P k w b n f) {z : Value} (hz : (zeroValue e).run P w = .ok z w) (s : ByteArray) (hx : a.eval x = .string s) (hs : s.size ≤ maxLen) (u : Value) (hu : (f s).getD z = u)
    (hK : wpListIn F nF P ops Q rest (a.put o.dst u) w) :
    wpListIn F nF P ops Q (o :: rest) a w := by
  refine wpListIn_plain hg fun K' hK' => ?_
  have hrun := h.look hk ht hz hs
  rw [hu] at hrun
  unfold Oper.wpIn
  refine ⟨by simp [Oper.about, hop], ?_⟩
  rw [Oper.semAt_plain F _ _ (by rw [hop]; intro c hc'; cases hc')]
  simp [execOp, hop, hm, hx, hrun, Result.andThen]
  exact hK' _ _ hK
end
end Go.Proofs.Ytgngllgknimgkaa
namespace Go.Proofs.Ytgngllgknimgkaa
open Go.RowKit Go.Maps
attribute [local go_sem] Oper.semAt_some

/-- The indices from the last one down, k of them. -/
def dnp (n k : Nat) : List Nat := (List.range k).map fun j => n - 1 - j
theorem dnp_length (n k : Nat) : (dnp n k).length = k := by simp [dnp]
theorem dnp_succ (n k : Nat) : dnp n (k + 1) = dnp n k ++ [n - 1 - k] := by simp [dnp, List.range_succ]
theorem dnp_prefix (n : Nat) {k m : Nat} (h : k ≤ m) : dnp n k <+: dnp n m := by
  induction m with
  | zero => obtain rfl : k = 0 := by omega
            exact List.prefix_refl _
  | succ c ih =>
    by_cases e : k = c + 1
    · subst e; exact List.prefix_refl _
    · rw [dnp_succ]; exact (ih (by omega)).trans (List.prefix_append _ _)
/-- What came before x: k indices, x is the next. -/
theorem dnp_at {n : Nat} {pre : List Nat} {x : Nat} (h : (pre ++ [x]) <+: dnp n n) : pre.length < n ∧ pre = dnp n pre.length ∧ x = n - 1 - pre.length := by
  have hl := h.length_le
  simp [dnp_length] at hl
  have h2 := dnp_prefix n (show pre.length + 1 ≤ n from hl)
  have h3 : (pre ++ [x]) = dnp n (pre.length + 1) := by
    have e1 := List.prefix_iff_eq_take.1 h
    have e2 := List.prefix_iff_eq_take.1 h2
    rw [e2, dnp_length, e1]; simp
  rw [dnp_succ] at h3
  have h4 := List.append_inj h3 (by rw [dnp_length])
  exact ⟨hl, h4.1, by simpa using h4.2⟩
def evEnc (vs : List Ev) (i : Nat) : Array Value := #[.int .i64 i, .agg #[.int .i64 (eAt vs i).k, .string (eAt vs i).g, .string (eAt vs i).p, .string (eAt vs i).t]]

/-- The block of a log. -/
def logBs (vs : List Ev) (ao : Option Addr) : List Nat := if vs.length = 0 then [] else match ao with | some a => [a.block] | none => []
theorem logBs_mem {vs : List Ev} {ao : Option Addr} (h0 : 0 < vs.length) (b o : Nat) (e : ao = some ⟨b, o, none⟩) : b ∈ logBs vs ao := by
  unfold logBs; rw [if_neg (by omega), e]; exact List.mem_singleton.2 rfl
theorem logBs_lt {vs : List Ev} {ao : Option Addr} {w : World} (h : CellsAt w ao (eC vs)) : ∀ k ∈ logBs vs ao, k < w.heap.size := by
  intro k hk
  unfold logBs at hk
  by_cases h0 : vs.length = 0
  · rw [if_pos h0] at hk; cases hk
  · obtain ⟨b, o, rfl, hb, _⟩ := h (by rw [eC_length]; omega)
    rw [if_neg h0] at hk
    rw [List.mem_singleton.1 hk]; exact hb
theorem logBs_keep {vs : List Ev} {ao : Option Addr} {w V V' : World} (h : CellsAt w ao (eC vs)) (hb : Below w.heap.size V V') : KeepsBs (logBs vs ao) V V' := fun k hk => hb.block k (logBs_lt h k hk)

end Go.Proofs.Ytgngllgknimgkaa
namespace Go.Proofs.Ytgngllgknimgkaa
open Go.RowKit Go.Maps
attribute [local go_sem] Oper.semAt_some

theorem arcs_in (F : Fence) (n : Nat) (h5 : F.fn 49) (hro : F.round = none) (q : Option Addr) (w : World) :
    CallsIn F n Try.prog 49 #[.pointer q] w fun e w' => e = .returned (.func (.func 69) #[] #[.pointer (some ⟨w.heap.size, 0, none⟩)]) ∧
      w' = w.alloc (.cells #[.pointer q] 58) := by
  refine callsIn_of_wp Try.func49 rfl h5 ?_ hro
  simp only [Try.ntmps49, List.size_toArray, List.length_cons, List.length_nil, Nat.reduceAdd, Nat.reduceSub, Array.replicate_succ, Array.replicate_zero, List.push_toArray, List.append_toArray, List.nil_append, List.cons_append]
  gi_wp2
  go_ret
  exact ⟨rfl, rfl⟩
/-- The arcs, as the iterator yields them: two a dimension. -/
def arcI (is : List Nat) (j : Nat) : Nat := nAt is (j / 2)
def arcEnc (vs : List Dm) (ax : Int) (j : Nat) : Value :=
  let i := arcI (onA vs ax vs.length) j
  if j % 2 = 0 then .agg #[.int .i64 i, .bool false, .int .i64 (pF vs ax i), .int .i64 (pT vs ax i), .int .i64 (dAt vs i).h]
  else .agg #[.int .i64 i, .bool true, .int .i64 (pT vs ax i), .int .i64 (pF vs ax i), .int .i64 (-(dAt vs i).l)]
theorem cells_kept {W W' : World} {ao : Option Addr} {cs : List Value} (h : CellsAt W ao cs) (hk : 0 < cs.length → ∀ b o, ao = some ⟨b, o, none⟩ → W'.heap[b]? = W.heap[b]?) : CellsAt W' ao cs := by
  intro h0
  obtain ⟨b, o, e, hb, hc⟩ := h h0
  have hk' := hk h0 b o e
  refine ⟨b, o, e, ?_, fun j hj => (World.cell?_of_block (a := ⟨b, o + j, none⟩) hk').trans (hc j hj)⟩
  have h1 : (W.heap[b]?).isSome = true := by rw [Array.getElem?_eq_getElem hb]; rfl
  rw [← hk'] at h1
  by_cases e : b < W'.heap.size
  · exact e
  · rw [Array.getElem?_eq_none (by omega)] at h1; cases h1
/-- What the iterator reads. -/
structure ArK (W : World) (Bl b : Nat) (nv : Value) (da : Option Addr) (dc : Nat) (ao : Option Addr) (vs : List Dm) (c : Nat) (is : List Nat) (k : Nat) (f : SMap) : Prop where
  own : W.cell? ⟨Bl, 0, none⟩ = some (.pointer (some ⟨b + 1, 0, none⟩))
  box : W.heap[b + 1]? = some (.cells #[nv, .map (some b), .slice da is.length dc, .slice ao vs.length c] 65 (0, 0))
  map : MapIs Try.prog 9 W b k f
  dims : CellsAt W da (dI is)
  list : CellsAt W ao (dC vs)
/-- The blocks that it reads. -/
def arBs (Bl b : Nat) (da ao : Option Addr) (vs : List Dm) (is : List Nat) : List Nat := [Bl, b + 1, b] ++ ((if is.length = 0 then [] else match da with | some a => [a.block] | none => []) ++ (if vs.length = 0 then [] else match ao with | some a => [a.block] | none => []))
theorem ArK.keep {W W' : World} {Bl b : Nat} {nv : Value} {da : Option Addr} {dc : Nat} {ao : Option Addr} {vs : List Dm} {c : Nat} {is : List Nat} {k : Nat} {f : SMap} (h : ArK W Bl b nv da dc ao vs c is k f) (hk : KeepsBs (arBs Bl b da ao vs is) W W') : ArK W' Bl b nv da dc ao vs c is k f :=
  ⟨(World.cell?_of_block (a := ⟨Bl, 0, none⟩) (hk Bl (by simp [arBs]))).trans h.own, (hk (b + 1) (by simp [arBs])).trans h.box, h.map.keep (hk b (by simp [arBs])),
    cells_kept h.dims (fun h0 b2 o e => hk b2 (by subst e; rw [dI_length] at h0; unfold arBs; rw [if_neg (by omega)]; simp)),
    cells_kept h.list (fun h0 b2 o e => hk b2 (by subst e; rw [dC_length] at h0; unfold arBs; rw [if_neg (show ¬ vs.length = 0 by omega)]; simp))⟩
theorem ArK.below {W W' : World} {Bl b : Nat} {nv : Value} {da : Option Addr} {dc : Nat} {ao : Option Addr} {vs : List Dm} {c : Nat} {is : List Nat} {k : Nat} {f : SMap} (h : ArK W Bl b nv da dc ao vs c is k f) (hb : Below W.heap.size W W') : ArK W' Bl b nv da dc ao vs c is k f :=
  have h1 : Bl < W.heap.size := lt_of_cell h.own
  have h2 : b + 1 < W.heap.size := lt_of_block h.box
  ⟨cellB hb h.own h1, (hb.block _ h2).trans h.box, h.map.keep (hb.block _ h.map.lt), h.dims.below hb, h.list.below hb⟩
theorem arBs_lt {W : World} {Bl b : Nat} {nv : Value} {da : Option Addr} {dc : Nat} {ao : Option Addr} {vs : List Dm} {c : Nat} {is : List Nat} {k : Nat} {f : SMap} (h : ArK W Bl b nv da dc ao vs c is k f) : ∀ x ∈ arBs Bl b da ao vs is, x < W.heap.size := by
  have h1 : Bl < W.heap.size := lt_of_cell h.own
  have h2 : b + 1 < W.heap.size := lt_of_block h.box
  intro x hx
  unfold arBs at hx
  rcases List.mem_append.1 hx with hx | hx
  · simp at hx; rcases hx with rfl | rfl | rfl <;> omega
  · rcases List.mem_append.1 hx with hx | hx
    · by_cases e : is.length = 0
      · rw [if_pos e] at hx; cases hx
      · rw [if_neg e] at hx
        obtain ⟨b2, o, rfl, hb2, _⟩ := h.dims (by rw [dI_length]; omega)
        rw [List.mem_singleton.1 hx]; exact hb2
    · by_cases e : vs.length = 0
      · rw [if_pos e] at hx; cases hx
      · rw [if_neg e] at hx
        obtain ⟨b2, o, rfl, hb2, _⟩ := h.list (by rw [dC_length]; omega)
        rw [List.mem_singleton.1 hx]; exact hb2
/-- The first ones that come. -/
theorem range_at {n x : Nat} {pre : List Nat} (h : (pre ++ [x]) <+: List.range n) : pre.length < n ∧ pre = List.range pre.length ∧ x = pre.length := by
  have hl := h.length_le
  simp at hl
  have e1 := List.prefix_iff_eq_take.1 h
  rw [List.take_range, List.length_append, List.length_singleton, Nat.min_eq_left (by omega), List.range_succ] at e1
  have h4 := List.append_inj e1 (by simp)
  exact ⟨by omega, h4.1, by simpa using h4.2⟩
theorem range_prefix {n k : Nat} (h : k ≤ n) : List.range k <+: List.range n := by
  rw [List.prefix_iff_eq_take, List.take_range, List.length_range, Nat.min_eq_left h]
theorem arcEnc_even (vs : List Dm) (ax : Int) (m : Nat) : arcEnc vs ax (2 * m) = .agg #[.int .i64 (nAt (onA vs ax vs.length) m), .bool false, .int .i64 (pF vs ax (nAt (onA vs ax vs.length) m)), .int .i64 (pT vs ax (nAt (onA vs ax vs.length) m)), .int .i64 (dAt vs (nAt (onA vs ax vs.length) m)).h] := by
  unfold arcEnc arcI
  rw [show 2 * m / 2 = m from by omega, if_pos (by omega)]
theorem arcEnc_odd (vs : List Dm) (ax : Int) (m : Nat) : arcEnc vs ax (2 * m + 1) = .agg #[.int .i64 (nAt (onA vs ax vs.length) m), .bool true, .int .i64 (pT vs ax (nAt (onA vs ax vs.length) m)), .int .i64 (pF vs ax (nAt (onA vs ax vs.length) m)), .int .i64 (-(dAt vs (nAt (onA vs ax vs.length) m)).l)] := by
  unfold arcEnc arcI
  rw [show (2 * m + 1) / 2 = m from by omega, if_neg (by omega)]
set_option maxRecDepth 100000 in
set_option maxHeartbeats 8000000 in
theorem arcs1_gives (F : Fence) (n : Nat) (h104 : F.fn 69) (hro : F.round = none) (hn : 1 ≤ n) (Bl b : Nat) (nv : Value) (da : Option Addr) (dc : Nat) (ao : Option Addr) (vs : List Dm) (c : Nat) (ax : Int) (w0 : World) (hl : vs.length ≤ 256)
    (hA : ArK w0 Bl b nv da dc ao vs c (onA vs ax vs.length) (nmG vs ax).length (plF (nmG vs ax) (nmG vs ax).length)) (hv : DmsOk vs) (hw : ∀ i, i < vs.length → IntKind.i64.wrap (-(dAt vs i).l) = -(dAt vs i).l) :
    Gives F n Try.prog 69 #[.pointer (some ⟨Bl, 0, none⟩)] (fun j => #[arcEnc vs ax j]) (arBs Bl b da ao vs (onA vs ax vs.length)) (List.range (2 * (onA vs ax vs.length).length)) w0 := by
  intro l J W hW hJ hY hJ0
  have HY := Lib.hid hY
  have HA := Lib.hid (hA.below hW)
  have HJ := Lib.hid hJ
  have HV := Lib.hid hv
  have HWr := Lib.hid hw
  have HE := Lib.hid (endsOk vs ax)
  have hil := onA_len vs ax vs.length
  obtain ⟨is, his⟩ : ∃ is, onA vs ax vs.length = is := ⟨_, rfl⟩
  have HI : Hid (onA vs ax vs.length = is) := his
  rw [his] at HA HY HE hil ⊢
  clear hY hA hJ hv hw hW his
  refine callsIn_of_wp Try.func69 rfl h104 ?_ hro
  simp only [Try.ntmps69, List.size_toArray, List.length_cons, List.length_nil, Nat.reduceAdd, Nat.reduceSub, Array.replicate_succ, Array.replicate_zero, List.push_toArray, List.append_toArray, List.nil_append, List.cons_append]
  have hb0 := HA.out.own
  have hb2 := cell_of HA.out.box (j := 2) (v := .slice da is.length dc) rfl
  gi_wp2
  clear hb0 hb2
  gi_loopw [13] (fun p wr => ∃ k : Nat, k ≤ is.length ∧ p = .int .i64 k ∧ J (List.range (2 * k)) wr ∧ KeepsBs (arBs Bl b da ao vs is) W wr ∧ Hid (W.heap.size ≤ wr.heap.size)) (fun p _ => is.length - (intOf p).toNat)
  case atStart => exact ⟨0, Nat.zero_le _, by go_num, hJ0, fun _ _ => rfl, Nat.le_refl _⟩
  case round =>
    obtain ⟨k, hk, rfl, hJ, hK, hsW⟩ := hrel
    by_cases hlt : k < is.length
    · have HA1 := Lib.hid (HA.out.keep hK)
      obtain ⟨i, hi⟩ : ∃ i, nAt is k = i := ⟨_, rfl⟩
      have him : i ∈ is := by rw [← hi, nAt_lt hlt]; exact List.getElem_mem hlt
      obtain ⟨hiv, hf, hp, ht, hq⟩ := HE.out i him
      have hwr := HWr.out i hiv
      have hok := HV.out i hiv
      have hpre1 : (List.range (2 * k) ++ [2 * k]) <+: List.range (2 * is.length) := by rw [← List.range_succ]; exact range_prefix (by omega)
      have hpre2 : (List.range (2 * k + 1) ++ [2 * k + 1]) <+: List.range (2 * is.length) := by rw [← List.range_succ]; exact range_prefix (by omega)
      have hEe := arcEnc_even vs ax k
      have hEo := arcEnc_odd vs ax k
      rw [HI.out, hi] at hEe hEo
      have HY1 := fun W1 hj => HY.out (List.range (2 * k)) (2 * k) W1 hj hpre1
      have HY2 := fun W1 hj => HY.out (List.range (2 * k + 1)) (2 * k + 1) W1 hj hpre2
      rw [← List.range_succ] at HY1 HY2
      simp only [hEe] at HY1
      simp only [hEo] at HY2
      obtain ⟨bd, od, rfl, hbd, hdc⟩ := HA1.out.dims (by rw [dI_length]; omega)
      have i1 := HA1.out.dims.get rfl (dI_get? hlt)
      rw [hi] at i1
      obtain ⟨bl, ol, rfl, hbl, hcell⟩ := HA1.out.list.dms (by omega)
      obtain ⟨d0, d1, d2, d3, d4⟩ := hcell i hiv
      obtain ⟨u, hu⟩ : ∃ u, dAt vs i = u := ⟨_, rfl⟩
      obtain ⟨P, hP⟩ : ∃ P, pF vs ax i = P := ⟨_, rfl⟩
      obtain ⟨Q, hQ⟩ : ∃ Q, pT vs ax i = Q := ⟨_, rfl⟩
      rw [hu] at d0 d1 d2 d3 d4 hwr hok HY1 HY2 hf ht
      rw [hP] at hf hp HY1 HY2
      rw [hQ] at ht hq HY1 HY2
      have HB2 : Below wr.heap.size wr (wr.alloc (.cells #[.string u.f, .string u.t, .int .i64 u.x, .int .i64 u.l, .int .i64 u.h] 44)) := (Below.refl _ _).alloc (Nat.le_refl _) _
      have X0 := World.alloc_heap_new wr (.cells #[.string u.f, .string u.t, .int .i64 u.x, .int .i64 u.l, .int .i64 u.h] 44)
      have hM2 := HA1.out.map.below HB2 HA1.out.map.lt
      have hlf := fun n => (hM2.keep (w' := (wr.alloc (.cells #[.string u.f, .string u.t, .int .i64 u.x, .int .i64 u.l, .int .i64 u.h] 44)).drewN n) rfl).look (t := 62) Try.underlying9 Try.underlying62 (zeroI22 _) hok.1
      have hlt' := fun n => (hM2.keep (w' := (wr.alloc (.cells #[.string u.f, .string u.t, .int .i64 u.x, .int .i64 u.l, .int .i64 u.h] 44)).drewN n) rfl).look (t := 62) Try.underlying9 Try.underlying62 (zeroI22 _) hok.2
      rw [hf] at hlf
      rw [ht] at hlt'
      simp only [Option.getD_some] at hlf hlt'
      have b0 := HA1.out.own
      have b1 := cell_of HA1.out.box (j := 1) (v := .map (some b)) rfl
      have b3 := cell_of HA1.out.box (j := 3) (v := .slice (some ⟨bl, ol, none⟩) vs.length c) rfl
      have sW := hsW.out
      have HK := Lib.hid hK
      have HJ1 := Lib.hid (HJ.out _ _ _ hJ (((Below.refl W.heap.size wr).alloc sW (.cells #[.string u.f, .string u.t, .int .i64 u.x, .int .i64 u.l, .int .i64 u.h] 44))))
      have HY1' := Lib.hid HY1
      have HY2' := Lib.hid HY2
      have hbl' : bl < wr.heap.size := hbl
      have hb1 : b + 1 < wr.heap.size := lt_of_block HA1.out.box
      have hBl : Bl < wr.heap.size := lt_of_cell b0
      have HBs := Lib.hid (arBs_lt HA1.out)
      clear hcell hu hi him hf ht hP hQ hok hK hJ hEe hEo HY1 HY2 hpre1 hpre2 hM2 hdc
      gi_wp2
      refine wpIn_region_quiet_lit hro (by kernel_rfl) (by kernel_rfl) ?_
      repeat (gi_big_quiet_step (fail))
      refine wpQuietIn_nil ?_
      intro _ hw'
      obtain ⟨nq, hw''⟩ := hw'
      subst hw''
      have X2 : ((wr.alloc (.cells #[.string u.f, .string u.t, .int .i64 u.x, .int .i64 u.l, .int .i64 u.h] 44)).drewN nq).heap[wr.heap.size]? = some (.cells #[.string u.f, .string u.t, .int .i64 u.x, .int .i64 u.l, .int .i64 u.h] 44 (0, 0)) := X0
      have HB3 : Below wr.heap.size wr ((wr.alloc (.cells #[.string u.f, .string u.t, .int .i64 u.x, .int .i64 u.l, .int .i64 u.h] 44)).drewN nq) := HB2.trans ⟨rfl, rfl, rfl, Nat.le_refl _, fun _ _ => rfl⟩
      have hJ1 : J (List.range (2 * k)) ((wr.alloc (.cells #[.string u.f, .string u.t, .int .i64 u.x, .int .i64 u.l, .int .i64 u.h] 44)).drewN nq) := HJ.out _ _ _ HJ1.out ⟨rfl, rfl, rfl, Nat.le_refl _, fun _ _ => rfl⟩
      obtain ⟨w5, hw5⟩ : ∃ w5, (wr.alloc (.cells #[.string u.f, .string u.t, .int .i64 u.x, .int .i64 u.l, .int .i64 u.h] 44)).drewN nq = w5 := ⟨_, rfl⟩
      rw [hw5] at X2 HB3 hJ1 ⊢
      have h5 : Hid (wr.heap.size < w5.heap.size) := lt_of_block X2
      have e3 := cell_of X2 (j := 4) (v := .int .i64 u.h) rfl
      obtain ⟨fn, tmps, assign, body, hy, hR⟩ := HY1'.out w5 hJ1
      have HX2 := Lib.hid X2
      have HB5 := Lib.hid HB3
      clear hw5 hlf hlt' d0 d1 d2 d3 d4 i1 b1 b3 X0 HB2 X2 HB3 hJ1 HJ1 b0
      gi_wp2
      refine hR.mono ?_
      rintro e W3 ⟨rfl, hJ3, hk3, hb3⟩
      have X3 := (hk3.block wr.heap.size sW h5.out).trans HX2.out
      have e4 := cell_of X3 (j := 3) (v := .int .i64 u.l) rfl
      obtain ⟨fn2, tmps2, assign2, body2, hy2, hR2⟩ := HY2'.out W3 hJ3
      have HK3 := Lib.hid hk3
      have HBK3 := Lib.hid hb3
      clear hJ3 hk3 hb3 X3 hy e3 hR
      gi_wp2
      refine hR2.mono ?_
      rintro e W4 ⟨rfl, hJ4, hk4, hb4⟩
      have HJ4 := Lib.hid hJ4
      have HB4 := Lib.hid hb4
      have HK4 := Lib.hid hk4
      clear hJ4 hk4 hb4 hy2 hR2 e4
      gi_wp2
      go_roundw
      case rel =>
        refine ⟨k + 1, by omega, by go_num, HJ4.out, fun x hx => ?_, ?_⟩
        · have hx' := HBs.out x hx
          exact (HB4.out x hx).trans ((HBK3.out x hx).trans ((HB5.out.block x hx').trans (HK.out x hx)))
        · have := h5.out
          have := HK3.out.size
          have := HK4.out.size
          show W.heap.size ≤ W4.heap.size
          omega
      case measure => simp [intOf] <;> omega
    · obtain rfl : k = is.length := by omega
      clear hK
      gi_wp2
      go_end0
      exact ⟨⟨_, rfl⟩, hJ⟩
end Go.Proofs.Ytgngllgknimgkaa
