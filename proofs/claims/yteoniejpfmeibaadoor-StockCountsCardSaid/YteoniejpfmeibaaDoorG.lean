/- The walk of the reference's Stacks. -/
import Derived.Test.YteoniejpfmeibaaDoorLibB
import Derived.Test.YteoniejpfmeibaaDoorSpec3
import Derived.Test.YteoniejpfmeibaaDoorD
namespace Go.Proofs.YteoniejpfmeibaaDoor
open Go.RowKit

theorem Tryd.infoRow : (Tryd.prog.info? 31).map (fun i => (i.zero, i.size, i.bytes)) = some (some (.slice none 0 0), 1, 24) := by kernel_rfl

/-- What the outer loop holds. -/
def StkInv (n : Nat) (W0 : World) (k : Nat) (vo vl : Value) (wr : World) : Prop :=
  ∃ vos vls, OwnL wr W0.heap.size 31 1 vo vos.length vos ∧ RowsV 3 wr W0.heap.size vos (stks n k) ∧
    OwnL wr W0.heap.size 31 1 vl vls.length vls ∧ RowsV 3 wr W0.heap.size vls (lasts n k) ∧ Below W0.heap.size W0 wr
/-- What the loops over the last stacks hold: the next ones so far; all that was there is as it was. -/
def NextInv (W1 : World) (ls : List (List Int)) (v : Value) (wr : World) : Prop :=
  ∃ vs, OwnL wr W1.heap.size 31 1 v vs.length vs ∧ RowsV 3 wr W1.heap.size vs ls ∧ Below W1.heap.size W1 wr

set_option maxRecDepth 100000 in
set_option maxHeartbeats 2000000 in
theorem stacks_any (n : Nat) (hn : n ≤ 9) (w : World) (R : Ending → World → Prop)
   (hR : ∀ v vs w', Below w.heap.size w w' → OwnL w' w.heap.size 31 1 v vs.length vs → RowsV 3 w' w.heap.size vs (stks n n) → R (.returned v) w') :
    Calls Tryd.prog 82 #[.int .i64 n] w R := by
  have HR := Lib.hid hR
  clear hR
  go_enter Tryd.func82, Tryd.ntmps82
  go_wp2_with fail
  go_loopw [3, 4, 5] (fun vo vl vk wr => ∃ k : Nat, k ≤ n ∧ vk = .int .i64 k ∧ StkInv n w k vo vl wr) (fun _ _ vk _ => n - (intOf vk).toNat)
  case atStart =>
    refine ⟨0, Nat.zero_le _, rfl, [.slice none 0 0], [.slice none 0 0], (OwnL.lit1 w _ _ _ (Nat.le_refl _)).alloc _, RowsV.one (RowV.nil _ _ _), ?_, RowsV.one (RowV.nil _ _ _), ((Below.refl _ _).alloc (Nat.le_refl _) _).alloc (by simp) _⟩
    have := OwnL.lit1 (w.alloc (.cells #[.slice none 0 0] 31)) w.heap.size 31 (.slice none 0 0) (by simp)
    simpa using this
  case round =>
    obtain ⟨k, hk, rfl, vos, vls, hoo, hro, hol, hrl, hbel⟩ := hrel
    obtain ⟨aol, capl, rfl, hcl, hnl⟩ := hol.read2
    have HOO := Lib.hid hoo
    have HRO := Lib.hid hro
    have HOL := Lib.hid hol
    have HRL := Lib.hid hrl
    have HB := Lib.hid hbel
    have HCL := Lib.hid hcl
    rw [hrl.1]
    clear hoo hro hol hrl hbel hcl hnl
    obtain ⟨wo, rfl⟩ : ∃ wo : World, wo = wr := ⟨_, rfl⟩
    by_cases hkn : k < n
    · have hLk := lasts_length' (n := n) (k := k) hn (by omega)
      have hLk1 := lasts_length' (n := n) (k := k + 1) hn (by omega)
      have hSk := stks_length' (n := n) (k := k) hn (by omega)
      go_wp2_with fail
      go_loopw [6, 7] (fun vn vi wr => ∃ i : Nat, i ≤ (lasts n k).length ∧ vi = .int .i64 i ∧ NextInv wo (((lasts n k).take i).flatMap (ext n k)) vn wr) (fun _ vi _ => (lasts n k).length - (intOf vi).toNat)
      case atStart => exact ⟨0, Nat.zero_le _, rfl, [], OwnL.nil _ _ _ _, RowsV.nil _ _ _, Below.refl _ _⟩
      case round =>
        obtain ⟨i, hi, rfl, hnx⟩ := hrel
        have HN := Lib.hid hnx
        clear hnx
        obtain ⟨wi, rfl⟩ : ∃ wi : World, wi = wr := ⟨_, rfl⟩
        by_cases hiL : i < (lasts n k).length
        · obtain ⟨l, hl⟩ : ∃ l, (lasts n k)[i] = l := ⟨_, rfl⟩
          have hmem : l ∈ lasts n k := by rw [← hl]; exact List.getElem_mem _
          obtain ⟨hlen, hval⟩ := lasts_ok n k l hmem
          have hrow : RowV 3 wo w.heap.size (vls.getD i undef) l := by
            have := HRL.out.2 i hiL
            rwa [List.getD_eq_getElem?_getD (l := lasts n k), List.getElem?_eq_getElem hiL, Option.getD_some, hl] at this
          rw [RowV, hlen] at hrow
          obtain ⟨aor, cr, hvr, hcr0, hnr⟩ := OwnL.read2 hrow
          obtain ⟨bl, ol, rfl, hbl, hli0⟩ := HCL.out (by rw [HRL.out.1]; omega)
          have hli := hli0 i (by rw [HRL.out.1]; omega)
          rw [hvr] at hli
          obtain ⟨prev, hprev⟩ : ∃ prev, ((lasts n k).take i).flatMap (ext n k) = prev := ⟨_, rfl⟩
          rw [hprev] at HN
          have Hpl : Hid (prev.length ≤ 387420489) := by rw [← hprev]; exact prev_length hn (by omega)
          obtain ⟨F, hF⟩ : ∃ F, frm k l = F := ⟨_, rfl⟩
          have hFn : F ≤ n := by rw [← hF]; exact frm_le hmem
          have Hff := Lib.hid hF
          have Hprev := Lib.hid hprev
          have Hl := Lib.hid hl
          have Hbl := Lib.hid hbl
          have Hli := Lib.hid hli
          have Hnr := Lib.hid hnr
          have Hcr := Lib.hid hcr0
          have Hlen : Hid ((I64s l).length = k) := by unfold Hid; rw [I64s_length]; exact hlen
          have hbi : Below wo.heap.size wo wi := by obtain ⟨_, _, _, h⟩ := HN.out; exact h
          have d0 := (hbi.cell (p := ⟨bl, ol + i, none⟩) hbl).trans hli
          have Hval := Lib.hid hval
          have Hll := Lib.hid hlen
          by_cases hk0 : 0 < k
          · have hx : ∃ b2 o2, aor = some ⟨b2, o2, none⟩ ∧ wi.cell? ⟨b2, o2 + (k - 1), none⟩ = some (.int .i64 ((F : Int) - 1)) := by
              obtain ⟨b2, o2, e, hb2, hc2⟩ := hcr0.ints (by omega)
              refine ⟨b2, o2, e, ((hbi.cell (p := ⟨b2, o2 + (k - 1), none⟩) hb2).trans (hc2 (k - 1) (by omega))).trans ?_⟩
              have h1 := (hval (k - 1) (by omega)).1
              rw [frm, if_pos hk0] at hF
              have : at0 l (k - 1) = (F : Int) - 1 := by omega
              rw [this]
            obtain ⟨b2, o2, rfl, d2⟩ := hx
            clear hF hprev hl hbl hli hli0 hnr hcr0 hbi hval hlen hrow hvr hmem
            go_wp2_with fail
            go_loopw [6, 9] (fun vn vb wr => ∃ m : Nat, m ≤ n - F ∧ vb = .int .i64 ((F + m : Nat) : Int) ∧ NextInv wo (prev ++ extTo k l m) vn wr) (fun _ vb _ => n - (intOf vb).toNat)
            case atStart => exact ⟨0, Nat.zero_le _, (by first | rfl | (rw [HF0.out]; rfl)), by simpa [extTo] using HN.out⟩
            case round =>
              obtain ⟨m, hm, rfl, vs, hov, hrv, hbv⟩ := hrel
              have HOV := Lib.hid hov
              have HRV := Lib.hid hrv
              have HBV := Lib.hid hbv
              have hls : (prev ++ extTo k l m).length ≤ 400000000 := by
                rw [List.length_append, extTo_length]; have := Hpl.out; omega
              have hvs : vs.length ≤ 400000000 := by rw [hrv.1]; exact hls
              by_cases hlt : m < n - F
              · have d1 := (hbv.cell (p := ⟨bl, ol + i, none⟩) Hbl.out).trans Hli.out
                have hblr : bl < wr.heap.size := Nat.lt_of_lt_of_le Hbl.out hbv.size
                have HCR := Lib.hid (Hcr.out.below hbv)
                clear hov hrv hbv hls
                go_wp2_with (first
                  | (at_builtin; refine wp_appendG rfl (.tmp 41) (.tmp 45) 31 rfl wr.heap.size 3 Tryd.underlying31 Tryd.infoInt rfl (by decide) _ 0 [] rfl (World.ownsRow_made wr #[] 0 (Nat.le_refl _) (by unfold maxLen; omega) rfl) _ k cr (I64s l) Hlen.out rfl Hnr.out (HCR.out.below ((Below.refl _ _).alloc (Nat.le_refl _) _)) (ints_oneCell _ _) (by omega) (by simp) ?_; intro v1 w1 hown1 hgrow1 hn1; simp only [Nat.zero_add, List.nil_append] at hown1; have H1 := Lib.hid hown1; have Hg1 := Lib.hid hgrow1; have Hb1 := Lib.hid (Below.grown ((Below.refl wr.heap.size wr).alloc (Nat.le_refl _) _) hgrow1 (by simp) (fun k e => by cases e; exact Nat.le_refl _)); clear hown1 hgrow1 hn1)
                  | (at_builtin; refine wp_appendG rfl (.tmp 46) (.tmp 48) 31 rfl wr.heap.size 3 Tryd.underlying31 Tryd.infoInt rfl (by decide) v1 k (I64s l) rfl (H1.out.alloc _) (some ⟨w1.heap.size, 0, none⟩) 1 1 [.int .i64 ((F + m : Nat) : Int)] rfl rfl (by simp) (CellsAt.new1 _ _ _) (one1 _ rfl) (by omega) (by have := Hb1.out.size; simp; omega) ?_; intro v2 w2 hown2 hgrow2 hn2; have H2 := Lib.hid hown2; have Hb2 := Lib.hid (Below.grown (Hb1.out.alloc Hb1.out.size _) hgrow2 (by have := Hb1.out.size; simp; omega) (fun k e => (H1.out.lt k e).1)); clear hown2 hgrow2 hn2; obtain ⟨ao2, cap2, rfl, _, _⟩ := (OwnL.of H2.out).read2)
                  | (at_builtin; refine wp_appendG rfl (.tmp 40) (.tmp 50) 130 rfl wo.heap.size 31 Tryd.underlying130 Tryd.infoRow rfl (by decide) _ vs.length vs rfl ((HOV.out.below Hb2.out).alloc _).1 (some ⟨w2.heap.size, 0, none⟩) 1 1 [.slice ao2 (k + 1) cap2] rfl rfl (by simp) (CellsAt.new1 _ _ _) (one1 _ rfl) (by omega) (by have := Hb2.out.size; have := HBV.out.size; simp; omega) ?_; intro v3 w3 hown3 hgrow3 hn3; have H3 := Lib.hid hown3; have Hg3 := Lib.hid hgrow3; clear hown3 hgrow3 hn3))
                refine ⟨⟨m + 1, by omega, by first | (congr 1; done) | (congr 1; omega), ?_⟩, by simp [intOf]; omega⟩
                have hnw := (HOV.out.below Hb2.out).alloc (.cells #[.slice ao2 (k + 1) cap2] 31)
                have hr2 : RowV 3 w2 wr.heap.size (.slice ao2 (k + 1) cap2) (l ++ [((F + m : Nat) : Int)]) := by
                  have h := OwnL.of H2.out
                  unfold RowV
                  rw [List.length_append, Hll.out, show I64s (l ++ [((F + m : Nat) : Int)]) = I64s l ++ [.int .i64 ((F + m : Nat) : Int)] from by simp [I64s]]
                  exact h
                refine ⟨vs ++ [.slice ao2 (k + 1) cap2], by simpa using OwnL.of H3.out, ?_, ?_⟩
                · rw [extTo_succ, Hff.out, ← List.append_assoc]
                  refine RowsV.append (RowsV.kept ((HRV.out.below Hb2.out).below ((Below.refl _ _).alloc (Nat.le_refl _) _)) hnw.1 (by decide) Hg3.out) (RowsV.one (RowV.kept ((hr2.mono HBV.out.size).below ((Below.refl _ _).alloc (Nat.le_refl _) _)) hnw.1 (by decide) Hg3.out))
                · exact ((HBV.out.trans (Hb2.out.mono HBV.out.size)).alloc (Nat.le_trans HBV.out.size Hb2.out.size) _).grown Hg3.out (by have := Hb2.out.size; have := HBV.out.size; simp; omega) (fun k e => (hnw.1.lt k e).1)
              · obtain rfl : m = n - F := by omega
                clear hov hrv hbv hls
                go_wp2_with fail
                refine ⟨⟨i + 1, by omega, by go_num, vs, ?_⟩, by simp [intOf]; omega⟩
                rw [flatMap_take_succ _ _ _ hiL, Hprev.out, Hl.out]
                have e : extTo k l (n - F) = ext n k l := by rw [← Hff.out]; rfl
                have h1 := HRV.out
                have h2 := HOV.out
                rw [e] at h1
                exact ⟨h2, h1, HBV.out⟩
          · have hF0 : F = 0 := by rw [frm, if_neg hk0] at hF; exact hF.symm
            have HF0 := Lib.hid hF0
            clear hF0
            clear hF hprev hl hbl hli hli0 hnr hcr0 hbi hval hlen hrow hvr hmem
            go_wp2_with fail
            go_loopw [6, 9] (fun vn vb wr => ∃ m : Nat, m ≤ n - F ∧ vb = .int .i64 ((F + m : Nat) : Int) ∧ NextInv wo (prev ++ extTo k l m) vn wr) (fun _ vb _ => n - (intOf vb).toNat)
            case atStart => exact ⟨0, Nat.zero_le _, (by first | rfl | (rw [HF0.out]; rfl)), by simpa [extTo] using HN.out⟩
            case round =>
              obtain ⟨m, hm, rfl, vs, hov, hrv, hbv⟩ := hrel
              have HOV := Lib.hid hov
              have HRV := Lib.hid hrv
              have HBV := Lib.hid hbv
              have hls : (prev ++ extTo k l m).length ≤ 400000000 := by
                rw [List.length_append, extTo_length]; have := Hpl.out; omega
              have hvs : vs.length ≤ 400000000 := by rw [hrv.1]; exact hls
              by_cases hlt : m < n - F
              · have d1 := (hbv.cell (p := ⟨bl, ol + i, none⟩) Hbl.out).trans Hli.out
                have hblr : bl < wr.heap.size := Nat.lt_of_lt_of_le Hbl.out hbv.size
                have HCR := Lib.hid (Hcr.out.below hbv)
                clear hov hrv hbv hls
                go_wp2_with (first
                  | (at_builtin; refine wp_appendG rfl (.tmp 41) (.tmp 45) 31 rfl wr.heap.size 3 Tryd.underlying31 Tryd.infoInt rfl (by decide) _ 0 [] rfl (World.ownsRow_made wr #[] 0 (Nat.le_refl _) (by unfold maxLen; omega) rfl) _ k cr (I64s l) Hlen.out rfl Hnr.out (HCR.out.below ((Below.refl _ _).alloc (Nat.le_refl _) _)) (ints_oneCell _ _) (by omega) (by simp) ?_; intro v1 w1 hown1 hgrow1 hn1; simp only [Nat.zero_add, List.nil_append] at hown1; have H1 := Lib.hid hown1; have Hg1 := Lib.hid hgrow1; have Hb1 := Lib.hid (Below.grown ((Below.refl wr.heap.size wr).alloc (Nat.le_refl _) _) hgrow1 (by simp) (fun k e => by cases e; exact Nat.le_refl _)); clear hown1 hgrow1 hn1)
                  | (at_builtin; refine wp_appendG rfl (.tmp 46) (.tmp 48) 31 rfl wr.heap.size 3 Tryd.underlying31 Tryd.infoInt rfl (by decide) v1 k (I64s l) rfl (H1.out.alloc _) (some ⟨w1.heap.size, 0, none⟩) 1 1 [.int .i64 ((F + m : Nat) : Int)] rfl rfl (by simp) (CellsAt.new1 _ _ _) (one1 _ rfl) (by omega) (by have := Hb1.out.size; simp; omega) ?_; intro v2 w2 hown2 hgrow2 hn2; have H2 := Lib.hid hown2; have Hb2 := Lib.hid (Below.grown (Hb1.out.alloc Hb1.out.size _) hgrow2 (by have := Hb1.out.size; simp; omega) (fun k e => (H1.out.lt k e).1)); clear hown2 hgrow2 hn2; obtain ⟨ao2, cap2, rfl, _, _⟩ := (OwnL.of H2.out).read2)
                  | (at_builtin; refine wp_appendG rfl (.tmp 40) (.tmp 50) 130 rfl wo.heap.size 31 Tryd.underlying130 Tryd.infoRow rfl (by decide) _ vs.length vs rfl ((HOV.out.below Hb2.out).alloc _).1 (some ⟨w2.heap.size, 0, none⟩) 1 1 [.slice ao2 (k + 1) cap2] rfl rfl (by simp) (CellsAt.new1 _ _ _) (one1 _ rfl) (by omega) (by have := Hb2.out.size; have := HBV.out.size; simp; omega) ?_; intro v3 w3 hown3 hgrow3 hn3; have H3 := Lib.hid hown3; have Hg3 := Lib.hid hgrow3; clear hown3 hgrow3 hn3))
                refine ⟨⟨m + 1, by omega, by first | (congr 1; done) | (congr 1; omega), ?_⟩, by simp [intOf]; omega⟩
                have hnw := (HOV.out.below Hb2.out).alloc (.cells #[.slice ao2 (k + 1) cap2] 31)
                have hr2 : RowV 3 w2 wr.heap.size (.slice ao2 (k + 1) cap2) (l ++ [((F + m : Nat) : Int)]) := by
                  have h := OwnL.of H2.out
                  unfold RowV
                  rw [List.length_append, Hll.out, show I64s (l ++ [((F + m : Nat) : Int)]) = I64s l ++ [.int .i64 ((F + m : Nat) : Int)] from by simp [I64s]]
                  exact h
                refine ⟨vs ++ [.slice ao2 (k + 1) cap2], by simpa using OwnL.of H3.out, ?_, ?_⟩
                · rw [extTo_succ, Hff.out, ← List.append_assoc]
                  refine RowsV.append (RowsV.kept ((HRV.out.below Hb2.out).below ((Below.refl _ _).alloc (Nat.le_refl _) _)) hnw.1 (by decide) Hg3.out) (RowsV.one (RowV.kept ((hr2.mono HBV.out.size).below ((Below.refl _ _).alloc (Nat.le_refl _) _)) hnw.1 (by decide) Hg3.out))
                · exact ((HBV.out.trans (Hb2.out.mono HBV.out.size)).alloc (Nat.le_trans HBV.out.size Hb2.out.size) _).grown Hg3.out (by have := Hb2.out.size; have := HBV.out.size; simp; omega) (fun k e => (hnw.1.lt k e).1)
              · obtain rfl : m = n - F := by omega
                clear hov hrv hbv hls
                go_wp2_with fail
                refine ⟨⟨i + 1, by omega, by go_num, vs, ?_⟩, by simp [intOf]; omega⟩
                rw [flatMap_take_succ _ _ _ hiL, Hprev.out, Hl.out]
                have e : extTo k l (n - F) = ext n k l := by rw [← Hff.out]; rfl
                have h1 := HRV.out
                have h2 := HOV.out
                rw [e] at h1
                exact ⟨h2, h1, HBV.out⟩
        · obtain rfl : i = (lasts n k).length := by omega
          obtain ⟨vns, hno, hnr, hnb⟩ := HN.out
          rw [List.take_length] at hnr
          obtain ⟨aon, cn, rfl, hcn, hnn⟩ := hno.read2
          have HNO := Lib.hid hno
          have HNR := Lib.hid hnr
          have HNB := Lib.hid hnb
          have HCN := Lib.hid hcn
          have HNN := Lib.hid hnn
          have hvn : vns.length ≤ 387420489 := by rw [hnr.1]; exact hLk1
          have hvo : vos.length ≤ 435848050 := by rw [HRO.out.1]; exact hSk
          clear hno hnr hnb hcn hnn
          go_wp2_with (at_builtin; refine wp_appendG rfl (.tmp 52) (.tmp 53) 130 rfl w.heap.size 31 Tryd.underlying130 Tryd.infoRow rfl (by decide) _ vos.length vos rfl (HOO.out.below HNB.out).1 _ vns.length cn vns rfl rfl HNN.out HCN.out (RowsV.oneCell HNR.out) (by omega) (by have := HNB.out.size; have := HB.out.size; omega) ?_; intro v4 w4 hown4 hgrow4 hn4; have H4 := Lib.hid hown4; have Hg4 := Lib.hid hgrow4; have Hn4 : Hid (v4 = .slice none 0 0 ↔ u3 = .slice none 0 0 ∧ vns.length = 0) := hn4; clear hown4 hgrow4 hn4)
          have hoo2 := (HOO.out.below HNB.out).1
          have hblk : ∀ g, u3.ownBlock = some g → g < wo.heap.size := fun g e => (HOO.out.1.lt g e).2
          have hro2 := (HRO.out.below HNB.out).kept hoo2 (by decide) Hg4.out
          have hrn2 := (HNR.out.kept hoo2 (by decide) Hg4.out).mono HB.out.size
          refine ⟨⟨k + 1, by omega, by go_num, vos ++ vns, vns, ?_, ?_, ?_, ?_, ?_⟩, by simp [intOf]; omega⟩
          · refine ⟨by rw [List.length_append]; exact H4.out, ?_⟩
            rw [Hn4.out, HOO.out.2, List.length_append]; omega
          · exact hro2.append hrn2
          · exact (OwnL.kept' HNO.out Hg4.out hblk).mono HB.out.size
          · exact hrn2
          · exact (HB.out.trans (HNB.out.mono HB.out.size)).grown Hg4.out (Nat.le_trans HB.out.size HNB.out.size) (fun g e => (HOO.out.1.lt g e).1)
    · obtain rfl : k = n := by omega
      go_wp2_with fail
      exact HR.out _ vos wo HB.out HOO.out HRO.out
end Go.Proofs.YteoniejpfmeibaaDoor
