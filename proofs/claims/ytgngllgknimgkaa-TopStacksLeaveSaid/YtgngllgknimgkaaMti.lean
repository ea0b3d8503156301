/- A map from names to own slices of links: while it grows, and when it is read. The walk of joined of package loop: the links at each name. (Printed by gen_joined.py.) The walk of slices.Clone for links. What grow (the search) finds in memory and leaves: frames, the constant boxes, the chains found, the names passed. What one more chain does to the memory of grow. The walk of grow where it has come to the end: the chain is kept. (Printed by gen_found.py.) append onto an own row, in its two ways: in place (block and capacity stay) or into a block that is made. The level of grow: what its loop adds (plain), the names passed, the frame. -/
import Derived.Test.YtgngllgknimgkaaCz
import Derived.Test.YtgngllgknimgkaaMdx
import Derived.Deep.AppendLies
import Derived.Test.YtgngllgknimgkaaMdk
import Derived.Deep.DeepAppendRoom
import Derived.Deep.RegionLawGrows
namespace Go.Proofs.Ytgngllgknimgkaa
open Go.RowKit Go.Maps

theorem Try.infoLk : (Try.prog.info? 46).map (fun i => (i.zero, i.size, i.bytes)) = some (some (.agg #[.int .i64 0, .bool false]), 2, 16) := by kernel_rfl
def nilS : Value := .slice none 0 0
def fltS (vs : List Dm) (L : List Sp) (p : ByteArray) : List Sp := L.filter fun y => sameD (enF vs y) p
theorem fltS_snoc (vs : List Dm) (L : List Sp) (y : Sp) (p : ByteArray) : fltS vs (L ++ [y]) p = if p = enF vs y then fltS vs L p ++ [y] else fltS vs L p := by
  unfold fltS
  rw [List.filter_append]
  by_cases e : p = enF vs y
  · rw [if_pos e, List.filter_cons_of_pos (p := fun y => sameD (enF vs y) p) (sameD_iff.2 e.symm)]; rfl
  · rw [if_neg e, List.filter_cons_of_neg (p := fun y => sameD (enF vs y) p) (fun h => e (sameD_iff.1 h).symm)]; simp
theorem fltS_mem {vs : List Dm} {L : List Sp} {p : ByteArray} {y : Sp} (h : y ∈ fltS vs L p) : y ∈ L ∧ enF vs y = p := by
  unfold fltS at h
  rw [List.mem_filter] at h
  exact ⟨h.1, sameD_iff.1 h.2⟩
theorem ownsRow_at {w w' : World} {base : Nat} {e : TypeId} {size : Nat} {v : Value} {n : Nat} {xs : List Value} (h : w.ownsRow base e size v n xs) (hk : ∀ g, v.ownBlock = some g → w'.heap[g]? = w.heap[g]?) : w'.ownsRow base e size v n xs := by
  refine ⟨h.1, ?_⟩
  rcases h.2 with h1 | ⟨g, cap, cur, h1, h2, h3, h4⟩
  · exact .inl h1
  · exact .inr ⟨g, cap, cur, h1, h2, (hk g (by rw [h1]; rfl)).trans h3, h4⟩
theorem own_head {w : World} {base : Nat} {e : TypeId} {size : Nat} {v : Value} {n : Nat} {xs : List Value} {x : Value} (h : w.ownsRow base e size v n xs) {g : Nat} (hg : v.ownBlock = some g) (hx : xs[0]? = some x) :
    ∃ cur, w.heap[g]? = some (.cells cur e (0, 0)) ∧ cur.toList[0]? = some x := by
  rcases h.2 with ⟨rfl, _⟩ | ⟨g', cap, cur, rfl, _, hgg, _, _, _, ht⟩
  · simp [Value.ownBlock] at hg
  · simp [Value.ownBlock] at hg
    subst hg
    refine ⟨cur, hgg, ?_⟩
    rw [← ht, List.getElem?_take] at hx
    split at hx
    · exact hx
    · exact absurd hx (by simp)
structure Jn (W : World) (b K : Nat) (f : SMap) (vs : List Dm) (L : List Sp) : Prop where
  m : MapIs Try.prog 9 W b K f
  row : ∀ p, W.ownsRow (b + 1) 46 2 ((f p).getD nilS) (fltS vs L p).length (pC (fltS vs L p))
  nz : ∀ p, f p ≠ none → fltS vs L p ≠ []
theorem pC_head (y : Sp) (l : List Sp) : (pC (y :: l))[0]? = some (.int .i64 y.i) ∧ (pC (y :: l))[1]? = some (.bool y.b) := ⟨rfl, rfl⟩
theorem own_second {w : World} {base : Nat} {e : TypeId} {size : Nat} {v : Value} {n : Nat} {xs : List Value} {x : Value} (h : w.ownsRow base e size v n xs) {g : Nat} (hg : v.ownBlock = some g) (hx : xs[1]? = some x) :
    ∃ cur, w.heap[g]? = some (.cells cur e (0, 0)) ∧ cur.toList[1]? = some x := by
  rcases h.2 with ⟨rfl, _⟩ | ⟨g', cap, cur, rfl, _, hgg, _, _, _, ht⟩
  · simp [Value.ownBlock] at hg
  · simp [Value.ownBlock] at hg
    subst hg
    refine ⟨cur, hgg, ?_⟩
    rw [← ht, List.getElem?_take] at hx
    split at hx
    · exact hx
    · exact absurd hx (by simp)
theorem Jn.ne {W : World} {b K : Nat} {f : SMap} {vs : List Dm} {L : List Sp} (h : Jn W b K f vs L) {p q : ByteArray} (hpq : p ≠ q) {g : Nat} (hp : ((f p).getD nilS).ownBlock = some g) : ((f q).getD nilS).ownBlock ≠ some g := by
  intro hq
  have key : ∀ r, ((f r).getD nilS).ownBlock = some g → ∃ y l, fltS vs L r = y :: l := fun r hr => by
    have h1 : f r ≠ none := fun e => by rw [e] at hr; cases hr
    cases e : fltS vs L r with
    | nil => exact absurd e (h.nz r h1)
    | cons y l => exact ⟨y, l, rfl⟩
  obtain ⟨y, l, e1⟩ := key p hp
  obtain ⟨z, l', e2⟩ := key q hq
  have r1 := h.row p
  have r2 := h.row q
  rw [e1] at r1
  rw [e2] at r2
  obtain ⟨c1, a1, a2⟩ := own_head r1 hp (pC_head y l).1
  obtain ⟨c2, a3, a4⟩ := own_second r1 hp (pC_head y l).2
  obtain ⟨c3, b1, b2⟩ := own_head r2 hq (pC_head z l').1
  obtain ⟨c4, b3, b4⟩ := own_second r2 hq (pC_head z l').2
  rw [a1] at a3 b1 b3
  cases a3; cases b1; cases b3
  rw [a2] at b2
  rw [a4] at b4
  have hyz : y = z := by
    cases y; cases z
    simp only [Option.some.injEq, Value.int.injEq, Value.bool.injEq, true_and] at b2 b4
    rw [b2, b4]
  have m1 : y ∈ fltS vs L p := by rw [e1]; simp
  have m2 : z ∈ fltS vs L q := by rw [e2]; simp
  exact hpq ((fltS_mem m1).2.symm.trans (by rw [hyz]; exact (fltS_mem m2).2))
theorem Jn.below {W W' : World} {b K : Nat} {f : SMap} {vs : List Dm} {L : List Sp} (h : Jn W b K f vs L) (hb : Below W.heap.size W W') : Jn W' b K f vs L :=
  ⟨h.m.below hb h.m.lt, fun p => ownsRow_below (h.row p) hb, h.nz⟩
theorem Jn.made (w : World) (vs : List Dm) : Jn (w.alloc (.map #[] 0)) w.heap.size 0 (fun _ => none) vs [] :=
  ⟨mapIs_made w, fun _ => ⟨rfl, .inl ⟨rfl, rfl⟩⟩, fun _ h => absurd rfl h⟩
/-- A link is put to its row. -/
theorem Jn.put {W W5 W6 : World} {b K : Nat} {f : SMap} {vs : List Dm} {L : List Sp} (h : Jn W b K f vs L) (y : Sp) {v5 : Value} {n5 : Nat} (hn5 : n5 = (fltS vs L (enF vs y)).length + 1)
    (hg : W.grownBy W5 ((f (enF vs y)).getD nilS).ownBlock) (ho : W5.ownsRow (b + 1) 46 2 v5 n5 (pC (fltS vs L (enF vs y)) ++ y.cells))
    (hm : MapIs Try.prog 9 W6 b (K + 1) (f.put (enF vs y) v5)) (hg6 : W5.grownBy W6 (some b)) : Jn W6 b (K + 1) (f.put (enF vs y) v5) vs (L ++ [y]) := by
  have to6 : ∀ {v : Value} {n : Nat} {xs : List Value}, W5.ownsRow (b + 1) 46 2 v n xs → W6.ownsRow (b + 1) 46 2 v n xs := fun hh =>
    ownsRow_at hh fun g e => hg6.block g (hh.lt g e).2 (fun e2 => by cases e2; have := (hh.lt _ e).1; omega)
  refine ⟨hm, fun p => ?_, fun p hp => ?_⟩
  · rw [fltS_snoc]
    by_cases e : p = enF vs y
    · subst e
      unfold SMap.put
      rw [if_pos rfl, if_pos rfl, List.length_append, pC_append]
      subst hn5
      exact to6 ho
    · unfold SMap.put
      rw [if_neg e, if_neg e]
      refine to6 (ownsRow_at (h.row p) fun g e1 => hg.block g ((h.row p).lt g e1).2 fun e2 => ?_)
      exact h.ne e e1 e2.symm
  · rw [fltS_snoc]
    by_cases e : p = enF vs y
    · rw [if_pos e]; simp
    · rw [if_neg e]
      unfold SMap.put at hp
      rw [if_neg e] at hp
      exact h.nz p hp
/-- A finished map. -/
def NetAt (W : World) (b : Nat) (vs : List Dm) (L : List Sp) : Prop :=
  ∃ K f, MapIs Try.prog 9 W b K f ∧ ∀ p, ∃ ao c, (f p).getD nilS = .slice ao (fltS vs L p).length c ∧ CellsAt W ao (pC (fltS vs L p)) ∧ ∀ a, ao = some a → a.block < W.heap.size
theorem Jn.net {W : World} {b K : Nat} {f : SMap} {vs : List Dm} {L : List Sp} (h : Jn W b K f vs L) : NetAt W b vs L :=
  ⟨K, f, h.m, fun p => by obtain ⟨ao, c, e, hc, _⟩ := ownsRow_read (h.row p); exact ⟨ao, c, e, hc, fun a ha => ((h.row p).lt a.block (by rw [e, ha]; rfl)).2⟩⟩
theorem NetAt.below {W W' : World} {b : Nat} {vs : List Dm} {L : List Sp} (h : NetAt W b vs L) (hb : Below W.heap.size W W') : NetAt W' b vs L := by
  obtain ⟨K, f, hm, hr⟩ := h
  exact ⟨K, f, hm.below hb hm.lt, fun p => by obtain ⟨ao, c, e, hc, hl⟩ := hr p; exact ⟨ao, c, e, hc.below hb, fun a ha => Nat.lt_of_lt_of_le (hl a ha) hb.size⟩⟩
end Go.Proofs.Ytgngllgknimgkaa
namespace Go.Proofs.Ytgngllgknimgkaa
open Go.RowKit Go.Maps

theorem zeroK (w : World) : (zeroValue 35).run Try.prog w = .ok nilS w := by kernel_rfl
def lk2 (k : Nat) (j : Nat) : List Sp := [(⟨(k : Int), false⟩ : Sp), ⟨(k : Int), true⟩].take j
theorem stL_in {vs : List Dm} {ax : Int} {k : Nat} (h : (dAt vs k).x = ax) : stL vs ax (k + 1) = stL vs ax k ++ lk2 k 2 := by
  have h1 : onA vs ax (k + 1) = if (dAt vs k).x == ax then onA vs ax k ++ [k] else onA vs ax k := rfl
  unfold stL lk2
  rw [h1, if_pos (by simpa using h), List.flatMap_append]; rfl
theorem stL_out {vs : List Dm} {ax : Int} {k : Nat} (h : (dAt vs k).x ≠ ax) : stL vs ax (k + 1) = stL vs ax k := by
  have h1 : onA vs ax (k + 1) = if (dAt vs k).x == ax then onA vs ax k ++ [k] else onA vs ax k := rfl
  unfold stL
  rw [h1, if_neg (by simpa using h)]
theorem stL_len (vs : List Dm) (ax : Int) (k : Nat) : (stL vs ax k).length ≤ 2 * k := by
  have h : ∀ L : List Nat, (L.flatMap fun (i : Nat) => [(⟨(i : Int), false⟩ : Sp), ⟨(i : Int), true⟩]).length = 2 * L.length := fun L => by
    induction L with
    | nil => rfl
    | cons i L ih => rw [List.flatMap_cons, List.length_append, ih, List.length_cons]; simp; omega
  have h2 := h (onA vs ax k)
  have h3 := onA_len vs ax k
  unfold stL; omega
theorem fltS_len (vs : List Dm) (L : List Sp) (p : ByteArray) : (fltS vs L p).length ≤ L.length := List.length_filter_le _ _
set_option maxRecDepth 100000 in
set_option maxHeartbeats 8000000 in
theorem joined13_any (ao : Option Addr) (vs : List Dm) (c : Nat) (ax : Int) (w : World) (R : Ending → World → Prop) (hl : vs.length ≤ 256) (hc : CellsAt w ao (dC vs)) (hv : DmsOk vs)
   (hR : ∀ w', Below w.heap.size w w' → NetAt w' w.heap.size vs (stL vs ax vs.length) → R (.returned (.map (some w.heap.size))) w') :
    Calls Try.prog 13 #[.slice ao vs.length c, .int .i64 ax, .func (.func 14) #[] #[]] w R := by
  have HR := Lib.hid hR
  have HC := Lib.hid hc
  have HV := Lib.hid hv
  have hmm := @run_makeMap Try.prog
  obtain ⟨i0, hi0, hi1, hi2, hi3⟩ := info_parts Try.infoLk
  clear hR hc hv
  go_enter Try.func13, Try.ntmps13
  go_wp2_with fail
  have hJ1 := Jn.made w vs
  have hB1 : Below w.heap.size w (w.alloc (.map #[] 0)) := (Below.refl _ w).alloc (Nat.le_refl _) _
  obtain ⟨w1, hw1⟩ : ∃ w1, w.alloc (.map #[] 0) = w1 := ⟨_, rfl⟩
  rw [hw1] at hJ1 hB1 ⊢
  have HJ1 := Lib.hid hJ1
  have HB1 := Lib.hid hB1
  clear hw1 hmm hJ1 hB1
  go_loopw [16] (fun j wr => ∃ (k K : Nat) (f : SMap), k ≤ vs.length ∧ K ≤ 2 * k ∧ j = .int .i64 k ∧ Hid (Below w.heap.size w wr) ∧ Hid (Jn wr w.heap.size K f vs (stL vs ax k))) (fun j _ => vs.length - (intOf j).toNat)
  case atStart => exact ⟨0, 0, _, Nat.zero_le _, Nat.le_refl _, rfl, HB1, HJ1⟩
  case round =>
    obtain ⟨k, K, f, hk, hK, rfl, HB, HJ⟩ := hrel
    obtain ⟨wo, hwo⟩ : ∃ wo, wo = wr := ⟨_, rfl⟩
    subst hwo
    have sB := HB.out.size
    have hlb := HJ.out.m.lt
    by_cases hlt : k < vs.length
    · obtain ⟨b, o, rfl, hbb, hcell⟩ := HC.out.dms (by omega)
      obtain ⟨_, _, c2, _, _⟩ := hcell k hlt
      have d2 := cellB HB.out c2 hbb
      obtain ⟨X, hX⟩ : ∃ X, Hid ((dAt vs k).x = X) := ⟨_, rfl⟩
      rw [hX.out] at d2
      clear hcell c2
      by_cases hx : X = ax
      · have Kx : (X != ax) = false := by simpa using hx
        have hst : Hid (stL vs ax (k + 1) = stL vs ax k ++ lk2 k 2) := stL_in (hX.out.trans hx)
        have kn : ∀ bb, Hid (knS vs.length ⟨(k : Int), bb⟩ = true) := fun bb => knS_iff.2 ⟨by show (0 : Int) ≤ k; omega, by show (k : Int) < vs.length; omega⟩
        clear hx
        go_wp2_with fail
        refine all13_any _ _ _ ?_
        obtain ⟨w3, E3, U3, s3, X3⟩ := box_ex wo #[.int .i64 k, .bool false, .int .i64 k, .bool true] 46
        go_wp2_with (rw [E3])
        have HB3 : Hid (Below w.heap.size w w3) := HB.out.trans (U3.out.mono sB)
        have HJ3 : Hid (Jn w3 w.heap.size K f vs (stL vs ax k ++ lk2 k 0)) := by unfold Hid; rw [show lk2 k 0 = [] from rfl, List.append_nil]; exact HJ.out.below U3.out
        have HF3 : Hid (∀ p, ((f p).getD nilS).ownBlock ≠ some wo.heap.size) := fun p e => by have := ((HJ.out.row p).lt _ e).2; omega
        clear E3 U3 HB HJ
        go_loopw [38] (fun j wr => ∃ (jn K' : Nat) (f' : SMap), jn ≤ 2 ∧ K' ≤ 2 * k + jn ∧ j = .int .i64 jn ∧ Hid (Below w.heap.size w wr) ∧ Hid (wo.heap.size < wr.heap.size) ∧ Hid (wr.heap[wo.heap.size]? = some (.cells #[.int .i64 k, .bool false, .int .i64 k, .bool true] 46 (0, 0))) ∧ Hid (Jn wr w.heap.size K' f' vs (stL vs ax k ++ lk2 k jn)) ∧ Hid (∀ p, ((f' p).getD nilS).ownBlock ≠ some wo.heap.size)) (fun j _ => 2 - (intOf j).toNat)
        case atStart => exact ⟨0, K, f, by omega, by omega, rfl, HB3, s3, X3, HJ3, HF3⟩
        case round =>
          obtain ⟨jn, K', f', hj, hK', rfl, HB, S, X, HJ, HF⟩ := hrel
          clear HB3 HJ3 HF3 X3
          have sB := HB.out.size
          have hlb := HJ.out.m.lt
          have hS := S.out
          have v0 := cell_of X.out (j := 0) rfl
          have v1 := cell_of X.out (j := 1) rfl
          have v2 := cell_of X.out (j := 2) rfl
          have v3 := cell_of X.out (j := 3) rfl
          have key : ∀ (P : Prop), (jn = 0 → P) → (jn = 1 → P) → (jn = 2 → P) → P := fun P a0 a1 a2 => by
            rcases (show jn = 0 ∨ jn = 1 ∨ jn = 2 by omega) with e | e | e
            · exact a0 e
            · exact a1 e
            · exact a2 e
          refine key _ (fun hk0 => ?_) (fun hk1 => ?_) (fun hk2 => ?_)
          · subst hk0
            clear key
            obtain ⟨y, hy⟩ : ∃ y : Sp, y = ⟨(k : Int), false⟩ := ⟨_, rfl⟩
            have hlk : Hid (lk2 k 1 = lk2 k 0 ++ [y]) := by unfold Hid; subst hy; rfl
            obtain ⟨w4, E4', U4, s4, X4⟩ := box_ex wr #[.int .i64 k, .bool false] 46
            have E4 := Lib.hid E4'
            clear E4'
            have HB4 : Hid (Below w.heap.size w w4) := HB.out.trans (U4.out.mono sB)
            have HJ4 := Lib.hid (HJ.out.below U4.out)
            have Y4 : Hid (w4.heap[wo.heap.size]? = _) := (U4.out.block wo.heap.size hS).trans X.out
            have b0 := cell_of X4.out (j := 0) rfl
            have b1 := cell_of X4.out (j := 1) rfl
            go_wp2_with fail
            rw [E4.out]
            clear E4 HB HJ
            refine ends13_any (some ⟨b, o, none⟩) vs c ⟨(k : Int), false⟩ w4 _ (HC.out.below HB4.out) (kn _).out fun w5 hb5 => ?_
            rw [← hy]
            have HB5 : Hid (Below w.heap.size w w5) := HB4.out.trans (hb5.mono HB4.out.size)
            have HJ5 := Lib.hid (HJ4.out.below hb5)
            have s5 := hb5.size
            have Y5 : Hid (w5.heap[wo.heap.size]? = _) := (hb5.block wo.heap.size (by omega)).trans Y4.out
            have g0 := cellB hb5 b0 s4
            have g1 := cellB hb5 b1 s4
            clear hb5 HB4 HJ4 Y4 X4 X U4 v0 v1 v2 v3 b0 b1
            have hfs : (enF vs y).size ≤ maxLen := enF_size HV.out (by rw [hy]; exact (kn _).out)
            obtain ⟨F, hF⟩ : ∃ F, Hid (enF vs y = F) := ⟨_, rfl⟩
            obtain ⟨T, hT⟩ : ∃ T, Hid (enT vs y = T) := ⟨_, rfl⟩
            rw [hF.out] at hfs ⊢
            rw [hT.out]
            obtain ⟨ro, hro⟩ : ∃ ro, (f' F).getD nilS = ro := ⟨_, rfl⟩
            have hrow := Lib.hid (HJ5.out.row F)
            rw [hro] at hrow
            obtain ⟨n, hn⟩ : ∃ n, (fltS vs (stL vs ax k ++ lk2 k 0) F).length = n := ⟨_, rfl⟩
            have hnl : n ≤ 514 := by
              have h1 := fltS_len vs (stL vs ax k ++ lk2 k 0) F
              have h2 := stL_len vs ax k
              rw [List.length_append] at h1
              have h3 : (lk2 k 0).length ≤ 2 := by simp [lk2]
              omega
            rw [hn] at hrow
            have z5 := HJ5.out.m.lt
            have hbelow := Lib.hid ((Below.refl w5.heap.size w5).alloc (Nat.le_refl _) (.cells #[.int .i64 k, .bool false] 46))
            have hrow2 := Lib.hid (ownsRow_below hrow.out hbelow.out)
            have HJ6 := Lib.hid (HJ5.out.below hbelow.out)
            have HB6 : Hid (Below w.heap.size w (w5.alloc (.cells #[.int .i64 k, .bool false] 46))) := HB5.out.alloc HB5.out.size _
            have Y6 : Hid ((w5.alloc (.cells #[.int .i64 k, .bool false] 46)).heap[wo.heap.size]? = _) := (hbelow.out.block wo.heap.size (by omega)).trans Y5.out
            clear hbelow
            go_wp2_with (first | (at_lookup; refine wp_mapLook _ rfl _ _ 49 rfl 9 35 Try.underlying9 Try.underlying49 w.heap.size K' f' rfl HJ5.out.m (zeroK _) F rfl hfs _ hro ?_) | (at_builtin; refine wpList_append_lies _ rfl (.tmp 52) (.tmp 54) 35 rfl (w.heap.size + 1) 46 i0 _ 2 16 Try.underlying35 hi0 hi1 hi2 hi3 rfl (by omega) ro n (pC (fltS vs (stL vs ax k ++ lk2 k 0) F)) rfl hrow2.out ⟨w5.heap.size, 0, none⟩ 1 1 [.int .i64 k, .bool false] rfl rfl (World.news_of_block (cs := #[.int .i64 k, .bool false]) (fr := (0, 0)) (World.alloc_heap_new w5 _)) (by intro u hu; simp at hu; rcases hu with rfl | rfl <;> rfl) (by omega) (by unfold maxLen; omega) (by omega) (by simp; omega) (w5.heap.size + 1) (by simp) ?_; intro gg cap w7 hown hgrow hat hglt; have O7 := Lib.hid hown; have G7 := Lib.hid hgrow; have A7 := Lib.hid hat; have J7 := Lib.hid (HJ6.out.m.keep (hgrow.block w.heap.size (by simp; omega) (low_ne hrow2.out (by omega)))); have Y7 : Hid (w7.heap[wo.heap.size]? = _) := Lib.hid ((hgrow.block wo.heap.size (by simp; omega) (by rw [← hro]; exact fun e => HF.out F e.symm)).trans Y6.out); have B7 := Lib.hid (HB6.out.grown hgrow (by simp; omega) (fun j e => by have := (hrow2.out.lt j e).1; omega)); clear hown hgrow hat) | (at_mapUpdate; refine wp_mapStore _ rfl _ _ _ 49 rfl 9 35 Try.underlying9 Try.underlying49 w.heap.size K' f' rfl J7.out (by unfold maxLen; omega) F (.slice (some ⟨gg, 0, none⟩) (n + 1) cap) rfl rfl hfs ?_; intro w9 h9 g9; have M9 := Lib.hid h9; have G9 := Lib.hid g9; clear h9 g9))
            have s7 := G7.out.size
            have s9 := G9.out.size
            have sA : (w5.alloc (.cells #[.int .i64 k, .bool false] 46)).heap.size = w5.heap.size + 1 := by simp
            rw [sA] at s7
            have e7 : Hid (Jn w9 w.heap.size (K' + 1) (f'.put F (.slice (some ⟨gg, 0, none⟩) (n + 1) cap)) vs (stL vs ax k ++ lk2 k 0 ++ [y])) := by
              have h := HJ6.out.put (W5 := w7) (W6 := w9) y (v5 := .slice (some ⟨gg, 0, none⟩) (n + 1) cap) (n5 := n + 1) (by rw [hF.out, hn]) (by rw [hF.out, hro]; exact G7.out) (by rw [hF.out, hy]; exact O7.out) (by rw [hF.out]; exact M9.out) G9.out
              rw [hF.out] at h
              exact h
            have X9 : Hid (w9.heap[wo.heap.size]? = _) := Lib.hid ((G9.out.block wo.heap.size (by omega) (by intro e; have e2 := Option.some.inj e; omega)).trans Y7.out)
            have B9 : Hid (Below w.heap.size w w9) := B7.out.grown G9.out B7.out.size (fun j e => by cases e; exact Nat.le_refl _)
            have F9 : Hid (∀ p, (((f'.put F (.slice (some ⟨gg, 0, none⟩) (n + 1) cap)) p).getD nilS).ownBlock ≠ some wo.heap.size) := by
              intro p e
              unfold SMap.put at e
              by_cases ep : p = F
              · rw [if_pos ep] at e
                have e1 : gg = wo.heap.size := by simpa [Value.ownBlock] using e
                rcases A7.out with h | h
                · rw [e1] at h; rw [← hro] at h; exact HF.out F h
                · omega
              · rw [if_neg ep] at e; exact HF.out p e
            exact ⟨⟨1, K' + 1, _, by omega, by omega, by go_num, B9, by unfold Hid; omega, X9, by unfold Hid; rw [hlk.out, ← List.append_assoc]; exact e7.out, F9⟩, by simp [intOf]⟩
          · subst hk1
            clear key
            obtain ⟨y, hy⟩ : ∃ y : Sp, y = ⟨(k : Int), true⟩ := ⟨_, rfl⟩
            have hlk : Hid (lk2 k 2 = lk2 k 1 ++ [y]) := by unfold Hid; subst hy; rfl
            obtain ⟨w4, E4', U4, s4, X4⟩ := box_ex wr #[.int .i64 k, .bool true] 46
            have E4 := Lib.hid E4'
            clear E4'
            have HB4 : Hid (Below w.heap.size w w4) := HB.out.trans (U4.out.mono sB)
            have HJ4 := Lib.hid (HJ.out.below U4.out)
            have Y4 : Hid (w4.heap[wo.heap.size]? = _) := (U4.out.block wo.heap.size hS).trans X.out
            have b0 := cell_of X4.out (j := 0) rfl
            have b1 := cell_of X4.out (j := 1) rfl
            go_wp2_with fail
            rw [E4.out]
            clear E4 HB HJ
            refine ends13_any (some ⟨b, o, none⟩) vs c ⟨(k : Int), true⟩ w4 _ (HC.out.below HB4.out) (kn _).out fun w5 hb5 => ?_
            rw [← hy]
            have HB5 : Hid (Below w.heap.size w w5) := HB4.out.trans (hb5.mono HB4.out.size)
            have HJ5 := Lib.hid (HJ4.out.below hb5)
            have s5 := hb5.size
            have Y5 : Hid (w5.heap[wo.heap.size]? = _) := (hb5.block wo.heap.size (by omega)).trans Y4.out
            have g0 := cellB hb5 b0 s4
            have g1 := cellB hb5 b1 s4
            clear hb5 HB4 HJ4 Y4 X4 X U4 v0 v1 v2 v3 b0 b1
            have hfs : (enF vs y).size ≤ maxLen := enF_size HV.out (by rw [hy]; exact (kn _).out)
            obtain ⟨F, hF⟩ : ∃ F, Hid (enF vs y = F) := ⟨_, rfl⟩
            obtain ⟨T, hT⟩ : ∃ T, Hid (enT vs y = T) := ⟨_, rfl⟩
            rw [hF.out] at hfs ⊢
            rw [hT.out]
            obtain ⟨ro, hro⟩ : ∃ ro, (f' F).getD nilS = ro := ⟨_, rfl⟩
            have hrow := Lib.hid (HJ5.out.row F)
            rw [hro] at hrow
            obtain ⟨n, hn⟩ : ∃ n, (fltS vs (stL vs ax k ++ lk2 k 1) F).length = n := ⟨_, rfl⟩
            have hnl : n ≤ 514 := by
              have h1 := fltS_len vs (stL vs ax k ++ lk2 k 1) F
              have h2 := stL_len vs ax k
              rw [List.length_append] at h1
              have h3 : (lk2 k 1).length ≤ 2 := by simp [lk2]
              omega
            rw [hn] at hrow
            have z5 := HJ5.out.m.lt
            have hbelow := Lib.hid ((Below.refl w5.heap.size w5).alloc (Nat.le_refl _) (.cells #[.int .i64 k, .bool true] 46))
            have hrow2 := Lib.hid (ownsRow_below hrow.out hbelow.out)
            have HJ6 := Lib.hid (HJ5.out.below hbelow.out)
            have HB6 : Hid (Below w.heap.size w (w5.alloc (.cells #[.int .i64 k, .bool true] 46))) := HB5.out.alloc HB5.out.size _
            have Y6 : Hid ((w5.alloc (.cells #[.int .i64 k, .bool true] 46)).heap[wo.heap.size]? = _) := (hbelow.out.block wo.heap.size (by omega)).trans Y5.out
            clear hbelow
            go_wp2_with (first | (at_lookup; refine wp_mapLook _ rfl _ _ 49 rfl 9 35 Try.underlying9 Try.underlying49 w.heap.size K' f' rfl HJ5.out.m (zeroK _) F rfl hfs _ hro ?_) | (at_builtin; refine wpList_append_lies _ rfl (.tmp 52) (.tmp 54) 35 rfl (w.heap.size + 1) 46 i0 _ 2 16 Try.underlying35 hi0 hi1 hi2 hi3 rfl (by omega) ro n (pC (fltS vs (stL vs ax k ++ lk2 k 1) F)) rfl hrow2.out ⟨w5.heap.size, 0, none⟩ 1 1 [.int .i64 k, .bool true] rfl rfl (World.news_of_block (cs := #[.int .i64 k, .bool true]) (fr := (0, 0)) (World.alloc_heap_new w5 _)) (by intro u hu; simp at hu; rcases hu with rfl | rfl <;> rfl) (by omega) (by unfold maxLen; omega) (by omega) (by simp; omega) (w5.heap.size + 1) (by simp) ?_; intro gg cap w7 hown hgrow hat hglt; have O7 := Lib.hid hown; have G7 := Lib.hid hgrow; have A7 := Lib.hid hat; have J7 := Lib.hid (HJ6.out.m.keep (hgrow.block w.heap.size (by simp; omega) (low_ne hrow2.out (by omega)))); have Y7 : Hid (w7.heap[wo.heap.size]? = _) := Lib.hid ((hgrow.block wo.heap.size (by simp; omega) (by rw [← hro]; exact fun e => HF.out F e.symm)).trans Y6.out); have B7 := Lib.hid (HB6.out.grown hgrow (by simp; omega) (fun j e => by have := (hrow2.out.lt j e).1; omega)); clear hown hgrow hat) | (at_mapUpdate; refine wp_mapStore _ rfl _ _ _ 49 rfl 9 35 Try.underlying9 Try.underlying49 w.heap.size K' f' rfl J7.out (by unfold maxLen; omega) F (.slice (some ⟨gg, 0, none⟩) (n + 1) cap) rfl rfl hfs ?_; intro w9 h9 g9; have M9 := Lib.hid h9; have G9 := Lib.hid g9; clear h9 g9))
            have s7 := G7.out.size
            have s9 := G9.out.size
            have sA : (w5.alloc (.cells #[.int .i64 k, .bool true] 46)).heap.size = w5.heap.size + 1 := by simp
            rw [sA] at s7
            have e7 : Hid (Jn w9 w.heap.size (K' + 1) (f'.put F (.slice (some ⟨gg, 0, none⟩) (n + 1) cap)) vs (stL vs ax k ++ lk2 k 1 ++ [y])) := by
              have h := HJ6.out.put (W5 := w7) (W6 := w9) y (v5 := .slice (some ⟨gg, 0, none⟩) (n + 1) cap) (n5 := n + 1) (by rw [hF.out, hn]) (by rw [hF.out, hro]; exact G7.out) (by rw [hF.out, hy]; exact O7.out) (by rw [hF.out]; exact M9.out) G9.out
              rw [hF.out] at h
              exact h
            have X9 : Hid (w9.heap[wo.heap.size]? = _) := Lib.hid ((G9.out.block wo.heap.size (by omega) (by intro e; have e2 := Option.some.inj e; omega)).trans Y7.out)
            have B9 : Hid (Below w.heap.size w w9) := B7.out.grown G9.out B7.out.size (fun j e => by cases e; exact Nat.le_refl _)
            have F9 : Hid (∀ p, (((f'.put F (.slice (some ⟨gg, 0, none⟩) (n + 1) cap)) p).getD nilS).ownBlock ≠ some wo.heap.size) := by
              intro p e
              unfold SMap.put at e
              by_cases ep : p = F
              · rw [if_pos ep] at e
                have e1 : gg = wo.heap.size := by simpa [Value.ownBlock] using e
                rcases A7.out with h | h
                · rw [e1] at h; rw [← hro] at h; exact HF.out F h
                · omega
              · rw [if_neg ep] at e; exact HF.out p e
            exact ⟨⟨2, K' + 1, _, by omega, by omega, by go_num, B9, by unfold Hid; omega, X9, by unfold Hid; rw [hlk.out, ← List.append_assoc]; exact e7.out, F9⟩, by simp [intOf]⟩
          · subst hk2
            clear key
            have e : Hid (Jn wr w.heap.size K' f' vs (stL vs ax (k + 1))) := by unfold Hid; rw [hst.out]; exact HJ.out
            go_wp2_with fail
            exact ⟨⟨k + 1, K', f', by omega, by omega, by go_num, HB, e⟩, by simp [intOf]; omega⟩
      · have Kx : (X != ax) = true := by simpa using hx
        have e : Hid (Jn wo w.heap.size K f vs (stL vs ax (k + 1))) := by unfold Hid; rw [stL_out (by rw [hX.out]; exact hx)]; exact HJ.out
        clear hx
        go_wp2_with fail
        exact ⟨⟨k + 1, K, f, by omega, by omega, by go_num, HB, e⟩, by simp [intOf]; omega⟩
    · obtain rfl : k = vs.length := by omega
      go_wp2_with fail
      exact HR.out _ HB.out HJ.out.net
end Go.Proofs.Ytgngllgknimgkaa
namespace Go.Proofs.Ytgngllgknimgkaa
open Go.RowKit Go.Maps

theorem eqNilK (w : World) (a : Option Addr) (n c : Nat) : (binOp .eql 35 (.slice a n c) (.slice none 0 0)).run Try.prog w = .ok (.bool a.isNone) w :=
  Lib.run_eql_slice_nil w 35 46 a n c 0 0 Try.underlying35
/-- slices.Clone of links. -/
theorem clone13_any (ao : Option Addr) (vs : List Sp) (c : Nat) (w : World) (R : Ending → World → Prop) (hl : vs.length ≤ 1000000) (hn : ao = none → vs.length = 0 ∧ c = 0) (hc : CellsAt w ao (pC vs))
   (hR : ∀ v w', Below w.heap.size w w' → w'.ownsRow w.heap.size 46 2 v vs.length (pC vs) → R (.returned v) w') :
    Calls Try.prog 16 #[.slice ao vs.length c] w R := by
  have HR := Lib.hid hR
  have HC := Lib.hid hc
  clear hR hc
  cases ao with
  | none =>
    obtain ⟨h0, h1⟩ := hn rfl
    obtain rfl := List.length_eq_zero_iff.1 h0
    subst h1
    have hq := eqNilK
    go_enter Try.func16, Try.ntmps16
    go_wp2_with fail
    exact HR.out _ _ (Below.refl _ _) (World.ownsRow_nil _ _ _ _)
  | some a =>
    clear hn
    have HO0 : Hid ((w.alloc (.cells #[] 46)).ownsRow w.heap.size 46 2 (.slice (some ⟨w.heap.size, 0, none⟩) 0 0) 0 []) := World.ownsRow_lit w #[] 0 (Nat.le_refl _) (by decide) rfl
    have hq := eqNilK
    go_enter Try.func16, Try.ntmps16
    go_wp2_with (at_builtin; refine wp_appendT rfl (.tmp 5) (.tmp 6) 35 rfl w.heap.size 46 Try.underlying35 Try.infoLk rfl (by decide) (.slice (some ⟨w.heap.size, 0, none⟩) 0 0) 0 [] rfl HO0.out a vs.length c (pC vs) (pC_length vs) rfl (HC.out.below ((Below.refl _ _).alloc (Nat.le_refl _) _)) (pC_one vs) (by omega) (by omega) (by simp) ?_; intro v1 w1 hown1 hgrow1 hn1; have H1 : Hid (w1.ownsRow w.heap.size 46 2 v1 vs.length (pC vs)) := (by have h := hown1; rw [Nat.zero_add, List.nil_append] at h; exact h); have Hb1 := Lib.hid (Below.grown ((Below.refl w.heap.size w).alloc (Nat.le_refl _) _) hgrow1 (by simp) (fun k e => by cases e; exact Nat.le_refl _)); clear hown1 hgrow1 hn1)
    exact HR.out _ _ Hb1.out H1.out
end Go.Proofs.Ytgngllgknimgkaa
namespace Go.Proofs.Ytgngllgknimgkaa
open Go.RowKit Go.Maps

/-! ### frames -/
structure Fr (S : Nat → Prop) (w w' : World) : Prop where
  low : Below 0 w w'
  block : ∀ j, j < w.heap.size → ¬ S j → w'.heap[j]? = w.heap[j]?
theorem Fr.refl (S : Nat → Prop) (w : World) : Fr S w w := ⟨Below.refl _ _, fun _ _ _ => rfl⟩
theorem Fr.size {S : Nat → Prop} {w w' : World} (h : Fr S w w') : w.heap.size ≤ w'.heap.size := h.low.size
theorem Fr.of_below {S : Nat → Prop} {w w' : World} (h : Below w.heap.size w w') : Fr S w w' := ⟨h.mono (Nat.zero_le _), fun j hj _ => h.block j hj⟩
theorem Fr.trans {S S1 S2 : Nat → Prop} {w w1 w2 : World} (h1 : Fr S1 w w1) (h2 : Fr S2 w1 w2) (i1 : ∀ j, j < w.heap.size → S1 j → S j) (i2 : ∀ j, j < w.heap.size → S2 j → S j) : Fr S w w2 :=
  ⟨h1.low.trans h2.low, fun j hj hS => (h2.block j (Nat.lt_of_lt_of_le hj h1.size) (fun e => hS (i2 j hj e))).trans (h1.block j hj (fun e => hS (i1 j hj e)))⟩
theorem Fr.mono {S S1 : Nat → Prop} {w w1 : World} (h1 : Fr S1 w w1) (i1 : ∀ j, j < w.heap.size → S1 j → S j) : Fr S w w1 := ⟨h1.low, fun j hj hS => h1.block j hj fun e => hS (i1 j hj e)⟩
theorem Fr.grown {S : Nat → Prop} {w w' : World} {row : Option Nat} (h : w.grownBy w' row) (hr : ∀ j, row = some j → j < w.heap.size → S j) : Fr S w w' :=
  ⟨⟨h.os, h.tape, h.output, h.size, fun k hk => absurd hk (Nat.not_lt_zero k)⟩, fun j hj hS => h.block j hj fun e => hS (hr j e.symm hj)⟩
theorem Fr.setCell {S : Nat → Prop} (w : World) (a : Addr) (u : Value) (hS : S a.block) : Fr S w (w.setCell a u) :=
  ⟨(Below.refl 0 w).setCell (Nat.zero_le _) u, fun j _ hj => Below.heap_setCell _ _ _ _ (fun e => hj (by rw [e]; exact hS))⟩
theorem cellsAt_block {w w' : World} {ao : Option Addr} {cs : List Value} (h : CellsAt w ao cs) (hb : ∀ a, ao = some a → a.block < w.heap.size → w'.heap[a.block]? = w.heap[a.block]?) : CellsAt w' ao cs := by
  intro h0
  obtain ⟨b, o, rfl, hl, hc⟩ := h h0
  have e := hb _ rfl hl
  refine ⟨b, o, rfl, ?_, fun j hj => ?_⟩
  · rcases Nat.lt_or_ge b w'.heap.size with hlt | hge
    · exact hlt
    · have e' : w'.heap[b]? = w.heap[b]? := e
      rw [Array.getElem?_eq_none hge, Array.getElem?_eq_getElem hl] at e'
      cases e'
  · rw [World.cell?_of_block (w := w) (w' := w') (a := ⟨b, o + j, none⟩) e]
    exact hc j hj

/-! ### the boxes -/
structure GB where
  bl : Nat
  bx : Nat
  mn : Nat
  lo : Nat
  bn : Nat
  bo : Nat
  mp : Nat
  bp : Nat
  bg : Nat
  B0 : Nat
  ao : Option Addr
  c : Nat
def ptr (b : Nat) : Value := .pointer (some ⟨b, 0, none⟩)
def GB.caps (G : GB) : Array Value := #[ptr G.bx, ptr G.bo, ptr G.bn, ptr G.bl, ptr G.bp, ptr G.bg]
structure GB.Ok (G : GB) : Prop where
  h1 : G.bl < G.lo
  h2 : G.bx < G.lo
  h3 : G.mn < G.lo
  h4 : G.lo ≤ G.bn
  h5 : G.bn < G.bo
  h6 : G.bo < G.mp
  h7 : G.mp < G.bp
  h8 : G.bp < G.bg
  h9 : G.bg < G.B0
structure GEnv (W : World) (G : GB) (vs : List Dm) (ax : Int) (f t : ByteArray) : Prop where
  ok : G.Ok
  size : G.B0 ≤ W.heap.size
  x : W.heap[G.bx]? = some (.cells #[.int .i64 ax, .string f, .string t] 24 (0, 0))
  n : W.heap[G.bn]? = some (.cells #[.map (some G.mn)] 49 (0, 0))
  l : W.heap[G.bl]? = some (.cells #[.slice G.ao vs.length G.c] 22 (0, 0))
  p : W.heap[G.bp]? = some (.cells #[.map (some G.mp)] 52 (0, 0))
  g : W.heap[G.bg]? = some (.cells #[.func (.func 15) #[] G.caps] 53 (0, 0))
  dims : CellsAt W G.ao (dC vs) ∧ ∀ a, G.ao = some a → 0 < (dC vs).length → a.block < G.lo
  net : ∃ K fn, MapIs Try.prog 9 W G.mn K fn ∧ ∀ p, ∃ ao c, (fn p).getD nilS = .slice ao (ntL vs ax vs.length p).length c ∧ CellsAt W ao (pC (ntL vs ax vs.length p)) ∧ ∀ a, ao = some a → a.block < G.lo
theorem GEnv.keep {W W' : World} {G : GB} {vs : List Dm} {ax : Int} {f t : ByteArray} (h : GEnv W G vs ax f t) (hs : W.heap.size ≤ W'.heap.size) (hk : ∀ j, j < G.B0 → j ≠ G.bo → j ≠ G.mp → W'.heap[j]? = W.heap[j]?) : GEnv W' G vs ax f t := by
  obtain ⟨h1, h2, h3, h4, h5, h6, h7, h8, h9⟩ := h.ok
  refine ⟨h.ok, Nat.le_trans h.size hs, (hk _ (by omega) (by omega) (by omega)).trans h.x, (hk _ (by omega) (by omega) (by omega)).trans h.n, (hk _ (by omega) (by omega) (by omega)).trans h.l, (hk _ (by omega) (by omega) (by omega)).trans h.p, (hk _ (by omega) (by omega) (by omega)).trans h.g,
    ⟨fun h0 => cellsAt_block h.dims.1 (fun a e _ => hk _ (by have := h.dims.2 a e h0; omega) (by have := h.dims.2 a e h0; omega) (by have := h.dims.2 a e h0; omega)) h0, h.dims.2⟩, ?_⟩
  obtain ⟨K, fn, hm, hr⟩ := h.net
  refine ⟨K, fn, hm.keep (hk _ (by omega) (by omega) (by omega)), fun p => ?_⟩
  obtain ⟨ao, c, e1, e2, e3⟩ := hr p
  exact ⟨ao, c, e1, cellsAt_block e2 fun a e _ => hk _ (by have := e3 a e; omega) (by have := e3 a e; omega) (by have := e3 a e; omega), e3⟩

/-! ### the chains found, the names passed -/
def ChAt (W : World) (B0 : Nat) (Z : Nat → Prop) (u : Value) (ch : List Sp) : Prop := ∃ ao c, u = .slice ao ch.length c ∧ CellsAt W ao (pC ch) ∧ ∀ a, ao = some a → B0 ≤ a.block ∧ a.block < W.heap.size ∧ ¬ Z a.block ∧ ∃ cur, W.heap[a.block]? = some (.cells cur 46 (0, 0))
def GOut (W : World) (G : GB) (Z : Nat → Prop) (vo : Value) (outs : List (List Sp)) : Prop :=
  W.heap[G.bo]? = some (.cells #[vo] 27 (0, 0)) ∧ ∃ us, us.length = outs.length ∧ W.ownsRow G.B0 35 1 vo outs.length us ∧ ∀ i, i < outs.length → ChAt W G.B0 Z (us.getD i nilS) (outs.getD i [])
def PasAt (W : World) (G : GB) (K : Nat) (P : List ByteArray) : Prop := ∃ fp, MapIs Try.prog 9 W G.mp K fp ∧ ∀ p, (fp p).getD (.bool false) = .bool (hasL P p)
/-- What a call of grow may change. -/
def GS (G : GB) (v vo : Value) (j : Nat) : Prop := j = G.bo ∨ j = G.mp ∨ vo.ownBlock = some j ∨ v.ownBlock = some j
theorem GEnv.fr {W W' : World} {G : GB} {vs : List Dm} {ax : Int} {f t : ByteArray} (h : GEnv W G vs ax f t) {v vo : Value} (hf : Fr (GS G v vo) W W') (hv : ∀ j, v.ownBlock = some j → G.B0 ≤ j) (hvo : ∀ j, vo.ownBlock = some j → G.B0 ≤ j) : GEnv W' G vs ax f t :=
  h.keep hf.size fun j hj n1 n2 => hf.block j (Nat.lt_of_lt_of_le hj h.size) fun e => by
    rcases e with e | e | e | e
    · exact n1 e
    · exact n2 e
    · have := hvo j e; omega
    · have := hv j e; omega
theorem chAt_keep {W W' : World} {B0 : Nat} {Z Z' : Nat → Prop} {u : Value} {ch : List Sp} (h : ChAt W B0 Z u ch) (hs : W.heap.size ≤ W'.heap.size) (hb : ∀ j, B0 ≤ j → j < W.heap.size → ¬ Z j → (∃ cur, W.heap[j]? = some (.cells cur 46 (0, 0))) → W'.heap[j]? = W.heap[j]?) (hv : ∀ j, j < W.heap.size → ¬ Z j → ¬ Z' j) : ChAt W' B0 Z' u ch := by
  obtain ⟨ao, c, e1, e2, e3⟩ := h
  refine ⟨ao, c, e1, cellsAt_block e2 fun a e _ => ?_, fun a e => ?_⟩
  · obtain ⟨g1, g2, g3, g4⟩ := e3 a e
    exact hb _ g1 g2 g3 g4
  · obtain ⟨g1, g2, g3, g4⟩ := e3 a e
    refine ⟨g1, Nat.lt_of_lt_of_le g2 hs, hv _ g2 g3, ?_⟩
    obtain ⟨cur, hc⟩ := g4
    exact ⟨cur, (hb _ g1 g2 g3 ⟨cur, hc⟩).trans hc⟩
end Go.Proofs.Ytgngllgknimgkaa
namespace Go.Proofs.Ytgngllgknimgkaa
open Go.RowKit Go.Maps

theorem own_of_slice {a : Addr} {n c : Nat} : (Value.slice (some a) n c).ownBlock = some a.block := rfl
theorem own_cell {w : World} {base size n : Nat} {e : TypeId} {v : Value} {xs : List Value} (h : w.ownsRow base e size v n xs) {ao : Option Addr} {m c : Nat} (hv : v = .slice ao m c) {a : Addr} (ha : ao = some a) : base ≤ a.block ∧ a.block < w.heap.size ∧ ∃ cur, w.heap[a.block]? = some (.cells cur e (0, 0)) := by
  subst hv ha
  have h1 := h.lt a.block rfl
  obtain ⟨cur, h2⟩ := own_elem h (g := a.block) rfl
  exact ⟨h1.1, h1.2, cur, h2⟩
def GOutU (W : World) (G : GB) (Z : Nat → Prop) (vo : Value) (outs : List (List Sp)) (us : List Value) : Prop :=
  W.heap[G.bo]? = some (.cells #[vo] 27 (0, 0)) ∧ us.length = outs.length ∧ W.ownsRow G.B0 35 1 vo outs.length us ∧ ∀ i, i < outs.length → ChAt W G.B0 Z (us.getD i nilS) (outs.getD i [])
/-- What a call of grow promises. -/
def GrowAt (G : GB) (vs : List Dm) (ax : Int) (f t s : ByteArray) (P : List ByteArray) (res : List (List Sp)) (N : Nat) : Prop :=
  ∀ (cs : List Sp) (Z : Nat → Prop) (v vo : Value) (outs : List (List Sp)) (K : Nat) (W : World) (R : Ending → World → Prop), GEnv W G vs ax f t → W.ownsRow G.B0 46 2 v cs.length (pC cs) → (∀ j, v.ownBlock = some j → Z j) → (∀ j, Z j → j < W.heap.size) → GOut W G Z vo outs → PasAt W G K P → cs.length ≤ P.length → outs.length + res.length < 16384 → K + N ≤ 1000000000000000000 →
    (∀ W' vo' K', Fr (GS G v vo) W W' → W'.ownsRow G.B0 46 2 v cs.length (pC cs) → GOut W' G Z vo' (outs ++ res.map (cs ++ ·)) → PasAt W' G K' P → K' ≤ K + N → (∀ j, j < W.heap.size → vo'.ownBlock = some j → vo.ownBlock = some j) → R (.returned (.bool true)) W') →
    Calls Try.prog 15 (#[.string s, v] ++ #[.pointer (some ⟨G.bx, 0, none⟩), .pointer (some ⟨G.bo, 0, none⟩), .pointer (some ⟨G.bn, 0, none⟩), .pointer (some ⟨G.bl, 0, none⟩), .pointer (some ⟨G.bp, 0, none⟩), .pointer (some ⟨G.bg, 0, none⟩)]) W R
/-- A chain is added. -/
theorem found_post {W w2 w7 : World} {G : GB} {vs : List Dm} {ax : Int} {f t : ByteArray} {Z : Nat → Prop} {v vo v1 : Value} {outs : List (List Sp)} {us : List Value} {cs : List Sp} {K : Nat} {P : List ByteArray} {gg cap : Nat}
    (hE : GEnv W G vs ax f t) (hv : W.ownsRow G.B0 46 2 v cs.length (pC cs)) (hZ : ∀ j, Z j → j < W.heap.size) (hO : GOutU W G Z vo outs us) (hP : PasAt W G K P) (b2 : Below W.heap.size W w2)
    (o1 : w2.ownsRow W.heap.size 46 2 v1 cs.length (pC cs)) (g7 : w2.grownBy w7 vo.ownBlock) (o7 : w7.ownsRow G.B0 35 1 (.slice (some ⟨gg, 0, none⟩) (outs.length + 1) cap) (outs.length + 1) (us ++ [v1]))
    (a7 : vo.ownBlock = some gg ∨ gg = w2.heap.size) :
    Fr (GS G v vo) W (w7.setCell ⟨G.bo, 0, none⟩ (.slice (some ⟨gg, 0, none⟩) (outs.length + 1) cap)) ∧
    (w7.setCell ⟨G.bo, 0, none⟩ (.slice (some ⟨gg, 0, none⟩) (outs.length + 1) cap)).ownsRow G.B0 46 2 v cs.length (pC cs) ∧
    GOut (w7.setCell ⟨G.bo, 0, none⟩ (.slice (some ⟨gg, 0, none⟩) (outs.length + 1) cap)) G Z (.slice (some ⟨gg, 0, none⟩) (outs.length + 1) cap) (outs ++ [cs]) ∧
    PasAt (w7.setCell ⟨G.bo, 0, none⟩ (.slice (some ⟨gg, 0, none⟩) (outs.length + 1) cap)) G K P ∧
    (∀ j, j < W.heap.size → (Value.slice (some ⟨gg, 0, none⟩) (outs.length + 1) cap).ownBlock = some j → vo.ownBlock = some j) := by
  obtain ⟨k1, k2, k3, k4, k5, k6, k7, k8, k9⟩ := hE.ok
  obtain ⟨q1, q2, q3, q4⟩ := hO
  have s2 := b2.size
  have s7 := g7.size
  have sE := hE.size
  obtain ⟨w', hw'⟩ : ∃ w', w7.setCell ⟨G.bo, 0, none⟩ (.slice (some ⟨gg, 0, none⟩) (outs.length + 1) cap) = w' := ⟨_, rfl⟩
  have hset : ∀ j, j ≠ G.bo → w'.heap[j]? = w7.heap[j]? := fun j hj => by rw [← hw']; exact Below.heap_setCell _ _ _ _ hj
  -- a block that is not out's box, not out's row
  have hkeep : ∀ j, j < W.heap.size → j ≠ G.bo → vo.ownBlock ≠ some j → w'.heap[j]? = W.heap[j]? := fun j hj n1 n2 => (hset j n1).trans ((g7.block j (by omega) (fun e => n2 e.symm)).trans (b2.block j hj))
  have hlow : ∀ j, vo.ownBlock = some j → G.B0 ≤ j := fun j e => (q3.lt j e).1
  have hsz : w7.heap.size ≤ w'.heap.size := by rw [← hw']; simp [World.setCell]
  have hlink : ∀ j, (∃ cur, W.heap[j]? = some (.cells cur 46 (0, 0))) → vo.ownBlock ≠ some j := fun j hc e => by
    obtain ⟨cur, hc⟩ := hc
    obtain ⟨cur', hc'⟩ := own_elem q3 e
    rw [hc] at hc'
    cases hc'
  have hvown : ∀ j, v.ownBlock = some j → vo.ownBlock ≠ some j := fun j e => hlink j (own_elem hv e)
  have hbo7 : w7.heap[G.bo]? = some (.cells #[vo] 27 (0, 0)) := (g7.block G.bo (by omega) (fun e => by have := hlow _ e.symm; omega)).trans ((b2.block G.bo (by omega)).trans q1)
  have hbo' : w'.heap[G.bo]? = some (.cells #[.slice (some ⟨gg, 0, none⟩) (outs.length + 1) cap] 27 (0, 0)) := by rw [← hw']; exact heap_setCell_same w7 G.bo 0 _ _ _ hbo7
  rw [hw']
  refine ⟨?_, ?_, ?_, ?_, ?_⟩
  · exact ⟨⟨by rw [← hw']; exact g7.os.trans b2.os, by rw [← hw']; exact g7.tape.trans b2.tape, by rw [← hw']; exact g7.output.trans b2.output, by omega, fun k hk => absurd hk (Nat.not_lt_zero k)⟩,
      fun j hj hS => hkeep j hj (fun e => hS (.inl e)) (fun e => hS (.inr (.inr (.inl e))))⟩
  · exact ownsRow_at hv fun g e => hkeep g (hv.lt g e).2 (by have := (hv.lt g e).1; omega) (hvown g e)
  · refine ⟨hbo', us ++ [v1], by rw [List.length_append, List.length_append, q2]; rfl, ?_, fun i hi => ?_⟩
    · rw [List.length_append]
      exact ownsRow_at o7 fun g e => hset g (by have := (o7.lt g e).1; omega)
    · rw [List.length_append, List.length_singleton] at hi
      by_cases hlt : i < outs.length
      · have e1 : (us ++ [v1]).getD i nilS = us.getD i nilS := by rw [List.getD_eq_getElem?_getD, List.getD_eq_getElem?_getD, List.getElem?_append_left (by omega)]
        have e2 : (outs ++ [cs]).getD i [] = outs.getD i [] := by rw [List.getD_eq_getElem?_getD, List.getD_eq_getElem?_getD, List.getElem?_append_left hlt]
        rw [e1, e2]
        exact chAt_keep (q4 i hlt) (by omega) (fun j g1 g2 g3 g4 => hkeep j g2 (by omega) (hlink j g4)) (fun j _ h => h)
      · obtain rfl : i = outs.length := by omega
        have e1 : (us ++ [v1]).getD outs.length nilS = v1 := by rw [List.getD_eq_getElem?_getD, List.getElem?_append_right (by omega), q2]; simp
        have e2 : (outs ++ [cs]).getD outs.length [] = cs := by rw [List.getD_eq_getElem?_getD, List.getElem?_append_right (by omega)]; simp
        rw [e1, e2]
        obtain ⟨ao, c, rfl, hc, _⟩ := ownsRow_read o1
        have hk1 : ∀ j, W.heap.size ≤ j → j < w2.heap.size → w'.heap[j]? = w2.heap[j]? := fun j g1 g2 => (hset j (by omega)).trans (g7.block j g2 (fun e => by have := (q3.lt j e.symm).2; omega))
        refine ⟨ao, c, rfl, cellsAt_block hc fun a e _ => ?_, fun a e => ?_⟩
        · obtain ⟨g1, g2, _⟩ := own_cell o1 rfl e
          exact hk1 _ g1 g2
        · obtain ⟨g1, g2, cur, g3⟩ := own_cell o1 rfl e
          exact ⟨by omega, by omega, fun e2 => by have := hZ _ e2; omega, cur, (hk1 _ g1 g2).trans g3⟩
  · obtain ⟨fp, hm, hr⟩ := hP
    exact ⟨fp, hm.keep (hkeep _ (by omega) (by omega) (fun e => by have := hlow _ e; omega)), hr⟩
  · intro j hj e
    have e2 : gg = j := by simpa [Value.ownBlock] using e
    rcases a7 with h | h
    · rw [h, e2]
    · omega
end Go.Proofs.Ytgngllgknimgkaa
namespace Go.Proofs.Ytgngllgknimgkaa
open Go.RowKit Go.Maps

theorem Try.infoLs : (Try.prog.info? 35).map (fun i => (i.zero, i.size, i.bytes)) = some (some (.slice none 0 0), 1, 24) := by kernel_rfl
set_option maxRecDepth 100000 in
set_option maxHeartbeats 8000000 in
theorem grow_found (G : GB) (vs : List Dm) (ax : Int) (f t s : ByteArray) (P : List ByteArray) (N : Nat) (hst : sameD s t = true) (hPl : P.length ≤ 999) : GrowAt G vs ax f t s P [[]] N := by
  intro cs Z v vo outs K W R hE hv hZ1 hZ hO hP hcl hmax hKN hR
  obtain ⟨q0, us, q2, q3, q4⟩ := hO
  obtain ⟨ca, cc, rfl, hcc, hcn⟩ := ownsRow_read hv
  obtain ⟨oa, oc, rfl, _, _⟩ := ownsRow_read q3
  have HU := Lib.hid (show GOutU W G Z _ outs us from ⟨q0, q2, q3, q4⟩)
  have HE := Lib.hid hE
  have HV := Lib.hid hv
  have HZ := Lib.hid hZ
  have HP := Lib.hid hP
  have HR := Lib.hid hR
  have HC := Lib.hid hcc
  have HN := Lib.hid hcn
  have x2 : W.cell? ⟨G.bx, 2, none⟩ = some (.string t) := cell_of hE.x rfl
  have r0 : W.cell? ⟨G.bo, 0, none⟩ = some (.slice oa outs.length oc) := cell_of q0 rfl
  have hs1 : (s.toList == t.toList) = true := hst
  have K1 : ((outs.length : Int) == 16384) = false := by rw [beq_eq_false_iff_ne]; simp at hmax; omega
  have hmx : outs.length < 16384 := by simp at hmax; omega
  have hbo : G.bo < W.heap.size := by have := hE.size; have := hE.ok.h6; have := hE.ok.h7; have := hE.ok.h8; have := hE.ok.h9; omega
  have hbB : G.bo < G.B0 := by have := hE.ok.h6; have := hE.ok.h7; have := hE.ok.h8; have := hE.ok.h9; omega
  have hBW := hE.size
  obtain ⟨i0, hi0, hi1, hi2, hi3⟩ := info_parts Try.infoLs
  have BD : Hid (Below W.heap.size W W.drew) := (Below.refl _ _).drew
  have rd : W.drew.cell? ⟨G.bo, 0, none⟩ = some (.slice oa outs.length oc) := r0
  clear hst hE hv hZ1 hZ hP hR hcc hcn q0 q2 q3 q4 hmax
  go_enter Try.func15, Try.ntmps15
  go_wp2_with fail
  refine regionQ (fun _ => True) (by kernel_rfl) (trivial) (fun Qn hPQ hQn hS0 => ?_)
  refine takeQ (i := 1) (d := some 24) (v := ?_) rfl rfl (by kernel_rfl) (by kernel_rfl) (by kernel_rfl) hPQ hS0 (by kernel_rfl) ?_ ?_
  rotate_left
  · (intro w hSw; (try dsimp only at hSw); go_simp; (try with_reducible rfl))
  (try simp only [Act.put, List.setIfInBounds_toArray, List.set_cons_zero, List.set_cons_succ])
  refine wpAnyH_ready (rs := [0, 2]) (by kernel_rfl) (by simp) ?_
  refine AllReadyH.cons (o := _) rfl (fun K hK => ?_) (AllReadyH.cons (o := _) rfl (fun K hK => ?_) AllReadyH.nil)
  go_simp
  refine hK.out _ _ (trivial) (fun hS1 => ?_)
  clear hK K hS0
  (try simp only [Act.put, List.setIfInBounds_toArray, List.set_cons_zero, List.set_cons_succ])
  refine wpAnyH_ready (rs := [2]) (by kernel_rfl) (by simp) ?_
  refine AllReadyH.cons (o := _) rfl (fun K hK => ?_) AllReadyH.nil
  go_simp
  refine clone13_any ca cs cc _ _ (by omega) HN.out (HC.out.below BD.out) ?_
  intro v1 w1 hb ho
  obtain ⟨a1, c1, rfl, _, _⟩ := ownsRow_read ho
  have B1 : Hid (Below W.heap.size W w1) := BD.out.trans hb
  have O1 : Hid (w1.ownsRow W.heap.size 46 2 (.slice a1 cs.length c1) cs.length (pC cs)) := ho
  have r1 := cellB B1.out r0 hbo
  clear hb ho
  refine hK.out _ _ (trivial) (fun hS2 => ?_)
  clear hK K hS1
  (try simp only [Act.put, List.setIfInBounds_toArray, List.set_cons_zero, List.set_cons_succ])
  refine wpAnyH_ready (rs := [3]) (by kernel_rfl) (by simp) ?_
  refine AllReadyH.cons (o := _) rfl (fun K hK => ?_) AllReadyH.nil
  go_simp
  have B2 : Hid (Below W.heap.size W (w1.alloc (.cells #[.slice a1 cs.length c1] 35))) := B1.out.alloc B1.out.size _
  have O2 := Lib.hid (ownsRow_below O1.out ((Below.refl _ w1).alloc (Nat.le_refl _) (.cells #[.slice a1 cs.length c1] 35)))
  have C2 := Lib.hid (World.alloc_heap_new w1 (.cells #[.slice a1 cs.length c1] 35))
  have r2 := cellB B2.out r0 hbo
  have z2 := B2.out.size
  obtain ⟨w2, hw2⟩ : ∃ w2, w1.alloc (.cells #[.slice a1 cs.length c1] 35) = w2 := ⟨_, rfl⟩
  rw [hw2] at B2 O2 C2 r2 z2 ⊢
  clear hw2
  refine hK.out _ _ (trivial) (fun hS3 => ?_)
  clear hK K hS2
  (try simp only [Act.put, List.setIfInBounds_toArray, List.set_cons_zero, List.set_cons_succ])
  refine wpAnyH_ready (rs := [4]) (by kernel_rfl) (by simp) ?_
  refine AllReadyH.cons (o := _) rfl (fun K hK => ?_) AllReadyH.nil
  refine step_append_lies _ (by rfl) (.tmp 23) (.tmp 26) _ (by rfl) G.B0 35 i0 _ 1 24 Try.underlying27 hi0 hi1 hi2 hi3 rfl (by omega) (.slice oa outs.length oc) outs.length us (by rfl) (ownsRow_below HU.out.2.2.1 B2.out) ⟨w1.heap.size, 0, none⟩ 1 1 [.slice a1 cs.length c1] (by rfl) (by rfl) (World.news_of_block C2.out) (by intro u hu; simp at hu; subst hu; rfl) (by omega) (by unfold maxLen; omega) (by omega) (by omega) w2.heap.size rfl ?_
  intro gg cap w7 hown hgrow hat hlt
  have q7 := (hgrow.block G.bo (by omega) (low_ne HU.out.2.2.1 (by omega))).trans ((B2.out.block G.bo hbo).trans HU.out.1)
  have r7 := cell_of q7 (j := 0) rfl
  have f7 := frozen_of q7 0
  have O7 := Lib.hid hown
  have G7 := Lib.hid hgrow
  have A7 := Lib.hid hat
  clear hown hgrow hat q7
  refine hK.out _ _ (trivial) (fun hS4 => ?_)
  clear hK K hS3
  (try simp only [Act.put, List.setIfInBounds_toArray, List.set_cons_zero, List.set_cons_succ])
  refine wpAnyH_ready (rs := [5]) (by kernel_rfl) (by simp) ?_
  refine AllReadyH.cons (o := _) rfl (fun K hK => ?_) AllReadyH.nil
  go_simp
  clear r7 f7
  refine hK.out _ _ (trivial) (fun hS5 => ?_)
  clear hK K hS4
  (try simp only [Act.put, List.setIfInBounds_toArray, List.set_cons_zero, List.set_cons_succ])
  refine wpAnyH_done (by kernel_rfl) (hQn.out _ _ ?_) _
  clear hS5 hPQ hQn Qn
  rotate_left
  go_simp
  refine clone13_any ca cs cc _ _ (by omega) HN.out (HC.out.below BD.out) ?_
  intro v1 w1 hb ho
  obtain ⟨a1, c1, rfl, _, _⟩ := ownsRow_read ho
  have B1 : Hid (Below W.heap.size W w1) := BD.out.trans hb
  have O1 : Hid (w1.ownsRow W.heap.size 46 2 (.slice a1 cs.length c1) cs.length (pC cs)) := ho
  have r1 := cellB B1.out r0 hbo
  clear hb ho
  refine hK.out _ _ (trivial) (fun hS1 => ?_)
  clear hK K hS0
  (try simp only [Act.put, List.setIfInBounds_toArray, List.set_cons_zero, List.set_cons_succ])
  refine wpAnyH_ready (rs := [0, 3]) (by kernel_rfl) (by simp) ?_
  refine AllReadyH.cons (o := _) rfl (fun K hK => ?_) (AllReadyH.cons (o := _) rfl (fun K hK => ?_) AllReadyH.nil)
  go_simp
  refine hK.out _ _ (trivial) (fun hS2 => ?_)
  clear hK K hS1
  (try simp only [Act.put, List.setIfInBounds_toArray, List.set_cons_zero, List.set_cons_succ])
  refine wpAnyH_ready (rs := [3]) (by kernel_rfl) (by simp) ?_
  refine AllReadyH.cons (o := _) rfl (fun K hK => ?_) AllReadyH.nil
  go_simp
  have B2 : Hid (Below W.heap.size W (w1.alloc (.cells #[.slice a1 cs.length c1] 35))) := B1.out.alloc B1.out.size _
  have O2 := Lib.hid (ownsRow_below O1.out ((Below.refl _ w1).alloc (Nat.le_refl _) (.cells #[.slice a1 cs.length c1] 35)))
  have C2 := Lib.hid (World.alloc_heap_new w1 (.cells #[.slice a1 cs.length c1] 35))
  have r2 := cellB B2.out r0 hbo
  have z2 := B2.out.size
  obtain ⟨w2, hw2⟩ : ∃ w2, w1.alloc (.cells #[.slice a1 cs.length c1] 35) = w2 := ⟨_, rfl⟩
  rw [hw2] at B2 O2 C2 r2 z2 ⊢
  clear hw2
  refine hK.out _ _ (trivial) (fun hS3 => ?_)
  clear hK K hS2
  (try simp only [Act.put, List.setIfInBounds_toArray, List.set_cons_zero, List.set_cons_succ])
  refine wpAnyH_ready (rs := [4]) (by kernel_rfl) (by simp) ?_
  refine AllReadyH.cons (o := _) rfl (fun K hK => ?_) AllReadyH.nil
  refine step_append_lies _ (by rfl) (.tmp 23) (.tmp 26) _ (by rfl) G.B0 35 i0 _ 1 24 Try.underlying27 hi0 hi1 hi2 hi3 rfl (by omega) (.slice oa outs.length oc) outs.length us (by rfl) (ownsRow_below HU.out.2.2.1 B2.out) ⟨w1.heap.size, 0, none⟩ 1 1 [.slice a1 cs.length c1] (by rfl) (by rfl) (World.news_of_block C2.out) (by intro u hu; simp at hu; subst hu; rfl) (by omega) (by unfold maxLen; omega) (by omega) (by omega) w2.heap.size rfl ?_
  intro gg cap w7 hown hgrow hat hlt
  have q7 := (hgrow.block G.bo (by omega) (low_ne HU.out.2.2.1 (by omega))).trans ((B2.out.block G.bo hbo).trans HU.out.1)
  have r7 := cell_of q7 (j := 0) rfl
  have f7 := frozen_of q7 0
  have O7 := Lib.hid hown
  have G7 := Lib.hid hgrow
  have A7 := Lib.hid hat
  clear hown hgrow hat q7
  refine hK.out _ _ (trivial) (fun hS4 => ?_)
  clear hK K hS3
  (try simp only [Act.put, List.setIfInBounds_toArray, List.set_cons_zero, List.set_cons_succ])
  refine wpAnyH_ready (rs := [5]) (by kernel_rfl) (by simp) ?_
  refine AllReadyH.cons (o := _) rfl (fun K hK => ?_) AllReadyH.nil
  go_simp
  clear r7 f7
  refine hK.out _ _ (trivial) (fun hS5 => ?_)
  clear hK K hS4
  (try simp only [Act.put, List.setIfInBounds_toArray, List.set_cons_zero, List.set_cons_succ])
  refine wpAnyH_done (by kernel_rfl) (hQn.out _ _ ?_) _
  clear hS5 hPQ hQn Qn
  rotate_left
  go_simp
  have B2 : Hid (Below W.heap.size W (w1.alloc (.cells #[.slice a1 cs.length c1] 35))) := B1.out.alloc B1.out.size _
  have O2 := Lib.hid (ownsRow_below O1.out ((Below.refl _ w1).alloc (Nat.le_refl _) (.cells #[.slice a1 cs.length c1] 35)))
  have C2 := Lib.hid (World.alloc_heap_new w1 (.cells #[.slice a1 cs.length c1] 35))
  have r2 := cellB B2.out r0 hbo
  have z2 := B2.out.size
  obtain ⟨w2, hw2⟩ : ∃ w2, w1.alloc (.cells #[.slice a1 cs.length c1] 35) = w2 := ⟨_, rfl⟩
  rw [hw2] at B2 O2 C2 r2 z2 ⊢
  clear hw2
  refine hK.out _ _ (trivial) (fun hS2 => ?_)
  clear hK K hS1
  (try simp only [Act.put, List.setIfInBounds_toArray, List.set_cons_zero, List.set_cons_succ])
  refine wpAnyH_ready (rs := [0]) (by kernel_rfl) (by simp) ?_
  refine AllReadyH.cons (o := _) rfl (fun K hK => ?_) AllReadyH.nil
  go_simp
  refine hK.out _ _ (trivial) (fun hS3 => ?_)
  clear hK K hS2
  (try simp only [Act.put, List.setIfInBounds_toArray, List.set_cons_zero, List.set_cons_succ])
  refine wpAnyH_ready (rs := [4]) (by kernel_rfl) (by simp) ?_
  refine AllReadyH.cons (o := _) rfl (fun K hK => ?_) AllReadyH.nil
  refine step_append_lies _ (by rfl) (.tmp 23) (.tmp 26) _ (by rfl) G.B0 35 i0 _ 1 24 Try.underlying27 hi0 hi1 hi2 hi3 rfl (by omega) (.slice oa outs.length oc) outs.length us (by rfl) (ownsRow_below HU.out.2.2.1 B2.out) ⟨w1.heap.size, 0, none⟩ 1 1 [.slice a1 cs.length c1] (by rfl) (by rfl) (World.news_of_block C2.out) (by intro u hu; simp at hu; subst hu; rfl) (by omega) (by unfold maxLen; omega) (by omega) (by omega) w2.heap.size rfl ?_
  intro gg cap w7 hown hgrow hat hlt
  have q7 := (hgrow.block G.bo (by omega) (low_ne HU.out.2.2.1 (by omega))).trans ((B2.out.block G.bo hbo).trans HU.out.1)
  have r7 := cell_of q7 (j := 0) rfl
  have f7 := frozen_of q7 0
  have O7 := Lib.hid hown
  have G7 := Lib.hid hgrow
  have A7 := Lib.hid hat
  clear hown hgrow hat q7
  refine hK.out _ _ (trivial) (fun hS4 => ?_)
  clear hK K hS3
  (try simp only [Act.put, List.setIfInBounds_toArray, List.set_cons_zero, List.set_cons_succ])
  refine wpAnyH_ready (rs := [5]) (by kernel_rfl) (by simp) ?_
  refine AllReadyH.cons (o := _) rfl (fun K hK => ?_) AllReadyH.nil
  go_simp
  clear r7 f7
  refine hK.out _ _ (trivial) (fun hS5 => ?_)
  clear hK K hS4
  (try simp only [Act.put, List.setIfInBounds_toArray, List.set_cons_zero, List.set_cons_succ])
  refine wpAnyH_done (by kernel_rfl) (hQn.out _ _ ?_) _
  clear hS5 hPQ hQn Qn
  rotate_left
  rotate_left
  all_goals
    go_wp2_with fail
    obtain ⟨p1, p2, p3, p4, p5⟩ := found_post HE.out HV.out HZ.out HU.out HP.out B2.out O2.out G7.out O7.out A7.out
    refine HR.out _ _ K p1 p2 ?_ p4 (Nat.le_add_right _ _) p5
    have e : outs ++ ([[]] : List (List Sp)).map (cs ++ ·) = outs ++ [cs] := by simp
    rw [e]
    exact p3
end Go.Proofs.Ytgngllgknimgkaa
namespace Go.Proofs.Ytgngllgknimgkaa
open Go.RowKit Go.Maps

theorem grownBy_any {w w' : World} (h : w.grownBy w' none) (row : Option Nat) : w.grownBy w' row := ⟨h.os, h.tape, h.output, h.size, fun k hk _ => h.block k hk (by simp)⟩
theorem grownBy_below {w w' : World} (h : w.grownBy w' none) : Below w.heap.size w w' := ⟨h.os, h.tape, h.output, h.size, fun k hk => h.block k hk (by simp)⟩
theorem own_prefix {w : World} {base size : Nat} {e : TypeId} {g n m cap : Nat} {xs ys : List Value} (h : w.ownsRow base e size (.slice (some ⟨g, 0, none⟩) (n + m) cap) (n + m) (xs ++ ys)) (hl : xs.length = n * size) : w.ownsRow base e size (.slice (some ⟨g, 0, none⟩) n cap) n xs := by
  refine ⟨hl, ?_⟩
  rcases h.2 with ⟨h1, _⟩ | ⟨g', cap', cur, h1, h2, h3, h4, h5, h6, h7⟩
  · cases h1
  · cases h1
    refine .inr ⟨g, cap, cur, rfl, h2, h3, by omega, h5, h6, ?_⟩
    have h8 := congrArg (List.take (n * size)) h7
    rw [List.take_take, Nat.min_eq_left (Nat.mul_le_mul_right _ (by omega)), ← hl, List.take_left' rfl] at h8
    rw [← hl]; exact h8
theorem step_append_two {P : Program} {ops : Array Oper} {o : Oper} {a : Act} {w : World} {K : Act → World → Prop} {Q : Exit → Act → World → Prop} {E : Prop}
    (hgd : o.guard = none) (s x : Operand) (t : TypeId) (ho : o.op = Op.call { callee := Callee.builtin Builtin.append, args := #[s, x], argTypes := #[t, t] })
    (base : Nat) (e : TypeId) (i : TypeInfo) (z : Value) (size bytes : Nat) (h1 : P.underlying t = some (.slice e)) (h2 : P.info? e = some i) (h3 : i.zero = some z) (h4 : i.size = size) (h5 : i.bytes = bytes) (h6 : z.cells.size = size) (h7 : 0 < size)
    (v : Value) (n : Nat) (xs : List Value) (hs : a.eval s = v) (hown : w.ownsRow base e size v n xs)
    (ad : Addr) (m c : Nat) (news : List Value) (hx : a.eval x = .slice (some ad) m c) (hn : news.length = m * size) (hc : ∀ j u, news[j]? = some u → w.cell? (ad.add j) = some u) (h1c : ∀ u ∈ news, u.oneCell' = true)
    (hm : 0 < m) (b1 : n + m ≤ maxLen) (b2 : (n + m) * bytes ≤ 140737488355328) (hbase : base ≤ w.heap.size)
    (hK : ∀ g cap w', w'.ownsRow base e size (.slice (some ⟨g, 0, none⟩) (n + m) cap) (n + m) (xs ++ news) → w.grownBy w' v.ownBlock → (v = .slice (some ⟨g, 0, none⟩) n cap ∨ (w.grownBy w' none ∧ w.heap.size ≤ g)) → g < w'.heap.size → K (a.put o.dst (.slice (some ⟨g, 0, none⟩) (n + m) cap)) w') :
    if Region.wanted o (yielded ops a.tmps) = true then Oper.wp P o a w K Q else E := by
  have hgrows : ∀ (ao : Option Addr) (cap : Nat), v = .slice ao n cap → (ao = none → n = 0 ∧ cap = 0) → (∀ b, ao = some b → ∀ j u, xs[j]? = some u → w.cell? (b.add j) = some u) → cap < n + m → (if Region.wanted o (yielded ops a.tmps) = true then Oper.wp P o a w K Q else E) := by
    intro ao cap hv hnone holds hfull
    refine step_append_grows hgd s x t ho e i z size bytes h1 h2 h3 h4 h5 h6 h7 ao n cap xs (hs.trans hv) hnone hown.1 holds ad m c news hx hn hc h1c hfull b1 b2 fun v' w' r1 r2 => ?_
    obtain ⟨g, cap', rfl, hg, hlt⟩ := r1.form (by omega)
    exact hK g cap' w' (ownsRow_mono r1 hbase) (grownBy_any r2 _) (.inr ⟨r2, hg⟩) hlt
  rcases hown.2 with ⟨rfl, rfl⟩ | ⟨g, cap, cur, rfl, g2, g3, g4, g5, g6, g7⟩
  · exact hgrows none 0 rfl (fun _ => ⟨rfl, rfl⟩) (fun b e => by cases e) (by omega)
  · by_cases hr : n + m ≤ cap
    · have hw : Region.wanted o (yielded ops a.tmps) = true := by simp [Region.wanted, hgd]
      rw [if_pos hw]
      refine wp_append_own_spare w s x t ho base e i size h1 h2 h4 g n cap xs hs hown ad m c news hx hn hc h1c hr fun w' r1 r2 => ?_
      exact hK g cap w' r1 r2 (.inl rfl) (r1.lt g rfl).2
    · refine hgrows (some ⟨g, 0, none⟩) cap rfl (fun e => by cases e) (fun b e j u hj => ?_) (by omega)
      cases e
      obtain ⟨ao, c', e2, hca, _⟩ := ownsRow_read hown
      cases e2
      rw [Addr.add_lit]
      exact hca.get rfl hj
end Go.Proofs.Ytgngllgknimgkaa
namespace Go.Proofs.Ytgngllgknimgkaa
open Go.RowKit Go.Maps

def stR (vs : List Dm) (P : List ByteArray) (g : Sp → List (List Sp)) (M : List Sp) : List (List Sp) := M.flatMap fun y => if hasL P (enT vs y) = true then [] else (g y).map (y :: ·)
theorem stR_append (vs : List Dm) (P : List ByteArray) (g : Sp → List (List Sp)) (A B : List Sp) : stR vs P g (A ++ B) = stR vs P g A ++ stR vs P g B := by unfold stR; rw [List.flatMap_append]
theorem stR_one (vs : List Dm) (P : List ByteArray) (g : Sp → List (List Sp)) (y : Sp) : stR vs P g [y] = if hasL P (enT vs y) = true then [] else (g y).map (y :: ·) := by unfold stR; rw [List.flatMap_cons, List.flatMap_nil, List.append_nil]
theorem take_succK {L : List Sp} {k : Nat} (h : k < L.length) : L.take (k + 1) = L.take k ++ [pAt L k] := by
  rw [List.take_add_one, List.getElem?_eq_getElem h, pAt_lt h]; rfl
theorem stR_succ {vs : List Dm} {P : List ByteArray} {g : Sp → List (List Sp)} {L : List Sp} {k : Nat} (h : k < L.length) : stR vs P g (L.take (k + 1)) = stR vs P g (L.take k) ++ stR vs P g [pAt L k] := by rw [take_succK h, stR_append]
theorem stR_le (vs : List Dm) (P : List ByteArray) (g : Sp → List (List Sp)) (L : List Sp) (k : Nat) : (stR vs P g (L.take k)).length ≤ (stR vs P g L).length := by
  conv => rhs; rw [← List.take_append_drop k L, stR_append, List.length_append]
  exact Nat.le_add_right _ _
theorem pas_put {W' : World} {G : GB} {K : Nat} {P : List ByteArray} {T : ByteArray} {fp : SMap} (hf : ∀ p, (fp p).getD (.bool false) = .bool (hasL P p)) (hm : MapIs Try.prog 9 W' G.mp (K + 1) (fp.put T (.bool true))) : PasAt W' G (K + 1) (P ++ [T]) := by
  refine ⟨_, hm, fun p => ?_⟩
  unfold SMap.put
  by_cases e : p = T
  · rw [if_pos e, (hasL_iff).2 (by rw [e]; simp)]; rfl
  · rw [if_neg e, hf]
    cases h : hasL P p with
    | true => rw [(hasL_iff).2 (List.mem_append_left _ ((hasL_iff).1 h))]
    | false =>
      cases h2 : hasL (P ++ [T]) p with
      | false => rfl
      | true =>
        rcases List.mem_append.1 ((hasL_iff).1 h2) with h3 | h3
        · rw [(hasL_iff).2 h3] at h; cases h
        · exact absurd (by simpa using h3) e
theorem pas_back {W' : World} {G : GB} {K : Nat} {P : List ByteArray} {T : ByteArray} {fp : SMap} (hf : ∀ p, (fp p).getD (.bool false) = .bool (hasL (P ++ [T]) p)) (hT : hasL P T = false) (hm : MapIs Try.prog 9 W' G.mp (K + 1) (fp.put T (.bool false))) : PasAt W' G (K + 1) P := by
  refine ⟨_, hm, fun p => ?_⟩
  unfold SMap.put
  by_cases e : p = T
  · rw [if_pos e, e, hT]; rfl
  · rw [if_neg e, hf]
    cases h : hasL P p with
    | true => rw [(hasL_iff).2 (List.mem_append_left _ ((hasL_iff).1 h))]
    | false =>
      cases h2 : hasL (P ++ [T]) p with
      | false => rfl
      | true =>
        rcases List.mem_append.1 ((hasL_iff).1 h2) with h3 | h3
        · rw [(hasL_iff).2 h3] at h; cases h
        · exact absurd (by simpa using h3) e
theorem fr_low {W W' : World} {G : GB} {v vo : Value} (hf : Fr (GS G v vo) W W') (hs : G.B0 ≤ W.heap.size) (hv : ∀ j, v.ownBlock = some j → G.B0 ≤ j) (hvo : ∀ j, vo.ownBlock = some j → G.B0 ≤ j) {j : Nat} (hj : j < G.B0) (n1 : j ≠ G.bo) (n2 : j ≠ G.mp) : W'.heap[j]? = W.heap[j]? :=
  hf.block j (Nat.lt_of_lt_of_le hj hs) fun e => by
    rcases e with e | e | e | e
    · exact n1 e
    · exact n2 e
    · have := hvo j e; omega
    · have := hv j e; omega
end Go.Proofs.Ytgngllgknimgkaa
