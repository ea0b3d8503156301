/- The walks of Has of reference 17 and of kept of the law of layer 22. The mirrored dimensions; the positions keep all dimensions; the distances are attained. No program in sight. -/
import Derived.Test.YtlgjhjgdmomfoaaMeg
import Derived.Test.YtlgjhjgdmomfoaaMee
import Derived.Test.YtlgjhjgdmomfoaaMdx
namespace Go.Proofs.Ytlgjhjgdmomfoaa
open Go.RowKit Go.Maps

set_option maxRecDepth 100000 in
set_option maxHeartbeats 4000000 in
theorem rhas17_any (l h v : Int) (w : World) (R : Ending → World → Prop) (hl : l ≤ v) (hh : v ≤ h) (hR : ∀ w', Below w.heap.size w w' → R (.returned (.bool true)) w') :
    Calls Try.prog 64 #[.agg #[.int .i64 l, .int .i64 h], .int .i64 v] w R := by
  have HR := Lib.hid hR
  obtain ⟨w1, E1, B1, s1, X1⟩ := box_ex w #[.int .i64 l, .int .i64 h] 37
  have z0 := cell_of X1.out (j := 0) (v := .int .i64 l) rfl
  have z1 := cell_of X1.out (j := 1) (v := .int .i64 h) rfl
  have e1 := eq_true hl
  have e2 := eq_true hh
  clear hR
  go_enter Try.func64, Try.ntmps64
  go_wp2_with (rw [E1])
  exact HR.out _ B1.out
/-- The map of positions, times a sign. -/
def meF (xs : List Ps) (sg : Int) : Nat → SMap
  | 0 => fun _ => none
  | k + 1 => (meF xs sg k).put (psAt xs k).n (.int .i64 (sg * (psAt xs k).a))
theorem me_in {xs : List Ps} {sg : Int} {u : Nat} : ∀ (k : Nat), u < k → (∀ i j, i < k → j < k → (psAt xs i).n = (psAt xs j).n → i = j) → meF xs sg k (psAt xs u).n = some (.int .i64 (sg * (psAt xs u).a))
  | 0, h, _ => absurd h (Nat.not_lt_zero _)
  | k + 1, h, hn => by
    rw [meF]
    unfold SMap.put
    by_cases e : u = k
    · subst e; rw [if_pos rfl]
    · rw [if_neg (fun h2 => e (hn u k h (by omega) h2))]
      exact me_in k (by omega) (fun i j hi hj => hn i j (by omega) (by omega))
set_option maxRecDepth 100000 in
set_option maxHeartbeats 8000000 in
theorem kept_any (ao : Option Addr) (vs : List Dm) (c : Nat) (ax : Int) (al : Option Addr) (xs : List Ps) (n cp : Nat) (sg : Int) (w : World) (R : Ending → World → Prop) (hl : vs.length ≤ 256) (hc : CellsAt w ao (dC vs)) (hv : DmsOk vs)
   (hn : xs.length = n) (hn' : n ≤ 1000) (hp : CellsAt w al (poC xs)) (hsg : sg = 1 ∨ sg = -1) (hnm : ∀ i j, i < n → j < n → (psAt xs i).n = (psAt xs j).n → i = j) (hsz : ∀ i, i < n → (psAt xs i).n.size ≤ 9223372036854775807)
   (hbd : ∀ i, i < n → -30000000000 ≤ (psAt xs i).a ∧ (psAt xs i).a ≤ 30000000000)
   (hK : ∀ i, onD vs ax i → ∃ u v, u < n ∧ v < n ∧ (psAt xs u).n = (dAt vs i).f ∧ (psAt xs v).n = (dAt vs i).t ∧ (dAt vs i).l ≤ sg * (psAt xs v).a - sg * (psAt xs u).a ∧ sg * (psAt xs v).a - sg * (psAt xs u).a ≤ (dAt vs i).h)
   (hR : ∀ w', Below w.heap.size w w' → R (.returned (.bool true)) w') :
    Calls Try.prog 33 #[.slice ao vs.length c, .int .i64 ax, .slice al n cp, .int .i64 sg] w R := by
  have HR := Lib.hid hR
  have HC := Lib.hid hc
  have HV := Lib.hid hv
  have HP := Lib.hid hp
  have HN := Lib.hid hn
  have HNM := Lib.hid hnm
  have HSZ := Lib.hid hsz
  have HBD := Lib.hid hbd
  have HK := Lib.hid hK
  have HM0 : Hid (MapIs Try.prog 9 (w.alloc (.map #[] 0)) w.heap.size 0 (meF xs sg 0)) := mapIs_made w
  have HB0 : Hid (Below w.heap.size w (w.alloc (.map #[] 0))) := (Below.refl _ _).alloc (Nat.le_refl _) _
  have sgb : -1 ≤ sg ∧ sg ≤ 1 := by omega
  have HSG := Lib.hid hsg
  clear hR hc hv hp hn hnm hsz hbd hK hsg
  have hmm := @run_makeMap Try.prog
  go_enter Try.func33, Try.ntmps33
  go_wp2_with fail
  go_loopw [21] (fun j wr => ∃ (k : Nat), k ≤ n ∧ j = .int .i64 k ∧ Hid (Below w.heap.size w wr) ∧ Hid (MapIs Try.prog 9 wr w.heap.size k (meF xs sg k))) (fun j _ => n - (intOf j).toNat)
  case atStart => exact ⟨0, Nat.zero_le _, rfl, HB0, HM0⟩
  case round =>
    clear HB0 HM0
    obtain ⟨k, hk, rfl, HB, HM⟩ := hrel
    have sB := HB.out.size
    by_cases hlt : k < n
    · obtain ⟨b, o, rfl, hbb, hcell⟩ := HP.out.poss (by rw [HN.out]; omega)
      obtain ⟨c0, c1⟩ := hcell k (by rw [HN.out]; exact hlt)
      have d0 := cellB HB.out c0 hbb
      have d1 := cellB HB.out c1 hbb
      have hs := HSZ.out k hlt
      have hb := HBD.out k hlt
      have hst : Hid (meF xs sg (k + 1) = (meF xs sg k).put (psAt xs k).n (.int .i64 (sg * (psAt xs k).a))) := rfl
      obtain ⟨u, hu⟩ : ∃ u, psAt xs k = u := ⟨_, rfl⟩
      obtain ⟨M, hM⟩ : ∃ M, meF xs sg k = M := ⟨_, rfl⟩
      rw [hu] at d0 d1 hs hb hst
      rw [hM] at hst HM
      have hw1 : IntKind.i64.wrap (sg * u.a) = sg * u.a := by
        rcases HSG.out with rfl | rfl
        · rw [IntKind.wrap_i64]; omega
        · rw [IntKind.wrap_i64]; omega
      obtain ⟨wA, EA, BA, sA, XA⟩ := box_ex wr #[.string u.n, .int .i64 u.a] 56
      have B2 := Lib.hid (HB.out.trans (BA.out.mono sB))
      have M2 := Lib.hid (HM.out.keep (BA.out.block w.heap.size HM.out.lt))
      have x0 := cell_of XA.out (j := 0) (v := .string u.n) rfl
      have x1 := cell_of XA.out (j := 1) (v := .int .i64 u.a) rfl
      have s2 := B2.out.size
      clear hcell hu hM c0 c1 hb HB HM
      go_wp2_with (first | (rw [EA]) | (at_mapUpdate; refine wp_mapStore _ rfl _ _ _ 97 rfl 9 3 Try.underlying9 Try.underlying97 w.heap.size k M rfl M2.out (by unfold maxLen; omega) u.n (.int .i64 (sg * u.a)) rfl rfl hs ?_; intro w7 h7 g7; have M7 := Lib.hid h7; have B7 := Lib.hid (B2.out.grown g7 s2 (fun j e => by cases e; exact Nat.le_refl _)); clear h7 g7))
      exact ⟨⟨k + 1, by omega, by go_num, B7, by rw [hst.out]; exact M7⟩, by simp [intOf]; omega⟩
    · obtain rfl : k = n := by omega
      obtain ⟨w1, hw1⟩ : ∃ w1, wr = w1 := ⟨_, rfl⟩
      rw [hw1] at HB HM sB ⊢
      clear hw1
      go_wp2_with fail
      go_loopw [35] (fun j wr => ∃ (q : Nat), q ≤ vs.length ∧ j = .int .i64 q ∧ Hid (Below w1.heap.size w1 wr)) (fun j _ => vs.length - (intOf j).toNat)
      case atStart => exact ⟨0, Nat.zero_le _, rfl, Below.refl _ _⟩
      case round =>
        obtain ⟨q, hq, rfl, HB2⟩ := hrel
        have sB2 := HB2.out.size
        by_cases hlq : q < vs.length
        · obtain ⟨b, o, rfl, hbb, hcell⟩ := HC.out.dms (by omega)
          obtain ⟨c0, c1, c2, c3, c4⟩ := hcell q hlq
          have hB := HB.out.trans (HB2.out.mono sB)
          have d0 := cellB hB c0 hbb
          have d1 := cellB hB c1 hbb
          have d2 := cellB hB c2 hbb
          have d3 := cellB hB c3 hbb
          have d4 := cellB hB c4 hbb
          have hok := HV.out q hlq
          have hkq := Lib.hid (fun (hx : (dAt vs q).x = ax) => HK.out q ⟨hlq, hx⟩)
          obtain ⟨u, hu⟩ : ∃ u, dAt vs q = u := ⟨_, rfl⟩
          rw [hu] at d0 d1 d2 d3 d4 hok hkq
          obtain ⟨wA, EA, BA, sA, XA⟩ := box_ex wr #[.string u.f, .string u.t, .int .i64 u.x, .int .i64 u.l, .int .i64 u.h] 73
          have B3 := Lib.hid (HB2.out.trans (BA.out.mono sB2))
          have s3 := B3.out.size
          have M3 := HM.out.keep (B3.out.block w.heap.size HM.out.lt)
          have x0 := cell_of XA.out (j := 0) (v := .string u.f) rfl
          have x1 := cell_of XA.out (j := 1) (v := .string u.t) rfl
          have x2 := cell_of XA.out (j := 2) (v := .int .i64 u.x) rfl
          have x3 := cell_of XA.out (j := 3) (v := .int .i64 u.l) rfl
          have x4 := cell_of XA.out (j := 4) (v := .int .i64 u.h) rfl
          clear hcell hu hB c0 c1 c2 c3 c4
          cases hx : (u.x == ax) with
          | false =>
            have K : (u.x != ax) = true := by rw [bne, hx]; rfl
            clear hx M3
            go_wp2_with (rw [EA])
            exact ⟨⟨q + 1, by omega, by go_num, B3⟩, by simp [intOf]; omega⟩
          | true =>
            have K : (u.x != ax) = false := by rw [bne, hx]; rfl
            obtain ⟨i, j, hi, hj, ei, ej, hlo, hhi⟩ := hkq.out (by simpa using hx)
            have mi := me_in (sg := sg) k hi HNM.out
            have mj := me_in (sg := sg) k hj HNM.out
            have bi := HBD.out i hi
            have bj := HBD.out j hj
            rw [ei] at mi
            rw [ej] at mj
            obtain ⟨A, hA⟩ : ∃ A, sg * (psAt xs i).a = A := ⟨_, rfl⟩
            obtain ⟨B, hB⟩ : ∃ B, sg * (psAt xs j).a = B := ⟨_, rfl⟩
            have bA : -30000000000 ≤ A ∧ A ≤ 30000000000 := by
              rw [← hA]; rcases HSG.out with rfl | rfl <;> omega
            have bB : -30000000000 ≤ B ∧ B ≤ 30000000000 := by
              rw [← hB]; rcases HSG.out with rfl | rfl <;> omega
            rw [hA, hB] at hlo hhi
            rw [hA] at mi
            rw [hB] at mj
            have hlf := M3.lookOk (t := 97) Try.underlying9 Try.underlying97 (zeroI22 _) hok.1
            have hlt' := M3.lookOk (t := 97) Try.underlying9 Try.underlying97 (zeroI22 _) hok.2
            rw [mi] at hlf
            rw [mj] at hlt'
            simp only [Option.getD_some, Option.isSome_some] at hlf hlt'
            have hw1 : IntKind.i64.wrap (B - A) = B - A := by rw [IntKind.wrap_i64]; omega
            have Hlo := Lib.hid hlo
            have Hhi := Lib.hid hhi
            clear hx M3 mi mj ei ej hA hB hlo hhi bi bj hi hj
            go_wp2_with (rw [EA])
            refine rhas17_any u.l u.h (B - A) _ _ Hlo.out Hhi.out ?_
            intro w9 hb
            have B9 := Lib.hid (B3.out.trans (hb.mono s3))
            clear hb
            go_wp2_with fail
            exact ⟨⟨q + 1, by omega, by go_num, B9⟩, by simp [intOf]; omega⟩
        · obtain rfl : q = vs.length := by omega
          go_wp2_with fail
          exact HR.out _ (HB.out.trans (HB2.out.mono sB))
end Go.Proofs.Ytlgjhjgdmomfoaa
namespace Go.Proofs.Ytlgjhjgdmomfoaa
open Go.RowKit Go.Maps

def tnD (d : Dm) : Dm := ⟨d.f, d.t, d.x, -d.h, -d.l⟩
def tn (vs : List Dm) : List Dm := vs.map tnD
theorem tn_len (vs : List Dm) : (tn vs).length = vs.length := by simp [tn]
theorem tn_at (vs : List Dm) (i : Nat) : dAt (tn vs) i = tnD (dAt vs i) := by
  unfold tn dAt
  rw [List.getD_eq_getElem?_getD, List.getD_eq_getElem?_getD, List.getElem?_map]
  cases vs[i]? with
  | none => rfl
  | some d => rfl
section
variable {vs : List Dm} {ax : Int}
theorem tn_raw : ∀ k, rawN (tn vs) ax k = rawN vs ax k
  | 0 => rfl
  | k + 1 => by rw [rawN, rawN, tn_raw k, tn_at]; rfl
theorem tn_on : ∀ k, onA (tn vs) ax k = onA vs ax k
  | 0 => rfl
  | k + 1 => by rw [onA, onA, tn_on k, tn_at]; rfl
theorem tn_nm : nmG (tn vs) ax = nmG vs ax := by unfold nmG; rw [tn_raw, tn_len]
theorem tn_pF : pF (tn vs) ax = pF vs ax := by funext i; unfold pF; rw [tn_nm, tn_at]; rfl
theorem tn_pT : pT (tn vs) ax = pT vs ax := by funext i; unfold pT; rw [tn_nm, tn_at]; rfl
theorem tn_gr : grG (tn vs) ax = grG vs ax := by unfold grG nmN; rw [tn_pF, tn_pT, tn_nm, tn_len, tn_on]
theorem tn_onD {i : Nat} : onD (tn vs) ax i ↔ onD vs ax i := by unfold onD; rw [tn_len, tn_at]; exact Iff.rfl
theorem tn_va (hva : ∀ j, j < vs.length → vaE (dAt vs j) = 0) : ∀ j, j < (tn vs).length → vaE (dAt (tn vs) j) = 0 := fun j hj => by
  rw [tn_len] at hj
  have h := hva j hj
  rw [tn_at]
  unfold vaE at h ⊢
  show (if nmE (dAt vs j).f = 0 then _ else _) = _
  by_cases a : nmE (dAt vs j).f = 0
  · rw [if_pos a] at h ⊢
    show (if nmE (dAt vs j).t = 0 then _ else _) = _
    by_cases b : nmE (dAt vs j).t = 0
    · rw [if_pos b] at h ⊢
      show (if sameD (dAt vs j).f (dAt vs j).t = true then _ else if (dAt vs j).x < 0 ∨ 3 ≤ (dAt vs j).x then _ else lmE (-(dAt vs j).h) (-(dAt vs j).l)) = _
      by_cases c : sameD (dAt vs j).f (dAt vs j).t = true
      · rw [if_pos c] at h; omega
      · rw [if_neg c] at h ⊢
        by_cases d : (dAt vs j).x < 0 ∨ 3 ≤ (dAt vs j).x
        · rw [if_pos d] at h; omega
        · rw [if_neg d] at h ⊢
          unfold lmE inR at h ⊢
          by_cases e : (decide (-100000 ≤ (dAt vs j).l) && decide ((dAt vs j).l ≤ 100000)) = true ∧ (decide (-100000 ≤ (dAt vs j).h) && decide ((dAt vs j).h ≤ 100000)) = true
          · rw [if_pos e] at h
            simp only [Bool.and_eq_true, decide_eq_true_iff] at e
            rw [if_pos (by simp only [Bool.and_eq_true, decide_eq_true_iff]; omega)]
            by_cases g : (dAt vs j).h < (dAt vs j).l
            · rw [if_pos g] at h; omega
            · rw [if_neg (by omega)]
          · rw [if_neg e] at h; omega
    · rw [if_neg b] at h; exact absurd h b
  · rw [if_neg a] at h; exact absurd h a
theorem tn_gi (hg : giE vs ax = 0) : giE (tn vs) ax = 0 := giE_of (by rw [tn_len]; exact (giE_all hg).1) (tn_va (giE_all hg).2) (giE_ax hg)
theorem Wk.rev {A A' : List Ar} (h : ∀ x ∈ A', ∃ y ∈ A, y.a = x.b ∧ y.b = x.a ∧ y.w = x.w) {a b k : Nat} {c : Int} (hw : Wk A' a b k c) : Wk A b a k c := by
  induction hw with
  | nil a => exact Wk.nil _
  | cons hx _ ih =>
    obtain ⟨y, hy, e1, e2, e3⟩ := h _ hx
    rw [← e1] at ih
    have h2 := ih.snoc hy
    rw [e2, e3, Int.add_comm] at h2
    exact h2
theorem tn_arcs : ∀ x ∈ arX (tn vs) ax, ∃ y ∈ arX vs ax, y.a = x.b ∧ y.b = x.a ∧ y.w = x.w := fun x hx => by
  obtain ⟨i, hi, e⟩ := arX_mem.1 hx
  have hi' := tn_onD.1 hi
  rw [tn_pF, tn_pT, tn_at] at e
  rcases e with rfl | rfl
  · exact ⟨_, arX_mem.2 ⟨i, hi', .inr rfl⟩, rfl, rfl, rfl⟩
  · exact ⟨_, arX_mem.2 ⟨i, hi', .inl rfl⟩, rfl, rfl, by show (dAt vs i).h = -(-(dAt vs i).h); omega⟩
theorem tn_arcs2 : ∀ x ∈ arX vs ax, ∃ y ∈ arX (tn vs) ax, y.a = x.b ∧ y.b = x.a ∧ y.w = x.w := fun x hx => by
  obtain ⟨i, hi, e⟩ := arX_mem.1 hx
  have hi' := tn_onD.2 hi
  rcases e with rfl | rfl
  · exact ⟨_, arX_mem.2 ⟨i, hi', .inr rfl⟩, congrFun tn_pT i, congrFun tn_pF i, by rw [tn_at]; show -(-(dAt vs i).h) = (dAt vs i).h; omega⟩
  · exact ⟨_, arX_mem.2 ⟨i, hi', .inl rfl⟩, congrFun tn_pF i, congrFun tn_pT i, by rw [tn_at]; rfl⟩
theorem tn_cf (hE : cfE vs ax = true) : cfE (tn vs) ax = true :=
  (cfE_iff _ _).2 fun a k c hw => (cfE_iff _ _).1 hE a k c (hw.rev tn_arcs)
theorem tn_wa (hE : cfE vs ax = true) {s t : ByteArray} (h : CnN vs ax s t) (hs : s ∈ nmG vs ax) (ht : t ∈ nmG vs ax) : waV (tn vs) ax s t = waV vs ax t s := by
  have hs' : s ∈ nmG (tn vs) ax := by rw [tn_nm]; exact hs
  have ht' : t ∈ nmG (tn vs) ax := by rw [tn_nm]; exact ht
  have to : ∀ c, NW (tn vs) ax s t c → NW vs ax t s c := fun c ⟨k, hw⟩ => ⟨k, by have h2 := hw.rev tn_arcs; rw [tn_nm] at h2; exact h2⟩
  have back : ∀ c, NW vs ax t s c → NW (tn vs) ax s t c := fun c ⟨k, hw⟩ => ⟨k, by have h2 := hw.rev tn_arcs2; rw [tn_nm]; exact h2⟩
  obtain ⟨c, hc⟩ := CnN.nw (Cn.symm h)
  exact waV_eq (tn_cf hE) hE hs' ht' ht hs ⟨c, back c hc⟩ (fun c h => ⟨c, Int.le_refl _, to c h⟩) (fun c h => ⟨c, Int.le_refl _, back c h⟩)
/-- The first name of a place's group. -/
def fsN (vs : List Dm) (ax : Int) (v : Nat) : ByteArray := kAt (nmG vs ax) (nAt (grG vs ax) v)
theorem fs_cn {v : Nat} (hv : v < (nmG vs ax).length) : fsN vs ax v ∈ nmG vs ax ∧ CnN vs ax (fsN vs ax v) (kAt (nmG vs ax) v) :=
  ⟨kAt_mem (grG_lt hv), CnP.names ((grG_eq (grG_lt hv) hv).1 (grG_idem hv))⟩
theorem so_at (hE : cfE vs ax = true) {v : Nat} (hv : v < (nmG vs ax).length) : psAt (soX vs ax) v = ⟨kAt (nmG vs ax) v, waV vs ax (fsN vs ax v) (kAt (nmG vs ax) v)⟩ := by
  have e : psAt (soX vs ax) v = poP vs ax v := by
    unfold psAt soX
    rw [List.getD_eq_getElem?_getD, List.getElem?_map, List.getElem?_range hv]; rfl
  rw [e, ← plP_is hE hv]
  unfold plP fsN
  rw [rcA_first hv]
theorem so_tn (hE : cfE vs ax = true) {v : Nat} (hv : v < (nmG vs ax).length) : psAt (soX (tn vs) ax) v = ⟨kAt (nmG vs ax) v, waV vs ax (kAt (nmG vs ax) v) (fsN vs ax v)⟩ := by
  have hv' : v < (nmG (tn vs) ax).length := by rw [tn_nm]; exact hv
  rw [so_at (tn_cf hE) hv']
  have e : fsN (tn vs) ax v = fsN vs ax v := by unfold fsN; rw [tn_nm, tn_gr]
  obtain ⟨h1, h2⟩ := fs_cn hv
  rw [e, tn_nm, tn_wa hE h2 h1 (kAt_mem hv)]
theorem dim_first {i : Nat} (hi : onD vs ax i) : fsN vs ax (pF vs ax i) = fsN vs ax (pT vs ax i) := by
  obtain ⟨h1, h2⟩ := onD_pos hi
  unfold fsN
  rw [(grG_eq h1 h2).2 (Cn.fwd (p := pF vs ax) (q := pT vs ax) .refl hi)]
/-- The positions keep the dimensions. -/
theorem kept_there (hE : cfE vs ax = true) : ∀ i, onD vs ax i → ∃ u v, u < (nmG vs ax).length ∧ v < (nmG vs ax).length ∧ (psAt (soX vs ax) u).n = (dAt vs i).f ∧ (psAt (soX vs ax) v).n = (dAt vs i).t ∧
    (dAt vs i).l ≤ 1 * (psAt (soX vs ax) v).a - 1 * (psAt (soX vs ax) u).a ∧ 1 * (psAt (soX vs ax) v).a - 1 * (psAt (soX vs ax) u).a ≤ (dAt vs i).h := fun i hi => by
  obtain ⟨h1, h2⟩ := onD_pos hi
  obtain ⟨g1, c1⟩ := fs_cn h1
  obtain ⟨g2, c2⟩ := fs_cn h2
  have hf := dim_first hi
  have e1 := pF_name hi
  have e2 := pT_name hi
  obtain ⟨m1, m2⟩ := nm_of_on hi
  obtain ⟨n1, n2⟩ := NW.one hi
  refine ⟨_, _, h1, h2, by rw [so_at hE h1]; exact e1, by rw [so_at hE h2]; exact e2, ?_⟩
  rw [so_at hE h1, so_at hE h2]
  dsimp only
  rw [e1] at c1 ⊢
  rw [e2] at c2 ⊢
  rw [hf] at c1 g1 ⊢
  obtain ⟨a, ha⟩ := c1.nw
  obtain ⟨b, hb⟩ := c2.nw
  have l1 := waV_min hE g1 m2 ((waV_walk hE g1 m1 ha).add n1)
  have l2 := waV_min hE g1 m1 ((waV_walk hE g1 m2 hb).add n2)
  omega
theorem kept_back (hE : cfE vs ax = true) : ∀ i, onD vs ax i → ∃ u v, u < (nmG vs ax).length ∧ v < (nmG vs ax).length ∧ (psAt (soX (tn vs) ax) u).n = (dAt vs i).f ∧ (psAt (soX (tn vs) ax) v).n = (dAt vs i).t ∧
    (dAt vs i).l ≤ -1 * (psAt (soX (tn vs) ax) v).a - -1 * (psAt (soX (tn vs) ax) u).a ∧ -1 * (psAt (soX (tn vs) ax) v).a - -1 * (psAt (soX (tn vs) ax) u).a ≤ (dAt vs i).h := fun i hi => by
  obtain ⟨h1, h2⟩ := onD_pos hi
  obtain ⟨g1, c1⟩ := fs_cn h1
  obtain ⟨g2, c2⟩ := fs_cn h2
  have hf := dim_first hi
  have e1 := pF_name hi
  have e2 := pT_name hi
  obtain ⟨m1, m2⟩ := nm_of_on hi
  obtain ⟨n1, n2⟩ := NW.one hi
  refine ⟨_, _, h1, h2, by rw [so_tn hE h1]; exact e1, by rw [so_tn hE h2]; exact e2, ?_⟩
  rw [so_tn hE h1, so_tn hE h2]
  dsimp only
  rw [e1] at c1 ⊢
  rw [e2] at c2 ⊢
  rw [hf] at c1 g1 ⊢
  obtain ⟨a, ha⟩ := CnN.nw (Cn.symm c1)
  obtain ⟨b, hb⟩ := CnN.nw (Cn.symm c2)
  have l1 := waV_min hE m1 g1 (n1.add (waV_walk hE m2 g1 hb))
  have l2 := waV_min hE m2 g1 (n2.add (waV_walk hE m1 g1 ha))
  omega
/-- The distances of a dimension. -/
theorem dist_dim (hg : giE vs ax = 0) (hE : cfE vs ax = true) {i : Nat} (hi : onD vs ax i) : ∃ lo hi', dsX vs ax (dAt vs i).f (dAt vs i).t = (lo, hi', 0) ∧ dsX vs ax (dAt vs i).t (dAt vs i).f = (-hi', -lo, 0) ∧ lo ≤ hi' ∧ (dAt vs i).l ≤ lo ∧ hi' ≤ (dAt vs i).h ∧ -51200000 ≤ lo ∧ hi' ≤ 51200000 := by
  obtain ⟨hne, hj⟩ := dim_joined hg hi
  obtain ⟨hf, ht, hc⟩ := jnX_iff.1 hj
  have hj' : jnX vs ax (dAt vs i).t (dAt vs i).f = true := jnX_iff.2 ⟨ht, hf, Cn.symm hc⟩
  obtain ⟨n1, n2⟩ := NW.one hi
  have l1 := waV_min hE hf ht n1
  have l2 := waV_min hE ht hf n2
  have w1 := waV_walk hE hf ht n1
  have w2 := waV_walk hE ht hf n2
  obtain ⟨k, hk⟩ := w1.add w2
  have h0 := (cfE_iff vs ax).1 hE _ _ _ hk
  have b1 := waV_bd (ax := ax) (s := (dAt vs i).t) (t := (dAt vs i).f) (giE_len hg) (giE_all hg).2
  have b2 := waV_bd (ax := ax) (s := (dAt vs i).f) (t := (dAt vs i).t) (giE_len hg) (giE_all hg).2
  exact ⟨-waV vs ax (dAt vs i).t (dAt vs i).f, waV vs ax (dAt vs i).f (dAt vs i).t, dsX_ok hg hE hne hj, by rw [dsX_ok hg hE (Ne.symm hne) hj', Int.neg_neg], by omega, by omega, by omega, by omega, by omega⟩
/-- The ends are attained. -/
theorem attain_row (hg : giE vs ax = 0) (hE : cfE vs ax = true) {i j : Nat} (hi : i < (nmG vs ax).length) (hj : j < (gsX vs ax).length) : 0 < (rAt (gsX vs ax) j).length ∧
    (kAt (rAt (gsX vs ax) j) 0 ≠ kAt (nmG vs ax) i → kAt (nmG vs ax) i ∈ rAt (gsX vs ax) j → dsX vs ax (kAt (rAt (gsX vs ax) j) 0) (kAt (nmG vs ax) i) = (-(psAt (soX (tn vs) ax) i).a, (psAt (soX vs ax) i).a, 0)) := by
  have hj' : j < (fsL vs ax (nmG vs ax).length).length := by unfold gsX at hj; rw [gsF_len] at hj; exact hj
  obtain ⟨f, hf⟩ : ∃ f, (fsL vs ax (nmG vs ax).length)[j] = f := ⟨_, rfl⟩
  have hfm : f ∈ fsL vs ax (nmG vs ax).length := by rw [← hf]; exact List.getElem_mem _
  obtain ⟨hfl, hff⟩ := fsL_mem.1 hfm
  have er : rAt (gsX vs ax) j = gmL vs ax (nmG vs ax).length f := by
    unfold gsX gsF rAt
    rw [List.getD_eq_getElem?_getD, List.getElem?_map, List.getElem?_eq_getElem hj', hf]; rfl
  rw [er]
  refine ⟨List.length_pos_of_mem (gmL_mem.2 ⟨f, hfl, hff, rfl⟩), fun hne hm => ?_⟩
  rw [gmL_first hfl hff] at hne ⊢
  obtain ⟨v, h1, h2, h3⟩ := gmL_mem.1 hm
  have hvi : v = i := by rw [← pos_kAt (nmG_nodup vs ax) h1, h3, pos_kAt (nmG_nodup vs ax) hi]
  subst hvi
  obtain ⟨g1, c1⟩ := fs_cn hi
  have e : fsN vs ax v = kAt (nmG vs ax) f := by unfold fsN; rw [h2]
  rw [so_at hE hi, so_tn hE hi, e]
  rw [e] at c1 g1
  exact dsX_ok hg hE hne (jnX_iff.2 ⟨g1, kAt_mem hi, c1⟩)
end
end Go.Proofs.Ytlgjhjgdmomfoaa
