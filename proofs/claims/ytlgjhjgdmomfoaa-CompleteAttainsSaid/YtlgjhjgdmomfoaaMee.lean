/- Distances by walks between names; what an implied dimension means. No program in sight. The walks of right, of slices.Contains, and of the law CompleteImplies. (Printed by gen_implaw.py.) -/
import Derived.Test.YtlgjhjgdmomfoaaMdx
import Derived.Test.YtlgjhjgdmomfoaaDza
import Derived.Test.YtlgjhjgdmomfoaaEa
namespace Go.Proofs.Ytlgjhjgdmomfoaa
open Go.RowKit Go.Maps

/-- A walk from name to name. -/
def NW (vs : List Dm) (ax : Int) (s t : ByteArray) (c : Int) : Prop := ∃ k, Wk (arX vs ax) (pos (nmG vs ax) s) (pos (nmG vs ax) t) k c
theorem waV_min {vs : List Dm} {ax : Int} {s t : ByteArray} {c : Int} (hE : cfE vs ax = true) (hs : s ∈ nmG vs ax) (ht : t ∈ nmG vs ax) (h : NW vs ax s t c) : waV vs ax s t ≤ c := by
  obtain ⟨k, h⟩ := h
  obtain ⟨d, h1, h2⟩ := wayF_min ((cfE_iff vs ax).1 hE) (arX_within vs ax) (pos_lt hs) h
  rw [waV_is hs ht]
  unfold wayN
  rw [h1]; exact h2
theorem waV_walk {vs : List Dm} {ax : Int} {s t : ByteArray} {c : Int} (hE : cfE vs ax = true) (hs : s ∈ nmG vs ax) (ht : t ∈ nmG vs ax) (h : NW vs ax s t c) : NW vs ax s t (waV vs ax s t) := by
  obtain ⟨k, h⟩ := h
  obtain ⟨d, h1, h2⟩ := wayF_min ((cfE_iff vs ax).1 hE) (arX_within vs ax) (pos_lt hs) h
  obtain ⟨k', h3⟩ := wayF_walk h1
  rw [waV_is hs ht]
  unfold wayN
  rw [h1]; exact ⟨k', h3⟩
theorem waV_eq {vs us : List Dm} {ax : Int} {s t p q : ByteArray} (hE : cfE vs ax = true) (hE' : cfE us ax = true) (hs : s ∈ nmG vs ax) (ht : t ∈ nmG vs ax) (hp : p ∈ nmG us ax) (hq : q ∈ nmG us ax)
    (h0 : ∃ c, NW vs ax s t c) (h1 : ∀ c, NW vs ax s t c → ∃ d, d ≤ c ∧ NW us ax p q d) (h2 : ∀ c, NW us ax p q c → ∃ d, d ≤ c ∧ NW vs ax s t d) : waV vs ax s t = waV us ax p q := by
  obtain ⟨c, h0⟩ := h0
  have w1 := waV_walk hE hs ht h0
  obtain ⟨d, hd, h3⟩ := h1 _ w1
  have w2 := waV_walk hE' hp hq h3
  have l1 := waV_min hE' hp hq h3
  obtain ⟨e, he, h4⟩ := h2 _ w2
  have l2 := waV_min hE hs ht h4
  omega
theorem CnN.nw {vs : List Dm} {ax : Int} {s t : ByteArray} (h : CnN vs ax s t) : ∃ c, NW vs ax s t c := by
  obtain ⟨k, c, h1⟩ := h.places.walk
  exact ⟨c, k, h1⟩
theorem NW.one {vs : List Dm} {ax : Int} {i : Nat} (h : onD vs ax i) : NW vs ax (dAt vs i).f (dAt vs i).t (dAt vs i).h ∧ NW vs ax (dAt vs i).t (dAt vs i).f (-(dAt vs i).l) :=
  ⟨⟨1, Wk.one (x := uAr vs ax i) (arX_mem.2 ⟨i, h, .inl rfl⟩)⟩, ⟨1, Wk.one (x := vAr vs ax i) (arX_mem.2 ⟨i, h, .inr rfl⟩)⟩⟩
theorem NW.add {vs : List Dm} {ax : Int} {s t p : ByteArray} {c d : Int} (h : NW vs ax s t c) (h2 : NW vs ax t p d) : NW vs ax s p (c + d) := by
  obtain ⟨k, h⟩ := h
  obtain ⟨m, h2⟩ := h2
  exact ⟨_, h.append h2⟩
/-- Walks of one list, arc by arc, by walks of another. -/
theorem Wk.sub {A A' : List Ar} {f : Nat → Nat} (h : ∀ x ∈ A', ∃ c k, c ≤ x.w ∧ Wk A (f x.a) (f x.b) k c) {a b k : Nat} {c : Int} (hw : Wk A' a b k c) : ∃ c' k', c' ≤ c ∧ Wk A (f a) (f b) k' c' := by
  induction hw with
  | nil a => exact ⟨0, 0, Int.le_refl _, Wk.nil _⟩
  | cons hx _ ih =>
    obtain ⟨c1, k1, h1, h2⟩ := h _ hx
    obtain ⟨c2, k2, h3, h4⟩ := ih
    exact ⟨c1 + c2, k1 + k2, by omega, h2.append h4⟩
theorem NW.sub {vs us : List Dm} {ax : Int} (h : ∀ i, onD vs ax i → (∃ d, d ≤ (dAt vs i).h ∧ NW us ax (dAt vs i).f (dAt vs i).t d) ∧ (∃ d, d ≤ -(dAt vs i).l ∧ NW us ax (dAt vs i).t (dAt vs i).f d))
    {s t : ByteArray} {c : Int} (hs : s ∈ nmG vs ax) (ht : t ∈ nmG vs ax) (hw : NW vs ax s t c) : ∃ d, d ≤ c ∧ NW us ax s t d := by
  obtain ⟨k, hw⟩ := hw
  have h2 := hw.sub (A := arX us ax) (f := fun p => pos (nmG us ax) (kAt (nmG vs ax) p)) (fun x hx => by
    obtain ⟨i, hi, e⟩ := arX_mem.1 hx
    obtain ⟨⟨d, hd, k1, w1⟩, ⟨d', hd', k2, w2⟩⟩ := h i hi
    rcases e with rfl | rfl
    · refine ⟨d, k1, hd, ?_⟩
      dsimp only
      rw [pF_name hi, pT_name hi]; exact w1
    · refine ⟨d', k2, hd', ?_⟩
      dsimp only
      rw [pF_name hi, pT_name hi]; exact w2)
  obtain ⟨c', k', h3, h4⟩ := h2
  rw [kAt_pos hs, kAt_pos ht] at h4
  exact ⟨c', h3, k', h4⟩
theorem dsX_ok {vs : List Dm} {ax : Int} {s t : ByteArray} (hg : giE vs ax = 0) (hE : cfE vs ax = true) (hne : s ≠ t) (hj : jnX vs ax s t = true) : dsX vs ax s t = (-waV vs ax t s, waV vs ax s t, 0) := by
  obtain ⟨hs, ht, _⟩ := jnX_iff.1 hj
  unfold dsX
  rw [if_pos hg, if_pos (by rw [inK_iff.2 hs, inK_iff.2 ht]; rfl), if_neg (fun h => hne (sameD_iff.1 h)), if_pos hj, if_pos hE, spL_way hE hj, spH_way hE hj]
theorem dsX_apart {vs : List Dm} {ax : Int} {s t : ByteArray} (hg : giE vs ax = 0) (hne : s ≠ t) (hj : jnX vs ax s t = false) : dsX vs ax s t = (0, 0, if (inK (nmG vs ax) s && inK (nmG vs ax) t) = true then 13 else 6) := by
  unfold dsX
  rw [if_pos hg]
  by_cases h : (inK (nmG vs ax) s && inK (nmG vs ax) t) = true
  · rw [if_pos h, if_pos h, if_neg (fun h => hne (sameD_iff.1 h)), if_neg (by rw [hj]; simp)]
  · rw [if_neg h, if_neg h]
/-- The dimensions along the axis that are left. -/
theorem giF_run (vs : List Dm) (h : ∀ j, j < vs.length → vaE (dAt vs j) = 0) : ∀ m i, i + m ≤ vs.length → loopE (giF vs) m i () = .inl ()
  | 0, i, _ => by rw [loopE]
  | m + 1, i, hm => by
    have e : giF vs i () = .inl () := by unfold giF; rw [if_pos (h i (by omega))]
    rw [loopE, e]; exact giF_run vs h m (i + 1) (by omega)
theorem giE_of {vs : List Dm} {ax : Int} (hl : vs.length ≤ 256) (h : ∀ j, j < vs.length → vaE (dAt vs j) = 0) (hx : axE ax = 0) : giE vs ax = 0 := by
  unfold giE
  rw [if_neg (by omega), giF_run vs h vs.length 0 (by omega)]; exact hx
theorem giE_ax {vs : List Dm} {ax : Int} (h : giE vs ax = 0) : axE ax = 0 := by
  obtain ⟨hl, ha⟩ := giE_all h
  unfold giE at h
  rw [if_neg (by omega), giF_run vs ha vs.length 0 (by omega)] at h; exact h
theorem vaE_ax {v : Dm} (h : vaE v = 0) : axE v.x = 0 := by
  unfold vaE at h
  unfold axE
  by_cases a : nmE v.f = 0
  · rw [if_pos a] at h
    by_cases b : nmE v.t = 0
    · rw [if_pos b] at h
      split at h
      · omega
      · split at h
        · omega
        · rename_i hh; rw [if_neg hh]
    · rw [if_neg b] at h; exact absurd h b
  · rw [if_neg a] at h; exact absurd h a
theorem giE_wo {vs : List Dm} {ax : Int} {k : Nat} (hk : k < vs.length) (h : giE vs ax = 0) : giE (wo vs k) ax = 0 := by
  obtain ⟨hl, ha⟩ := giE_all h
  exact giE_of (by have := wo_len hk; omega) (wo_all (Q := fun d => vaE d = 0) hk ha) (giE_ax h)
theorem wo_back {vs : List Dm} {k i : Nat} {ax : Int} (hk : k < vs.length) (hi : onD vs ax i) (hne : i ≠ k) : ∃ j, onD (wo vs k) ax j ∧ dAt (wo vs k) j = dAt vs i := by
  have hl := wo_len hk
  have h1 := hi.1
  by_cases e : i < k
  · have h2 := wo_at hk (show i < (wo vs k).length by omega)
    rw [if_pos e] at h2
    exact ⟨i, ⟨by omega, by rw [h2]; exact hi.2⟩, h2⟩
  · have h2 := wo_at hk (show i - 1 < (wo vs k).length by omega)
    rw [if_neg (by omega), show i - 1 + 1 = i by omega] at h2
    exact ⟨i - 1, ⟨by omega, by rw [h2]; exact hi.2⟩, h2⟩
theorem nm_of_on {vs : List Dm} {ax : Int} {i : Nat} (h : onD vs ax i) : (dAt vs i).f ∈ nmG vs ax ∧ (dAt vs i).t ∈ nmG vs ax :=
  ⟨(onA_names (onD_iff.1 h)).2.1, (onA_names (onD_iff.1 h)).2.2⟩
theorem nmG_mem {vs : List Dm} {ax : Int} {s : ByteArray} : s ∈ nmG vs ax ↔ ∃ i, onD vs ax i ∧ (s = (dAt vs i).f ∨ s = (dAt vs i).t) := by
  unfold nmG
  rw [sortU_mem, rawN_mem]
  exact ⟨fun ⟨i, a, b, c⟩ => ⟨i, ⟨a, b⟩, c⟩, fun ⟨i, a, c⟩ => ⟨i, a.1, a.2, c⟩⟩
theorem wo_names {vs : List Dm} {ax : Int} {k : Nat} (hk : k < vs.length) {s : ByteArray} (h : s ∈ nmG (wo vs k) ax) : s ∈ nmG vs ax := by
  obtain ⟨j, hj, e⟩ := nmG_mem.1 h
  obtain ⟨i, hi, hd⟩ := wo_on hk ax j hj
  rw [hd] at e
  exact nmG_mem.2 ⟨i, hi, e⟩
theorem wo_nw {vs : List Dm} {ax : Int} {k : Nat} (hk : k < vs.length) {s t : ByteArray} {c : Int} (hs : s ∈ nmG (wo vs k) ax) (ht : t ∈ nmG (wo vs k) ax) (h : NW (wo vs k) ax s t c) : ∃ d, d ≤ c ∧ NW vs ax s t d :=
  NW.sub (fun j hj => by
    obtain ⟨i, hi, hd⟩ := wo_on hk ax j hj
    rw [hd]
    obtain ⟨h1, h2⟩ := NW.one hi
    exact ⟨⟨_, Int.le_refl _, h1⟩, ⟨_, Int.le_refl _, h2⟩⟩) hs ht h
section
variable {vs : List Dm} {ax : Int} {k : Nat}
theorem dim_joined (hg : giE vs ax = 0) (hk : onD vs ax k) : (dAt vs k).f ≠ (dAt vs k).t ∧ jnX vs ax (dAt vs k).f (dAt vs k).t = true := by
  obtain ⟨h1, h2⟩ := nm_of_on hk
  refine ⟨va_ne ((giE_all hg).2 k hk.1), jnX_iff.2 ⟨h1, h2, Cn.fwd (p := fun i => (dAt vs i).f) (q := fun i => (dAt vs i).t) .refl hk⟩⟩
/-- A dimension that is not implied. -/
theorem implies_no (hg : giE vs ax = 0) (hk : onD vs ax k) (hcf : cfE vs ax = true) (hq : imQ vs ax k = false) :
    (dsX (wo vs k) ax (dAt vs k).f (dAt vs k).t).2.2 = 6 ∨ (dsX (wo vs k) ax (dAt vs k).f (dAt vs k).t).2.2 = 13 ∨
    ((dsX (wo vs k) ax (dAt vs k).f (dAt vs k).t).2.2 = 0 ∧ ((dsX (wo vs k) ax (dAt vs k).f (dAt vs k).t).1 < (dsX vs ax (dAt vs k).f (dAt vs k).t).1 ∨ (dsX vs ax (dAt vs k).f (dAt vs k).t).2.1 < (dsX (wo vs k) ax (dAt vs k).f (dAt vs k).t).2.1)) := by
  obtain ⟨hne, hj⟩ := dim_joined hg hk
  obtain ⟨hf, ht⟩ := nm_of_on hk
  have hg' := giE_wo hk.1 hg
  have hcf' := cfE_wo hk.1 hcf
  have hv := dsX_ok hg hcf hne hj
  obtain ⟨n1, n2⟩ := NW.one hk
  have b1 := waV_min hcf hf ht n1
  have b2 := waV_min hcf ht hf n2
  cases hJ : jnX (wo vs k) ax (dAt vs k).f (dAt vs k).t with
  | false =>
    rw [dsX_apart hg' hne hJ]
    dsimp only
    split
    · exact .inr (.inl rfl)
    · exact .inl rfl
  | true =>
    have hw := dsX_ok hg' hcf' hne hJ
    unfold imQ at hq
    rw [show ((dAt vs k).x == ax) = true by simpa using hk.2, hJ, Bool.true_and, Bool.true_and, spL_way hcf' hJ, spH_way hcf' hJ, Bool.and_eq_false_iff, decide_eq_false_iff_not, decide_eq_false_iff_not] at hq
    rw [hv, hw]
    refine .inr (.inr ⟨rfl, ?_⟩)
    dsimp only
    omega
/-- An implied one. -/
theorem implies_yes (hg : giE vs ax = 0) (hk : onD vs ax k) (hcf : cfE vs ax = true) (hq : imQ vs ax k = true) :
    ∀ a b, a ∈ nmG (wo vs k) ax → b ∈ nmG (wo vs k) ax → a ≠ b → dsX vs ax a b = dsX (wo vs k) ax a b := by
  obtain ⟨hne, hj⟩ := dim_joined hg hk
  have hg' := giE_wo hk.1 hg
  have hcf' := cfE_wo hk.1 hcf
  unfold imQ at hq
  rw [Bool.and_eq_true, Bool.and_eq_true, Bool.and_eq_true, decide_eq_true_iff, decide_eq_true_iff] at hq
  obtain ⟨_, hJ, hl, hh⟩ := hq
  rw [spL_way hcf' hJ] at hl
  rw [spH_way hcf' hJ] at hh
  obtain ⟨jf, jt, jc⟩ := jnX_iff.1 hJ
  obtain ⟨c1, w1⟩ := jc.nw
  obtain ⟨c2, w2⟩ := CnN.nw (Cn.symm jc)
  have w1 := waV_walk hcf' jf jt w1
  have w2 := waV_walk hcf' jt jf w2
  have hsub : ∀ i, onD vs ax i → (∃ d, d ≤ (dAt vs i).h ∧ NW (wo vs k) ax (dAt vs i).f (dAt vs i).t d) ∧ (∃ d, d ≤ -(dAt vs i).l ∧ NW (wo vs k) ax (dAt vs i).t (dAt vs i).f d) := fun i hi => by
    by_cases e : i = k
    · subst e; exact ⟨⟨_, hh, w1⟩, ⟨_, by omega, w2⟩⟩
    · obtain ⟨j, hj, hd⟩ := wo_back hk.1 hi e
      rw [← hd]
      obtain ⟨h1, h2⟩ := NW.one hj
      exact ⟨⟨_, Int.le_refl _, h1⟩, ⟨_, Int.le_refl _, h2⟩⟩
  intro a b ha hb hab
  have ha' := wo_names hk.1 ha
  have hb' := wo_names hk.1 hb
  have hjj : jnX vs ax a b = jnX (wo vs k) ax a b := by
    rw [Bool.eq_iff_iff, jnX_iff, jnX_iff]
    constructor
    · rintro ⟨_, _, hc⟩
      refine ⟨ha, hb, ?_⟩
      exact hc.shut (S := fun x => CnN (wo vs k) ax a x) .refl (fun i hi => by
        by_cases e : i = k
        · subst e; exact ⟨fun h => h.trans jc, fun h => h.trans jc.symm⟩
        · obtain ⟨j, hj, hd⟩ := wo_back hk.1 hi e
          rw [← hd]
          exact ⟨fun h => Cn.fwd (p := fun i => (dAt (wo vs k) i).f) (q := fun i => (dAt (wo vs k) i).t) h hj, fun h => Cn.bwd (p := fun i => (dAt (wo vs k) i).f) (q := fun i => (dAt (wo vs k) i).t) h hj⟩)
    · rintro ⟨_, _, hc⟩
      refine ⟨ha', hb', ?_⟩
      exact hc.shut (S := fun x => CnN vs ax a x) .refl (fun j hj => by
        obtain ⟨i, hi, hd⟩ := wo_on hk.1 ax j hj
        rw [hd]
        exact ⟨fun h => Cn.fwd (p := fun i => (dAt vs i).f) (q := fun i => (dAt vs i).t) h hi, fun h => Cn.bwd (p := fun i => (dAt vs i).f) (q := fun i => (dAt vs i).t) h hi⟩)
  cases hJ2 : jnX (wo vs k) ax a b with
  | false =>
    rw [dsX_apart hg hab (hjj.trans hJ2), dsX_apart hg' hab hJ2, inK_iff.2 ha, inK_iff.2 hb, inK_iff.2 ha', inK_iff.2 hb']
  | true =>
    have hJ3 := hjj.trans hJ2
    rw [dsX_ok hg hcf hab hJ3, dsX_ok hg' hcf' hab hJ2]
    have hc := (jnX_iff.1 hJ3).2.2
    rw [waV_eq hcf hcf' ha' hb' ha hb hc.nw (fun c h => NW.sub hsub ha' hb' h) (fun c h => wo_nw hk.1 ha hb h), waV_eq hcf hcf' hb' ha' hb ha (CnN.nw (Cn.symm hc)) (fun c h => NW.sub hsub hb' ha' h) (fun c h => wo_nw hk.1 hb ha h)]
end
theorem imF_mem {vs : List Dm} {ax : Int} {k : Nat} : ∀ n, k ∈ imF vs ax n ↔ k < n ∧ imQ vs ax k = true
  | 0 => by simp [imF]
  | n + 1 => by
    have ih := imF_mem (vs := vs) (ax := ax) (k := k) n
    rw [imF]
    by_cases e : imQ vs ax n = true
    · rw [if_pos e, List.mem_append, ih, List.mem_singleton]
      constructor
      · rintro (⟨h1, h2⟩ | rfl)
        · exact ⟨by omega, h2⟩
        · exact ⟨by omega, e⟩
      · rintro ⟨h1, h2⟩
        by_cases e2 : k = n
        · exact .inr e2
        · exact .inl ⟨by omega, h2⟩
    · rw [if_neg e, ih]
      constructor
      · rintro ⟨h1, h2⟩; exact ⟨by omega, h2⟩
      · rintro ⟨h1, h2⟩
        refine ⟨?_, h2⟩
        by_cases e2 : k = n
        · subst e2; exact absurd h2 e
        · omega
end Go.Proofs.Ytlgjhjgdmomfoaa
namespace Go.Proofs.Ytlgjhjgdmomfoaa
open Go.RowKit Go.Maps

def rtB (vs : List Dm) (ax : Int) : Bool := fw22 vs && (giE vs ax == 0)
set_option maxRecDepth 100000 in
set_option maxHeartbeats 4000000 in
theorem right22_any (ao : Option Addr) (vs : List Dm) (c : Nat) (ax : Int) (w : World) (R : Ending → World → Prop) (hl : vs.length ≤ 9223372036854775807) (hc : CellsAt w ao (dC vs)) (hv : DmsOk vs)
   (hR : ∀ w', Below w.heap.size w w' → R (.returned (.bool (rtB vs ax))) w') :
    Calls Try.prog 32 #[.slice ao vs.length c, .int .i64 ax] w R := by
  have HR := Lib.hid hR
  have HC := Lib.hid hc
  have HV := Lib.hid hv
  clear hR hc hv
  have hb0 : Hid (rtB vs ax = (fw22 vs && (giE vs ax == 0))) := rfl
  obtain ⟨F, hF⟩ : ∃ F, fw22 vs = F := ⟨_, rfl⟩
  obtain ⟨E, hE⟩ : ∃ E, giE vs ax = E := ⟨_, rfl⟩
  rw [hF, hE] at hb0
  have HF := Lib.hid hF
  have HE := Lib.hid hE
  clear hF hE
  go_enter Try.func32, Try.ntmps32
  go_wp2_with fail
  refine rfew22_any ao vs c _ _ hl HC.out HV.out ?_
  rw [HF.out]
  intro w1 hb
  have HB1 := Lib.hid hb
  have s1 := hb.size
  clear hb
  cases F with
  | false =>
    go_wp2_with fail
    have h := HR.out w1 HB1.out
    rw [hb0.out] at h; exact h
  | true =>
    go_wp2_with fail
    refine rgiven_any ao vs c ax _ _ hl (HC.out.below HB1.out) HV.out ?_
    rw [HE.out]
    intro w2 hb
    have HB2 := Lib.hid (HB1.out.trans (hb.mono s1))
    clear hb
    go_wp2_with fail
    have h := HR.out w2 HB2.out
    rw [hb0.out] at h; exact h
theorem contI_any (ao : Option Addr) (is : List Nat) (n c k : Nat) (b : Bool) (w : World) (R : Ending → World → Prop) (hn : is.length = n) (hl : n ≤ 1000000) (hb : decide (k ∈ is) = b) (hc : CellsAt w ao (dI is)) (hR : R (.returned (.bool b)) w) :
    Calls Try.prog 37 #[.slice ao n c, .int .i64 k] w R := by
  subst hn hb
  by_cases h0 : is.length = 0
  · rw [h0]
    obtain rfl := List.length_eq_zero_iff.1 h0
    refine (Try.slices_Contains_int_empty ao c k w).mono ?_
    rintro e w' ⟨rfl, rfl⟩
    simpa using hR
  · obtain ⟨b, o, rfl, _, _⟩ := hc (by rw [dI_length]; omega)
    refine (Try.slices_Contains_int b o is.length c (is.map fun (y : Nat) => (y : Int)) k w (by simp) (by omega) (fun j hj => ?_)).mono ?_
    · rw [List.length_map] at hj
      refine hc.get rfl ?_
      show (I64s (is.map fun (y : Nat) => (y : Int)))[j]? = _
      unfold I64s
      rw [List.getElem?_map, List.getElem?_eq_getElem (by simpa using hj), List.getD_eq_getElem?_getD, List.getElem?_eq_getElem (by simpa using hj)]; rfl
    · rintro e w' ⟨rfl, rfl⟩
      have e2 : ((is.map fun (y : Nat) => (y : Int)).take is.length).contains (k : Int) = decide (k ∈ is) := by
        rw [Bool.eq_iff_iff, List.contains_iff_mem, decide_eq_true_iff, List.take_of_length_le (by simp), List.mem_map]
        exact ⟨fun ⟨y, h1, h2⟩ => by have : y = k := by omega
                                     rw [← this]; exact h1, fun h => ⟨k, h, rfl⟩⟩
      rw [e2]; exact hR
theorem distN_any (ao : Option Addr) (vs : List Dm) (n c : Nat) (ax : Int) (s t : ByteArray) (d1 d2 d3 : Int) (w : World) (R : Ending → World → Prop) (hn : vs.length = n) (hl : n ≤ 9223372036854775807) (hc : CellsAt w ao (dC vs)) (hv : DmsOk vs) (hs : s.size ≤ 9223372036854775807) (ht : t.size ≤ 9223372036854775807)
   (hd : dsX vs ax s t = (d1, d2, d3))
   (hR : ∀ w', Below w.heap.size w w' → R (.returned (.tuple #[.agg #[.int .i64 d1, .int .i64 d2], .int .i64 d3])) w') :
    Calls Try.prog 14 #[.slice ao n c, .string s, .string t, .int .i64 ax] w R := by
  subst hn
  refine distance_any ao vs c ax s t w R hl hc hv hs ht ?_
  rw [hd]; exact hR
theorem namesN_any (ao : Option Addr) (vs : List Dm) (n c : Nat) (ax : Int) (w : World) (R : Ending → World → Prop) (hn : vs.length = n) (hl : n ≤ 9223372036854775807) (hc : CellsAt w ao (dC vs)) (hv : DmsOk vs) (hg : giE vs ax = 0)
   (hR : ∀ a c' w', Below w.heap.size w w' → CellsAt w' a (sC (nmG vs ax)) → R (.returned (.tuple #[.slice a (nmG vs ax).length c', .int .i64 0])) w') :
    Calls Try.prog 24 #[.slice ao n c, .int .i64 ax] w R := by
  subst hn
  refine names22_any ao vs c ax w R hl hc hv fun a n c' w' hb hn hk => ?_
  have e : nmX vs ax = nmG vs ax := by unfold nmX; rw [if_pos hg]
  rw [e] at hn hk
  subst hn
  rw [hg]; exact hR a c' w' hb hk
set_option maxRecDepth 100000 in
set_option maxHeartbeats 16000000 in
theorem lawImplies_any (ao : Option Addr) (vs : List Dm) (c : Nat) (m : Nat) (w : World) (R : Ending → World → Prop) (hl : vs.length ≤ 9223372036854775807) (hm : m ≤ 255) (hc : CellsAt w ao (dC vs)) (hv : DmsOk vs)
   (hR : ∀ w', Below w.heap.size w w' → R (.returned (.bool true)) w') :
    Calls Try.prog 8 #[.slice ao vs.length c, .int .u8 m] w R := by
  have HR := Lib.hid hR
  have D := Lib.hid hc
  have HV := Lib.hid hv
  clear hR hc hv
  obtain ⟨F, hF⟩ : ∃ F, Hid (rtB vs 0 = F) := ⟨_, rfl⟩
  have U0 : Hid (Below w.heap.size w w) := Below.refl _ _
  go_enter Try.func8, Try.ntmps8
  go_wp2_with fail
  refine right22_any ao vs c 0 _ _ hl D.out HV.out ?_
  rw [hF.out]
  intro w1 hb
  have U1 := Lib.hid (U0.out.trans (hb.mono U0.out.size))
  have D := Lib.hid (D.out.below hb)
  clear hb
  cases F with
  | false =>
    go_wp2_with fail
    refine awake22_any _ _ ?_
    intro w2 hb
    have U2 := Lib.hid (U1.out.trans (hb.mono U1.out.size))
    clear hb
    go_wp2_with fail
    exact HR.out _ U2.out
  | true =>
    by_cases hz : vs.length = 0
    · have e0 : ((vs.length : Int) == 0) = true := by rw [hz]; rfl
      go_wp2_with fail
      refine awake22_any _ _ ?_
      intro w2 hb
      have U2 := Lib.hid (U1.out.trans (hb.mono U1.out.size))
      clear hb
      go_wp2_with fail
      exact HR.out _ U2.out
    · have e0 : ((vs.length : Int) == 0) = false := by rw [beq_eq_false_iff_ne]; omega
      have hFB := hF.out
      unfold rtB at hFB
      rw [Bool.and_eq_true, beq_iff_eq] at hFB
      obtain ⟨hfw, hg0⟩ := hFB
      obtain ⟨hl2, hva⟩ := giE_all hg0
      have hkl : m % vs.length < vs.length := Nat.mod_lt _ (by omega)
      have hm1 : Hid (Int.tmod (m : Int) (vs.length : Int) = ((m % vs.length : Nat) : Int)) := by unfold Hid; rw [Int.tmod_eq_emod_of_nonneg (by omega)]; omega
      obtain ⟨k, hk⟩ : ∃ k, m % vs.length = k := ⟨_, rfl⟩
      rw [hk] at hkl hm1
      have e1 := hm1.out
      have e2 : (m : Int) % (vs.length : Int) = (k : Int) := by rw [← hk]; omega
      have e3 : ¬ ((vs.length : Int) = 0) := by omega
      have e4 : IntKind.i64.wrap (m : Int) = (m : Int) := by rw [IntKind.wrap_i64]; omega
      have e5 : (0 : Int) ≤ (k : Int) := by omega
      have e6 : (k : Int) < (vs.length : Int) := by omega
      obtain ⟨b, o, rfl, hbb, hcell⟩ := D.out.dms (by omega)
      obtain ⟨d0, d1, d2, d3, d4⟩ := hcell k hkl
      have hon : onD vs (dAt vs k).x k := ⟨hkl, rfl⟩
      have hg : giE vs (dAt vs k).x = 0 := giE_of hl2 hva (vaE_ax (hva k hkl))
      have hok := HV.out k hkl
      have HVA := Lib.hid hva
      have Pno := Lib.hid (implies_no hg hon)
      have Pyes := Lib.hid (implies_yes hg hon)
      have Pgw := Lib.hid (giE_wo hkl hg)
      have Pdj := Lib.hid (dim_joined hg hon)
      have Pok := Lib.hid (fun h1 h2 h3 => dsX_ok (s := (dAt vs k).f) (t := (dAt vs k).t) hg h1 h2 h3)
      have Pmem := Lib.hid (imF_mem (vs := vs) (ax := (dAt vs k).x) (k := k) vs.length)
      have Pjn : Hid (imQ vs (dAt vs k).x k = true → (dAt vs k).f ∈ nmG (wo vs k) (dAt vs k).x ∧ (dAt vs k).t ∈ nmG (wo vs k) (dAt vs k).x) := fun h => by
        unfold imQ at h
        rw [Bool.and_eq_true, Bool.and_eq_true] at h
        obtain ⟨h1, h2, _⟩ := jnX_iff.1 h.2.1
        exact ⟨h1, h2⟩
      have hXE : Hid (imE vs (dAt vs k).x = if cfE vs (dAt vs k).x = true then 0 else 16) := by unfold Hid imE; rw [if_pos hg]
      have hXI : Hid (cfE vs (dAt vs k).x = true → imX vs (dAt vs k).x = imF vs (dAt vs k).x vs.length) := fun h => by unfold imX; rw [if_pos hg, if_pos h]
      obtain ⟨u, hu⟩ : ∃ u, dAt vs k = u := ⟨_, rfl⟩
      rw [hu] at d0 d1 d2 d3 d4 hok Pno Pyes Pgw Pdj Pok Pmem Pjn hXE hXI
      have imL := imX_len vs u.x
      clear hcell hk hu hon hfw hg0 hg hva hm1
      obtain ⟨w2, E2, B2, s2, X⟩ := box_ex w1 #[.string u.f, .string u.t, .int .i64 u.x, .int .i64 u.l, .int .i64 u.h] 73
      have hb := B2.out
      have U2 := Lib.hid (U1.out.trans (hb.mono U1.out.size))
      have D := Lib.hid (D.out.below hb)
      clear hb B2
      have q0 := cell_of X.out (j := 0) (v := .string u.f) rfl
      have q1 := cell_of X.out (j := 1) (v := .string u.t) rfl
      have q2 := cell_of X.out (j := 2) (v := .int .i64 u.x) rfl
      go_wp2_with (rw [E2])
      refine impliedY_any _ vs c u.x _ _ hl D.out HV.out ?_
      intro a3 c3 w3 hb hI3
      have U3 := Lib.hid (U2.out.trans (hb.mono U2.out.size))
      have D := Lib.hid (D.out.below hb)
      have X := Lib.hid (blk_box X.out hb (lt_of_block X.out))
      have I3 := Lib.hid hI3
      clear hb hI3
      clear E2 d0 d1 d2 d3 d4
      cases hcf : cfE vs u.x with
      | false =>
        have hE : imE vs u.x = 16 := by rw [hXE.out, if_neg (by rw [hcf]; simp)]
        rw [hE]
        clear hE
        go_wp2_with fail
        refine awake22_any _ _ ?_
        intro w4 hb
        have U4 := Lib.hid (U3.out.trans (hb.mono U3.out.size))
        clear hb
        go_wp2_with fail
        exact HR.out _ U4.out
      | true =>
        have hE : imE vs u.x = 0 := by rw [hXE.out, if_pos hcf]
        have hI := hXI.out hcf
        have Hcf := Lib.hid hcf
        rw [hE]
        have I3 := I3.out
        rw [hI] at I3 imL ⊢
        have I3 := Lib.hid I3
        have D3 := D
        have I33 := I3
        have X33 := X
        clear hE hI hcf hXE hXI
        go_wp2_with fail
        refine cloneD_any (some ⟨b, o, none⟩) vs c _ _ (by omega) (fun e => by cases e) D.out ?_
        intro v4 w4 hb hO4
        have hb34 := hb
        have U4 := Lib.hid (U3.out.trans (hb.mono U3.out.size))
        have D := Lib.hid (D.out.below hb)
        have X := Lib.hid (blk_box X.out hb (lt_of_block X.out))
        have I3 := Lib.hid (I3.out.below hb)
        rcases hO4.2 with ⟨_, h1⟩ | ⟨g, cap, cur, rfl, hgb, hgg, h1, h2, h3, h4⟩
        · omega
        clear hO4
        clear hb
        have K34 := Lib.hid hb34
        clear hb34
        have h5 : cap ≤ 9223372036854775807 := Nat.le_trans h2 (by decide)
        have w34 := U4.out.size
        have e7 : IntKind.i64.wrap ((k : Int) + 1) = (k : Int) + 1 := by rw [IntKind.wrap_i64]; omega
        have hlo3 : w.heap.size ≤ w3.heap.size := U3.out.size
        go_wp2_with fail
        refine del22_any g cap k cur vs _ _ hkl (by omega) h1 h5 hgg (by omega) h4 ?_
        intro w5 hb hcw
        have hb3 : Below w3.heap.size w3 w5 := K34.out.trans (hb.mono hgb)
        have U5 := Lib.hid (U3.out.trans (hb3.mono U3.out.size))
        have D := Lib.hid (D3.out.below hb3)
        have I3 := Lib.hid (I33.out.below hb3)
        have X := Lib.hid (blk_box X33.out hb3 (lt_of_block X33.out))
        have Q := Lib.hid hcw
        have hwl := wo_len hkl
        have HVw := Lib.hid (wo_all (Q := DmOk) hkl HV.out)
        obtain ⟨us, hus⟩ : ∃ us, wo vs k = us := ⟨_, rfl⟩
        rw [hus] at Pno Pyes Pgw Pjn Q hwl HVw
        clear hb hb3 hcw hgg h1 h2 h3 h4 h5 hgb K34 D3 I33 X33 U4 w34 hlo3
        obtain ⟨⟨p1, p2, p3⟩, hp⟩ : ∃ p, dsX vs u.x u.f u.t = p := ⟨_, rfl⟩
        obtain ⟨⟨r1, r2, r3⟩, hr⟩ : ∃ r, dsX us u.x u.f u.t = r := ⟨_, rfl⟩
        have hp0 : p3 = 0 := by have h := Pok.out Hcf.out Pdj.out.1 Pdj.out.2; rw [hp] at h; cases h; rfl
        subst hp0
        have Pno2 := Lib.hid (Pno.out Hcf.out)
        have Pyes2 := Lib.hid (Pyes.out Hcf.out)
        rw [hp, hr] at Pno2
        have Hne := Lib.hid Pdj.out.1
        have Hp := Lib.hid hp
        have Hr := Lib.hid hr
        clear Pno Pyes Pdj Pok hp hr hus
        have q0 := cell_of X.out (j := 0) (v := .string u.f) rfl
        have q1 := cell_of X.out (j := 1) (v := .string u.t) rfl
        have q2 := cell_of X.out (j := 2) (v := .int .i64 u.x) rfl
        go_wp2_with fail
        refine distN_any _ vs _ c u.x u.f u.t p1 p2 0 _ _ rfl hl D.out HV.out hok.1 hok.2 Hp.out ?_
        intro w6 hb
        have U6 := Lib.hid (U5.out.trans (hb.mono U5.out.size))
        have D := Lib.hid (D.out.below hb)
        have X := Lib.hid (blk_box X.out hb (lt_of_block X.out))
        have I3 := Lib.hid (I3.out.below hb)
        have Q := Lib.hid (Q.out.below hb)
        clear hb
        obtain ⟨w7, E7, B7, s7, Y⟩ := box_ex w6 #[.int .i64 p1, .int .i64 p2] 37
        have hb := B7.out
        have U7 := Lib.hid (U6.out.trans (hb.mono U6.out.size))
        have D := Lib.hid (D.out.below hb)
        have X := Lib.hid (blk_box X.out hb (lt_of_block X.out))
        have I3 := Lib.hid (I3.out.below hb)
        have Q := Lib.hid (Q.out.below hb)
        clear hb B7
        have q0 := cell_of X.out (j := 0) (v := .string u.f) rfl
        have q1 := cell_of X.out (j := 1) (v := .string u.t) rfl
        have q2 := cell_of X.out (j := 2) (v := .int .i64 u.x) rfl
        go_wp2_with (rw [E7])
        refine distN_any (some ⟨g, 0, none⟩) us _ cap u.x u.f u.t r1 r2 r3 _ _ hwl (by omega) Q.out HVw.out hok.1 hok.2 Hr.out ?_
        intro w8 hb
        have U8 := Lib.hid (U7.out.trans (hb.mono U7.out.size))
        have D := Lib.hid (D.out.below hb)
        have X := Lib.hid (blk_box X.out hb (lt_of_block X.out))
        have I3 := Lib.hid (I3.out.below hb)
        have Q := Lib.hid (Q.out.below hb)
        have Y := Lib.hid (blk_box Y.out hb (lt_of_block Y.out))
        clear hb
        obtain ⟨w9, E9, B9, s9, Z⟩ := box_ex w8 #[.int .i64 r1, .int .i64 r2] 37
        have hb := B9.out
        have U9 := Lib.hid (U8.out.trans (hb.mono U8.out.size))
        have D := Lib.hid (D.out.below hb)
        have X := Lib.hid (blk_box X.out hb (lt_of_block X.out))
        have I3 := Lib.hid (I3.out.below hb)
        have Q := Lib.hid (Q.out.below hb)
        have Y := Lib.hid (blk_box Y.out hb (lt_of_block Y.out))
        clear hb B9
        clear E7
        obtain ⟨B, hB⟩ : ∃ B, decide (k ∈ imF vs u.x vs.length) = B := ⟨_, rfl⟩
        go_wp2_with (rw [E9])
        refine contI_any a3 _ _ c3 k B _ _ rfl (by omega) hB I3.out ?_
        clear E9
        cases B with
        | false =>
          have hq : imQ vs u.x k = false := by
            cases hq : imQ vs u.x k with
            | false => rfl
            | true =>
              have h2 := Pmem.out.2 ⟨hkl, hq⟩
              rw [decide_eq_false_iff_not] at hB
              exact absurd h2 hB
          have hcase := Pno2.out hq
          have y0 := cell_of Y.out (j := 0) (v := .int .i64 p1) rfl
          have y1 := cell_of Y.out (j := 1) (v := .int .i64 p2) rfl
          have z0 := cell_of Z.out (j := 0) (v := .int .i64 r1) rfl
          have z1 := cell_of Z.out (j := 1) (v := .int .i64 r2) rfl
          clear hq hB Pmem Pyes2 Pno2 Pjn
          by_cases h6 : r3 = 6
          · subst h6
            go_wp2_with fail
            refine awake22_any _ _ ?_
            intro w10 hb
            have U10 := Lib.hid (U9.out.trans (hb.mono U9.out.size))
            clear hb
            go_wp2_with fail
            exact HR.out _ U10.out
          · by_cases h13 : r3 = 13
            · subst h13
              go_wp2_with fail
              refine awake22_any _ _ ?_
              intro w10 hb
              have U10 := Lib.hid (U9.out.trans (hb.mono U9.out.size))
              clear hb
              go_wp2_with fail
              exact HR.out _ U10.out
            · have h0 : r3 = 0 ∧ (r1 < p1 ∨ p2 < r2) := by
                rcases hcase with h | h | h
                · exact absurd h h6
                · exact absurd h h13
                · exact h
              obtain ⟨rfl, hlt⟩ := h0
              clear hcase h6 h13
              by_cases hl1 : r1 < p1
              · have k1 := eq_true hl1
                go_wp2_with fail
                refine awake22_any _ _ ?_
                intro w10 hb
                have U10 := Lib.hid (U9.out.trans (hb.mono U9.out.size))
                clear hb
                go_wp2_with fail
                exact HR.out _ U10.out
              · have hl2' : p2 < r2 := by omega
                have k1 := eq_false hl1
                have k2 := eq_true hl2'
                go_wp2_with fail
                refine awake22_any _ _ ?_
                intro w10 hb
                have U10 := Lib.hid (U9.out.trans (hb.mono U9.out.size))
                clear hb
                go_wp2_with fail
                exact HR.out _ U10.out
        | true =>
          have hq : imQ vs u.x k = true := (Pmem.out.1 (of_decide_eq_true hB)).2
          have Hall := Lib.hid (Pyes2.out hq)
          obtain ⟨jf, jt⟩ := Pjn.out hq
          have hsame := Hall.out _ _ jf jt Hne.out
          rw [Hp.out, Hr.out] at hsame
          cases hsame
          have K1 : (p1 == p1) = true := by simp
          have K2 : (p2 == p2) = true := by simp
          clear hq hB Pmem Pyes2 Pno2 Pjn jf jt Hp Hr Hne I3
          have q2 := cell_of X.out (j := 2) (v := .int .i64 u.x) rfl
          go_wp2_with fail
          refine namesN_any (some ⟨g, 0, none⟩) us _ cap u.x _ _ hwl (by omega) Q.out HVw.out Pgw.out ?_
          intro aN cN w10 hb hN
          have U10 := Lib.hid (U9.out.trans (hb.mono U9.out.size))
          have D := Lib.hid (D.out.below hb)
          have X := Lib.hid (blk_box X.out hb (lt_of_block X.out))
          have Q := Lib.hid (Q.out.below hb)
          have Y := Lib.hid (blk_box Y.out hb (lt_of_block Y.out))
          have Z := Lib.hid (blk_box Z.out hb (lt_of_block Z.out))
          have N := Lib.hid hN
          clear hb hN
          have y0 := cell_of Y.out (j := 0) (v := .int .i64 p1) rfl
          have y1 := cell_of Y.out (j := 1) (v := .int .i64 p2) rfl
          have z0 := cell_of Z.out (j := 0) (v := .int .i64 p1) rfl
          have z1 := cell_of Z.out (j := 1) (v := .int .i64 p2) rfl
          obtain ⟨n, hn⟩ : ∃ n, (nmG us u.x).length = n := ⟨_, rfl⟩
          have hnl : n ≤ 512 := by rw [← hn]; exact nmG_len (by omega)
          have s10 := U10.out.size
          rw [hn]
          have Hn := Lib.hid hn
          have Hsz : Hid (∀ i, i < n → kAt (nmG us u.x) i ∈ nmG us u.x ∧ (kAt (nmG us u.x) i).size ≤ 9223372036854775807) := fun i hi => ⟨kAt_mem (by omega), nmG_size HVw.out (kAt_mem (by omega))⟩
          clear hn
          go_wp2_with fail
          clear y0 y1 z0 z1
          go_loopw [134] (fun j wr => ∃ (i : Nat), i ≤ n ∧ j = .int .i64 i ∧ Hid (Below w10.heap.size w10 wr)) (fun j _ => n - (intOf j).toNat)
          case atStart => exact ⟨0, Nat.zero_le _, rfl, Below.refl _ _⟩
          case round =>
            obtain ⟨i, hi, rfl, HB⟩ := hrel
            by_cases hlt : i < n
            · obtain ⟨bn, on, e, hbn, _⟩ := N.out (by rw [sC_length, Hn.out]; omega)
              have n0 := N.out.get e (sC_get (show i < (nmG us u.x).length by rw [Hn.out]; exact hlt))
              obtain ⟨am, asz⟩ := Hsz.out i hlt
              have Am := Lib.hid am
              subst e
              have n1 := cellB HB.out n0 hbn
              obtain ⟨p, hp⟩ : ∃ p, kAt (nmG us u.x) i = p := ⟨_, rfl⟩
              rw [hp] at n1 asz Am
              clear n0 am hp
              obtain ⟨wO, hwO⟩ : ∃ wO, wr = wO := ⟨_, rfl⟩
              rw [hwO] at HB n1 ⊢
              clear hwO
              go_wp2_with fail
              go_loopw [140] (fun j wr => ∃ (q : Nat), q ≤ n ∧ j = .int .i64 q ∧ Hid (Below w10.heap.size w10 wr)) (fun j _ => n - (intOf j).toNat)
              case atStart => exact ⟨0, Nat.zero_le _, rfl, HB⟩
              case round =>
                clear n1
                obtain ⟨q, hq, rfl, HB3⟩ := hrel
                by_cases hlq : q < n
                · have m0 := N.out.get rfl (sC_get (show q < (nmG us u.x).length by rw [Hn.out]; exact hlq))
                  obtain ⟨bm, bsz⟩ := Hsz.out q hlq
                  have m1 := cellB HB3.out m0 hbn
                  obtain ⟨r, hr⟩ : ∃ r, kAt (nmG us u.x) q = r := ⟨_, rfl⟩
                  rw [hr] at m1 bsz bm
                  have Bm := Lib.hid bm
                  clear m0 bm hr
                  cases hpr : sameD p r with
                  | true =>
                    have K5 : (p.toList == r.toList) = true := hpr
                    clear hpr
                    go_wp2_with fail
                    exact ⟨⟨q + 1, by omega, by go_num, HB3⟩, by simp [intOf]; omega⟩
                  | false =>
                    have K5 : (p.toList == r.toList) = false := hpr
                    have hsame := Hall.out p r Am.out Bm.out (fun h => by rw [sameD_iff.2 h] at hpr; cases hpr)
                    obtain ⟨⟨t1, t2, t3⟩, ht⟩ : ∃ t, dsX vs u.x p r = t := ⟨_, rfl⟩
                    rw [ht] at hsame
                    have Ht := Lib.hid ht
                    have Hs := Lib.hid hsame.symm
                    have K6 : (t1 == t1) = true := by simp
                    have K7 : (t2 == t2) = true := by simp
                    have K8 : (t3 != t3) = false := by simp
                    have U11 := HB3
                    have hb := HB3.out
                    have D := Lib.hid (D.out.below hb)
                    have Q := Lib.hid (Q.out.below hb)
                    have X := Lib.hid (blk_box X.out hb (lt_of_block X.out))
                    have x2 := cell_of X.out (j := 2) (v := .int .i64 u.x) rfl
                    clear hpr hsame ht hb
                    go_wp2_with fail
                    refine distN_any _ vs _ c u.x p r t1 t2 t3 _ _ rfl hl D.out HV.out asz bsz Ht.out ?_
                    intro w12 hb
                    have U12 := Lib.hid (U11.out.trans (hb.mono U11.out.size))
                    have D := Lib.hid (D.out.below hb)
                    have X := Lib.hid (blk_box X.out hb (lt_of_block X.out))
                    have Q := Lib.hid (Q.out.below hb)
                    clear hb
                    obtain ⟨w13, E13, B13, s13, Y⟩ := box_ex w12 #[.int .i64 t1, .int .i64 t2] 37
                    have hb := B13.out
                    have U13 := Lib.hid (U12.out.trans (hb.mono U12.out.size))
                    have D := Lib.hid (D.out.below hb)
                    have X := Lib.hid (blk_box X.out hb (lt_of_block X.out))
                    have Q := Lib.hid (Q.out.below hb)
                    clear hb B13
                    have x2 := cell_of X.out (j := 2) (v := .int .i64 u.x) rfl
                    go_wp2_with (rw [E13])
                    refine distN_any (some ⟨g, 0, none⟩) us _ cap u.x p r t1 t2 t3 _ _ hwl (by omega) Q.out HVw.out asz bsz Hs.out ?_
                    intro w14 hb
                    have U14 := Lib.hid (U13.out.trans (hb.mono U13.out.size))
                    have D := Lib.hid (D.out.below hb)
                    have X := Lib.hid (blk_box X.out hb (lt_of_block X.out))
                    have Q := Lib.hid (Q.out.below hb)
                    have Y := Lib.hid (blk_box Y.out hb (lt_of_block Y.out))
                    clear hb
                    obtain ⟨w15, E15, B15, s15, Z⟩ := box_ex w14 #[.int .i64 t1, .int .i64 t2] 37
                    have hb := B15.out
                    have U15 := Lib.hid (U14.out.trans (hb.mono U14.out.size))
                    have D := Lib.hid (D.out.below hb)
                    have X := Lib.hid (blk_box X.out hb (lt_of_block X.out))
                    have Q := Lib.hid (Q.out.below hb)
                    have Y := Lib.hid (blk_box Y.out hb (lt_of_block Y.out))
                    clear hb B15
                    have y0 := cell_of Y.out (j := 0) (v := .int .i64 t1) rfl
                    have y1 := cell_of Y.out (j := 1) (v := .int .i64 t2) rfl
                    have z0 := cell_of Z.out (j := 0) (v := .int .i64 t1) rfl
                    have z1 := cell_of Z.out (j := 1) (v := .int .i64 t2) rfl
                    clear E13
                    go_wp2_with (rw [E15])
                    exact ⟨⟨q + 1, by omega, by go_num, U15⟩, by simp [intOf]; omega⟩
                · obtain rfl : q = n := by omega
                  go_wp2_with fail
                  exact ⟨⟨i + 1, by omega, by go_num, HB3⟩, by simp [intOf]; omega⟩
            · obtain rfl : i = n := by omega
              go_wp2_with fail
              refine awake22_any _ _ ?_
              intro w11 hb
              have U11 := Lib.hid (U10.out.trans ((HB.out.trans (hb.mono HB.out.size)).mono s10))
              clear hb
              go_wp2_with fail
              exact HR.out _ U11.out
end Go.Proofs.Ytlgjhjgdmomfoaa
