/- The closures of recalled, AtRisk, kept; sets of names seen from the last event down. -/
import Derived.Test.YtfamennpajjajaaRr
namespace Go.Proofs.Ytfamennpajjajaa
open Go.RowKit Go.Maps
attribute [local go_sem] Oper.semAt_some

def exF (Q : Nat → Bool) : Nat → Nat → Bool
  | 0, _ => false
  | d + 1, k => Q k || exF Q d (k + 1)
theorem exF_at (Q : Nat → Bool) {n i : Nat} (h : i < n) : exF Q (n - i) i = (Q i || exF Q (n - (i + 1)) (i + 1)) := by
  rw [show n - i = (n - (i + 1)) + 1 from by omega, exF]
theorem exF_iff (Q : Nat → Bool) : ∀ d k, exF Q d k = true ↔ ∃ j, k ≤ j ∧ j < k + d ∧ Q j = true
  | 0, k => by simp [exF]; intro j h1 h2; omega
  | d + 1, k => by
    rw [exF, Bool.or_eq_true, exF_iff Q d]
    constructor
    · rintro (h | ⟨j, h1, h2, h3⟩)
      · exact ⟨k, Nat.le_refl _, by omega, h⟩
      · exact ⟨j, by omega, by omega, h3⟩
    · rintro ⟨j, h1, h2, h3⟩
      by_cases e : j = k
      · subst e; exact .inl h3
      · exact .inr ⟨j, by omega, by omega, h3⟩
def SetIs (Q : ByteArray → Nat → Bool) (n m : Nat) (f : SMap) : Prop := ∀ p, f p = if exF (Q p) (n - m) m = true then some (.bool true) else none
theorem set_start (Q : ByteArray → Nat → Bool) (n : Nat) : SetIs Q n (n - ([] : List Nat).length) (fun _ => none) := fun p => by
  show none = if exF (Q p) (n - (n - 0)) (n - 0) = true then _ else _
  rw [Nat.sub_zero, Nat.sub_self, exF]; rfl
theorem SetIs.put {Q : ByteArray → Nat → Bool} {n i : Nat} {f : SMap} (h : SetIs Q n (i + 1) f) (hi : i < n) (key : ByteArray) (hQ : ∀ p, Q p i = sameB key p) : SetIs Q n i (f.put key (.bool true)) := fun p => by
  rw [exF_at _ hi, hQ]
  unfold SMap.put
  by_cases e : p = key
  · rw [if_pos e, if_pos (by rw [sameB_iff.2 e.symm]; rfl)]
  · rw [if_neg e, sameB_no.2 (fun e' => e e'.symm), Bool.false_or]; exact h p
theorem SetIs.skip {Q : ByteArray → Nat → Bool} {n i : Nat} {f : SMap} (h : SetIs Q n (i + 1) f) (hi : i < n) (hQ : ∀ p, Q p i = false) : SetIs Q n i f := fun p => by
  rw [exF_at _ hi, hQ, Bool.false_or]; exact h p
def qR (_ : Ev) (st : Int) : Bool := st == 3
def qA (g : ByteArray) (u : Ev) (st : Int) : Bool := st == 3 || (st == 1 && sameB u.g g)
def outQ (q : Ev → Int → Bool) (vs : List Ev) (p : ByteArray) (i : Nat) : Bool := (!((eAt vs i).k == 3 || stt vs i == 2) && ((eAt vs i).k == 0 && q (eAt vs i) (stt vs i))) && sameB (eAt vs i).p p
def nevQ (vs : List Ev) (p : ByteArray) (i : Nat) : Bool := ((eAt vs i).k == 3 || stt vs i == 2) && sameB (eAt vs i).p p
def kpQ (q : Ev → Int → Bool) (vs : List Ev) (p : ByteArray) : Bool := exF (outQ q vs p) vs.length 0 && !exF (nevQ vs p) vs.length 0
/-- What a round makes of the two sets. -/
structure SetBits (q : Ev → Int → Bool) (vs : List Ev) (x : Nat) (u : Ev) (S : Int) (f g : SMap) : Prop where
  never : (u.k == 3 || S == 2) = true → SetIs (outQ q vs) vs.length x f ∧ SetIs (nevQ vs) vs.length x (g.put u.p (.bool true))
  hit : (u.k == 3 || S == 2) = false → (u.k == 0 && q u S) = true → SetIs (outQ q vs) vs.length x (f.put u.p (.bool true)) ∧ SetIs (nevQ vs) vs.length x g
  skip : (u.k == 3 || S == 2) = false → (u.k == 0 && q u S) = false → SetIs (outQ q vs) vs.length x f ∧ SetIs (nevQ vs) vs.length x g
theorem set_bits (q : Ev → Int → Bool) (vs : List Ev) {x : Nat} {f g : SMap} (hx : x < vs.length) (sf : SetIs (outQ q vs) vs.length (x + 1) f) (sg : SetIs (nevQ vs) vs.length (x + 1) g) : SetBits q vs x (eAt vs x) (stt vs x) f g where
  never h := ⟨sf.skip hx (fun p => by unfold outQ; rw [h]; rfl), sg.put hx _ (fun p => by unfold nevQ; rw [h]; rfl)⟩
  hit h h' := ⟨sf.put hx _ (fun p => by unfold outQ; rw [h, h']; rfl), sg.skip hx (fun p => by unfold nevQ; rw [h]; rfl)⟩
  skip h h' := ⟨sf.skip hx (fun p => by unfold outQ; rw [h, h']; rfl), sg.skip hx (fun p => by unfold nevQ; rw [h]; rfl)⟩

theorem cloR (a b c d : Value) (st : Int) (W : World) : Calls Try.prog 68 #[.agg #[a, b, c, d], .int .i64 st] W fun e w' => e = .returned (.bool (qR Ev.zero st)) ∧ w' = W.alloc (.cells #[a, b, c, d] 51) := by
  go_enter Try.func68, Try.ntmps68
  go_wp2
  go_ret
  exact ⟨rfl, rfl⟩

theorem cloA (a b d : Value) (gs : ByteArray) (st : Int) (W : World) (Bg : Nat) (gg : ByteArray) (hg : W.cell? ⟨Bg, 0, none⟩ = some (.string gg)) (hl : Bg < W.heap.size) :
    Calls Try.prog 54 #[.agg #[a, .string gs, b, d], .int .i64 st, .pointer (some ⟨Bg, 0, none⟩)] W fun e w' => e = .returned (.bool (qA gg ⟨0, gs, gs, gs⟩ st)) ∧ w' = W.alloc (.cells #[a, .string gs, b, d] 51) := by
  have hE : Hid (qA gg ⟨0, gs, gs, gs⟩ st = (st == 3 || (st == 1 && (gs.toList == gg.toList)))) := rfl
  by_cases h3 : st = 3
  · have K3 : (st == 3) = true := by rw [h3]; rfl
    rw [K3] at hE
    clear h3
    go_enter Try.func54, Try.ntmps54
    go_wp2
    refine bodyPost_ret (results_tmp rfl _ _ _) rfl ⟨?_, rfl⟩
    rw [hE.out]; rfl
  · have K3 : (st == 3) = false := by simpa using h3
    rw [K3] at hE
    clear h3
    by_cases h1 : st = 1
    · have K1 : (st == 1) = true := by rw [h1]; rfl
      rw [K1] at hE
      clear h1
      go_enter Try.func54, Try.ntmps54
      go_wp2
      refine bodyPost_ret (results_tmp rfl _ _ _) rfl ⟨?_, rfl⟩
      rw [hE.out]; rfl
    · have K1 : (st == 1) = false := by simpa using h1
      rw [K1] at hE
      clear h1
      go_enter Try.func54, Try.ntmps54
      go_wp2
      refine bodyPost_ret (results_tmp rfl _ _ _) rfl ⟨?_, rfl⟩
      rw [hE.out]; rfl

theorem keptClo (Bo b n : Nat) (g : SMap) (s : ByteArray) (v : Value) (W : World) (hs : s.size ≤ maxLen) (hb : Boxed W Bo 49 (.map (some b))) (hM : MapIs Try.prog 9 W b n g) (q : Bool) (hq : g s = if q = true then some (.bool true) else none) :
    Calls Try.prog 72 (#[.string s, v] ++ #[.pointer (some ⟨Bo, 0, none⟩)]) W fun e w' => e = .returned (.bool q) ∧ W.grownBy w' none := by
  have hc := hb.cell
  have hl := hb.lt
  have FE : Hid ((g s).getD (.bool false) = .bool q) := by unfold Hid; rw [hq]; cases q <;> rfl
  have HM := Lib.hid hM
  clear hM hb hq
  go_enter Try.func72, Try.ntmps72
  go_wp2_with (at_lookup; refine wp_mapLook _ rfl _ _ 49 rfl 9 4 Try.underlying9 Try.underlying49 b n g rfl HM.out (zeroB _) s rfl hs _ FE.out ?_)
  go_ret
  exact ⟨rfl, World.grownBy.refl _ _⟩
end Go.Proofs.Ytfamennpajjajaa
