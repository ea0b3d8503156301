/- The library's variables that are read; Itoa, Atoi, TrimPrefix, Trim at digits; Of, sign. Check, all, small of package whole. -/
import Derived.Test.YtcmhompbdanpdaaGreatDoorShelf
import Derived.Test.YtcmhompbdanpdaaGreatDoorWy
import Derived.Test.YtcmhompbdanpdaaGreatDoorWs
import Derived.Test.YtcmhompbdanpdaaGreatDoorWq
import Derived.Shelf.Strings.SlTrimAscii
import Derived.Lib.AppendIntMem
import Derived.Lib.AtoiErrMem
namespace Go.Proofs.YtcmhompbdanpdaaGreatDoor
open Go.RowKit Go.Shelf

/-- The library's variables that are read. -/
structure Env (w : World) : Prop where
  m : ∃ m, w.cell? ⟨2, 0, none⟩ = some (.int .i64 m)
  tab : Lib.TabIs Tryz.prog w "internal/strconv.uint64pow10" .u64 Lib.pow10Tab
theorem var_below {P : Program} {n : String} {w w' : World} {cs : Array Value} (h : w.var? P n = some cs) (hb : Below w.heap.size w w') : w'.var? P n = some cs := by
  unfold World.var? at h ⊢
  cases hg : P.globalNamed n with
  | none => rw [hg] at h; exact absurd h (by simp)
  | some g =>
    rw [hg] at h
    simp only [Option.bind_some] at h ⊢
    have hlt : g < w.heap.size := by
      rcases Nat.lt_or_ge g w.heap.size with h' | h'
      · exact h'
      · rw [Array.getElem?_eq_none h'] at h; cases h
    rw [hb.block g hlt]
    exact h
theorem lt_of_cell' {w : World} {b j : Nat} {v : Value} (h : w.cell? ⟨b, j, none⟩ = some v) : b < w.heap.size := by
  rcases Nat.lt_or_ge b w.heap.size with h' | h'
  · exact h'
  · simp [World.cell?, Array.getElem?_eq_none h'] at h
theorem Env.below {w w' : World} (h : Env w) (hb : Below w.heap.size w w') : Env w' :=
  ⟨by obtain ⟨m, hm⟩ := h.m; exact ⟨m, cellB hb hm (lt_of_cell' hm)⟩, var_below h.tab hb⟩
theorem Env.drew {w : World} (h : Env w) : Env w.drew := h.below (Below.refl _ _).drew
theorem itoa_any (n : Int) (w : World) (R : Ending → World → Prop) (h0 : -9223372036854775808 ≤ n) (h1 : n ≤ 9223372036854775807) (hE : Env w) (hR : ∀ r w', Below w.heap.size w w' → Txt r n → R (.returned (.string r)) w') :
    Calls Tryz.prog 214 #[.int .i64 n] w R := by
  refine (Tryz.strconv_Itoa n h0 h1 w hE.tab).mono fun e w' h => ?_
  obtain ⟨rfl, k, os, rfl⟩ := h
  exact hR _ _ (Lib.below_grow _ _ (Nat.le_refl _) _ _) (Txt.of n)
theorem atoi_any (s : ByteArray) (n : Int) (w : World) (R : Ending → World → Prop) (hl : s.size ≤ 18) (h : Lib.atoi s.data.toList = some n) (hR : ∀ w', Below w.heap.size w w' → R (.returned (.tuple #[.int .i64 n, .nilIface])) w') :
    Calls Tryz.prog 166 #[.string s] w R := by
  refine (Tryz.strconv_Atoi s n hl h w).mono fun e w' h => ?_
  obtain ⟨rfl, t, rfl⟩ := h
  exact hR _ (Lib.bytesWorld_below w _ t)
theorem trimPrefix_minus (l : List UInt8) : Lib.trimPrefix l [45] = bodyL l := by
  cases l with
  | nil => rfl
  | cons c r =>
    by_cases h : c = 45
    · subst h; simp [Lib.trimPrefix, Lib.hasPrefix, bodyL, List.isPrefixOf]
    · have h2 : ¬ (45 : UInt8) = c := fun e => h e.symm
      simp [Lib.trimPrefix, Lib.hasPrefix, bodyL, List.isPrefixOf, h, h2]
theorem trimP_any (a p : ByteArray) (l : List UInt8) (ha : Tx a l) (hp : Tx p [45]) (w : World) (R : Ending → World → Prop) (hR : ∀ r, Tx r (bodyL l) → R (.returned (.string r)) w) :
    Calls Tryz.prog 167 #[.string a, .string p] w R := by
  refine (Tryz.strings_TrimPrefix a p w).mono fun e w' h => ?_
  obtain ⟨rfl, rfl⟩ := h
  rw [show a.data.toList = l from ha, show p.data.toList = [45] from hp, trimPrefix_minus]
  exact hR _ (Tx.of _)
theorem trimD_any (s : ByteArray) (w : World) (R : Ending → World → Prop) (hs : s.size ≤ 9223372036854775807)
   (hR : ∀ w' r, Below w.heap.size w w' → Tx r (Lib.trimS s.data.toList dgL) → R (.returned (.string r)) w') :
    Calls Tryz.prog 209 #[.string s, .string ⟨#[48, 49, 50, 51, 52, 53, 54, 55, 56, 57]⟩] w R := by
  refine (Any.strings_Trim_laid Tryz.lays160 (by kernel_rfl) s ⟨#[48, 49, 50, 51, 52, 53, 54, 55, 56, 57]⟩ w hs (by decide) (ascii_of_all (by decide))).mono ?_
  rintro e w' ⟨rfl, hb⟩
  exact hR w' _ hb (Tx.of _)
theorem ret_i' {R : Ending → World → Prop} {v' : Value} {w : World} {a b : Int} (h : R (.returned (.int .i64 a)) w) (ev : v' = .int .i64 b) (e : b = a) : R (.returned v') w := by rw [ev, e]; exact h
theorem ret_str {R : Ending → World → Prop} {v' : Value} {w : World} {a : ByteArray} (h : R (.returned (.string a)) w) (ev : v' = .string a) : R (.returned v') w := by rw [ev]; exact h
set_option maxHeartbeats 1000000 in
theorem wof_any (n : Int) (w : World) (R : Ending → World → Prop) (h0 : -9223372036854775808 ≤ n) (h1 : n ≤ 9223372036854775807) (hE : Env w) (hR : ∀ r w', Below w.heap.size w w' → Txt r n → R (.returned (.string r)) w') :
    Calls Tryz.prog 163 #[.int .i64 n] w R := by
  have HR := Lib.hid hR
  clear hR
  go_enter Tryz.func163, Tryz.ntmps163
  go_wp2_with fail
  with_reducible refine itoa_any n _ _ h0 h1 hE fun r w1 hb hr => ?_
  have H1 := Lib.hid hb
  have H2 := Lib.hid hr
  clear hb hr
  go_wp2_with fail
  exact ret_str (HR.out r _ H1.out H2.out) rfl
set_option maxHeartbeats 1000000 in
theorem wresult_any (n : Int) (w : World) (R : Ending → World → Prop) (h0 : -9223372036854775808 ≤ n) (h1 : n ≤ 9223372036854775807) (hE : Env w) (hR : ∀ r w', Below w.heap.size w w' → Txt r n → R (.returned (.tuple #[.string r, .int .i64 0])) w') :
    Calls Tryz.prog 107 #[.int .i64 n] w R := by
  have HR := Lib.hid hR
  clear hR
  go_enter Tryz.func107, Tryz.ntmps107
  go_wp2_with fail
  with_reducible refine wof_any n _ _ h0 h1 hE fun r w1 hb hr => ?_
  have H1 := Lib.hid hb
  have H2 := Lib.hid hr
  clear hb hr
  go_wp2_with fail
  exact HR.out r _ H1.out H2.out
theorem Txt.beqL {a : ByteArray} {n : Int} (h : Txt a n) (k : Int) {c : List UInt8} (hc : Lib.itoa k = c) : (a.toList == c) = decide (n = k) := by
  subst hc
  have := h.beq (Txt.of k)
  rwa [(Txt.of k : Tx _ _).list] at this
theorem itoa_0 : Lib.itoa 0 = [48] := itoa_zero
theorem itoa_1 : Lib.itoa 1 = [49] := itoa_one
theorem Txt.head_b {a : ByteArray} {n : Int} (h : Txt a n) (hp : 0 < a.size) : ((a[0].toNat : Int) == 45) = decide (n < 0) := by
  have := h.head hp
  by_cases e : n < 0
  · rw [this.2 e]; simp [e]
  · have h2 : ¬ a[0].toNat = 45 := fun h => e (this.1 h)
    simp [e]; omega
set_option maxHeartbeats 1000000 in
theorem wsign_any (a : ByteArray) (n : Int) (ha : Txt a n) (w : World) (R : Ending → World → Prop) (hR : R (.returned (.int .i64 n.sign)) w) :
    Calls Tryz.prog 173 #[.string a] w R := by
  have HR := Lib.hid hR
  have hp := ha.pos
  have hz := ha.beqL 0 itoa_0
  have hh := ha.head_b hp
  clear hR ha
  rcases Int.lt_trichotomy n 0 with h | h | h
  · have K1 : decide (n = 0) = false := decide_eq_false (by omega)
    have K2 : decide (n < 0) = true := decide_eq_true h
    rw [K1] at hz
    rw [K2] at hh
    have e : Hid (n.sign = -1) := Int.sign_eq_neg_one_of_neg h
    clear K1 K2 h
    go_enter Tryz.func173, Tryz.ntmps173
    go_wp2_with fail
    exact ret_i HR.out rfl e.out
  · subst h
    have K1 : decide ((0 : Int) = 0) = true := rfl
    rw [K1] at hz
    clear K1 hh
    go_enter Tryz.func173, Tryz.ntmps173
    go_wp2_with fail
    exact ret_i HR.out rfl rfl
  · have K1 : decide (n = 0) = false := decide_eq_false (by omega)
    have K2 : decide (n < 0) = false := decide_eq_false (by omega)
    rw [K1] at hz
    rw [K2] at hh
    have e : Hid (n.sign = 1) := Int.sign_eq_one_of_pos h
    clear K1 K2 h
    go_enter Tryz.func173, Tryz.ntmps173
    go_wp2_with fail
    exact ret_i HR.out rfl e.out
end Go.Proofs.YtcmhompbdanpdaaGreatDoor
namespace Go.Proofs.YtcmhompbdanpdaaGreatDoor
open Go.RowKit

theorem isEmpty_of {r : ByteArray} {l : List UInt8} (h : Tx r l) : r.toList.isEmpty = l.isEmpty := by rw [h.list]
set_option maxRecDepth 100000 in
set_option maxHeartbeats 4000000 in
theorem wcheck_any (a : ByteArray) (l : List UInt8) (ha : Tx a l) (hs : a.size ≤ 1000000000) (w : World) (R : Ending → World → Prop) (hR : ∀ w', Below w.heap.size w w' → R (.returned (.int .i64 (ckT l))) w') :
    Calls Tryz.prog 154 #[.string a] w R := by
  have HR := Lib.hid hR
  have HA := Lib.hid ha
  have HC : Hid (ckT l = if (bodyL l).isEmpty = true ∨ dgA (bodyL l) = false then 3 else if (bodyL l).head? = some 48 ∧ l ≠ [48] then 3 else if (bodyL l).length ≤ 1024 then 0 else 11) := rfl
  have hmi : Tx ⟨#[45]⟩ [45] := rfl
  have hbs : (bodyL l).length ≤ 1000000000 := by
    have := ha.size
    unfold bodyL
    split
    · rw [List.length_tail]; omega
    · omega
  clear hR ha
  go_enter Tryz.func154, Tryz.ntmps154
  go_wp2_with fail
  with_reducible refine trimP_any a ⟨#[45]⟩ l HA.out hmi _ _ fun r hr => ?_
  obtain ⟨d, hd⟩ : ∃ d, bodyL l = d := ⟨_, rfl⟩
  rw [hd] at HC hr hbs
  have HD := Lib.hid hr
  have hrs := hr.size
  have he := isEmpty_of hr
  clear hd
  cases e1 : d.isEmpty with
  | true =>
    have E1 := Lib.hid e1
    rw [e1] at he
    clear hr e1
    go_wp2_with fail
    exact ret_i (HR.out _ (Below.refl _ _)) rfl (by rw [HC.out, if_pos (.inl E1.out)])
  | false =>
    have E1 := Lib.hid e1
    rw [e1] at he
    clear hr e1
    have hsz : r.size ≤ 9223372036854775807 := by omega
    cases e2 : dgA d with
    | false =>
      have E2 := Lib.hid e2
      have ht := trim_notdgs e2
      clear e2
      go_wp2_with fail
      with_reducible refine trimD_any r _ _ hsz fun w1 t hb ht2 => ?_
      rw [show r.data.toList = d from HD.out] at ht2
      have K : t.toList.isEmpty = false := by
        rw [isEmpty_of ht2]
        cases e : Lib.trimS d dgL with
        | nil => exact absurd e ht
        | cons => rfl
      have HB := Lib.hid hb
      clear hb ht ht2
      go_wp2_with fail
      exact ret_i (HR.out _ HB.out) rfl (by rw [HC.out, if_pos (.inr E2.out)])
    | true =>
      have E2 := Lib.hid e2
      have ht := trim_dgs e2
      clear e2
      go_wp2_with fail
      with_reducible refine trimD_any r _ _ hsz fun w1 t hb ht2 => ?_
      rw [show r.data.toList = d from HD.out, ht] at ht2
      have K : t.toList.isEmpty = true := by rw [isEmpty_of ht2]; rfl
      have HB := Lib.hid hb
      have hne : 0 < r.size := by
        rw [hrs]
        cases e : d with
        | nil => have := E1.out; rw [e] at this; cases this
        | cons => simp
      have hC2 : Hid (ckT l = if d.head? = some 48 ∧ l ≠ [48] then 3 else if d.length ≤ 1024 then 0 else 11) := by
        unfold Hid; rw [HC.out, if_neg]
        rintro (h | h)
        · rw [E1.out] at h; cases h
        · rw [E2.out] at h; cases h
      have hg : ((r[0].toNat : Int) == 48) = decide (d.head? = some 48) := by
        rw [HD.out.get hne]
        cases e : d with
        | nil => have := E1.out; rw [e] at this; cases this
        | cons c rest =>
          by_cases h : c = 48
          · subst h; rfl
          · have h2 : ¬ c.toNat = 48 := fun e => h (UInt8.toNat.inj e)
            simp [h]; omega
      have hal : (a.toList == [48]) = decide (l = [48]) := by
        rw [HA.out.list]
        by_cases h : l = [48]
        · subst h; rfl
        · simp [h]
      clear hb ht ht2 hbs
      by_cases c1 : d.head? = some 48
      · rw [decide_eq_true c1] at hg
        by_cases c2 : l = [48]
        · rw [decide_eq_true c2] at hal
          have hl : d.length ≤ 1024 ∨ ¬ d.length ≤ 1024 := Decidable.em _
          have hC3 : Hid (ckT l = if d.length ≤ 1024 then 0 else 11) := by unfold Hid; rw [hC2.out, if_neg (fun h => h.2 c2)]
          clear c1 c2
          rcases hl with h | h
          · have KL : ((1024 : Int) < (r.size : Int)) = False := eq_false (by omega)
            go_wp2_with fail
            exact ret_i (HR.out _ HB.out) rfl (by rw [hC3.out, if_pos h])
          · have KL : ((1024 : Int) < (r.size : Int)) = True := eq_true (by omega)
            go_wp2_with fail
            exact ret_i (HR.out _ HB.out) rfl (by rw [hC3.out, if_neg h])
        · rw [decide_eq_false c2] at hal
          have hC3 : Hid (ckT l = 3) := by unfold Hid; rw [hC2.out, if_pos ⟨c1, c2⟩]
          clear c1 c2
          go_wp2_with fail
          exact ret_i (HR.out _ HB.out) rfl hC3.out
      · rw [decide_eq_false c1] at hg
        have hl : d.length ≤ 1024 ∨ ¬ d.length ≤ 1024 := Decidable.em _
        have hC3 : Hid (ckT l = if d.length ≤ 1024 then 0 else 11) := by unfold Hid; rw [hC2.out, if_neg (fun h => c1 h.1)]
        clear c1
        rcases hl with h | h
        · have KL : ((1024 : Int) < (r.size : Int)) = False := eq_false (by omega)
          go_wp2_with fail
          exact ret_i (HR.out _ HB.out) rfl (by rw [hC3.out, if_pos h])
        · have KL : ((1024 : Int) < (r.size : Int)) = True := eq_true (by omega)
          go_wp2_with fail
          exact ret_i (HR.out _ HB.out) rfl (by rw [hC3.out, if_neg h])
/-- Short numbers. -/
def ShI (m n : Int) : Bool := decide (lenI m + (if m < 0 then 1 else 0) ≤ 9) && decide (lenI n + (if n < 0 then 1 else 0) ≤ 9)
set_option maxHeartbeats 1000000 in
theorem wsmall_any (a b : ByteArray) (m n : Int) (ha : Txt a m) (hb : Txt b n) (w : World) (R : Ending → World → Prop)
   (hR : ∀ w', Below w.heap.size w w' → (a.size ≤ 9 ∧ b.size ≤ 9 → R (.returned (.tuple #[.int .i64 m, .int .i64 n, .bool true])) w') ∧ (¬ (a.size ≤ 9 ∧ b.size ≤ 9) → R (.returned (.tuple #[.int .i64 0, .int .i64 0, .bool false])) w')) :
    Calls Tryz.prog 106 #[.string a, .string b] w R := by
  have HR := Lib.hid hR
  have HA := Lib.hid ha
  have HB := Lib.hid hb
  have ea : Lib.atoi a.data.toList = some m := by rw [show a.data.toList = Lib.itoa m from ha]; exact atoi_itoa m
  have eb : Lib.atoi b.data.toList = some n := by rw [show b.data.toList = Lib.itoa n from hb]; exact atoi_itoa n
  have EA := Lib.hid ea
  have EB := Lib.hid eb
  clear hR ha hb ea eb
  by_cases h1 : a.size ≤ 9
  · by_cases h2 : b.size ≤ 9
    · have K1 : ((9 : Int) < (a.size : Int)) = False := eq_false (by omega)
      have K2 : ((9 : Int) < (b.size : Int)) = False := eq_false (by omega)
      go_enter Tryz.func106, Tryz.ntmps106
      go_wp2_with fail
      with_reducible refine atoi_any a m _ _ (by omega) EA.out fun w1 hb1 => ?_
      have B1 := Lib.hid hb1
      clear hb1
      go_wp2_with fail
      with_reducible refine atoi_any b n _ _ (by omega) EB.out fun w2 hb2 => ?_
      have B2 : Hid (Below w.heap.size w w2) := B1.out.trans (hb2.mono B1.out.size)
      clear hb2
      go_wp2_with fail
      go_ret3
      exact (HR.out _ B2.out).1 ⟨h1, h2⟩
    · have K1 : ((9 : Int) < (a.size : Int)) = False := eq_false (by omega)
      have K2 : ((9 : Int) < (b.size : Int)) = True := eq_true (by omega)
      go_enter Tryz.func106, Tryz.ntmps106
      go_wp2_with fail
      go_ret3
      exact (HR.out _ (Below.refl _ _)).2 (fun h => h2 h.2)
  · have K1 : ((9 : Int) < (a.size : Int)) = True := eq_true (by omega)
    go_enter Tryz.func106, Tryz.ntmps106
    go_wp2_with fail
    go_ret3
    exact (HR.out _ (Below.refl _ _)).2 (fun h => h1 h.1)
end Go.Proofs.YtcmhompbdanpdaaGreatDoor
