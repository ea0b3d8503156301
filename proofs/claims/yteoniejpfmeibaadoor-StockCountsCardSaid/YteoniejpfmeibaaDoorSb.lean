/- The walks of in, length, letters, Name of package stock and of its reference. -/
import Derived.Test.YteoniejpfmeibaaDoorSa
import Derived.Test.YteoniejpfmeibaaDoorA
import Derived.Test.YteoniejpfmeibaaDoorShelf
import Derived.Shelf.Strings.SlTrimAscii
namespace Go.Proofs.YteoniejpfmeibaaDoor
open Go.RowKit Go.Shelf

set_option maxHeartbeats 400000 in
theorem in_any (n a b : Int) (w : World) (R : Ending → World → Prop) (hR : R (.returned (.bool (inB n a b))) w) :
    Calls Tryd.prog 49 #[.int .i64 n, .int .i64 a, .int .i64 b] w R := by
  go_enter Tryd.func49, Tryd.ntmps49
  go_wp2
  all_goals exact ret_eq hR (by simp [inB, *] <;> omega)

set_option maxHeartbeats 400000 in
theorem length_any (n a : Int) (w : World) (R : Ending → World → Prop) (hR : R (.returned (.bool (inB n a 100000))) w) :
    Calls Tryd.prog 51 #[.int .i64 n, .int .i64 a] w R := by
  go_enter Tryd.func51, Tryd.ntmps51
  go_wp2
  all_goals exact ret_eq hR (by simp [inB, *] <;> omega)

theorem trim_any (s : ByteArray) (w : World) (R : Ending → World → Prop) (hs : s.size ≤ 9223372036854775807)
   (hR : ∀ w', Below w.heap.size w w' → R (.returned (.string ⟨(Lib.trimS s.data.toList azL).toArray⟩)) w') :
    Calls Tryd.prog 67 #[.string s, .string ⟨#[97, 98, 99, 100, 101, 102, 103, 104, 105, 106, 107, 108, 109, 110, 111, 112, 113, 114, 115, 116, 117, 118, 119, 120, 121, 122]⟩] w R := by
  refine (Any.strings_Trim_laid Tryd.lays160 (by kernel_rfl) s ⟨#[97, 98, 99, 100, 101, 102, 103, 104, 105, 106, 107, 108, 109, 110, 111, 112, 113, 114, 115, 116, 117, 118, 119, 120, 121, 122]⟩ w hs (by decide) (ascii_of_all (by decide))).mono ?_
  rintro e w' ⟨rfl, hb⟩
  exact hR w' hb

set_option maxHeartbeats 400000 in
theorem letters_any (s : ByteArray) (w : World) (R : Ending → World → Prop) (hs : s.size ≤ 9223372036854775807)
   (hR : ∀ w', Below w.heap.size w w' → R (.returned (.int .i64 (ltrE s))) w') :
    Calls Tryd.prog 50 #[.string s] w R := by
  have HR := Lib.hid hR
  clear hR
  have HE : Hid (ltrE s = if lowB s = true then if s.size ≤ 24 then 0 else 17 else 3) := rfl
  cases hl : lowB s with
  | true =>
    have ht : Hid (Lib.trimS s.data.toList azL = []) := trim_low hl
    have HL := Lib.hid hl
    clear hl
    go_enter Tryd.func50, Tryd.ntmps50
    go_wp2_with fail
    refine trim_any s _ _ hs ?_
    rw [ht.out]
    intro w1 hb1
    have HB1 := Lib.hid hb1
    have e : ((⟨([] : List UInt8).toArray⟩ : ByteArray).toList.isEmpty) = true := empty_of rfl
    clear hb1
    go_wp2_with fail
    · exact ret_i (HR.out _ HB1.out) rfl (by rw [HE.out, if_pos HL.out, if_neg (by omega)])
    · exact ret_i (HR.out _ HB1.out) rfl (by rw [HE.out, if_pos HL.out, if_pos (by omega)])
  | false =>
    obtain ⟨t, ht⟩ : ∃ t, Hid ((⟨(Lib.trimS s.data.toList azL).toArray⟩ : ByteArray) = t) := ⟨_, rfl⟩
    have e : t.toList.isEmpty = false := by
      rw [← ht.out, Lib.toList_data]
      have := trim_notlow hl
      cases h : Lib.trimS s.data.toList azL with
      | nil => exact absurd h this
      | cons => rfl
    have HL := Lib.hid hl
    clear hl
    go_enter Tryd.func50, Tryd.ntmps50
    go_wp2_with fail
    refine trim_any s _ _ hs ?_
    rw [ht.out]
    intro w1 hb1
    have HB1 := Lib.hid hb1
    clear hb1
    go_wp2_with fail
    exact ret_i (HR.out _ HB1.out) rfl (by rw [HE.out, if_neg (by rw [HL.out]; simp)])

set_option maxHeartbeats 400000 in
theorem name_any (s : ByteArray) (w : World) (R : Ending → World → Prop) (hs : s.size ≤ 9223372036854775807)
   (hR : R (.returned (.int .i64 (namE s))) w) :
    Calls Tryd.prog 34 #[.string s] w R := by
  have HN := nmF_eq s
  go_enter Tryd.func34, Tryd.ntmps34
  go_wp2_with fail
  have HE : Hid (namE s = if s.size = 0 then 3 else if lowB s = true then if s.size ≤ 24 then 0 else 17 else 3) := rfl
  have HN' := Lib.hid HN
  clear HN
  go_loop [3] (fun i => ∃ k : Nat, k ≤ s.size ∧ i = .int .i64 k ∧ Hid (loopE (nmF s) (s.size - k) k () = loopE (nmF s) s.size 0 ())) (fun i => s.size - (intOf i).toNat)
  case atStart => exact ⟨0, Nat.zero_le _, rfl, rfl⟩
  case round =>
    obtain ⟨k, hk, rfl, hL⟩ := hrel
    by_cases hlt : k < s.size
    · have hc : s.data.toList.getD k 0 = s[k] := by
        rw [List.getD_eq_getElem?_getD, List.getElem?_eq_getElem (by simpa using hlt)]; rfl
      by_cases g1 : 97 ≤ (s[k].toNat : Int) ∧ (s[k].toNat : Int) ≤ 122
      · have HF : Hid (nmF s k () = .inl ()) := by
          unfold Hid nmF; rw [hc, if_pos (by simp [lowC]; omega)]
        clear hc
        go_wp2_with fail
        exact ⟨⟨k + 1, by omega, by go_num, loopE_step hL hlt HF.out⟩, by simp [intOf]; omega⟩
      · have HF : Hid (nmF s k () = .inr 3) := by
          unfold Hid nmF; rw [hc, if_neg (by simp [lowC]; omega)]
        have HN2 : Hid (lowB s = false) := by
          have := loopE_hit hL hlt HF.out
          rcases HN'.out with ⟨h, _⟩ | ⟨_, h⟩
          · rw [h] at this; cases this
          · exact h
        clear hc
        by_cases g5 : (s[k].toNat : Int) < 97
        all_goals
          go_wp2_with fail
          exact ret_i hR rfl (by rw [HE.out, if_neg (by omega), if_neg (by rw [HN2.out]; simp)])
    · have HN2 : Hid (lowB s = true) := by
        have := loopE_done hL hlt
        rcases HN'.out with ⟨_, h⟩ | ⟨h, _⟩
        · exact h
        · rw [h] at this; cases this
      by_cases h0 : s.size = 0
      · have h1 := empty_of h0
        have H0 := Lib.hid h0
        clear h0
        go_wp2_with fail
        exact ret_i hR rfl (by rw [HE.out, if_pos H0.out])
      · have h1 := nempty_of h0
        have H0 := Lib.hid h0
        clear h0
        go_wp2_with fail
        · exact ret_i hR rfl (by rw [HE.out, if_neg H0.out, if_pos HN2.out, if_neg (by omega)])
        · exact ret_i hR rfl (by rw [HE.out, if_neg H0.out, if_pos HN2.out, if_pos (by omega)])
end Go.Proofs.YteoniejpfmeibaaDoor
