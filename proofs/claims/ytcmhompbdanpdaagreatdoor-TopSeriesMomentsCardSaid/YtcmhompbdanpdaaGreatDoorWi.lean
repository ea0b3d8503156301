/- The cells of a wide number. No program in sight. -/
import Derived.WalkKit
import Derived.Test.YtcmhompbdanpdaaGreatDoorMve
namespace Go.Proofs.YtcmhompbdanpdaaGreatDoor
open Go Go.RowKit

/-- The cells of the struct: the sign, how many words, 232 words. -/
def wdM (s : Bool) (n : Int) (f : Nat → Nat) : Array Value := #[.bool s, .int .i64 n] ++ ((List.range 232).map (fun i => Value.int .i64 (f i : Int))).toArray
theorem wdM_size (s : Bool) (n : Int) (f : Nat → Nat) : (wdM s n f).size = 234 := by simp [wdM]
theorem wdM_0 (s : Bool) (n : Int) (f : Nat → Nat) : (wdM s n f)[0]? = some (.bool s) := by simp [wdM]
theorem wdM_1 (s : Bool) (n : Int) (f : Nat → Nat) : (wdM s n f)[1]? = some (.int .i64 n) := by simp [wdM]
theorem wdM_w (s : Bool) (n : Int) (f : Nat → Nat) {i : Nat} (h : i < 232) : (wdM s n f)[2 + i]? = some (.int .i64 (f i)) := by
  unfold wdM
  rw [Array.getElem?_append_right (by simp)]
  simp [h]
theorem wdM_ext {s s' : Bool} {n n' : Int} {f : Nat → Nat} {cs : Array Value} (hs : cs.size = 234) (h0 : cs[0]? = some (.bool s)) (h1 : cs[1]? = some (.int .i64 n)) (hw : ∀ i, i < 232 → cs[2 + i]? = some (.int .i64 (f i))) (es : s = s') (en : n = n') : cs = wdM s' n' f := by
  subst es en
  refine Array.ext_getElem? fun i => ?_
  by_cases h2 : i < 234
  · match i, h2 with
    | 0, _ => rw [h0, wdM_0]
    | 1, _ => rw [h1, wdM_1]
    | i + 2, h2 => rw [show i + 2 = 2 + i from by omega, hw i (by omega), wdM_w _ _ _ (by omega)]
  · rw [Array.getElem?_eq_none (by omega), Array.getElem?_eq_none (by rw [wdM_size]; omega)]
theorem wdM_set0 (s s' : Bool) (n : Int) (f : Nat → Nat) : (wdM s n f).setIfInBounds 0 (.bool s') = wdM s' n f := by
  refine wdM_ext (by rw [Array.size_setIfInBounds, wdM_size]) ?_ ?_ (fun i hi => ?_) rfl rfl
  · rw [Array.getElem?_setIfInBounds, if_pos rfl, if_pos (by rw [wdM_size]; decide)]
  · rw [Array.getElem?_setIfInBounds, if_neg (by decide), wdM_1]
  · rw [Array.getElem?_setIfInBounds, if_neg (by omega), wdM_w _ _ _ hi]
theorem wdM_set1 (s : Bool) (n n' : Int) (f : Nat → Nat) : (wdM s n f).setIfInBounds 1 (.int .i64 n') = wdM s n' f := by
  refine wdM_ext (by rw [Array.size_setIfInBounds, wdM_size]) ?_ ?_ (fun i hi => ?_) rfl rfl
  · rw [Array.getElem?_setIfInBounds, if_neg (by decide), wdM_0]
  · rw [Array.getElem?_setIfInBounds, if_pos rfl, if_pos (by rw [wdM_size]; decide)]
  · rw [Array.getElem?_setIfInBounds, if_neg (by omega), wdM_w _ _ _ hi]
theorem wdM_setw (s : Bool) (n : Int) (f : Nat → Nat) {i : Nat} (h : i < 232) (x : Nat) : (wdM s n f).setIfInBounds (2 + i) (.int .i64 x) = wdM s n (fun j => if j = i then x else f j) := by
  refine wdM_ext (by rw [Array.size_setIfInBounds, wdM_size]) ?_ ?_ (fun j hj => ?_) rfl rfl
  · rw [Array.getElem?_setIfInBounds, if_neg (by omega), wdM_0]
  · rw [Array.getElem?_setIfInBounds, if_neg (by omega), wdM_1]
  · rw [Array.getElem?_setIfInBounds]
    by_cases e : j = i
    · subst e; rw [if_pos rfl, if_pos (by rw [wdM_size]; omega), if_pos rfl]
    · rw [if_neg (by omega), if_neg e, wdM_w _ _ _ hj]
theorem wdM_congr {s : Bool} {n : Int} {f g : Nat → Nat} (h : ∀ i, i < 232 → f i = g i) : wdM s n f = wdM s n g :=
  wdM_ext (wdM_size _ _ _) (wdM_0 _ _ _) (wdM_1 _ _ _) (fun i hi => by rw [wdM_w _ _ _ hi, h i hi]) rfl rfl
theorem wdM_one (s : Bool) (n : Int) (f : Nat → Nat) : ∀ v ∈ (wdM s n f).toList, v.oneCell' = true := by
  intro v hv
  unfold wdM at hv
  simp at hv
  rcases hv with rfl | rfl | ⟨i, _, rfl⟩ <;> rfl
/-- The cells of a number with a sign. -/
def wdC (s : Bool) (v : Nat) : Array Value := wdM s (nw v) (wd v)
theorem wdC_of {s : Bool} {v n : Nat} {f : Nat → Nat} (hn : nw v = n) (hf : ∀ i, i < 232 → f i = wd v i) : wdM s n f = wdC s v := by
  unfold wdC; rw [hn]; exact wdM_congr hf
theorem wdC_zero (s : Bool) : wdC s 0 = wdM s 0 (fun _ => 0) := by
  unfold wdC
  rw [nw_zero]
  exact wdM_congr fun i _ => wd_high (by rw [nw_zero]; omega)
end Go.Proofs.YtcmhompbdanpdaaGreatDoor
