/- The library's part: maps.DeleteFunc, slices.Sorted over maps.Keys, in the words of maps as functions. -/
import Derived.Test.YtfamennpajjajaaRp
import Derived.Test.YtfamennpajjajaaRq
import Derived.Test.YtfamennpajjajaaShelf
import Derived.Shelf.SlIter.Nil
import Derived.Shelf.SortM.Plain
import Derived.Shelf.SortM.SortNone
import Derived.Shelf.SlMaps.DeleteFunc
namespace Go.Proofs.Ytfamennpajjajaa
open Go.RowKit Go.Maps Go.Shelf Go.Sort

theorem sorts66 (m : Nat) : AnyZ.SortsIn Try.prog Try.sorted66_ren Fence.wide m :=
  ⟨fun blk off cap ss W hH hblk hsz => callsIn_wide.2 (AnyM.slices_Sort_string Try.sort35 blk off cap ss W hH hblk hsz),
   fun p cap W => callsIn_wide.2 (AnyM.slices_Sort_string_none Try.sort35 p cap W)⟩

theorem keys53 (mb : Option Nat) (W : World) : CallsIn Fence.wide 5 Try.prog 67 #[.map mb] W fun e w' => e = .returned (.func (.func 86) #[] #[.pointer (some ⟨W.heap.size, 0, none⟩)]) ∧ w' = W.alloc (.cells #[.map mb] 49) :=
  AnyZ.keys_in Try.keys67 Fence.wide 5 trivial rfl mb W

set_option maxHeartbeats 1000000 in
theorem sortedK (b nn : Nat) (f : SMap) (w : World) (hM : MapIs Try.prog 9 w b nn f) (hmax : nn ≤ 1000000) :
    CallsIn Fence.wide 5 Try.prog 66 #[.func (.func 86) #[] #[.pointer (some ⟨w.heap.size, 0, none⟩)]] (w.alloc (.cells #[.map (some b)] 49)) fun e w' => ∃ (v : Value) (ks : List ByteArray), e = .returned v ∧ SrtIs ks (fun s => (f s).isSome) ∧
      w'.ownsRow (w.heap.size + 1) 9 1 v ks.length (sC ks) ∧ Below w.heap.size w w' := by
  obtain ⟨D0, hown, h2⟩ := hM
  have hbl := hown.lt
  have hsz := hown.size_le
  have hseq : SeqGives Fence.wide 2 Try.prog 86 #[.pointer (some ⟨w.heap.size, 0, none⟩)] encStr (fun ss => ss.Perm (strKeys D0)) (Maps.size D0) (w.alloc (.cells #[.map (some b)] 49)) :=
    AnyZ.keys_gives (ρ := Try.keys67_ren) { Try.keys67 with } Fence.wide _ trivial rfl (by omega) w.heap.size b nn D0 _ (by simp) (by simp) (by
      obtain ⟨es, clock, hb, Ft, hs, hD⟩ := hown
      exact ⟨es, clock, (Below.heap_alloc _ _ b hbl).trans hb, Ft, hs, hD⟩)
  refine (AnyZ.sorted_in Try.sorted66 Fence.wide 5 trivial trivial trivial trivial rfl (by omega) (sorts66 _) (enters_of Try.func35 (by kernel_rfl) rfl) 86 #[.pointer (some ⟨w.heap.size, 0, none⟩)] trivial (enters_of Try.func86 (by kernel_rfl) rfl) _ _ (by unfold maxLen; omega) (by omega) _ hseq).mono ?_
  rintro e w' ⟨v, ss, rfl, hp, hrow, _, hb⟩
  obtain ⟨q1, q2⟩ := strKeys_mem Try.underlying9 hown h2
  have hS := srt_of (f := f) (hp.nodup_iff.2 q1) (fun l => (hp.mem_iff).trans (q2 l))
  have hlen : ((ss.mergeSort fun x y => decide (x ≤ y)).map ofL).length = ss.length := by rw [List.length_map, List.length_mergeSort]
  refine ⟨v, _, rfl, hS, ?_, ((Below.refl w.heap.size w).alloc (Nat.le_refl _) _).trans (hb.mono (by simp))⟩
  rw [World.size_alloc] at hrow
  rw [hlen]
  have e : sC ((ss.mergeSort fun x y => decide (x ≤ y)).map ofL) = (ss.mergeSort fun x y => decide (x ≤ y)).map encStr := by
    unfold sC; rw [List.map_map]; rfl
  rw [e]; exact hrow

/-- maps.DeleteFunc at a closure that looks up: the entries that q names go. -/
theorem del53 (g : Nat) (cb : Array Value) (b n : Nat) (f : SMap) (q : ByteArray → Bool) (w : World) (hM : MapIs Try.prog 9 w b n f) (eg : ∀ args w, (callFunc g args).run Try.prog w = .ok (.enter g args) w)
    (hdel : ∀ (W : World) (s : ByteArray) (v : Value), w.grownBy W (some b) → s.size ≤ maxLen → Calls Try.prog g (#[.string s, v] ++ cb) W fun e w' => e = .returned (.bool (q s)) ∧ W.grownBy w' none) :
    Calls Try.prog 55 #[.map (some b), .func (.func g) #[] cb] w fun e w' => e = .returned (.tuple #[]) ∧ MapIs Try.prog 9 w' b n (fun s => if q s = true then none else f s) ∧ w.grownBy w' (some b) := by
  obtain ⟨D, hown, h2⟩ := hM
  obtain ⟨es, hD, hap, _⟩ := hown.entries (string_keyed Try.underlying9)
  refine (AnyDf.maps_DeleteFunc Try.del55 (string_keyed Try.underlying9) heldR (pdOf q) g cb b n D w eg hown (fun W key val kl yd yp hg hk _ => ?_)).mono ?_
  · obtain ⟨s, rfl, rfl, hs⟩ := Go.WideMaps.string_of_keyOf Try.underlying9 hk
    refine (hdel W s val hg hs).mono ?_
    rintro e w' ⟨rfl, h⟩
    exact ⟨by rw [show pdOf q (.string s.data.toList) yd = q s from pdOf_keyL q s yd], h⟩
  · rintro e w' ⟨rfl, h3, h4⟩
    exact ⟨rfl, ⟨_, h3, del_view hD hap h2⟩, h4⟩
end Go.Proofs.Ytfamennpajjajaa
