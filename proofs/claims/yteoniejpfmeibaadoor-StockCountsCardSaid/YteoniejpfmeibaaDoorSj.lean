/- The walks of Calibrate, Replace of package stock. -/
import Derived.Test.YteoniejpfmeibaaDoorSi
namespace Go.Proofs.YteoniejpfmeibaaDoor
open Go.RowKit Go.Shelf

/-- A stock that is read. -/
def BSl (w : World) (ao : Option Addr) (c : Nat) (bs : List B5) : Prop := CellsAt w ao (bC bs) ∧ (ao = none → bs.length = 0 ∧ c = 0)
theorem BSl.below {w w' : World} {ao : Option Addr} {c : Nat} {bs : List B5} (h : BSl w ao c bs) (hb : Below w.heap.size w w') : BSl w' ao c bs := ⟨h.1.below hb, h.2⟩
/-- In new memory. -/
def Fresh (n : Nat) (ao : Option Addr) : Prop := ∀ b o, ao = some ⟨b, o, none⟩ → n ≤ b
theorem Fresh.nil (n : Nat) : Fresh n none := fun _ _ h => by cases h
theorem Fresh.blk {n g o : Nat} (h : n ≤ g) : Fresh n (some ⟨g, o, none⟩) := fun _ _ e => by cases e; exact h
theorem Fresh.mono {n m : Nat} {ao : Option Addr} (h : Fresh n ao) (hm : m ≤ n) : Fresh m ao := fun b o e => Nat.le_trans hm (h b o e)
theorem ownsRow_fresh {w : World} {base : Nat} {e : TypeId} {size : Nat} {ao : Option Addr} {k c n : Nat} {xs : List Value} (h : w.ownsRow base e size (.slice ao k c) n xs) {m : Nat} (hm : m ≤ base) : Fresh m ao := by
  rcases h.2 with ⟨h1, _⟩ | ⟨g, cap, cur, h1, h2, _⟩
  · cases h1; exact Fresh.nil _
  · cases h1; exact Fresh.blk (Nat.le_trans hm h2)
theorem BSl.nil (w : World) : BSl w none 0 [] := ⟨CellsAt.nil _ _, fun _ => ⟨rfl, rfl⟩⟩
theorem Copied.bsl {w : World} {base C : Nat} {most : Int} {bs : List B5} {ao : Option Addr} {n c : Nat} (h : Copied w base C most bs (.slice ao n c)) : n = bs.length ∧ BSl w ao c bs := by
  obtain ⟨a, c', e, h1, h2, _⟩ := h.read
  cases e
  exact ⟨rfl, h1, h2⟩

theorem Copied.out {w : World} {base C : Nat} {most : Int} {bs : List B5} {v : Value} (h : Copied w base C most bs v) {a : Addr} (ha : a.block < base) (u : Value) : Copied (w.setCell a u) base C most bs v :=
  ⟨h.1, (Below.heap_setCell _ _ _ _ (by have := h.1; omega)).trans h.2.1, ownsRow_set h.2.2 ha u⟩

set_option maxHeartbeats 1000000 in
theorem calibrate_any (most : Int) (ao : Option Addr) (bs : List B5) (c : Nat) (l x : Int) (w : World) (R : Ending → World → Prop) (hl : bs.length ≤ 9223372036854775807) (hn : ao = none → bs.length = 0 ∧ c = 0) (hc : CellsAt w ao (bC bs)) (hs : StrOk bs)
   (hR : ∀ a' c' w', Below w.heap.size w w' → BSl w' a' c' (clB most bs l x) → Fresh w.heap.size a' → R (.returned (.tuple #[.agg #[.int .i64 (okM most (clE most bs l x)), .slice a' (clB most bs l x).length c'], .int .i64 (clE most bs l x)])) w') :
    Calls Tryd.prog 29 #[.agg #[.int .i64 most, .slice ao bs.length c], .int .i64 l, .int .i64 x] w R := by
  have HR := Lib.hid hR
  have HC := Lib.hid hc
  have HN := Lib.hid hn
  clear hR hc hn
  obtain ⟨w1, E1', HB1, s1, X1⟩ := box_ex w #[.int .i64 most, .slice ao bs.length c] 24
  have E1 := Lib.hid E1'
  clear E1'
  have hz1 : w1.heap.size = w.heap.size + 1 := by rw [← E1.out]; simp
  obtain ⟨w2, E2', HB2, s2, X2⟩ := box_ex w1 #[.int .i64 0, .slice none 0 0] 24
  have E2 := Lib.hid E2'
  clear E2'
  have HV2 : Hid (Below w.heap.size w w2) := HB1.out.trans (HB2.out.mono (by omega))
  have X1' : Hid (w2.heap[w.heap.size]? = some (.cells #[.int .i64 most, .slice ao bs.length c] 24 (0, 0))) := heap_below X1.out HB2.out s1
  have X2' : Hid (w2.heap[w.heap.size + 1]? = some (.cells #[.int .i64 0, .slice none 0 0] 24 (0, 0))) := by unfold Hid; rw [← hz1]; exact X2.out
  have k0 : w2.cell? ⟨w.heap.size, 0, none⟩ = some (.int .i64 most) := cell_at X1'.out rfl
  have k1 : w2.cell? ⟨w.heap.size, 1, none⟩ = some (.slice ao bs.length c) := cell_at X1'.out rfl
  have hs2 : w.heap.size + 1 < w2.heap.size := by omega
  by_cases hE : rsE most bs l = 0
  · cases hx : inB x 0 100000 with
    | true =>
      have HD : Hid (clE most bs l x = 0) := by unfold Hid clE; rw [if_pos hE, if_pos hx]
      have HDB : Hid (clB most bs l x = bs.set (rsI bs l) { bAt bs (rsI bs l) with w := x }) := by unfold Hid clB; rw [if_pos HD.out]
      obtain ⟨i, hi⟩ : ∃ i, Hid (rsI bs l = i) := ⟨_, rfl⟩
      have HE := Lib.hid hE
      clear hE
      go_enter Tryd.func29, Tryd.ntmps29
      go_wp2_with fail
      rw [E1.out, E2.out]
      refine resting_any most ao bs c l _ _ hl HN.out (HC.out.below HV2.out) hs ?_ (fun h => absurd HE.out h)
      rw [hi.out]
      intro _ hib C v w3 hb3 hcp3
      have HB3 : Hid (Below w.heap.size w w3) := HV2.out.trans (hb3.mono HV2.out.size)
      have X3 : Hid (w3.heap[w.heap.size + 1]? = some (.cells #[.int .i64 0, .slice none 0 0] 24 (0, 0))) := heap_below X2'.out hb3 hs2
      obtain ⟨g, cap, rfl, hg, hgl, hgC, hf⟩ := hcp3.row (by omega)
      obtain ⟨a2, c2, e2, r1, r2, r3, r4⟩ := hcp3.read
      cases e2
      obtain ⟨hr0, hr1, hr2, hr3⟩ := bC_get bs i hib
      have d1 : w3.cell? ⟨g, i * 4 + 1, none⟩ = some (.int .i64 (bAt bs i).w) := by have := r1.get rfl hr1; rwa [Nat.zero_add] at this
      have HCP4 : Hid (Copied (w3.setCell ⟨g, i * 4 + 1, none⟩ (.int .i64 x)) w2.heap.size C most (bs.set i { bAt bs i with w := x }) (.slice (some ⟨g, 0, none⟩) bs.length cap)) := hcp3.put hgC _ _ (bC_set1 hib x) (by simp)
      have HB4 : Hid (Below w.heap.size w (w3.setCell ⟨g, i * 4 + 1, none⟩ (.int .i64 x))) := HB3.out.setCell (by show w.heap.size ≤ g; omega) _
      have hfr := hf (i * 4 + 1)
      have f0 := frozen_at X3.out 0
      have f1 := frozen_at X3.out 1
      have y0 : w3.cell? ⟨w.heap.size + 1, 0, none⟩ = some (.int .i64 0) := cell_at X3.out rfl
      have y1 : w3.cell? ⟨w.heap.size + 1, 1, none⟩ = some (.slice none 0 0) := cell_at X3.out rfl
      clear r1 r2 hf hr0 hr1 hr2 hr3 hb3 hcp3
      go_wp2_with fail
      refine in_any _ _ _ _ _ ?_
      go_wp2_with fail
      refine bodyPost_ret (v := .tuple #[.agg #[.int .i64 most, .slice (some ⟨g, 0, none⟩) bs.length cap], .int .i64 0]) (by simp [results, Tryd.results29, go_sem, y0, y1]) rfl ?_
      have HCP5 := (HCP4.out.out (a := ⟨w.heap.size + 1, 0, none⟩) (by show w.heap.size + 1 < w2.heap.size; omega) (.int .i64 most)).out (a := ⟨w.heap.size + 1, 1, none⟩) (by show w.heap.size + 1 < w2.heap.size; omega) (.slice (some ⟨g, 0, none⟩) bs.length cap)
      have HR' := HR.out (some ⟨g, 0, none⟩) cap _ ((HB4.out.setCell (p := ⟨w.heap.size + 1, 0, none⟩) (by show w.heap.size ≤ w.heap.size + 1; omega) (.int .i64 most)).setCell (p := ⟨w.heap.size + 1, 1, none⟩) (by show w.heap.size ≤ w.heap.size + 1; omega) (.slice (some ⟨g, 0, none⟩) bs.length cap)) (by rw [HDB.out, hi.out]; exact HCP5.bsl.2) (Fresh.blk (by omega))
      rw [HD.out, HDB.out, List.length_set] at HR'
      exact HR'
    | false =>
      have HD : Hid (clE most bs l x = 2) := by unfold Hid clE; rw [if_pos hE, if_neg (by rw [hx]; simp)]
      have HDB : Hid (clB most bs l x = []) := by unfold Hid clB; rw [if_neg (by rw [HD.out]; omega)]
      have HE := Lib.hid hE
      clear hE
      go_enter Tryd.func29, Tryd.ntmps29
      go_wp2_with fail
      rw [E1.out, E2.out]
      refine resting_any most ao bs c l _ _ hl HN.out (HC.out.below HV2.out) hs ?_ (fun h => absurd HE.out h)
      intro _ hib C v w3 hb3 hcp3
      have HB3 : Hid (Below w.heap.size w w3) := HV2.out.trans (hb3.mono HV2.out.size)
      have X3 : Hid (w3.heap[w.heap.size + 1]? = some (.cells #[.int .i64 0, .slice none 0 0] 24 (0, 0))) := heap_below X2'.out hb3 hs2
      have f0 := frozen_at X3.out 0
      have f1 := frozen_at X3.out 1
      have y0 : w3.cell? ⟨w.heap.size + 1, 0, none⟩ = some (.int .i64 0) := cell_at X3.out rfl
      have y1 : w3.cell? ⟨w.heap.size + 1, 1, none⟩ = some (.slice none 0 0) := cell_at X3.out rfl
      clear hb3 hcp3
      go_wp2_with fail
      refine in_any _ _ _ _ _ ?_
      go_wp2_with fail
      refine bodyPost_ret (v := .tuple #[.agg #[.int .i64 0, .slice none 0 0], .int .i64 2]) (by simp [results, Tryd.results29, go_sem, y0, y1]) rfl ?_
      have HR' := HR.out none 0 _ ((HB3.out.setCell (p := ⟨w.heap.size + 1, 0, none⟩) (by show w.heap.size ≤ w.heap.size + 1; omega) (.int .i64 0)).setCell (p := ⟨w.heap.size + 1, 1, none⟩) (by show w.heap.size ≤ w.heap.size + 1; omega) (.slice none 0 0)) (by rw [HDB.out]; exact BSl.nil _) (Fresh.nil _)
      rw [HDB.out, HD.out, okM, if_neg (by omega)] at HR'
      exact HR'
  · have HD : Hid (clE most bs l x = rsE most bs l) := by unfold Hid clE; rw [if_neg hE]
    have HDB : Hid (clB most bs l x = []) := by unfold Hid clB; rw [if_neg (by rw [HD.out]; exact hE)]
    have HE := Lib.hid hE
    have hE' : (rsE most bs l == 0) = false := by simpa using hE
    have hE'' : (rsE most bs l != 0) = true := by simpa using hE
    clear hE
    go_enter Tryd.func29, Tryd.ntmps29
    go_wp2_with fail
    rw [E1.out, E2.out]
    refine resting_any most ao bs c l _ _ hl HN.out (HC.out.below HV2.out) hs (fun h => absurd h HE.out) ?_
    intro _ w3 hb3
    have HB3 : Hid (Below w.heap.size w w3) := HV2.out.trans (hb3.mono HV2.out.size)
    have X3 : Hid (w3.heap[w.heap.size + 1]? = some (.cells #[.int .i64 0, .slice none 0 0] 24 (0, 0))) := heap_below X2'.out hb3 hs2
    have f0 := frozen_at X3.out 0
    have f1 := frozen_at X3.out 1
    have y0 : w3.cell? ⟨w.heap.size + 1, 0, none⟩ = some (.int .i64 0) := cell_at X3.out rfl
    have y1 : w3.cell? ⟨w.heap.size + 1, 1, none⟩ = some (.slice none 0 0) := cell_at X3.out rfl
    clear hb3
    go_wp2_with fail
    refine bodyPost_ret (v := .tuple #[.agg #[.int .i64 0, .slice none 0 0], .int .i64 (rsE most bs l)]) (by simp [results, Tryd.results29, go_sem, y0, y1]) rfl ?_
    have HR' := HR.out none 0 _ ((HB3.out.setCell (p := ⟨w.heap.size + 1, 0, none⟩) (by show w.heap.size ≤ w.heap.size + 1; omega) (.int .i64 0)).setCell (p := ⟨w.heap.size + 1, 1, none⟩) (by show w.heap.size ≤ w.heap.size + 1; omega) (.slice none 0 0)) (by rw [HDB.out]; exact BSl.nil _) (Fresh.nil _)
    rw [HDB.out, HD.out, okM, if_neg (by exact HE.out)] at HR'
    exact HR'
end Go.Proofs.YteoniejpfmeibaaDoor
