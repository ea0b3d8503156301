/- The walks of slices.Sort of names, slices.Grow, slices.Concat of two lists of names. -/
import Derived.Sort.OwnSorted
import Derived.Lib.AppendZerosOnto
import Derived.Deep.Upon
import Derived.Test.YtfamennpajjajaaRaq
namespace Go.Proofs.Ytfamennpajjajaa
open Go.RowKit Go.Sort Go.Deep

theorem wp_append0 {P : Program} {w : World} {ops : Array Oper} {rest : List Oper} {o : Oper} {a : Act} {Q : Exit → Act → World → Prop} (hgd : o.guard = none) (s x : Operand) (t : TypeId)
    (ho : o.op = .call { callee := .builtin .append, args := #[s, x], argTypes := #[t, t] })
    (base : Nat) (e : TypeId) {z : Value} {size bytes : Nat} (ht : P.underlying t = some (.slice e)) (hi : (P.info? e).map (fun i => (i.zero, i.size, i.bytes)) = some (some z, size, bytes))
    (v : Value) (n : Nat) (xs : List Value) (hs : a.eval s = v) (hown : w.ownsRow base e size v n xs)
    (a2 : Option Addr) (c2 : Nat) (hx : a.eval x = .slice a2 0 c2) (h : wpList P ops Q rest (a.put o.dst v) w) : wpList P ops Q (o :: rest) a w := by
  obtain ⟨i0, q1, q2, q3, q4⟩ := info_parts hi
  refine wpList_plain hgd fun K hK => ?_
  have hsrc : Src P i0.size t (.slice a2 0 c2) 0 [] w := by
    cases a2 with
    | some ad => exact Src.ofSlice w ht ad 0 c2 [] (by simp) (by simp) (by simp)
    | none => exact Src.ofNil w ht c2
  have hrun : (Builtin.append_ #[t, t] o.type #[v, .slice a2 0 c2]).run P w = .ok v w := by
    rcases hown.2 with ⟨rfl, _⟩ | ⟨g, cap, cur, rfl, _, _, hnc, _⟩
    · exact run_append_nothing w t t o.type e i0 ht q1 none 0 0 (Nat.le_refl _) _ hsrc
    · exact run_append_nothing w t t o.type e i0 ht q1 (some ⟨g, 0, none⟩) n cap hnc _ hsrc
  unfold Oper.wp
  simp [execOp, ho, resolve, invoke, builtin, hs, hx, hrun, Result.andThen]
  exact hK _ _ h
/-- As wp_appendT, the source whatever it is where it is empty. -/
theorem wp_appendN {P : Program} {w : World} {ops : Array Oper} {rest : List Oper} {o : Oper} {a : Act} {Q : Exit → Act → World → Prop} (hgd : o.guard = none) (s x : Operand) (t : TypeId)
    (ho : o.op = .call { callee := .builtin .append, args := #[s, x], argTypes := #[t, t] })
    (base : Nat) (e : TypeId) {z : Value} {size bytes : Nat} (ht : P.underlying t = some (.slice e)) (hi : (P.info? e).map (fun i => (i.zero, i.size, i.bytes)) = some (some z, size, bytes))
    (hzs : z.cells.size = size) (hsz : 0 < size)
    (v : Value) (n : Nat) (xs : List Value) (hs : a.eval s = v) (hown : w.ownsRow base e size v n xs)
    (ad : Option Addr) (m c : Nat) (news : List Value) (hm : news.length = m * size) (hx : a.eval x = .slice ad m c) (hc : CellsAt w ad news) (h1 : ∀ u ∈ news, u.oneCell' = true)
    (hn : n + m ≤ 9223372036854775807) (hbytes : (n + m) * bytes ≤ 140737488355328) (hbase : base ≤ w.heap.size)
    (h : ∀ v' w', w'.ownsRow base e size v' (n + m) (xs ++ news) → Below base w w' → wpList P ops Q rest (a.put o.dst v') w') : wpList P ops Q (o :: rest) a w := by
  by_cases h0 : m = 0
  · subst h0
    obtain rfl : news = [] := List.length_eq_zero_iff.1 (by simpa using hm)
    exact wp_append0 hgd s x t ho base e ht hi v n xs hs hown ad c hx (h v w (by simpa using hown) (Below.refl _ _))
  · obtain ⟨b, o', e', _, _⟩ := hc (by rw [hm]; exact Nat.mul_pos (by omega) hsz)
    subst e'
    refine wp_appendT hgd s x t ho base e ht hi hzs hsz v n xs hs hown ⟨b, o', none⟩ m c news hm hx hc h1 hn hbytes hbase ?_
    intro v' w' h2 h3 _
    exact h v' w' h2 ((Below.refl _ _).grown h3 hbase fun k hk => (hown.lt k hk).1)
theorem sC_one (ks : List ByteArray) : ∀ u ∈ sC ks, u.oneCell' = true := by
  intro u hu
  unfold sC at hu
  rw [List.mem_map] at hu
  obtain ⟨s, _, rfl⟩ := hu
  rfl

set_option maxRecDepth 100000 in
set_option maxHeartbeats 2000000 in
/-- slices.Grow of nil. -/
theorem growS_any (n : Nat) (w : World) (R : Ending → World → Prop) (hn : n ≤ 1000) (hR : ∀ v w', Below w.heap.size w w' → w'.ownsRow w.heap.size 9 1 v 0 [] → R (.returned v) w') :
    Calls Try.prog 61 #[.slice none 0 0, .int .i64 n] w R := by
  have HR := Lib.hid hR
  clear hR
  by_cases h0 : n = 0
  · subst h0
    go_enter Try.func61, Try.ntmps61
    go_wp2_with fail
    exact HR.out _ _ (Below.refl _ _) (World.ownsRow_nil _ _ _ _)
  · obtain ⟨i0, q1, q2, q3, q4⟩ := info_parts Try.infoStr53
    have hold : (Builtin.firstCells i0.size 0 (.slice none 0 0)).run Try.prog w.drew = .ok ([] : List Value).toArray w.drew := run_firstCells_none w.drew i0.size 0 0 0
    have hrz : ∀ ty, (Builtin.append_ #[33, 3] ty #[.slice none 0 0, .int .i64 n]).run Try.prog w = .ok (.slice (some ⟨w.heap.size, 0, none⟩) n (grownCap w n 0 9)) (w.drew.alloc (.cells (([] : List Value).toArray ++ Builtin.zeroCells (Value.string ⟨#[]⟩).cells n ++ Builtin.zeroCells (Value.string ⟨#[]⟩).cells (grownCap w n 0 9 - n)) 9)) := fun ty => by
      have h := Lib.run_append_grow_zeros w 33 3 ty 9 i0 (.string ⟨#[]⟩) .i64 .i64 Try.underlying33 Try.underlying3 q1 q2 none 0 0 [] hold n (by omega) (by omega) (by omega) (by omega) (by rw [q4]; omega) (growslice_fits (by omega) (by rw [q4]; omega))
      rw [Nat.zero_add] at h
      exact h
    have hGn : n ≤ grownCap w n 0 9 := grownCap_ge w _ _ _
    have hGm : grownCap w n 0 9 ≤ maxLen := grownCap_le_maxLen w n 0 9 (by unfold maxLen; omega)
    obtain ⟨G, hG⟩ : ∃ G, G = grownCap w n 0 9 := ⟨_, rfl⟩
    rw [← hG] at hrz hGn hGm
    obtain ⟨C, hC⟩ : ∃ C, C = (([] : List Value).toArray ++ Builtin.zeroCells (Value.string ⟨#[]⟩).cells n ++ Builtin.zeroCells (Value.string ⟨#[]⟩).cells (G - n)) := ⟨_, rfl⟩
    rw [← hC] at hrz
    have hCs : C.size = G := by rw [hC]; simp [Builtin.zeroCells, Value.cells]; omega
    have hGm' : G ≤ 9223372036854775807 := by unfold maxLen at hGm; omega
    have HCs := Lib.hid hCs
    have HGm := Lib.hid hGm
    clear hG hC hold hCs hGm
    go_enter Try.func61, Try.ntmps61
    go_wp2_with (at_builtin; refine Lib.wpList_append_run _ rfl _ _ _ _ rfl _ _ rfl rfl _ _ (hrz _) ?_)
    exact HR.out _ _ ((Below.refl w.heap.size w).drew.alloc (by show w.heap.size ≤ w.heap.size; omega) _) ⟨rfl, .inr ⟨w.heap.size, G, C, rfl, Nat.le_refl _, World.alloc_heap_new w.drew _, by omega, HGm.out, by rw [HCs.out, Nat.mul_one], by simp⟩⟩

set_option maxRecDepth 100000 in
set_option maxHeartbeats 4000000 in
/-- slices.Concat of two lists of names. -/
theorem concatS_any (b : Nat) (a1 a2 : Option Addr) (ks js : List ByteArray) (c1 c2 : Nat) (w : World) (R : Ending → World → Prop) (hk : ks.length ≤ 100) (hj : js.length ≤ 100)
   (hb : b < w.heap.size) (x0 : w.cell? ⟨b, 0, none⟩ = some (.slice a1 ks.length c1)) (x1 : w.cell? ⟨b, 1, none⟩ = some (.slice a2 js.length c2)) (hc1 : CellsAt w a1 (sC ks)) (hc2 : CellsAt w a2 (sC js))
   (hR : ∀ v w', Below w.heap.size w w' → w'.ownsRow w.heap.size 9 1 v (ks.length + js.length) (sC (ks ++ js)) → R (.returned v) w') :
    Calls Try.prog 34 #[.slice (some ⟨b, 0, none⟩) 2 2] w R := by
  have HR := Lib.hid hR
  have HC1 := Lib.hid hc1
  have HC2 := Lib.hid hc2
  clear hR hc1 hc2
  go_enter Try.func34, Try.ntmps34
  go_wp2_with fail
  go_loopw [11, 3] (fun i s wr => Drew w wr ∧ ((i = .int .i64 0 ∧ s = .int .i64 0) ∨ (i = .int .i64 1 ∧ s = .int .i64 ks.length) ∨ (i = .int .i64 2 ∧ s = .int .i64 ((ks.length + js.length : Nat) : Int)))) (fun i _ _ => 2 - (intOf i).toNat)
  case atStart => exact ⟨Drew.refl _, .inl ⟨rfl, rfl⟩⟩
  case round =>
    obtain ⟨⟨q, rfl⟩, h⟩ := hrel
    rcases h with ⟨rfl, rfl⟩ | ⟨rfl, rfl⟩ | ⟨rfl, rfl⟩
    · go_wp2_with fail
      exact ⟨⟨by repeat first | exact Drew.refl _ | apply Drew.drewN, .inr (.inl ⟨rfl, by first | rfl | go_num | simp⟩)⟩, by simp [intOf]⟩
    · go_wp2_with fail
      exact ⟨⟨by repeat first | exact Drew.refl _ | apply Drew.drewN, .inr (.inr ⟨rfl, by first | rfl | go_num | simp⟩)⟩, by simp [intOf]⟩
    · have hb1 : Below w.heap.size w (w.drewN q) := (Drew.refl w).drewN.below _
      go_wp2_with fail
      refine growS_any (ks.length + js.length) _ _ (by omega) ?_
      intro v2 w2 hb2 ho
      have HB2 : Hid (Below w.heap.size w w2) := hb1.trans hb2
      have HO2 : Hid (w2.ownsRow w.heap.size 9 1 v2 0 []) := ho
      clear hb2 ho hb1
      go_wp2_with fail
      go_loopw [27, 6] (fun i v wr => Hid (Below w.heap.size w wr) ∧ ((i = .int .i64 0 ∧ Hid (wr.ownsRow w.heap.size 9 1 v 0 [])) ∨ (i = .int .i64 1 ∧ Hid (wr.ownsRow w.heap.size 9 1 v ks.length (sC ks))) ∨ (i = .int .i64 2 ∧ Hid (wr.ownsRow w.heap.size 9 1 v (ks.length + js.length) (sC (ks ++ js)))))) (fun i _ _ => 2 - (intOf i).toNat)
      case atStart => exact ⟨HB2, .inl ⟨rfl, HO2⟩⟩
      case round =>
        obtain ⟨HB, h⟩ := hrel
        have y0 := cellB HB.out x0 hb
        have y1 := cellB HB.out x1 hb
        have sB := HB.out.size
        rcases h with ⟨rfl, HO⟩ | ⟨rfl, HO⟩ | ⟨rfl, HO⟩
        · go_wp2_with (at_builtin; refine wp_appendN rfl (.tmp 31) (.tmp 32) 33 rfl w.heap.size 9 Try.underlying33 Try.infoStr53 rfl (by decide) u6 0 [] rfl HO.out a1 ks.length c1 (sC ks) (by rw [sC_length, Nat.mul_one]) rfl (HC1.out.below HB.out) (sC_one ks) (by omega) (by omega) (by omega) ?_; intro v3 w3 hown hb3; have HB3 : Hid (Below w.heap.size w w3) := HB.out.trans hb3; have HO3 : Hid (w3.ownsRow w.heap.size 9 1 v3 ks.length (sC ks)) := (by have h := hown; rw [Nat.zero_add, List.nil_append] at h; exact h); clear hown hb3)
          exact ⟨⟨HB3, .inr (.inl ⟨rfl, HO3⟩)⟩, by simp [intOf]⟩
        · go_wp2_with (at_builtin; refine wp_appendN rfl (.tmp 31) (.tmp 32) 33 rfl w.heap.size 9 Try.underlying33 Try.infoStr53 rfl (by decide) u6 ks.length (sC ks) rfl HO.out a2 js.length c2 (sC js) (by rw [sC_length, Nat.mul_one]) rfl (HC2.out.below HB.out) (sC_one js) (by omega) (by omega) (by omega) ?_; intro v3 w3 hown hb3; have HB3 : Hid (Below w.heap.size w w3) := HB.out.trans hb3; have HO3 : Hid (w3.ownsRow w.heap.size 9 1 v3 (ks.length + js.length) (sC (ks ++ js))) := (by unfold Hid; rw [sC_append]; exact hown); clear hown hb3)
          exact ⟨⟨HB3, .inr (.inr ⟨rfl, HO3⟩)⟩, by simp [intOf]⟩
        · go_wp2_with fail
          exact HR.out _ _ HB.out HO.out

/-! ### Sort -/
theorem enc_bL (ks : List ByteArray) : (ks.map bL).map encStr = sC ks := by
  unfold sC
  rw [List.map_map]
  refine List.map_congr_left fun s _ => ?_
  show Value.string ⟨s.data.toList.toArray⟩ = .string s
  simp
/-- slices.Sort of an own list of names without repeats: the same names, ascending. -/
theorem sortS_any (base : Nat) (ks js : List ByteArray) (Q : ByteArray → Bool) (v : Value) (w : World) (R : Ending → World → Prop) (hk : ks.length ≤ 1000) (hbase : base ≤ w.heap.size) (ho : w.ownsRow base 9 1 v ks.length (sC ks))
   (hnd : ks.Nodup) (hm : ∀ s, s ∈ ks ↔ Q s = true) (hj : SrtIs js Q)
   (hR : ∀ w', Below base w w' → w'.ownsRow base 9 1 v ks.length (sC js) → R (.returned (.tuple #[])) w') :
    Calls Try.prog 35 #[v] w R := by
  have HR := Lib.hid hR
  clear hR
  have hf : ∀ s, (if Q s = true then some undef else none : Option Value).isSome = Q s := fun s => by cases Q s <;> rfl
  have hS := srt_of (ss := ks.map bL) (f := fun s => if Q s = true then some undef else none) (by
      rw [List.nodup_iff_pairwise_ne, List.pairwise_map]
      exact (List.nodup_iff_pairwise_ne.1 hnd).imp fun h e => h (bL_inj e)) (fun l => by
      rw [hf, List.mem_map, ← hm]
      exact ⟨fun ⟨s, h1, h2⟩ => by rw [← h2, ofL_bL]; exact h1, fun h => ⟨ofL l, h, bL_ofL l⟩⟩)
  have hj2 : SrtIs js (fun s => (if Q s = true then some undef else none : Option Value).isSome) := ⟨hj.up, fun s => by rw [hf]; exact hj.mem s⟩
  have he := hS.unique hj2
  have hlen : js.length = ks.length := by rw [← he, List.length_map, List.length_mergeSort, List.length_map]
  have hts : ((ks.map bL).mergeSort fun x y => decide (x ≤ y)).map encStr = sC js := by
    rw [← he]; unfold sC; rw [List.map_map]; rfl
  rcases ho.2 with ⟨rfl, h0⟩ | ⟨g, cap, cur, rfl, hb, hgg, h1, h2, h3, h4⟩
  · have hk0 : ks.length = 0 := h0
    obtain rfl := List.length_eq_zero_iff.1 hk0
    obtain rfl := List.length_eq_zero_iff.1 hlen
    refine (Try.slices_Sort_string_none none 0 w).mono ?_
    rintro e w' ⟨rfl, rfl⟩
    exact HR.out _ (Below.refl _ _) ho
  · have ht : cur.toList.take (ks.map bL).length = (ks.map bL).map encStr := by rw [enc_bL, List.length_map, ← h4, Nat.mul_one]
    have hc := Try.slices_Sort_string g 0 cap (ks.map bL) w (holds_of_block hgg ht) (lt_of_block hgg) (by rw [List.length_map]; omega)
    rw [List.length_map] at hc
    refine hc.mono ?_
    rintro e w' ⟨rfl, n, os, rfl⟩
    have hO := ownsRow_sorted (n := n) (os := os) (ss := ks.map bL) (ts := (ks.map bL).mergeSort fun x y => decide (x ≤ y)) (by rw [List.length_mergeSort]) hb hgg (by rw [List.length_map]; exact h1) h2 h3
    rw [List.length_map, hts] at hO
    exact HR.out _ ((Below.refl _ _).grown (grownBy_sorted _) hbase (fun k e => by cases e; exact hb)) hO
end Go.Proofs.Ytfamennpajjajaa
