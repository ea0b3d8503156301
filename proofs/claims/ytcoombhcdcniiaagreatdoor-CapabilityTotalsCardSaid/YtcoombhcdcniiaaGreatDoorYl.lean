/- Spread, both sides. (Printed by gen_spread.py.) -/
import Derived.Test.YtcoombhcdcniiaaGreatDoorYh
import Derived.Test.YtcoombhcdcniiaaGreatDoorMyi
import Derived.Test.YtcoombhcdcniiaaGreatDoorYk
namespace Go.Proofs.YtcoombhcdcniiaaGreatDoor
open Go.RowKit Go.Shelf Go.Sort Go.Maps
attribute [local go_sem] Oper.semAt_some

set_option maxHeartbeats 2000000 in
theorem ztotalS_any (ao : Option Addr) (l : List Int) (c : Nat) (w : World) (R : Ending → World → Prop) (h : Sms l) (hc : CellsAt w ao (I64s l)) (hR : R (.returned (.int .i64 (sumI l))) w) :
    Calls Tryz.prog 88 #[.slice ao l.length c, .func (.func 89) #[] #[], .func (.func 90) #[] #[]] w R := by
  have HR := Lib.hid hR
  have HC := Lib.hid hc
  have HS := Lib.hid h
  have hl : Hid (l.length ≤ 4096) := h.few
  clear hR hc h
  go_enter Tryz.func88, Tryz.ntmps88
  go_wp2_with fail
  go_loopw [13, 7] (fun j s wr => ∃ i : Nat, i ≤ l.length ∧ j = .int .i64 i ∧ Hid (wr = w) ∧ (∃ t : Int, s = .int .i64 t ∧ Hid (t = sumI (l.take i)))) (fun j _ _ => l.length - (intOf j).toNat)
  case atStart => exact ⟨0, Nat.zero_le _, rfl, rfl, 0, rfl, rfl⟩
  case round =>
    obtain ⟨i, hi, rfl, HW, t, rfl, HT⟩ := hrel
    by_cases hlt : i < l.length
    · have K2 : ((i : Int) < (l.length : Int)) = True := eq_true (by omega)
      obtain ⟨bd, od, rfl, hbd, hdc⟩ := HC.out.ints (by have := hl.out; omega)
      have g0 := hdc i hlt
      rw [← HW.out] at g0
      have hx := HS.out.aT hlt
      obtain ⟨x, hx0⟩ : ∃ x, at0 l i = x := ⟨_, rfl⟩
      have HX := Lib.hid hx0
      have hb : -4294967296 ≤ t ∧ t ≤ 4294967296 := by rw [HT.out]; exact HS.out.sumB i
      obtain ⟨ht1, ht2⟩ := hb
      rw [hx0] at hx g0
      have e2 : Hid (sumI (l.take (i + 1)) = t + x) := by unfold Hid; rw [sum_at l i hlt, HT.out, hx0]
      have hl2 := hl.out
      obtain ⟨hx1, hx2⟩ := hx
      clear hdc hx0
      by_cases hz : i = 0
      · have K3 : ((i : Int) == 0) = true := by simp [hz]
        have e3 : Hid (t = 0) := by unfold Hid; rw [HT.out, hz]; rfl
        clear hz
        go_wp2_with fail
        with_reducible refine zsum1_any _ _ _ ?_
        go_wp2_with fail
        exact ⟨⟨i + 1, by omega, by go_num, HW, x, rfl, by unfold Hid; rw [e2.out, e3.out]; omega⟩, by simp [intOf]; omega⟩
      · have K3 : ((i : Int) == 0) = false := by simpa using hz
        go_wp2_with fail
        with_reducible refine zsum1_any _ _ _ ?_
        go_wp2_with fail
        with_reducible refine zsum2_any _ _ (by omega) (by omega) (by omega) (by omega) _ _ ?_
        go_wp2_with fail
        exact ⟨⟨i + 1, by omega, by go_num, HW, t + x, rfl, by unfold Hid; rw [e2.out]⟩, by simp [intOf]; omega⟩
    · have K2 : ((i : Int) < (l.length : Int)) = False := eq_false (by omega)
      have e2 : Hid (t = sumI l) := by unfold Hid; rw [HT.out, show i = l.length from by omega, List.take_length]
      go_wp2_with fail
      have ew := HW.out
      subst ew
      exact ret_i HR.out rfl e2.out.symm
set_option maxHeartbeats 1000000 in
theorem zsumS_any (ao : Option Addr) (l : List Int) (c : Nat) (w : World) (R : Ending → World → Prop) (h : Sms l) (hc : CellsAt w ao (I64s l)) (hR : R (.returned (.int .i64 (sumI l))) w) :
    Calls Tryz.prog 57 #[.slice ao l.length c] w R := by
  have HR := Lib.hid hR
  have HC := Lib.hid hc
  have HS := Lib.hid h
  clear hR hc h
  go_enter Tryz.func57, Tryz.ntmps57
  go_wp2_with fail
  refine ztotalS_any ao l c _ _ HS.out HC.out ?_
  go_wp2_with fail
  exact ret_i HR.out rfl rfl
set_option maxHeartbeats 2000000 in
theorem zrsumS_any (ao : Option Addr) (l : List Int) (c : Nat) (w : World) (R : Ending → World → Prop) (h : Sms l) (hc : CellsAt w ao (I64s l)) (hR : R (.returned (.int .i64 (sumI l))) w) :
    Calls Tryz.prog 75 #[.slice ao l.length c] w R := by
  have HR := Lib.hid hR
  have HC := Lib.hid hc
  have HS := Lib.hid h
  have hl : Hid (l.length ≤ 4096) := h.few
  clear hR hc h
  go_enter Tryz.func75, Tryz.ntmps75
  go_wp2_with fail
  go_loopw [4, 3] (fun j s wr => ∃ i : Nat, i ≤ l.length ∧ j = .int .i64 i ∧ Hid (wr = w) ∧ (∃ t : Int, s = .int .i64 t ∧ Hid (t = sumI (l.take i)))) (fun j _ _ => l.length - (intOf j).toNat)
  case atStart => exact ⟨0, Nat.zero_le _, rfl, rfl, 0, rfl, rfl⟩
  case round =>
    obtain ⟨i, hi, rfl, HW, t, rfl, HT⟩ := hrel
    by_cases hlt : i < l.length
    · have K2 : ((i : Int) < (l.length : Int)) = True := eq_true (by omega)
      obtain ⟨bd, od, rfl, hbd, hdc⟩ := HC.out.ints (by have := hl.out; omega)
      have g0 := hdc i hlt
      rw [← HW.out] at g0
      have hx := HS.out.aT hlt
      obtain ⟨x, hx0⟩ : ∃ x, at0 l i = x := ⟨_, rfl⟩
      have hb : -4294967296 ≤ t ∧ t ≤ 4294967296 := by rw [HT.out]; exact HS.out.sumB i
      obtain ⟨ht1, ht2⟩ := hb
      rw [hx0] at hx g0
      have e2 : Hid (sumI (l.take (i + 1)) = t + x) := by unfold Hid; rw [sum_at l i hlt, HT.out, hx0]
      have hl2 := hl.out
      obtain ⟨hx1, hx2⟩ := hx
      clear hdc hx0
      go_wp2_with fail
      exact ⟨⟨i + 1, by omega, by go_num, HW, t + x, by go_num, by unfold Hid; rw [e2.out]⟩, by simp [intOf]; omega⟩
    · have K2 : ((i : Int) < (l.length : Int)) = False := eq_false (by omega)
      have e2 : Hid (t = sumI l) := by unfold Hid; rw [HT.out, show i = l.length from by omega, List.take_length]
      go_wp2_with fail
      have ew := HW.out
      subst ew
      exact ret_i HR.out rfl e2.out.symm
set_option maxHeartbeats 1000000 in
theorem zmean0S_any (ao : Option Addr) (l : List Int) (c : Nat) (w : World) (R : Ending → World → Prop) (h : Sms l) (hc : CellsAt w ao (I64s l)) (hE : Env w) (hR : ∀ r w', Below w.heap.size w w' → TxR r (meanS l) → R (.returned (.tuple #[.string r, .int .i64 0])) w') :
    Calls Tryz.prog 41 #[.slice ao l.length c] w R := by
  have HR := Lib.hid hR
  have HC := Lib.hid hc
  have HS := Lib.hid h
  have HE := Lib.hid hE
  clear hR hc h hE
  go_enter Tryz.func41, Tryz.ntmps41
  go_wp2_with fail
  refine zsumS_any ao l c _ _ HS.out HC.out ?_
  go_wp2_with fail
  have hp := HS.out.pos
  have hq := HS.out.few
  have hb := HS.out.sumA
  refine rof_any _ _ _ _ (by omega) (by omega) (by omega) (by omega) (by omega) HE.out fun r w1 HB HT => ?_
  have HB1 := Lib.hid HB
  have HT1 := Lib.hid HT
  clear HB HT hp hq hb
  go_wp2_with fail
  exact HR.out _ _ HB1.out HT1.out
set_option maxHeartbeats 1000000 in
theorem zcenterS_any (ao : Option Addr) (l : List Int) (c : Nat) (w : World) (R : Ending → World → Prop) (h : Sms l) (hc : CellsAt w ao (I64s l)) (hR : ∀ r w', Below w.heap.size w w' → TxR r (meanS l) → R (.returned (.string r)) w') :
    Calls Tryz.prog 42 #[.slice ao l.length c] w R := by
  have HR := Lib.hid hR
  have HC := Lib.hid hc
  have HS := Lib.hid h
  clear hR hc h
  go_enter Tryz.func42, Tryz.ntmps42
  go_wp2_with fail
  refine zrsumS_any ao l c _ _ HS.out HC.out ?_
  go_wp2_with fail
  have hp := HS.out.pos
  have hq := HS.out.few
  have hb := HS.out.sumA
  refine yover_any _ _ (by omega) (by omega) (by omega) (by omega) (by omega) _ _ fun r w1 HB HT => ?_
  have HB1 := Lib.hid HB
  have HT1 := Lib.hid HT
  clear HB HT hp hq hb
  go_wp2_with fail
  exact HR.out _ _ HB1.out HT1.out

theorem zmeanN_any (ao : Option Addr) (l : List Int) (n c : Nat) (hn : l.length = n) (w : World) (R : Ending → World → Prop) (h : Sms l) (hc : CellsAt w ao (I64s l)) (hE : Env w) (hR : ∀ r w', Below w.heap.size w w' → TxR r (meanS l) → R (.returned (.tuple #[.string r, .int .i64 0])) w') :
    Calls Tryz.prog 41 #[.slice ao n c] w R := by
  subst hn
  exact zmean0S_any ao l c w R h hc hE hR
theorem zcenterN_any (ao : Option Addr) (l : List Int) (n c : Nat) (hn : l.length = n) (w : World) (R : Ending → World → Prop) (h : Sms l) (hc : CellsAt w ao (I64s l)) (hR : ∀ r w', Below w.heap.size w w' → TxR r (meanS l) → R (.returned (.string r)) w') :
    Calls Tryz.prog 42 #[.slice ao n c] w R := by
  subst hn
  exact zcenterS_any ao l c w R h hc hR
/-- The same for an iterator that draws (its regions' order): what is kept from round to round is kept by a draw. -/
def GivesW {α : Type} (F : Fence) (n : Nat) (P : Program) (g : Nat) (lb : Array Value) (encs : α → Array Value) (bs : List Nat) (xs : List α) (w0 : World) : Prop :=
  ∀ (l : Nat) (J : List α → World → Prop) (W : World), Below w0.heap.size w0 W → (∀ s A, J s A → J s A.drew) →
    (∀ pre x W1, J pre W1 → (pre ++ [x]) <+: xs → YieldAt F (n - 1) P l (encs x) W1 fun e W' => e = .returned (.bool true) ∧ J (pre ++ [x]) W' ∧ KeepsBs bs W1 W') →
    J [] W → CallsIn F n P g (#[.func (.yield l) #[] #[]] ++ lb) W fun e W' => (∃ v, e = .returned v) ∧ J xs W'
theorem wpIn_rangeFunc_w {F : Fence} {n : Nat} {P : Program} {α : Type} {g : Operand} {ps : Array Tmp} {assign body : Code} {Q : Exit → Act → World → Prop} {a : Act} {w : World}
    (hro : F.round = none) (h1 : 1 ≤ n) {gf : Nat} {lb : Array Value} (hg : a.eval g = .func (.func gf) #[] lb) (hFg : F.fn gf) (eg : ∀ args w, (callFunc gf args).run P w = .ok (.enter gf args) w)
    {encs : α → Array Value} {bs : List Nat} {xs : List α} {w0 : World} (hseq : GivesW F (n - 1) P gf lb encs bs xs w0) (hb0 : Below w0.heap.size w0 w) (hps : ∀ x, (encs x).size = ps.size) (hbs : ∀ k ∈ bs, k < w.heap.size)
    (I : List α → World → Prop) (hI2 : ∀ s A B, I s A → Below A.heap.size A B → I s B) (hI3 : ∀ s A L r o, w.heap.size ≤ L → A.heap[L]? = some (.loop r) → I s A → I s (A.putObj L o))
    (h0 : I [] w) (Ax : α → Act → World → Prop) (hAx : ∀ x a' W l r o, W.heap[l]? = some (.loop r) → Ax x a' W → Ax x a' (W.putObj l o))
    (hassign : ∀ (l : Nat) (pre : List α) (x : α) (W : World) (K : Act → World → Prop), I pre W → w.heap.size ≤ W.heap.size → (pre ++ [x]) <+: xs → (∀ a' W', Below W.heap.size W W' → Ax x a' W' → K a' W') →
      assign.wpIn (F.inRound l) (n - 1 - 1) P (Exit.then K (fun _ _ _ => False)) { tmps := (ps.zip (encs x)).foldl (fun t (p, v) => t.setIfInBounds p v) a.tmps, defers := [] } W)
    (hbody : ∀ (l : Nat) (pre : List α) (x : α) (a' : Act) (W : World), I pre W → Ax x a' W → w.heap.size ≤ W.heap.size → (pre ++ [x]) <+: xs → body.wpIn (F.inRound l) (n - 1 - 1) P (postE bs I (pre ++ [x]) W) a' W)
    (hdone : ∀ (D : Nat) (W : World), w.heap.size ≤ D → I xs W → W.heap[D]? = some (.deferred (some [])) → Q .normal { a with defers := { target := .collected D, args := #[] } :: a.defers } W) :
    (Code.rangeFunc g ps assign body).wpIn F n P Q a w := by
  refine wpIn_rangeFunc ?_
  intro fn hfn
  rw [hro]
  obtain ⟨W0, hW0⟩ : ∃ W0, ((w.alloc (.deferred (some []))).alloc (.loop { state := .ready, pending := none, fn, tmps := a.tmps, params := ps, assign, body, defers := w.heap.size })) = W0 := ⟨_, rfl⟩
  have hB : w.heap.size + 2 = W0.heap.size := by rw [← hW0]; simp
  have hL : W0.heap[w.heap.size + 1]? = some (.loop { state := .ready, pending := none, fn, tmps := a.tmps, params := ps, assign, body, defers := w.heap.size }) := by
    rw [← hW0]
    have := World.alloc_heap_new (w.alloc (.deferred (some []))) (.loop { state := .ready, pending := none, fn, tmps := a.tmps, params := ps, assign, body, defers := w.heap.size }); rwa [World.size_alloc] at this
  have hK : W0.heap[w.heap.size]? = some (.deferred (some [])) := by
    rw [← hW0]; exact (Below.heap_alloc _ _ _ (by simp)).trans (World.alloc_heap_new w _)
  have hbl : Below w.heap.size w W0 := by
    rw [← hW0]; exact ((Below.refl _ w).alloc (Nat.le_refl _) _).alloc (by simp) _
  refine ⟨w.heap.size + 1, [{ target := .collected w.heap.size, args := #[] }], W0, { target := .fn (.func gf) lb, args := #[.func (.yield (w.heap.size + 1)) #[] #[]] }, W0, gf,
    #[.func (.yield (w.heap.size + 1)) #[] #[]] ++ lb, W0, ?_, ?_, ?_, ?_, fun _ => h1, ?_⟩
  · rw [← hW0]; exact run_enterLoop_outer _ _ _ _ _
  · simp only [resolve, hg]
    simp [go_sem]
  · intro f' hf'; simp [Target.leads] at hf'; subst hf'; exact hFg
  · simp [invoke, go_sem, eg]
  · clear hW0
    refine (hseq (w.heap.size + 1)
      (fun pre W => I pre W ∧ W.heap[w.heap.size + 1]? = some (.loop { state := .ready, pending := none, fn, tmps := a.tmps, params := ps, assign, body, defers := w.heap.size }) ∧ W.heap[w.heap.size]? = some (.deferred (some [])))
      W0 (hb0.trans (hbl.mono hb0.size)) (fun s A h => ⟨hI2 _ _ _ h.1 (Below.refl _ _).drew, h.2.1, h.2.2⟩)
      ?_ ⟨hI2 _ _ _ h0 hbl, hL, hK⟩).mono ?_
    · rintro pre x W ⟨hi, hl, hk⟩ hpre
      have hlt : w.heap.size + 1 < W.heap.size := (Array.getElem?_eq_some_iff.1 hl).1
      refine ⟨fn, _, assign, body, run_yield (P := P) (args := encs x) hl (hps x), roundIn_of_wpIn hfn (hassign _ pre x W _ hi (by omega) hpre ?_)⟩
      intro a' Wa hba hax
      have hla := (hba.block _ hlt).trans hl
      have hka := (hba.block w.heap.size (by omega)).trans hk
      have hia := hI2 _ _ _ hi hba
      have hsa := hba.size
      refine ⟨_, run_beginRound hla rfl, ?_⟩
      refine wpIn_mono (hbody _ pre x a' _ (hI3 _ _ _ _ _ (by omega) hla hia) (hAx _ _ _ _ _ _ hla hax) (by simp; omega) hpre) ?_
      rintro e a3 W3 hpost
      cases e with
      | normal =>
        obtain ⟨k1, k2, k3⟩ := hpost
        have hl3 := (k1.2 (w.heap.size + 1) (.inl ⟨_, World.putObj_heap_same (by omega)⟩)).trans (World.putObj_heap_same (by omega))
        have hkp : ∀ o, (Wa.putObj (w.heap.size + 1) o).heap[w.heap.size]? = some (.deferred (some [])) := fun o => (World.putObj_heap_other (by omega)).trans hka
        have hk3 := (k1.2 w.heap.size (.inr ⟨_, hkp _⟩)).trans (hkp _)
        refine ⟨_, _, run_endRound (P := P) none hl3, rfl, ⟨hI3 _ _ _ _ _ (by omega) hl3 k3, World.putObj_heap_same (Array.getElem?_eq_some_iff.1 hl3).1, (World.putObj_heap_other (by omega)).trans hk3⟩, ?_⟩
        intro k hk'
        have h2 := hbs k hk'
        exact ((World.putObj_heap_other (by omega)).trans (k2 k hk')).trans ((World.putObj_heap_other (by omega)).trans (hba.block k (by omega)))
      | ret => exact hpost.elim
      | exit id => exact hpost.elim
      | goto t => exact hpost.elim
      | panic ch => exact hpost.elim
      | outgrown => exact hpost.elim
    · rintro e W2 ⟨⟨v, rfl⟩, hi, hl, hk⟩
      have hlt : w.heap.size + 1 < W2.heap.size := (Array.getElem?_eq_some_iff.1 hl).1
      exact ⟨none, _, run_endLoop (P := P) hl (by simp), hdone _ _ (Nat.le_refl _) (hI3 _ _ _ _ _ (by omega) hl hi) ((World.putObj_heap_other (by omega)).trans hk)⟩

theorem zmax_any (b off n c : Nat) (zs : List Int) (w : World) (R : Ending → World → Prop) (hn : 0 < n) (hz : zs.length = n) (hb : n ≤ 100000) (hc : ∀ j, j < zs.length → w.cell? ⟨b, off + j, none⟩ = some (.int .i64 (at0 zs j))) (hR : R (.returned (.int .i64 (Lib.maxOf zs))) w) :
    Calls Tryz.prog 36 #[.slice (some ⟨b, off, none⟩) n c] w R := by
  refine (Tryz.slices_Max_int b off n c zs w hn (by omega) (by omega) hc).mono ?_
  rintro e w' ⟨rfl, rfl⟩
  rw [← hz, List.take_length]; exact hR
theorem zmin_any (b off n c : Nat) (zs : List Int) (w : World) (R : Ending → World → Prop) (hn : 0 < n) (hz : zs.length = n) (hb : n ≤ 100000) (hc : ∀ j, j < zs.length → w.cell? ⟨b, off + j, none⟩ = some (.int .i64 (at0 zs j))) (hR : R (.returned (.int .i64 (Lib.minOf zs))) w) :
    Calls Tryz.prog 37 #[.slice (some ⟨b, off, none⟩) n c] w R := by
  refine (Tryz.slices_Min_int b off n c zs w hn (by omega) (by omega) hc).mono ?_
  rintro e w' ⟨rfl, rfl⟩
  rw [← hz, List.take_length]; exact hR
theorem gp_at {l : List Int} {g k j : Nat} (hj : j < g) : at0 (gpL l g k) j = at0 l (k * g + j) := by
  unfold at0 gpL
  rw [List.getD_eq_getElem?_getD, List.getD_eq_getElem?_getD, List.getElem?_take_of_lt hj, List.getElem?_drop]
theorem gp_cells {w : World} {bd od : Nat} {l : List Int} {g k : Nat} (hc : ∀ j, j < l.length → w.cell? ⟨bd, od + j, none⟩ = some (.int .i64 (at0 l j))) (hk : k < l.length / g) : ∀ j, j < (gpL l g k).length → w.cell? ⟨bd, od + k * g + j, none⟩ = some (.int .i64 (at0 (gpL l g k) j)) := by
  intro j hj
  rw [gpL_length hk] at hj
  have := gp_fit hk
  rw [gp_at hj, Nat.add_assoc]
  exact hc _ (by omega)
theorem step_app1 {w : World} {ops : Array Oper} {o : Oper} {a : Act} {K : Act → World → Prop} {Q : Exit → Act → World → Prop} {E : Prop} (hgd : o.guard = none) (s x : Operand)
    (ho : o.op = .call { callee := .builtin .append, args := #[s, x], argTypes := #[22, 22] }) (base : Nat) (v : Value) (n : Nat) (xs : List Value) (hs : a.eval s = v) (hown : w.ownsRow base 3 1 v n xs)
    (b : Nat) (y : Int) (hx : a.eval x = .slice (some ⟨b, 0, none⟩) 1 1) (hc : w.cell? ⟨b, 0, none⟩ = some (.int .i64 y)) (hn : n ≤ 100000) (hbase : base ≤ w.heap.size)
    (h : ∀ g cap w', w'.ownsRow base 3 1 (.slice (some ⟨g, 0, none⟩) (n + 1) cap) (n + 1) (xs ++ [.int .i64 y]) → w.grownBy w' v.ownBlock → K (a.put o.dst (.slice (some ⟨g, 0, none⟩) (n + 1) cap)) w') :
    if Region.wanted o (yielded ops a.tmps) = true then Oper.wp Tryz.prog o a w K Q else E := by
  obtain ⟨i, q1, q2, q3, q4⟩ := info_parts Tryz.infoInts
  refine step_append_lies w hgd s x 22 ho base 3 i _ 1 8 Tryz.underlying22 q1 q2 q3 q4 rfl (by decide) v n xs hs hown ⟨b, 0, none⟩ 1 1 [.int .i64 y] hx rfl ?_ (one1 _ rfl) (by decide) (by unfold maxLen; omega) (by omega) hbase w.heap.size rfl (fun g cap w' h1 h2 _ _ => h g cap w' h1 h2)
  intro j u hj
  match j, hj with
  | 0, hj =>
    have e : u = .int .i64 y := by simpa using hj.symm
    rw [e]
    exact hc
def chEnc (bd od g : Nat) (i : Nat) : Array Value := #[.slice (some ⟨bd, od + i * g, none⟩) g g]
theorem zchunk_any (ao : Option Addr) (m c : Nat) (g : Int) (hg : 1 ≤ g) (w : World) (R : Ending → World → Prop)
   (hR : ∀ w', Below w.heap.size w w' → w.heap.size + 1 < w'.heap.size → w'.cell? ⟨w.heap.size, 0, none⟩ = some (.slice ao m c) → w'.cell? ⟨w.heap.size + 1, 0, none⟩ = some (.int .i64 g) →
     R (.returned (.func (.func 97) #[] #[.pointer (some ⟨w.heap.size, 0, none⟩), .pointer (some ⟨w.heap.size + 1, 0, none⟩)])) w') :
    Calls Tryz.prog 65 #[.slice ao m c, .int .i64 g] w R := by
  have HR := Lib.hid hR
  have K1 : (g < 1) = False := eq_false (by omega)
  clear hR hg
  have hb0 : Below w.heap.size w (w.alloc (.cells #[.slice ao m c] 22)) := (Below.refl _ _).alloc (Nat.le_refl _) _
  have cB : (w.alloc (.cells #[.slice ao m c] 22)).cell? ⟨w.heap.size, 0, none⟩ = some (.slice ao m c) := by simp
  have hsz : (w.alloc (.cells #[.slice ao m c] 22)).heap.size = w.heap.size + 1 := by simp
  obtain ⟨wa, EA⟩ : ∃ wa, Hid (w.alloc (.cells #[.slice ao m c] 22) = wa) := ⟨_, rfl⟩
  rw [EA.out] at hb0 cB hsz
  have hb1 : Below wa.heap.size wa (wa.alloc (.cells #[.int .i64 g] 3)) := (Below.refl _ _).alloc (Nat.le_refl _) _
  have cG : (wa.alloc (.cells #[.int .i64 g] 3)).cell? ⟨wa.heap.size, 0, none⟩ = some (.int .i64 g) := by simp
  have hsz1 : (wa.alloc (.cells #[.int .i64 g] 3)).heap.size = wa.heap.size + 1 := by simp
  obtain ⟨w1, E1⟩ : ∃ w1, Hid (wa.alloc (.cells #[.int .i64 g] 3) = w1) := ⟨_, rfl⟩
  rw [E1.out] at hb1 cG hsz1
  have c1 := cellB hb1 cB (by show w.heap.size < _; omega)
  rw [hsz] at cG
  have F : Hid (R (.returned (.func (.func 97) #[] #[.pointer (some ⟨w.heap.size, 0, none⟩), .pointer (some ⟨w.heap.size + 1, 0, none⟩)])) w1) := HR.out _ (hb0.trans (hb1.mono (by omega))) (by omega) c1 cG
  clear HR hb0 cB hsz hb1 hsz1 c1 cG
  go_enter Tryz.func65, Tryz.ntmps65
  go_wp2_with fail
  rw [EA.out, E1.out]
  exact F.out
set_option maxRecDepth 100000 in
set_option maxHeartbeats 4000000 in
theorem chunk1_gives (n : Nat) (_hn : 1 ≤ n) (Bn : Nat) (bd od m g c : Nat) (w0 : World) (hg : 1 ≤ g) (hm : m * g ≤ 100000) (hcap : m * g ≤ c) (hB : w0.cell? ⟨Bn, 0, none⟩ = some (.slice (some ⟨bd, od, none⟩) (m * g) c)) (hG : w0.cell? ⟨Bn + 1, 0, none⟩ = some (.int .i64 (g : Int))) (hBl : Bn + 1 < w0.heap.size) :
    GivesW Fence.wide n Tryz.prog 97 #[.pointer (some ⟨Bn, 0, none⟩), .pointer (some ⟨Bn + 1, 0, none⟩)] (chEnc bd od g) [Bn, Bn + 1] (List.range m) w0 := by
  intro lp J W hW hD hY hJ0
  have HD := Lib.hid hD
  have HY := Lib.hid hY
  have HBc := Lib.hid ((hW.cell (p := ⟨Bn, 0, none⟩) (by show Bn < _; omega)).trans hB)
  have HGc := Lib.hid ((hW.cell (p := ⟨Bn + 1, 0, none⟩) hBl).trans hG)
  obtain ⟨N, hN⟩ : ∃ N, m * g = N := ⟨_, rfl⟩
  rw [hN] at hm hcap HBc
  have HN := Lib.hid hN
  clear hY hW hB hG hBl hN hD
  refine callsIn_of_wp Tryz.func97 rfl trivial ?_ rfl
  simp only [Tryz.ntmps97, List.size_toArray, List.length_cons, List.length_nil, Nat.reduceAdd, Nat.reduceSub, Array.replicate_succ, Array.replicate_zero, List.push_toArray, List.append_toArray, List.nil_append, List.cons_append]
  gi_wp2
  gi_loopw [4] (fun p wr => ∃ (k : Nat), k ≤ m ∧ p = .int .i64 ((k * g : Nat) : Int) ∧ Hid (J (List.range k) wr) ∧ Hid (KeepsBs [Bn, Bn + 1] W wr)) (fun p _ => m * g - (intOf p).toNat)
  case atStart => exact ⟨0, Nat.zero_le _, by simp, hJ0, fun _ _ => rfl⟩
  case round =>
    obtain ⟨k, hk, rfl, HJ, HK⟩ := hrel
    have b0 := (World.cell?_of_block (a := ⟨Bn, 0, none⟩) (HK.out Bn (by simp))).trans HBc.out
    have g0 := (World.cell?_of_block (a := ⟨Bn + 1, 0, none⟩) (HK.out (Bn + 1) (by simp))).trans HGc.out
    have hfit : k < m → k * g + g ≤ N := fun h => by
      have h1 : (k + 1) * g ≤ m * g := Nat.mul_le_mul_right g h
      rw [HN.out, Nat.add_mul] at h1; omega
    have hend : k = m → k * g = N := fun h => by rw [h]; exact HN.out
    have hnx : Hid ((k + 1) * g = k * g + g) := by unfold Hid; rw [Nat.add_mul]; omega
    have henc : Hid (chEnc bd od g k = #[.slice (some ⟨bd, od + k * g, none⟩) g g]) := rfl
    obtain ⟨p, hp⟩ : ∃ p, k * g = p := ⟨_, rfl⟩
    rw [hp] at hfit hend hnx henc
    have Hp := Lib.hid hp
    rw [hp]
    clear hp
    by_cases hlt : k < m
    · have hpf := hfit hlt
      have hpre := range_pre' hlt
      have K1 : ((p : Int) < (N : Int)) = True := eq_true (by omega)
      have K2 : IntKind.i64.wrap ((p : Int) + (g : Int)) = ((p + g : Nat) : Int) := by rw [IntKind.wrap_i64] <;> omega
      have K3 : (0 ≤ (p : Int)) = True := eq_true (by omega)
      have K4 : ((p : Int) ≤ (N : Int)) = True := eq_true (by omega)
      have K5 : (c = p) = False := eq_false (by omega)
      have K6 : min (g : Int) ((N - p : Nat) : Int) = (g : Int) := by omega
      have K7 : (p ≤ N) = True := eq_true (by omega)
      have K8 : (p + g ≤ c) = True := eq_true (by omega)
      have K9 : (p ≤ p + g) = True := eq_true (by omega)
      have K10 : (p + g - p) = g := by omega
      have K11 : (p + g = p) = False := eq_false (by omega)
      have K12 : min (g : Int) ((N : Int) - (p : Int)) = (g : Int) := by omega
      clear hfit hend
      gi_wp2
      refine wpIn_wide.2 ?_
      refine regionL [0, 1, 2, 3, 4, 5, 6] (fun w' => w'.cell? ⟨Bn, 0, none⟩ = some (.slice (some ⟨bd, od, none⟩) N c) ∧ w'.cell? ⟨Bn + 1, 0, none⟩ = some (.int .i64 (g : Nat))) (by kernel_rfl) (⟨b0, g0⟩) (fun Qn hPQ hQn hS0 => ?_)
      iterate 7 (refine takeL (v := ?_) rfl rfl (by kernel_rfl) (by kernel_rfl) (by kernel_rfl) hPQ hS0 (by kernel_rfl) ?_ ?_; rotate_left; (focus (intro w hSw; (try dsimp only at hSw); obtain ⟨k0, k1⟩ := hSw; go_simp; (try with_reducible rfl))); (try simp only [Act.put, List.setIfInBounds_toArray, List.set_cons_zero, List.set_cons_succ]))
      refine ofL (wpAnyH_done (by kernel_rfl) (hQn.out _ _ ?_) _)
      clear hS0 hPQ hQn Qn
      obtain ⟨wd, hwd⟩ : ∃ wd, wr.drew = wd := ⟨_, rfl⟩
      have HJd : Hid (J (List.range k) wd) := by unfold Hid; rw [← hwd]; exact HD.out _ _ HJ.out
      have HKd : Hid (KeepsBs [Bn, Bn + 1] W wd) := by rw [← hwd]; exact HK.out
      have b1 : wd.cell? ⟨Bn, 0, none⟩ = some (.slice (some ⟨bd, od, none⟩) N c) := by rw [← hwd]; exact b0
      have g1 : wd.cell? ⟨Bn + 1, 0, none⟩ = some (.int .i64 (g : Int)) := by rw [← hwd]; exact g0
      rw [hwd]
      obtain ⟨fn, tmps, assign, body, hy, hR⟩ := HY.out (List.range k) k wd HJd.out hpre
      rw [henc.out] at hy
      clear hpre hwd b0 g0
      gi_wp2
      refine hR.mono ?_
      rintro e3 W3 ⟨rfl, hJ3, hb3⟩
      have HK3 : Hid (KeepsBs [Bn, Bn + 1] W W3) := fun q hq => (hb3 q hq).trans (HKd.out q hq)
      have HJ3 : Hid (J (List.range (k + 1)) W3) := by unfold Hid; rw [List.range_succ]; exact hJ3
      have g3 := (World.cell?_of_block (a := ⟨Bn + 1, 0, none⟩) (HK3.out (Bn + 1) (by simp))).trans HGc.out
      clear hJ3 hb3 b1 g1
      gi_wp2
      exact ⟨⟨k + 1, by omega, by rw [hnx.out, Int.natCast_add], HJ3, HK3⟩, by rw [HN.out]; simp [intOf]; omega⟩
    · obtain rfl : k = m := by omega
      have hpN := hend rfl
      have K1 : ((p : Int) < (N : Int)) = False := eq_false (by omega)
      clear hfit hend
      gi_wp2
      go_end0
      exact ⟨⟨_, rfl⟩, HJ.out⟩

theorem spr_end {bs : List Nat} {n0 base k m g cap : Nat} {w V W6 w5 : World} {v : Value} {L L' : List Value} (hw : w.heap.size = n0) (hb : Boxed V n0 22 v) (ho : V.ownsRow base 3 1 v k L) (hB3 : Below n0 w V) (hn0 : n0 < base) (hbase : base ≤ V.heap.size)
    (hbs : ∀ q ∈ bs, q < base) (hne : ∀ q ∈ bs, q ≠ n0) (S6 : W6.heap.size = V.heap.size + 1) (B6 : Below n0 w W6) (K6 : ∀ q, q < V.heap.size → W6.heap[q]? = V.heap[q]?) (hgrow : W6.grownBy w5 v.ownBlock) (B5 : Boxed w5 n0 22 v) (hown : w5.ownsRow base 3 1 (.slice (some ⟨g, 0, none⟩) m cap) m L') :
    KeepsLD V (w5.setCell ⟨n0, 0, none⟩ (.slice (some ⟨g, 0, none⟩) m cap)) ∧ KeepsBs bs V (w5.setCell ⟨n0, 0, none⟩ (.slice (some ⟨g, 0, none⟩) m cap)) ∧
    ∃ v', Boxed (w5.setCell ⟨n0, 0, none⟩ (.slice (some ⟨g, 0, none⟩) m cap)) n0 22 v' ∧ (w5.setCell ⟨n0, 0, none⟩ (.slice (some ⟨g, 0, none⟩) m cap)).ownsRow base 3 1 v' m L' ∧ Below n0 w (w5.setCell ⟨n0, 0, none⟩ (.slice (some ⟨g, 0, none⟩) m cap)) := by
  have hrow : ∀ g, v.ownBlock = some g → base ≤ g := fun g e => by
    rcases ho.2 with ⟨rfl, _⟩ | ⟨g', cap, cur, rfl, h2, _⟩
    · simp [Value.ownBlock] at e
    · simp [Value.ownBlock] at e; omega
  have hkeep : ∀ q, q < V.heap.size → q ≠ n0 → (∀ g, v.ownBlock = some g → q ≠ g) → (w5.setCell ⟨n0, 0, none⟩ (.slice (some ⟨g, 0, none⟩) m cap)).heap[q]? = V.heap[q]? := fun q hq hne hng => by
    rw [Below.heap_setCell _ _ _ _ hne, hgrow.block q (by omega) (fun e => hng q e.symm rfl)]
    exact K6 q hq
  refine ⟨⟨?_, fun q hq => ?_⟩, fun q hq => ?_, _, B5.set _, ?_, ?_⟩
  · have h := hgrow.size
    have h2 := (Below.setCell (Below.refl n0 w5) (p := ⟨n0, 0, none⟩) (Nat.le_refl _) (.slice (some ⟨g, 0, none⟩) m cap)).size
    have h3 := hb.lt
    omega
  · have hql : q < V.heap.size := by
      rcases hq with ⟨_, h⟩ | ⟨_, h⟩ <;> exact lt_of_block h
    refine hkeep q hql ?_ ?_
    · rintro rfl
      have h2 : V.heap[q]? = _ := hb
      rcases hq with ⟨_, h⟩ | ⟨_, h⟩ <;> (rw [h2] at h; cases h)
    · intro g e hqg
      subst hqg
      rcases ho.2 with ⟨rfl, _⟩ | ⟨g', cap, cur, rfl, h2, h3, _⟩
      · simp [Value.ownBlock] at e
      · simp [Value.ownBlock] at e
        subst e
        rcases hq with ⟨_, h⟩ | ⟨_, h⟩ <;> (rw [h3] at h; cases h)
  · have h := hbs q hq
    exact hkeep q (by omega) (hne q hq) (fun g e => by have := hrow g e; omega)
  · refine ⟨hown.1, ?_⟩
    rcases hown.2 with h | ⟨g, cap, cur, h1, h2, h3, h4⟩
    · exact .inl h
    · exact .inr ⟨g, cap, cur, h1, h2, (Below.heap_setCell _ _ _ _ (show g ≠ n0 by omega)).trans h3, h4⟩
  · exact (B6.grown hgrow (by omega) (fun j e => by have := hrow j e; omega)).setCell (p := ⟨n0, 0, none⟩) (Nat.le_refl _) _
theorem res3 {fn : Func} {t u v : Tmp} {P : Program} (h : fn.results = #[.tmp t, .tmp u, .tmp v]) {tmps : Array Value} {x y z : Value} (hx : tmps.getD t undef = x) (hy : tmps.getD u undef = y) (hz : tmps.getD v undef = z) (w : World) : (results fn tmps).run P w = .ok (.tuple #[x, y, z]) w := by rw [results_tmp3 h, hx, hy, hz]
set_option maxRecDepth 100000 in
set_option maxHeartbeats 8000000 in
theorem zspread_any (ao : Option Addr) (l : List Int) (c : Nat) (g : Int) (w : World) (R : Ending → World → Prop) (hl : l.length ≤ 1000000000) (hcap : l.length ≤ c) (hc : CellsAt w ao (I64s l)) (hE : Env w)
   (hR : ∀ a n c' r w', Below w.heap.size w w' → (sprE l g = 0 → n = l.length / g.toNat ∧ CellsAt w' a (I64s (sprL g.toNat l)) ∧ TxR r (meanS (sprL g.toNat l))) → (sprE l g ≠ 0 → n = 0 ∧ r = ⟨#[]⟩) → R (.returned (.tuple #[.slice a n c', .string r, .int .i64 (sprE l g)])) w') :
    Calls Tryz.prog 29 #[.slice ao l.length c, .int .i64 g] w R := by
  have HR := Lib.hid hR
  have HC := Lib.hid hc
  have HL := Lib.hid hl
  have HE := Lib.hid hE
  clear hR hc hl hE
  have h1 : 1 ≤ 6 := by omega
  obtain ⟨e, he⟩ : ∃ e, Hid (ckSr l = e) := ⟨_, rfl⟩
  refine (callsIn_wide (n := 6)).1 ?_
  refine callsIn_of_wp_marks Tryz.func29 rfl trivial ?_ rfl
  simp only [Tryz.ntmps29, List.size_toArray, List.length_cons, List.length_nil, Nat.reduceAdd, Nat.reduceSub, Array.replicate_succ, Array.replicate_zero, List.push_toArray, List.append_toArray, List.nil_append, List.cons_append]
  by_cases h0 : e = 0
  · subst h0
    have HS := Lib.hid (Srs.of he.out)
    have HV : Hid (sprE l g = if 2 ≤ g ∧ g ≤ 256 then (if (l.length : Int) < g then 14 else 0) else 2) := by unfold Hid sprE; rw [if_pos he.out]
    by_cases a1 : g < 2
    · have K1 : (g < 2) = True := eq_true a1
      have e2 : Hid (sprE l g = 2) := by unfold Hid; rw [HV.out, if_neg (by omega)]
      rw [e2.out] at HR
      clear a1
      gi_wp2_with (first | (refine ⟨trivial, ?_⟩; gi_at_call 18; refine callsIn_wide.2 (zcheck_any _ l c _ _ HL.out HC.out ?_); rw [he.out]) | (simp only []) | fail)
      refine endM0 (res3 (t := 4) (u := 5) (v := 6) rfl rfl rfl rfl) ?_
      exact HR.out none 0 0 ⟨#[]⟩ _ (Below.refl _ _) (fun h => absurd h (by decide)) (fun _ => ⟨rfl, rfl⟩)
    · have K1 : (g < 2) = False := eq_false a1
      by_cases a2 : 256 < g
      · have K2 : (256 < g) = True := eq_true a2
        have e2 : Hid (sprE l g = 2) := by unfold Hid; rw [HV.out, if_neg (by omega)]
        rw [e2.out] at HR
        clear a1 a2
        gi_wp2_with (first | (refine ⟨trivial, ?_⟩; gi_at_call 18; refine callsIn_wide.2 (zcheck_any _ l c _ _ HL.out HC.out ?_); rw [he.out]) | (simp only []) | fail)
        refine endM0 (res3 (t := 4) (u := 5) (v := 6) rfl rfl rfl rfl) ?_
        exact HR.out none 0 0 ⟨#[]⟩ _ (Below.refl _ _) (fun h => absurd h (by decide)) (fun _ => ⟨rfl, rfl⟩)
      · have K2 : (256 < g) = False := eq_false a2
        by_cases a3 : (l.length : Int) < g
        · have K3 : ((l.length : Int) < g) = True := eq_true a3
          have e2 : Hid (sprE l g = 14) := by unfold Hid; rw [HV.out, if_pos ⟨by omega, by omega⟩, if_pos a3]
          rw [e2.out] at HR
          clear a1 a2 a3
          gi_wp2_with (first | (refine ⟨trivial, ?_⟩; gi_at_call 18; refine callsIn_wide.2 (zcheck_any _ l c _ _ HL.out HC.out ?_); rw [he.out]) | (simp only []) | fail)
          refine endM0 (res3 (t := 4) (u := 5) (v := 6) rfl rfl rfl rfl) ?_
          exact HR.out none 0 0 ⟨#[]⟩ _ (Below.refl _ _) (fun h => absurd h (by decide)) (fun _ => ⟨rfl, rfl⟩)
        · have K3 : ((l.length : Int) < g) = False := eq_false a3
          obtain ⟨G, rfl⟩ : ∃ G : Nat, g = (G : Int) := ⟨g.toNat, by omega⟩
          have e2 : Hid (sprE l (G : Int) = 0) := by unfold Hid; rw [HV.out, if_pos ⟨by omega, by omega⟩, if_neg a3]
          rw [e2.out] at HR
          simp only [Int.toNat_natCast] at HR
          have hG1 : 2 ≤ G := by omega
          have hG2 : G ≤ 256 := by omega
          have hGl : G ≤ l.length := by omega
          have hfew := HS.out.few
          obtain ⟨m, hm⟩ : ∃ m, l.length / G = m := ⟨_, rfl⟩
          have hmG : m * G ≤ l.length := by rw [← hm]; exact Nat.div_mul_le_self _ _
          have hm1 : m ≤ l.length := by rw [← hm]; exact Nat.div_le_self _ _
          have HM := Lib.hid hm
          obtain ⟨N, hN⟩ : ∃ N, m * G = N := ⟨_, rfl⟩
          have HN := Lib.hid hN
          rw [hN] at hmG
          obtain ⟨bd, od, rfl, hbd, hdc⟩ := HC.out.ints (by omega)
          have HDC := Lib.hid hdc
          have HBD := Lib.hid hbd
          have M1 : (l.length : Int).tdiv (G : Int) = (m : Int) := by rw [Int.tdiv_eq_ediv_of_nonneg (by omega), ← hm]; rfl
          have M2 : IntKind.i64.wrap (m : Int) = (m : Int) := by rw [IntKind.wrap_i64] <;> omega
          have M3 : (m : Int) * (G : Int) = (N : Int) := by rw [← hN, Int.natCast_mul]
          have M4 : IntKind.i64.wrap (N : Int) = (N : Int) := by rw [IntKind.wrap_i64] <;> omega
          have M5 : ((G : Int) == 0) = false := by simp; omega
          have M6 : ((N : Int) ≤ (c : Int)) = True := (eq_true (by omega))
          clear a1 a2 a3 hm hN hdc hbd
          gi_wp2_with (first | (refine ⟨trivial, ?_⟩; gi_at_call 18; refine callsIn_wide.2 (zcheck_any _ l c _ _ HL.out HC.out ?_); rw [he.out]) | (simp only []) | fail)
          have q1 : Boxed (w.alloc (.cells #[.slice none 0 0] 22)) w.heap.size 22 (.slice none 0 0) := Boxed.new w _ _
          have hb0 : Below w.heap.size w (w.alloc (.cells #[.slice none 0 0] 22)) := (Below.refl _ _).alloc (Nat.le_refl _) _
          obtain ⟨W0, hW0⟩ : ∃ W0, w.alloc (.cells #[.slice none 0 0] 22) = W0 := ⟨_, rfl⟩
          have hs0 : W0.heap.size = w.heap.size + 1 := by rw [← hW0]; simp
          rw [hW0] at q1 hb0 ⊢
          refine ⟨trivial, callsIn_wide.2 (zchunk_any _ N c (G : Int) (by omega) _ _ fun w2 hb hs q2 q3 => ?_)⟩
          obtain ⟨Bn, hBn⟩ : ∃ b, W0.heap.size = b := ⟨_, rfl⟩
          rw [hBn] at hs q2 q3 ⊢
          have hB2 : Below w.heap.size w w2 := hb0.trans (hb.mono hb0.size)
          have Q1 : Boxed w2 w.heap.size 22 (.slice none 0 0) := (hb.block _ (by omega)).trans q1
          have hn0 : w.heap.size < w2.heap.size := by omega
          have HB2 := Lib.hid hB2
          have hs2 := hB2.size
          have HSm : Hid (Sms (sprL G l)) := sms_spread HS.out hG1 hGl
          have hlen : Hid ((sprL G l).length = m) := by unfold Hid; rw [sprL_length, HM.out]
          have hbs : ∀ k ∈ [Bn, Bn + 1], k < w2.heap.size := fun k hk => by
            simp only [List.mem_cons, List.not_mem_nil, or_false] at hk
            rcases hk with rfl | rfl <;> omega
          have hne : ∀ k ∈ [Bn, Bn + 1], k ≠ w.heap.size := fun k hk => by
            simp only [List.mem_cons, List.not_mem_nil, or_false] at hk
            rcases hk with rfl | rfl <;> omega
          have Hne := Lib.hid hne
          have Hbs := Lib.hid hbs
          have hgives := chunk1_gives 5 (by omega) Bn bd od m G c w2 (by omega) (by rw [HN.out]; omega) (by rw [HN.out]; omega) (by rw [HN.out]; exact q2) q3 hs
          clear hW0 hb0 q1 hb hBn hs q2 q3 hne
          gi_wp2
          refine wpIn_rangeFunc_w (xs := List.range m) (bs := [Bn, Bn + 1]) rfl h1 (gf := 97) (lb := #[.pointer (some ⟨Bn, 0, none⟩), .pointer (some ⟨Bn + 1, 0, none⟩)]) rfl trivial (enters_of Tryz.func97 (by kernel_rfl) rfl)
            hgives (Below.refl _ _) (fun _ => rfl) hbs
            (fun pre V => ∃ v, Boxed V w.heap.size 22 v ∧ V.ownsRow w2.heap.size 3 1 v pre.length (I64s ((sprL G l).take pre.length)) ∧ Below w.heap.size w V)
            ?stable ?put ⟨_, Q1, by have h := World.ownsRow_nil w2 w2.heap.size 3 1; simpa [I64s] using h, hB2⟩
            (fun x a' V => a' = { tmps := #[Value.slice (some { block := bd, off := od }) l.length c, Value.int IntKind.i64 ↑G, undef, undef, Value.slice none 0 0, Value.string { data := #[] }, Value.int IntKind.i64 0, Value.int IntKind.i64 0, Value.pointer (some { block := w.heap.size, off := 0 }), Value.slice (some { block := bd, off := od + x * G }) G G, undef, undef, Value.slice (some { block := bd, off := od }) l.length c, Value.int IntKind.i64 0, Value.int IntKind.i64 0, Value.bool false, undef, Value.bool false, Value.int IntKind.i64 ↑G, Value.bool false, Value.bool false, Value.int IntKind.i64 ↑G, Value.bool false, Value.bool false, Value.bool false, Value.slice (some { block := bd, off := od }) l.length c, Value.int IntKind.i64 ↑l.length, Value.int IntKind.i64 ↑G, Value.bool false, Value.slice (some { block := bd, off := od }) l.length c, Value.slice (some { block := bd, off := od }) l.length c, Value.int IntKind.i64 ↑l.length, Value.int IntKind.i64 ↑G, Value.int IntKind.i64 ↑m, Value.int IntKind.i64 ↑G, Value.int IntKind.i64 ↑N, Value.slice (some { block := bd, off := od }) N c, Value.int IntKind.i64 ↑G, Value.func (Fn.func 97) #[] #[Value.pointer (some { block := Bn, off := 0 }), Value.pointer (some { block := Bn + 1, off := 0 })], Value.slice (some { block := bd, off := od + x * G }) G G, undef, undef, undef, undef, undef, undef, undef, undef, undef, undef, undef, undef, undef, undef, undef, undef, undef, undef], defers := [] })
            (by rintro x a' V l' r o _ h; exact h) ?assign ?body ?done
          case stable =>
            rintro s A B ⟨v, h1, h2, h3⟩ hAB
            exact ⟨v, (hAB.block _ h1.lt).trans h1, ownsRow_below h2 hAB, h3.trans (hAB.mono h3.size)⟩
          case put =>
            rintro s A L r o hge hL ⟨v, h1, h2, h3⟩
            have hne : w.heap.size ≠ L := by rintro rfl; rw [h1] at hL; cases hL
            exact ⟨v, (World.putObj_heap_other hne).trans h1, irow_not_obj h2 (fun cs t f e => by rw [hL] at e; cases e) o, h3.trans ⟨rfl, rfl, rfl, by simp, fun k hk => World.putObj_heap_other (by omega)⟩⟩
          case assign =>
            rintro l' pre x V K hi hsz hpre hK
            unfold chEnc
            gi_wp2
            exact hK _ _ (Below.refl _ _) rfl
          case done =>
            rintro D V hD ⟨v, h1, h2, h3⟩ hK
            rw [List.length_range, List.take_of_length_le (by rw [hlen.out]; exact Nat.le_refl _)] at h2
            have HRow := Lib.hid h2
            obtain ⟨a, c2, rfl, hcc, _⟩ := ownsRow_read h2
            have HCC := Lib.hid hcc
            have hcl := h1.cell
            have HBx := Lib.hid h1
            have H3 := Lib.hid h3
            have HK := Lib.hid hK
            have HEV := Lib.hid (HE.out.below h3)
            clear h1 h2 h3 hcc hK
            gi_wp2
            refine ⟨trivial, callsIn_wide.2 (zmeanN_any a (sprL G l) m c2 hlen.out _ _ HSm.out HCC.out HEV.out fun r w5 hb5 hr5 => ?_)⟩
            have HB5 := Lib.hid hb5
            have HT5 := Lib.hid hr5
            have BX5 : Boxed w5 w.heap.size 22 (.slice a m c2) := (hb5.block _ HBx.out.lt).trans HBx.out
            have hcl5 := BX5.cell
            have hDV := lt_of_block HK.out
            have HK5 : Hid (w5.heap[D]? = some (.deferred (some []))) := (hb5.block D hDV).trans HK.out
            have HR5 : Hid (w5.ownsRow w2.heap.size 3 1 (.slice a m c2) m (I64s (sprL G l))) := ownsRow_below HRow.out hb5
            have HBf : Hid (Below w.heap.size w w5) := H3.out.trans (hb5.mono H3.out.size)
            clear hb5 hr5 hcl BX5 hDV
            gi_wp2
            refine endM (v := .tuple #[.slice a m c2, .string r, .int .i64 0]) HK5.out (res3 (t := 4) (u := 5) (v := 6) rfl rfl rfl rfl) (fun hp => ?_)
            obtain ⟨a', c', e', hcc', _⟩ := ownsRow_read (irow_not_obj HR5.out (fun cs t f e => by rw [HK5.out] at e; cases e) (.deferred none))
            cases e'
            exact HR.out _ _ _ _ _ (HBf.out.trans (hp.mono (by omega))) (fun _ => ⟨HM.out.symm, hcc', HT5.out⟩) (fun h => absurd rfl h)
          case body =>
            rintro l' pre x a' V ⟨v, hb, ho, hB3⟩ rfl hsz hpre
            obtain ⟨hlt, _, hxe⟩ := range_pre hpre
            subst hxe
            obtain ⟨k, hk⟩ : ∃ k, pre.length = k := ⟨_, rfl⟩
            have hpl : Hid ((pre ++ [pre.length]).length = k + 1) := by unfold Hid; rw [List.length_append, hk]; rfl
            rw [hk] at ho hlt
            rw [hk] at hpl ⊢
            have hkl : k < l.length / G := by rw [HM.out]; exact hlt
            have hgl := gpL_length hkl
            have hfit := gp_fit hkl
            have hcells := gp_cells (fun j hj => (hB3.cell (p := ⟨bd, od + j, none⟩) HBD.out).trans (HDC.out j hj)) hkl
            obtain ⟨q, hq⟩ : ∃ q, od + k * G = q := ⟨_, rfl⟩
            rw [hq] at hcells ⊢
            have hwb := wd_bound (l := gpL l G k) (by omega) (fun y hy => ⟨HS.out.lo y (gpL_mem hy), HS.out.hi y (gpL_mem hy)⟩)
            have htk : Hid (I64s ((sprL G l).take (k + 1)) = I64s ((sprL G l).take k) ++ [.int .i64 (wdI (gpL l G k))]) := by unfold Hid; rw [sprL_take hkl, I64s_append]; rfl
            obtain ⟨mx, hmx⟩ : ∃ y, Lib.maxOf (gpL l G k) = y := ⟨_, rfl⟩
            obtain ⟨mn, hmn⟩ : ∃ y, Lib.minOf (gpL l G k) = y := ⟨_, rfl⟩
            obtain ⟨y, hy⟩ : ∃ y, wdI (gpL l G k) = y := ⟨_, rfl⟩
            have hwd : mx - mn = y := by rw [← hy, ← hmx, ← hmn]; rfl
            rw [hy] at hwb htk
            have KY : IntKind.i64.wrap (mx - mn) = y := by rw [hwd, IntKind.wrap_i64] <;> omega
            obtain ⟨L, hL⟩ : ∃ L, I64s ((sprL G l).take k) = L := ⟨_, rfl⟩
            rw [hL] at htk ho
            have hcl := hb.cell
            obtain ⟨W6, E6⟩ : ∃ W, (V.alloc (.cells #[.int .i64 y] 3)).drew = W := ⟨_, rfl⟩
            have hab : Below V.heap.size V W6 := by rw [← E6]; exact ((Below.refl _ _).alloc (Nat.le_refl _) _).drew
            have O6 : Hid (W6.ownsRow w2.heap.size 3 1 v k L) := ownsRow_below ho hab
            have B6 : Hid (Boxed W6 w.heap.size 22 v) := (hab.block _ hb.lt).trans hb
            have N6 : Hid (W6.cell? ⟨V.heap.size, 0, none⟩ = some (.int .i64 y)) := by
              rw [← E6]
              show (V.alloc (.cells #[.int .i64 y] 3)).cell? _ = _
              simp
            have S6 : Hid (W6.heap.size = V.heap.size + 1) := by rw [← E6]; show (V.alloc (.cells #[.int .i64 y] 3)).heap.size = _; simp
            have BW6 : Hid (Below w.heap.size w W6) := hB3.trans (hab.mono hB3.size)
            have c6 := B6.out.cell
            have K6 : Hid (∀ q, q < V.heap.size → W6.heap[q]? = V.heap[q]?) := fun q hq => hab.block q hq
            have HE6 := Lib.hid E6
            have Hb := Lib.hid hb
            have Ho := Lib.hid ho
            have HB3 := Lib.hid hB3
            have HCk := Lib.hid hcells
            have Hmx := Lib.hid hmx
            have Hmn := Lib.hid hmn
            have Hgl := Lib.hid hgl
            have hk6 : Hid (k ≤ 4096 ∧ 0 < G) := by unfold Hid; omega
            clear hb ho hB3 hk hL hpre hcells hq hmx hmn hy hwd hfit hwb E6 hab hgl hkl hlt
            gi_wp2
            refine regionRL [1, 3] (fun _ => True) (by kernel_rfl) (by kernel_rfl) trivial (fun Qn hPQ hQn hS0 => ?_)
            iterate 2 (refine takeL (v := ?_) rfl rfl (by kernel_rfl) (by kernel_rfl) (by kernel_rfl) hPQ hS0 (by kernel_rfl) ?_ ?_; rotate_left; (focus (intro w hSw; (try dsimp only at hSw); go_simp; (try with_reducible rfl))); (try simp only [Act.put, List.setIfInBounds_toArray, List.set_cons_zero, List.set_cons_succ]))
            refine ofL (wpAnyH_ready (rs := [0, 2]) (by kernel_rfl) (by simp) ?_)
            refine AllReadyH.cons (o := _) rfl (fun K hK => ?_) (AllReadyH.cons (o := _) rfl (fun K hK => ?_) AllReadyH.nil)
            · go_simp
              refine hK.out _ _ trivial (fun hS1 => toL [] ?_)
              clear hK K hS0
              (try simp only [Act.put, List.setIfInBounds_toArray, List.set_cons_zero, List.set_cons_succ])
              refine ofL (wpAnyH_ready (rs := [2]) (by kernel_rfl) (by simp) ?_)
              refine AllReadyH.cons (o := _) rfl (fun K hK => ?_) AllReadyH.nil
              go_simp
              refine zmax_any bd q G G (gpL l G k) _ _ hk6.out.2 Hgl.out (by omega) HCk.out ?_
              rw [Hmx.out]
              refine hK.out _ _ trivial (fun hS2 => toL [] ?_)
              clear hK K hS1
              (try simp only [Act.put, List.setIfInBounds_toArray, List.set_cons_zero, List.set_cons_succ])
              refine ofL (wpAnyH_ready (rs := [4]) (by kernel_rfl) (by simp) ?_)
              refine AllReadyH.cons (o := _) rfl (fun K hK => ?_) AllReadyH.nil
              go_simp
              refine zmin_any bd q G G (gpL l G k) _ _ hk6.out.2 Hgl.out (by omega) HCk.out ?_
              rw [Hmn.out]
              refine hK.out _ _ trivial (fun hS3 => toL [5] ?_)
              clear hK K hS2
              (try simp only [Act.put, List.setIfInBounds_toArray, List.set_cons_zero, List.set_cons_succ])
              iterate 1 (refine takeL (v := ?_) rfl rfl (by kernel_rfl) (by kernel_rfl) (by kernel_rfl) hPQ hS3 (by kernel_rfl) ?_ ?_; rotate_left; (focus (intro w hSw; (try dsimp only at hSw); go_simp; (try with_reducible rfl))); (try simp only [Act.put, List.setIfInBounds_toArray, List.set_cons_zero, List.set_cons_succ]))
              refine ofL (wpAnyH_ready (rs := [6]) (by kernel_rfl) (by simp) ?_)
              refine AllReadyH.cons (o := _) rfl (fun K hK => ?_) AllReadyH.nil
              go_simp
              (try rw [HE6.out])
              refine hK.out _ _ trivial (fun hS4 => toL [] ?_)
              clear hK K hS3
              (try simp only [Act.put, List.setIfInBounds_toArray, List.set_cons_zero, List.set_cons_succ])
              refine ofL (wpAnyH_ready (rs := [7]) (by kernel_rfl) (by simp) ?_)
              refine AllReadyH.cons (o := _) rfl (fun K hK => ?_) AllReadyH.nil
              refine step_app1 rfl (.tmp 40) (.tmp 46) rfl w2.heap.size v k L rfl O6.out V.heap.size y rfl N6.out (by have := hk6.out.1; omega) (by have := S6.out; omega) ?_
              intro g5 cap5 w5 hown hgrow
              have O5 := Lib.hid hown
              have G5 := Lib.hid hgrow
              have B5 := Lib.hid (B6.out.kept hgrow (Boxed.not_row B6.out (by decide) O6.out))
              have b5c := B5.out.cell
              have b5f := B5.out.frozen
              have b5l := B5.out.lt
              clear hown hgrow
              refine hK.out _ _ trivial (fun hS5 => toL [] ?_)
              clear hK K hS4
              (try simp only [Act.put, List.setIfInBounds_toArray])
              refine ofL (wpAnyH_ready (rs := [8]) (by kernel_rfl) (by simp) ?_)
              refine AllReadyH.cons (o := _) rfl (fun K hK => ?_) AllReadyH.nil
              go_simp
              refine hK.out _ _ trivial (fun hS6 => toL [] ?_)
              clear hK K hS5
              (try simp only [Act.put, List.setIfInBounds_toArray, List.set_cons_zero, List.set_cons_succ])
              refine ofL (wpAnyH_done (by kernel_rfl) (hQn.out _ _ ?_) _)
              clear hS6 hPQ hQn Qn
              have hfin := spr_end (bs := [Bn, Bn + 1]) rfl Hb.out Ho.out HB3.out hn0 hsz Hbs.out Hne.out S6.out BW6.out K6.out G5.out B5.out O5.out
              refine ⟨hfin.1, hfin.2.1, ?_⟩
              dsimp only
              rw [hpl.out, htk.out]
              exact hfin.2.2
            · go_simp
              refine zmax_any bd q G G (gpL l G k) _ _ hk6.out.2 Hgl.out (by omega) HCk.out ?_
              rw [Hmx.out]
              refine hK.out _ _ trivial (fun hS1 => toL [] ?_)
              clear hK K hS0
              (try simp only [Act.put, List.setIfInBounds_toArray, List.set_cons_zero, List.set_cons_succ])
              refine ofL (wpAnyH_ready (rs := [0, 4]) (by kernel_rfl) (by simp) ?_)
              refine AllReadyH.cons (o := _) rfl (fun K hK => ?_) (AllReadyH.cons (o := _) rfl (fun K hK => ?_) AllReadyH.nil)
              · go_simp
                refine hK.out _ _ trivial (fun hS2 => toL [] ?_)
                clear hK K hS1
                (try simp only [Act.put, List.setIfInBounds_toArray, List.set_cons_zero, List.set_cons_succ])
                refine ofL (wpAnyH_ready (rs := [4]) (by kernel_rfl) (by simp) ?_)
                refine AllReadyH.cons (o := _) rfl (fun K hK => ?_) AllReadyH.nil
                go_simp
                refine zmin_any bd q G G (gpL l G k) _ _ hk6.out.2 Hgl.out (by omega) HCk.out ?_
                rw [Hmn.out]
                refine hK.out _ _ trivial (fun hS3 => toL [5] ?_)
                clear hK K hS2
                (try simp only [Act.put, List.setIfInBounds_toArray, List.set_cons_zero, List.set_cons_succ])
                iterate 1 (refine takeL (v := ?_) rfl rfl (by kernel_rfl) (by kernel_rfl) (by kernel_rfl) hPQ hS3 (by kernel_rfl) ?_ ?_; rotate_left; (focus (intro w hSw; (try dsimp only at hSw); go_simp; (try with_reducible rfl))); (try simp only [Act.put, List.setIfInBounds_toArray, List.set_cons_zero, List.set_cons_succ]))
                refine ofL (wpAnyH_ready (rs := [6]) (by kernel_rfl) (by simp) ?_)
                refine AllReadyH.cons (o := _) rfl (fun K hK => ?_) AllReadyH.nil
                go_simp
                (try rw [HE6.out])
                refine hK.out _ _ trivial (fun hS4 => toL [] ?_)
                clear hK K hS3
                (try simp only [Act.put, List.setIfInBounds_toArray, List.set_cons_zero, List.set_cons_succ])
                refine ofL (wpAnyH_ready (rs := [7]) (by kernel_rfl) (by simp) ?_)
                refine AllReadyH.cons (o := _) rfl (fun K hK => ?_) AllReadyH.nil
                refine step_app1 rfl (.tmp 40) (.tmp 46) rfl w2.heap.size v k L rfl O6.out V.heap.size y rfl N6.out (by have := hk6.out.1; omega) (by have := S6.out; omega) ?_
                intro g5 cap5 w5 hown hgrow
                have O5 := Lib.hid hown
                have G5 := Lib.hid hgrow
                have B5 := Lib.hid (B6.out.kept hgrow (Boxed.not_row B6.out (by decide) O6.out))
                have b5c := B5.out.cell
                have b5f := B5.out.frozen
                have b5l := B5.out.lt
                clear hown hgrow
                refine hK.out _ _ trivial (fun hS5 => toL [] ?_)
                clear hK K hS4
                (try simp only [Act.put, List.setIfInBounds_toArray])
                refine ofL (wpAnyH_ready (rs := [8]) (by kernel_rfl) (by simp) ?_)
                refine AllReadyH.cons (o := _) rfl (fun K hK => ?_) AllReadyH.nil
                go_simp
                refine hK.out _ _ trivial (fun hS6 => toL [] ?_)
                clear hK K hS5
                (try simp only [Act.put, List.setIfInBounds_toArray, List.set_cons_zero, List.set_cons_succ])
                refine ofL (wpAnyH_done (by kernel_rfl) (hQn.out _ _ ?_) _)
                clear hS6 hPQ hQn Qn
                have hfin := spr_end (bs := [Bn, Bn + 1]) rfl Hb.out Ho.out HB3.out hn0 hsz Hbs.out Hne.out S6.out BW6.out K6.out G5.out B5.out O5.out
                refine ⟨hfin.1, hfin.2.1, ?_⟩
                dsimp only
                rw [hpl.out, htk.out]
                exact hfin.2.2
              · go_simp
                refine zmin_any bd q G G (gpL l G k) _ _ hk6.out.2 Hgl.out (by omega) HCk.out ?_
                rw [Hmn.out]
                refine hK.out _ _ trivial (fun hS2 => toL [5] ?_)
                clear hK K hS1
                (try simp only [Act.put, List.setIfInBounds_toArray, List.set_cons_zero, List.set_cons_succ])
                iterate 1 (refine takeL (v := ?_) rfl rfl (by kernel_rfl) (by kernel_rfl) (by kernel_rfl) hPQ hS2 (by kernel_rfl) ?_ ?_; rotate_left; (focus (intro w hSw; (try dsimp only at hSw); go_simp; (try with_reducible rfl))); (try simp only [Act.put, List.setIfInBounds_toArray, List.set_cons_zero, List.set_cons_succ]))
                refine ofL (wpAnyH_ready (rs := [0, 6]) (by kernel_rfl) (by simp) ?_)
                refine AllReadyH.cons (o := _) rfl (fun K hK => ?_) (AllReadyH.cons (o := _) rfl (fun K hK => ?_) AllReadyH.nil)
                · go_simp
                  refine hK.out _ _ trivial (fun hS3 => toL [] ?_)
                  clear hK K hS2
                  (try simp only [Act.put, List.setIfInBounds_toArray, List.set_cons_zero, List.set_cons_succ])
                  refine ofL (wpAnyH_ready (rs := [6]) (by kernel_rfl) (by simp) ?_)
                  refine AllReadyH.cons (o := _) rfl (fun K hK => ?_) AllReadyH.nil
                  go_simp
                  (try rw [HE6.out])
                  refine hK.out _ _ trivial (fun hS4 => toL [] ?_)
                  clear hK K hS3
                  (try simp only [Act.put, List.setIfInBounds_toArray, List.set_cons_zero, List.set_cons_succ])
                  refine ofL (wpAnyH_ready (rs := [7]) (by kernel_rfl) (by simp) ?_)
                  refine AllReadyH.cons (o := _) rfl (fun K hK => ?_) AllReadyH.nil
                  refine step_app1 rfl (.tmp 40) (.tmp 46) rfl w2.heap.size v k L rfl O6.out V.heap.size y rfl N6.out (by have := hk6.out.1; omega) (by have := S6.out; omega) ?_
                  intro g5 cap5 w5 hown hgrow
                  have O5 := Lib.hid hown
                  have G5 := Lib.hid hgrow
                  have B5 := Lib.hid (B6.out.kept hgrow (Boxed.not_row B6.out (by decide) O6.out))
                  have b5c := B5.out.cell
                  have b5f := B5.out.frozen
                  have b5l := B5.out.lt
                  clear hown hgrow
                  refine hK.out _ _ trivial (fun hS5 => toL [] ?_)
                  clear hK K hS4
                  (try simp only [Act.put, List.setIfInBounds_toArray])
                  refine ofL (wpAnyH_ready (rs := [8]) (by kernel_rfl) (by simp) ?_)
                  refine AllReadyH.cons (o := _) rfl (fun K hK => ?_) AllReadyH.nil
                  go_simp
                  refine hK.out _ _ trivial (fun hS6 => toL [] ?_)
                  clear hK K hS5
                  (try simp only [Act.put, List.setIfInBounds_toArray, List.set_cons_zero, List.set_cons_succ])
                  refine ofL (wpAnyH_done (by kernel_rfl) (hQn.out _ _ ?_) _)
                  clear hS6 hPQ hQn Qn
                  have hfin := spr_end (bs := [Bn, Bn + 1]) rfl Hb.out Ho.out HB3.out hn0 hsz Hbs.out Hne.out S6.out BW6.out K6.out G5.out B5.out O5.out
                  refine ⟨hfin.1, hfin.2.1, ?_⟩
                  dsimp only
                  rw [hpl.out, htk.out]
                  exact hfin.2.2
                · go_simp
                  (try rw [HE6.out])
                  refine hK.out _ _ trivial (fun hS3 => toL [] ?_)
                  clear hK K hS2
                  (try simp only [Act.put, List.setIfInBounds_toArray, List.set_cons_zero, List.set_cons_succ])
                  refine ofL (wpAnyH_ready (rs := [0]) (by kernel_rfl) (by simp) ?_)
                  refine AllReadyH.cons (o := _) rfl (fun K hK => ?_) AllReadyH.nil
                  go_simp
                  refine hK.out _ _ trivial (fun hS4 => toL [] ?_)
                  clear hK K hS3
                  (try simp only [Act.put, List.setIfInBounds_toArray, List.set_cons_zero, List.set_cons_succ])
                  refine ofL (wpAnyH_ready (rs := [7]) (by kernel_rfl) (by simp) ?_)
                  refine AllReadyH.cons (o := _) rfl (fun K hK => ?_) AllReadyH.nil
                  refine step_app1 rfl (.tmp 40) (.tmp 46) rfl w2.heap.size v k L rfl O6.out V.heap.size y rfl N6.out (by have := hk6.out.1; omega) (by have := S6.out; omega) ?_
                  intro g5 cap5 w5 hown hgrow
                  have O5 := Lib.hid hown
                  have G5 := Lib.hid hgrow
                  have B5 := Lib.hid (B6.out.kept hgrow (Boxed.not_row B6.out (by decide) O6.out))
                  have b5c := B5.out.cell
                  have b5f := B5.out.frozen
                  have b5l := B5.out.lt
                  clear hown hgrow
                  refine hK.out _ _ trivial (fun hS5 => toL [] ?_)
                  clear hK K hS4
                  (try simp only [Act.put, List.setIfInBounds_toArray])
                  refine ofL (wpAnyH_ready (rs := [8]) (by kernel_rfl) (by simp) ?_)
                  refine AllReadyH.cons (o := _) rfl (fun K hK => ?_) AllReadyH.nil
                  go_simp
                  refine hK.out _ _ trivial (fun hS6 => toL [] ?_)
                  clear hK K hS5
                  (try simp only [Act.put, List.setIfInBounds_toArray, List.set_cons_zero, List.set_cons_succ])
                  refine ofL (wpAnyH_done (by kernel_rfl) (hQn.out _ _ ?_) _)
                  clear hS6 hPQ hQn Qn
                  have hfin := spr_end (bs := [Bn, Bn + 1]) rfl Hb.out Ho.out HB3.out hn0 hsz Hbs.out Hne.out S6.out BW6.out K6.out G5.out B5.out O5.out
                  refine ⟨hfin.1, hfin.2.1, ?_⟩
                  dsimp only
                  rw [hpl.out, htk.out]
                  exact hfin.2.2
  · have K : (e != 0) = true := by simpa using h0
    have e2 : Hid (sprE l g = e) := by unfold Hid sprE; rw [he.out, if_neg h0]
    rw [e2.out] at HR
    have H0 := Lib.hid h0
    clear h0
    gi_wp2_with (first | (refine ⟨trivial, ?_⟩; gi_at_call 18; refine callsIn_wide.2 (zcheck_any _ l c _ _ HL.out HC.out ?_); rw [he.out]) | (simp only []) | fail)
    refine endM0 (res3 (t := 4) (u := 5) (v := 6) rfl rfl rfl rfl) ?_
    exact HR.out none 0 0 ⟨#[]⟩ _ (Below.refl _ _) (fun h => absurd h H0.out) (fun _ => ⟨rfl, rfl⟩)
end Go.Proofs.YtcoombhcdcniiaaGreatDoor
