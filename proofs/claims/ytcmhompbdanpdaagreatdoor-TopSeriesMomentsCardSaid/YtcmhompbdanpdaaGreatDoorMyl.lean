/- Spread, both sides. (Printed by gen_spread.py.) Spread of reference 57. (Printed by gen_rspread.py.) Equal lists of ints; awake of layer 57. (Printed by gen_awake57.py.) The laws Measures, Judges, Counts and Runs of layer 57. (Printed by gen_law57.py.) -/
import Derived.Test.YtcmhompbdanpdaaGreatDoorYh
import Derived.Test.YtcmhompbdanpdaaGreatDoorMyb
import Derived.Test.YtcmhompbdanpdaaGreatDoorYk
namespace Go.Proofs.YtcmhompbdanpdaaGreatDoor
open Go.RowKit Go.Shelf Go.Sort Go.Maps
attribute [local go_sem] Oper.semAt_some

set_option maxHeartbeats 2000000 in
theorem ztotalS_any (ao : Option Addr) (l : List Int) (c : Nat) (w : World) (R : Ending → World → Prop) (h : Sms l) (hc : CellsAt w ao (I64s l)) (hR : R (.returned (.int .i64 (sumI l))) w) :
    Calls Tryz.prog 180 #[.slice ao l.length c, .func (.func 181) #[] #[], .func (.func 182) #[] #[]] w R := by
  have HR := Lib.hid hR
  have HC := Lib.hid hc
  have HS := Lib.hid h
  have hl : Hid (l.length ≤ 4096) := h.few
  clear hR hc h
  go_enter Tryz.func180, Tryz.ntmps180
  go_wp2_with fail
  go_loopw [13, 7] (fun j s wr => ∃ i : Nat, i ≤ l.length ∧ j = .int .i64 i ∧ Hid (wr = w) ∧ (∃ t : Int, s = .int .i64 t ∧ Hid (t = sumI (l.take i)))) (fun j _ _ => l.length - (intOf j).toNat)
  case atStart => exact ⟨0, Nat.zero_le _, rfl, rfl, 0, rfl, rfl⟩
  case round =>
    obtain ⟨i, hi, rfl, HW, t, rfl, HT⟩ := hrel
    by_cases hlt : i < l.length
    · have K2 : ((i : Int) < (l.length : Int)) = True := eq_true (by omega)
      obtain ⟨bd, od, rfl, hbd, hdc⟩ := HC.out.ints (by have := hl.out; omega)
      have g0 := hdc i hlt
      rw [← HW.out] at g0
      have hx := HS.out.aT hlt
      obtain ⟨x, hx0⟩ : ∃ x, at0 l i = x := ⟨_, rfl⟩
      have HX := Lib.hid hx0
      have hb : -4294967296 ≤ t ∧ t ≤ 4294967296 := by rw [HT.out]; exact HS.out.sumB i
      obtain ⟨ht1, ht2⟩ := hb
      rw [hx0] at hx g0
      have e2 : Hid (sumI (l.take (i + 1)) = t + x) := by unfold Hid; rw [sum_at l i hlt, HT.out, hx0]
      have hl2 := hl.out
      obtain ⟨hx1, hx2⟩ := hx
      clear hdc hx0
      by_cases hz : i = 0
      · have K3 : ((i : Int) == 0) = true := by simp [hz]
        have e3 : Hid (t = 0) := by unfold Hid; rw [HT.out, hz]; rfl
        clear hz
        go_wp2_with fail
        with_reducible refine zsum1_any _ _ _ ?_
        go_wp2_with fail
        exact ⟨⟨i + 1, by omega, by go_num, HW, x, rfl, by unfold Hid; rw [e2.out, e3.out]; omega⟩, by simp [intOf]; omega⟩
      · have K3 : ((i : Int) == 0) = false := by simpa using hz
        go_wp2_with fail
        with_reducible refine zsum1_any _ _ _ ?_
        go_wp2_with fail
        with_reducible refine zsum2_any _ _ (by omega) (by omega) (by omega) (by omega) _ _ ?_
        go_wp2_with fail
        exact ⟨⟨i + 1, by omega, by go_num, HW, t + x, rfl, by unfold Hid; rw [e2.out]⟩, by simp [intOf]; omega⟩
    · have K2 : ((i : Int) < (l.length : Int)) = False := eq_false (by omega)
      have e2 : Hid (t = sumI l) := by unfold Hid; rw [HT.out, show i = l.length from by omega, List.take_length]
      go_wp2_with fail
      have ew := HW.out
      subst ew
      exact ret_i HR.out rfl e2.out.symm
set_option maxHeartbeats 1000000 in
theorem zsumS_any (ao : Option Addr) (l : List Int) (c : Nat) (w : World) (R : Ending → World → Prop) (h : Sms l) (hc : CellsAt w ao (I64s l)) (hR : R (.returned (.int .i64 (sumI l))) w) :
    Calls Tryz.prog 123 #[.slice ao l.length c] w R := by
  have HR := Lib.hid hR
  have HC := Lib.hid hc
  have HS := Lib.hid h
  clear hR hc h
  go_enter Tryz.func123, Tryz.ntmps123
  go_wp2_with fail
  refine ztotalS_any ao l c _ _ HS.out HC.out ?_
  go_wp2_with fail
  exact ret_i HR.out rfl rfl
set_option maxHeartbeats 1000000 in
theorem zmean0S_any (ao : Option Addr) (l : List Int) (c : Nat) (w : World) (R : Ending → World → Prop) (h : Sms l) (hc : CellsAt w ao (I64s l)) (hE : Env w) (hR : ∀ r w', Below w.heap.size w w' → TxR r (meanS l) → R (.returned (.tuple #[.string r, .int .i64 0])) w') :
    Calls Tryz.prog 129 #[.slice ao l.length c] w R := by
  have HR := Lib.hid hR
  have HC := Lib.hid hc
  have HS := Lib.hid h
  have HE := Lib.hid hE
  clear hR hc h hE
  go_enter Tryz.func129, Tryz.ntmps129
  go_wp2_with fail
  refine zsumS_any ao l c _ _ HS.out HC.out ?_
  go_wp2_with fail
  have hp := HS.out.pos
  have hq := HS.out.few
  have hb := HS.out.sumA
  refine rof_any _ _ _ _ (by omega) (by omega) (by omega) (by omega) (by omega) HE.out fun r w1 HB HT => ?_
  have HB1 := Lib.hid HB
  have HT1 := Lib.hid HT
  clear HB HT hp hq hb
  go_wp2_with fail
  exact HR.out _ _ HB1.out HT1.out
theorem zmeanN_any (ao : Option Addr) (l : List Int) (n c : Nat) (hn : l.length = n) (w : World) (R : Ending → World → Prop) (h : Sms l) (hc : CellsAt w ao (I64s l)) (hE : Env w) (hR : ∀ r w', Below w.heap.size w w' → TxR r (meanS l) → R (.returned (.tuple #[.string r, .int .i64 0])) w') :
    Calls Tryz.prog 129 #[.slice ao n c] w R := by
  subst hn
  exact zmean0S_any ao l c w R h hc hE hR
/-- The same for an iterator that draws (its regions' order): what is kept from round to round is kept by a draw. -/
def GivesW {α : Type} (F : Fence) (n : Nat) (P : Program) (g : Nat) (lb : Array Value) (encs : α → Array Value) (bs : List Nat) (xs : List α) (w0 : World) : Prop :=
  ∀ (l : Nat) (J : List α → World → Prop) (W : World), Below w0.heap.size w0 W → (∀ s A, J s A → J s A.drew) →
    (∀ pre x W1, J pre W1 → (pre ++ [x]) <+: xs → YieldAt F (n - 1) P l (encs x) W1 fun e W' => e = .returned (.bool true) ∧ J (pre ++ [x]) W' ∧ KeepsBs bs W1 W') →
    J [] W → CallsIn F n P g (#[.func (.yield l) #[] #[]] ++ lb) W fun e W' => (∃ v, e = .returned v) ∧ J xs W'
theorem wpIn_rangeFunc_w {F : Fence} {n : Nat} {P : Program} {α : Type} {g : Operand} {ps : Array Tmp} {assign body : Code} {Q : Exit → Act → World → Prop} {a : Act} {w : World}
    (hro : F.round = none) (h1 : 1 ≤ n) {gf : Nat} {lb : Array Value} (hg : a.eval g = .func (.func gf) #[] lb) (hFg : F.fn gf) (eg : ∀ args w, (callFunc gf args).run P w = .ok (.enter gf args) w)
    {encs : α → Array Value} {bs : List Nat} {xs : List α} {w0 : World} (hseq : GivesW F (n - 1) P gf lb encs bs xs w0) (hb0 : Below w0.heap.size w0 w) (hps : ∀ x, (encs x).size = ps.size) (hbs : ∀ k ∈ bs, k < w.heap.size)
    (I : List α → World → Prop) (hI2 : ∀ s A B, I s A → Below A.heap.size A B → I s B) (hI3 : ∀ s A L r o, w.heap.size ≤ L → A.heap[L]? = some (.loop r) → I s A → I s (A.putObj L o))
    (h0 : I [] w) (Ax : α → Act → World → Prop) (hAx : ∀ x a' W l r o, W.heap[l]? = some (.loop r) → Ax x a' W → Ax x a' (W.putObj l o))
    (hassign : ∀ (l : Nat) (pre : List α) (x : α) (W : World) (K : Act → World → Prop), I pre W → w.heap.size ≤ W.heap.size → (pre ++ [x]) <+: xs → (∀ a' W', Below W.heap.size W W' → Ax x a' W' → K a' W') →
      assign.wpIn (F.inRound l) (n - 1 - 1) P (Exit.then K (fun _ _ _ => False)) { tmps := (ps.zip (encs x)).foldl (fun t (p, v) => t.setIfInBounds p v) a.tmps, defers := [] } W)
    (hbody : ∀ (l : Nat) (pre : List α) (x : α) (a' : Act) (W : World), I pre W → Ax x a' W → w.heap.size ≤ W.heap.size → (pre ++ [x]) <+: xs → body.wpIn (F.inRound l) (n - 1 - 1) P (postE bs I (pre ++ [x]) W) a' W)
    (hdone : ∀ (D : Nat) (W : World), w.heap.size ≤ D → I xs W → W.heap[D]? = some (.deferred (some [])) → Q .normal { a with defers := { target := .collected D, args := #[] } :: a.defers } W) :
    (Code.rangeFunc g ps assign body).wpIn F n P Q a w := by
  refine wpIn_rangeFunc ?_
  intro fn hfn
  rw [hro]
  obtain ⟨W0, hW0⟩ : ∃ W0, ((w.alloc (.deferred (some []))).alloc (.loop { state := .ready, pending := none, fn, tmps := a.tmps, params := ps, assign, body, defers := w.heap.size })) = W0 := ⟨_, rfl⟩
  have hB : w.heap.size + 2 = W0.heap.size := by rw [← hW0]; simp
  have hL : W0.heap[w.heap.size + 1]? = some (.loop { state := .ready, pending := none, fn, tmps := a.tmps, params := ps, assign, body, defers := w.heap.size }) := by
    rw [← hW0]
    have := World.alloc_heap_new (w.alloc (.deferred (some []))) (.loop { state := .ready, pending := none, fn, tmps := a.tmps, params := ps, assign, body, defers := w.heap.size }); rwa [World.size_alloc] at this
  have hK : W0.heap[w.heap.size]? = some (.deferred (some [])) := by
    rw [← hW0]; exact (Below.heap_alloc _ _ _ (by simp)).trans (World.alloc_heap_new w _)
  have hbl : Below w.heap.size w W0 := by
    rw [← hW0]; exact ((Below.refl _ w).alloc (Nat.le_refl _) _).alloc (by simp) _
  refine ⟨w.heap.size + 1, [{ target := .collected w.heap.size, args := #[] }], W0, { target := .fn (.func gf) lb, args := #[.func (.yield (w.heap.size + 1)) #[] #[]] }, W0, gf,
    #[.func (.yield (w.heap.size + 1)) #[] #[]] ++ lb, W0, ?_, ?_, ?_, ?_, fun _ => h1, ?_⟩
  · rw [← hW0]; exact run_enterLoop_outer _ _ _ _ _
  · simp only [resolve, hg]
    simp [go_sem]
  · intro f' hf'; simp [Target.leads] at hf'; subst hf'; exact hFg
  · simp [invoke, go_sem, eg]
  · clear hW0
    refine (hseq (w.heap.size + 1)
      (fun pre W => I pre W ∧ W.heap[w.heap.size + 1]? = some (.loop { state := .ready, pending := none, fn, tmps := a.tmps, params := ps, assign, body, defers := w.heap.size }) ∧ W.heap[w.heap.size]? = some (.deferred (some [])))
      W0 (hb0.trans (hbl.mono hb0.size)) (fun s A h => ⟨hI2 _ _ _ h.1 (Below.refl _ _).drew, h.2.1, h.2.2⟩)
      ?_ ⟨hI2 _ _ _ h0 hbl, hL, hK⟩).mono ?_
    · rintro pre x W ⟨hi, hl, hk⟩ hpre
      have hlt : w.heap.size + 1 < W.heap.size := (Array.getElem?_eq_some_iff.1 hl).1
      refine ⟨fn, _, assign, body, run_yield (P := P) (args := encs x) hl (hps x), roundIn_of_wpIn hfn (hassign _ pre x W _ hi (by omega) hpre ?_)⟩
      intro a' Wa hba hax
      have hla := (hba.block _ hlt).trans hl
      have hka := (hba.block w.heap.size (by omega)).trans hk
      have hia := hI2 _ _ _ hi hba
      have hsa := hba.size
      refine ⟨_, run_beginRound hla rfl, ?_⟩
      refine wpIn_mono (hbody _ pre x a' _ (hI3 _ _ _ _ _ (by omega) hla hia) (hAx _ _ _ _ _ _ hla hax) (by simp; omega) hpre) ?_
      rintro e a3 W3 hpost
      cases e with
      | normal =>
        obtain ⟨k1, k2, k3⟩ := hpost
        have hl3 := (k1.2 (w.heap.size + 1) (.inl ⟨_, World.putObj_heap_same (by omega)⟩)).trans (World.putObj_heap_same (by omega))
        have hkp : ∀ o, (Wa.putObj (w.heap.size + 1) o).heap[w.heap.size]? = some (.deferred (some [])) := fun o => (World.putObj_heap_other (by omega)).trans hka
        have hk3 := (k1.2 w.heap.size (.inr ⟨_, hkp _⟩)).trans (hkp _)
        refine ⟨_, _, run_endRound (P := P) none hl3, rfl, ⟨hI3 _ _ _ _ _ (by omega) hl3 k3, World.putObj_heap_same (Array.getElem?_eq_some_iff.1 hl3).1, (World.putObj_heap_other (by omega)).trans hk3⟩, ?_⟩
        intro k hk'
        have h2 := hbs k hk'
        exact ((World.putObj_heap_other (by omega)).trans (k2 k hk')).trans ((World.putObj_heap_other (by omega)).trans (hba.block k (by omega)))
      | ret => exact hpost.elim
      | exit id => exact hpost.elim
      | goto t => exact hpost.elim
      | panic ch => exact hpost.elim
      | outgrown => exact hpost.elim
    · rintro e W2 ⟨⟨v, rfl⟩, hi, hl, hk⟩
      have hlt : w.heap.size + 1 < W2.heap.size := (Array.getElem?_eq_some_iff.1 hl).1
      exact ⟨none, _, run_endLoop (P := P) hl (by simp), hdone _ _ (Nat.le_refl _) (hI3 _ _ _ _ _ (by omega) hl hi) ((World.putObj_heap_other (by omega)).trans hk)⟩

theorem zmax_any (b off n c : Nat) (zs : List Int) (w : World) (R : Ending → World → Prop) (hn : 0 < n) (hz : zs.length = n) (hb : n ≤ 100000) (hc : ∀ j, j < zs.length → w.cell? ⟨b, off + j, none⟩ = some (.int .i64 (at0 zs j))) (hR : R (.returned (.int .i64 (Lib.maxOf zs))) w) :
    Calls Tryz.prog 54 #[.slice (some ⟨b, off, none⟩) n c] w R := by
  refine (Tryz.slices_Max_int b off n c zs w hn (by omega) (by omega) hc).mono ?_
  rintro e w' ⟨rfl, rfl⟩
  rw [← hz, List.take_length]; exact hR
theorem zmin_any (b off n c : Nat) (zs : List Int) (w : World) (R : Ending → World → Prop) (hn : 0 < n) (hz : zs.length = n) (hb : n ≤ 100000) (hc : ∀ j, j < zs.length → w.cell? ⟨b, off + j, none⟩ = some (.int .i64 (at0 zs j))) (hR : R (.returned (.int .i64 (Lib.minOf zs))) w) :
    Calls Tryz.prog 53 #[.slice (some ⟨b, off, none⟩) n c] w R := by
  refine (Tryz.slices_Min_int b off n c zs w hn (by omega) (by omega) hc).mono ?_
  rintro e w' ⟨rfl, rfl⟩
  rw [← hz, List.take_length]; exact hR
theorem gp_at {l : List Int} {g k j : Nat} (hj : j < g) : at0 (gpL l g k) j = at0 l (k * g + j) := by
  unfold at0 gpL
  rw [List.getD_eq_getElem?_getD, List.getD_eq_getElem?_getD, List.getElem?_take_of_lt hj, List.getElem?_drop]
theorem gp_cells {w : World} {bd od : Nat} {l : List Int} {g k : Nat} (hc : ∀ j, j < l.length → w.cell? ⟨bd, od + j, none⟩ = some (.int .i64 (at0 l j))) (hk : k < l.length / g) : ∀ j, j < (gpL l g k).length → w.cell? ⟨bd, od + k * g + j, none⟩ = some (.int .i64 (at0 (gpL l g k) j)) := by
  intro j hj
  rw [gpL_length hk] at hj
  have := gp_fit hk
  rw [gp_at hj, Nat.add_assoc]
  exact hc _ (by omega)
theorem step_app1 {w : World} {ops : Array Oper} {o : Oper} {a : Act} {K : Act → World → Prop} {Q : Exit → Act → World → Prop} {E : Prop} (hgd : o.guard = none) (s x : Operand)
    (ho : o.op = .call { callee := .builtin .append, args := #[s, x], argTypes := #[23, 23] }) (base : Nat) (v : Value) (n : Nat) (xs : List Value) (hs : a.eval s = v) (hown : w.ownsRow base 3 1 v n xs)
    (b : Nat) (y : Int) (hx : a.eval x = .slice (some ⟨b, 0, none⟩) 1 1) (hc : w.cell? ⟨b, 0, none⟩ = some (.int .i64 y)) (hn : n ≤ 100000) (hbase : base ≤ w.heap.size)
    (h : ∀ g cap w', w'.ownsRow base 3 1 (.slice (some ⟨g, 0, none⟩) (n + 1) cap) (n + 1) (xs ++ [.int .i64 y]) → w.grownBy w' v.ownBlock → K (a.put o.dst (.slice (some ⟨g, 0, none⟩) (n + 1) cap)) w') :
    if Region.wanted o (yielded ops a.tmps) = true then Oper.wp Tryz.prog o a w K Q else E := by
  obtain ⟨i, q1, q2, q3, q4⟩ := info_parts Tryz.infoInts
  refine step_append_lies w hgd s x 23 ho base 3 i _ 1 8 Tryz.underlying23 q1 q2 q3 q4 rfl (by decide) v n xs hs hown ⟨b, 0, none⟩ 1 1 [.int .i64 y] hx rfl ?_ (one1 _ rfl) (by decide) (by unfold maxLen; omega) (by omega) hbase w.heap.size rfl (fun g cap w' h1 h2 _ _ => h g cap w' h1 h2)
  intro j u hj
  match j, hj with
  | 0, hj =>
    have e : u = .int .i64 y := by simpa using hj.symm
    rw [e]
    exact hc
def chEnc (bd od g : Nat) (i : Nat) : Array Value := #[.slice (some ⟨bd, od + i * g, none⟩) g g]
theorem spr_end {bs : List Nat} {n0 base k m g cap : Nat} {w V W6 w5 : World} {v : Value} {L L' : List Value} (hw : w.heap.size = n0) (hb : Boxed V n0 23 v) (ho : V.ownsRow base 3 1 v k L) (hB3 : Below n0 w V) (hn0 : n0 < base) (hbase : base ≤ V.heap.size)
    (hbs : ∀ q ∈ bs, q < base) (hne : ∀ q ∈ bs, q ≠ n0) (S6 : W6.heap.size = V.heap.size + 1) (B6 : Below n0 w W6) (K6 : ∀ q, q < V.heap.size → W6.heap[q]? = V.heap[q]?) (hgrow : W6.grownBy w5 v.ownBlock) (B5 : Boxed w5 n0 23 v) (hown : w5.ownsRow base 3 1 (.slice (some ⟨g, 0, none⟩) m cap) m L') :
    KeepsLD V (w5.setCell ⟨n0, 0, none⟩ (.slice (some ⟨g, 0, none⟩) m cap)) ∧ KeepsBs bs V (w5.setCell ⟨n0, 0, none⟩ (.slice (some ⟨g, 0, none⟩) m cap)) ∧
    ∃ v', Boxed (w5.setCell ⟨n0, 0, none⟩ (.slice (some ⟨g, 0, none⟩) m cap)) n0 23 v' ∧ (w5.setCell ⟨n0, 0, none⟩ (.slice (some ⟨g, 0, none⟩) m cap)).ownsRow base 3 1 v' m L' ∧ Below n0 w (w5.setCell ⟨n0, 0, none⟩ (.slice (some ⟨g, 0, none⟩) m cap)) := by
  have hrow : ∀ g, v.ownBlock = some g → base ≤ g := fun g e => by
    rcases ho.2 with ⟨rfl, _⟩ | ⟨g', cap, cur, rfl, h2, _⟩
    · simp [Value.ownBlock] at e
    · simp [Value.ownBlock] at e; omega
  have hkeep : ∀ q, q < V.heap.size → q ≠ n0 → (∀ g, v.ownBlock = some g → q ≠ g) → (w5.setCell ⟨n0, 0, none⟩ (.slice (some ⟨g, 0, none⟩) m cap)).heap[q]? = V.heap[q]? := fun q hq hne hng => by
    rw [Below.heap_setCell _ _ _ _ hne, hgrow.block q (by omega) (fun e => hng q e.symm rfl)]
    exact K6 q hq
  refine ⟨⟨?_, fun q hq => ?_⟩, fun q hq => ?_, _, B5.set _, ?_, ?_⟩
  · have h := hgrow.size
    have h2 := (Below.setCell (Below.refl n0 w5) (p := ⟨n0, 0, none⟩) (Nat.le_refl _) (.slice (some ⟨g, 0, none⟩) m cap)).size
    have h3 := hb.lt
    omega
  · have hql : q < V.heap.size := by
      rcases hq with ⟨_, h⟩ | ⟨_, h⟩ <;> exact lt_of_block h
    refine hkeep q hql ?_ ?_
    · rintro rfl
      have h2 : V.heap[q]? = _ := hb
      rcases hq with ⟨_, h⟩ | ⟨_, h⟩ <;> (rw [h2] at h; cases h)
    · intro g e hqg
      subst hqg
      rcases ho.2 with ⟨rfl, _⟩ | ⟨g', cap, cur, rfl, h2, h3, _⟩
      · simp [Value.ownBlock] at e
      · simp [Value.ownBlock] at e
        subst e
        rcases hq with ⟨_, h⟩ | ⟨_, h⟩ <;> (rw [h3] at h; cases h)
  · have h := hbs q hq
    exact hkeep q (by omega) (hne q hq) (fun g e => by have := hrow g e; omega)
  · refine ⟨hown.1, ?_⟩
    rcases hown.2 with h | ⟨g, cap, cur, h1, h2, h3, h4⟩
    · exact .inl h
    · exact .inr ⟨g, cap, cur, h1, h2, (Below.heap_setCell _ _ _ _ (show g ≠ n0 by omega)).trans h3, h4⟩
  · exact (B6.grown hgrow (by omega) (fun j e => by have := hrow j e; omega)).setCell (p := ⟨n0, 0, none⟩) (Nat.le_refl _) _
theorem res3 {fn : Func} {t u v : Tmp} {P : Program} (h : fn.results = #[.tmp t, .tmp u, .tmp v]) {tmps : Array Value} {x y z : Value} (hx : tmps.getD t undef = x) (hy : tmps.getD u undef = y) (hz : tmps.getD v undef = z) (w : World) : (results fn tmps).run P w = .ok (.tuple #[x, y, z]) w := by rw [results_tmp3 h, hx, hy, hz]
end Go.Proofs.YtcmhompbdanpdaaGreatDoor
namespace Go.Proofs.YtcmhompbdanpdaaGreatDoor
open Go.RowKit

theorem cells_of {w : World} {b o : Nat} {zs : List Int} (hb : b < w.heap.size) (h : ∀ j, j < zs.length → w.cell? ⟨b, o + j, none⟩ = some (.int .i64 (at0 zs j))) : CellsAt w (some ⟨b, o, none⟩) (I64s zs) := by
  intro _
  refine ⟨b, o, rfl, hb, fun j hj => ?_⟩
  have hj' : j < zs.length := by simpa [I64s_length] using hj
  rw [h j hj', I64s_getD zs j hj']
end Go.Proofs.YtcmhompbdanpdaaGreatDoor
namespace Go.Proofs.YtcmhompbdanpdaaGreatDoor
open Go.RowKit

set_option maxRecDepth 100000 in
set_option maxHeartbeats 2000000 in
theorem zsameI_any (a b : Option Addr) (l : List Int) (n c d : Nat) (hn : l.length = n) (hl : n ≤ 100000) (w : World) (R : Ending → World → Prop) (ha : CellsAt w a (I64s l)) (hb : CellsAt w b (I64s l)) (hR : ∀ w', Below w.heap.size w w' → R (.returned (.bool true)) w') :
    Calls Tryz.prog 27 #[.slice a n c, .slice b n d] w R := by
  have HR := Lib.hid hR
  have HA := Lib.hid ha
  have HB := Lib.hid hb
  have HN := Lib.hid hn
  clear hR ha hb hn
  go_enter Tryz.func27, Tryz.ntmps27
  go_wp2_with fail
  go_loopw [5] (fun j wr => ∃ i : Nat, i ≤ n ∧ j = .int .i64 i ∧ Hid (Below w.heap.size w wr)) (fun j _ => n - (intOf j).toNat)
  case atStart => exact ⟨0, Nat.zero_le _, rfl, Below.refl _ _⟩
  case round =>
    obtain ⟨i, hi, rfl, HW⟩ := hrel
    by_cases hlt : i < n
    · have K5 : ((i : Int) < (n : Int)) = True := eq_true (by omega)
      have K6 : (i < n) = True := eq_true hlt
      obtain ⟨b1, o1, rfl, hb1, hd1⟩ := (HA.out.below HW.out).ints (by rw [HN.out]; omega)
      obtain ⟨b2, o2, rfl, hb2, hd2⟩ := (HB.out.below HW.out).ints (by rw [HN.out]; omega)
      have g1 := hd1 i (by rw [HN.out]; exact hlt)
      have g2 := hd2 i (by rw [HN.out]; exact hlt)
      obtain ⟨x, hx⟩ : ∃ x, at0 l i = x := ⟨_, rfl⟩
      rw [hx] at g1 g2
      clear hd1 hd2 hb1 hb2 hx
      go_wp2_with fail
      refine regionL [0, 1, 2, 3, 4, 5, 6, 7, 8] (fun w' => w'.cell? ⟨b1, o1 + i, none⟩ = some (.int .i64 x) ∧ w'.cell? ⟨b2, o2 + i, none⟩ = some (.int .i64 x)) (by kernel_rfl) (⟨g1, g2⟩) (fun Qn hPQ hQn hS0 => ?_)
      iterate 9 (refine takeL (v := ?_) rfl rfl (by kernel_rfl) (by kernel_rfl) (by kernel_rfl) hPQ hS0 (by kernel_rfl) ?_ ?_; rotate_left; (focus (intro w hSw; (try dsimp only at hSw); obtain ⟨k0, k1⟩ := hSw; go_simp; (try with_reducible rfl))); (try simp only [Act.put, List.setIfInBounds_toArray, List.set_cons_zero, List.set_cons_succ]))
      refine ofL (wpAnyH_done (by kernel_rfl) (hQn.out _ _ ?_) _)
      clear hS0 hPQ hQn Qn
      go_wp2_with fail
      exact ⟨⟨i + 1, by omega, by go_num, HW.out.drew⟩, by simp [intOf]; omega⟩
    · have K5 : ((i : Int) < (n : Int)) = False := eq_false (by omega)
      go_wp2_with fail
      exact HR.out _ HW.out
theorem zequalI_any (a b : Option Addr) (l : List Int) (n c d : Nat) (hn : l.length = n) (hl : n ≤ 100000) (w : World) (R : Ending → World → Prop) (ha : CellsAt w a (I64s l)) (hb : CellsAt w b (I64s l)) (hR : ∀ w', Below w.heap.size w w' → R (.returned (.bool true)) w') :
    Calls Tryz.prog 74 #[.slice a n c, .slice b n d] w R := by
  by_cases h0 : n = 0
  · subst h0
    refine (Tryz.slices_Equal_int_empty a b c 0 d w (by omega)).mono ?_
    rintro e w' ⟨rfl, rfl⟩
    exact hR _ (Below.refl _ _)
  · obtain ⟨b1, o1, rfl, hb1, hd1⟩ := ha.ints (by omega)
    obtain ⟨b2, o2, rfl, hb2, hd2⟩ := hb.ints (by omega)
    refine (Tryz.slices_Equal_int b1 o1 n c b2 o2 n d l l w (by omega) (by omega) (by omega) (by omega) hd1 hd2).mono ?_
    rintro e w' ⟨rfl, q, rfl⟩
    rw [show (l.take n == l.take n) = true by simp]
    exact hR _ ((Drew.refl _).drewN.below _)
theorem cells_lit (w : World) (l : List Int) (e : TypeId) : CellsAt (w.alloc (.cells (I64s l).toArray e)) (some ⟨w.heap.size, 0, none⟩) (I64s l) := by
  intro _
  refine ⟨_, 0, rfl, by simp, fun j hj => ?_⟩
  rw [Nat.zero_add, World.cell?_alloc_new]
  simp [List.getD, hj]
def aL : List Int := [2, 4, 4, 10]
theorem aL_ck : ckSr aL = 0 := by decide +kernel
theorem aL_vr : vrE aL = 0 := by decide +kernel
theorem aL_mean : meanS aL = ((5 : Int) : Rat) := by decide +kernel
theorem aL_var : varS aL = ((12 : Int) : Rat) := by decide +kernel
theorem aL_vi : viS aL 1 13 = 0 := by decide +kernel
theorem aL_gv : gvS aL 1 13 = 0 := by decide +kernel
theorem aL_cap : capS aL 1 13 = (1 : Rat) / 3 := by decide +kernel
theorem aL_cen : cenS aL 1 13 = (4 : Rat) / 27 := by decide +kernel
theorem aL_sgn : cmpI (farI aL 1 13) 0 = 1 := by decide +kernel
theorem aL_med : medS aL = ((4 : Int) : Rat) := by
  have e : sortL aL = aL := sortL_unique (by decide) (List.Perm.refl _)
  unfold medS
  rw [e]
  decide +kernel
theorem aL_hs : hsE aL 3 3 2 = 0 := by decide +kernel
theorem aL_hl : hsL 3 3 2 aL = [2, 0] := by decide +kernel
theorem aL_h0 : hcN 3 3 2 aL 0 = 1 := by decide +kernel
theorem aL_h3 : hcN 3 3 2 aL 3 = 1 := by decide +kernel
theorem aL_rn : rnL 1 13 aL = [-3, 1] := by decide +kernel
theorem aL_sE : sprE aL 2 = 0 := by decide +kernel
theorem aL_sp : sprL 2 aL = [2, 6] := by decide +kernel
theorem aL_sm : meanS [2, 6] = ((4 : Int) : Rat) := by decide +kernel
theorem rtL_i {n : Nat} (h : n < 10) (h0 : 0 < n) : rtL ((n : Int) : Rat) = [UInt8.ofNat (48 + n)] := by
  rw [rat_int, itoa_pos (by omega)]
  exact dec_small h
theorem rtL_5 : rtL ((5 : Int) : Rat) = [53] := rtL_i (n := 5) (by decide) (by decide)
theorem rtL_4 : rtL ((4 : Int) : Rat) = [52] := rtL_i (n := 4) (by decide) (by decide)
theorem rtL_12 : rtL ((12 : Int) : Rat) = [49, 50] := by
  rw [rat_int, itoa_pos (by decide)]
  exact dec_two (n := 12) (by decide) (by decide)
theorem rtL_13 : rtL ((1 : Rat) / 3) = [49, 47, 51] := by
  have e1 : ((1 : Rat) / 3).num = 1 := by decide +kernel
  have e2 : ((1 : Rat) / 3).den = 3 := by decide +kernel
  unfold rtL
  rw [e1, e2, itoa_1, dec_small (by decide)]; rfl
theorem rtL_427 : rtL ((4 : Rat) / 27) = [52, 47, 50, 55] := by
  have e1 : ((4 : Rat) / 27).num = 4 := by decide +kernel
  have e2 : ((4 : Rat) / 27).den = 27 := by decide +kernel
  have e3 : Lib.itoa 4 = [52] := by rw [itoa_pos (by decide)]; exact dec_small (n := 4) (by decide)
  unfold rtL
  rw [e1, e2, e3, dec_two (by decide) (by decide)]; rfl
end Go.Proofs.YtcmhompbdanpdaaGreatDoor
namespace Go.Proofs.YtcmhompbdanpdaaGreatDoor
open Go.RowKit

theorem two_same {E : Int} {q : Rat} {r s : ByteArray} (h1 : E = 0 → TxR r q) (h2 : E ≠ 0 → r = ⟨#[]⟩) (g1 : E = 0 → TxR s q) (g2 : E ≠ 0 → s = ⟨#[]⟩) : s = r := by
  by_cases h : E = 0
  · exact (TxR.inj (g1 h) (h1 h)).2 rfl
  · rw [h2 h, g2 h]
def rowE (E : Int) (L : List Int) : List Int := if E = 0 then L else []
theorem rowE_len {E : Int} {L : List Int} {n : Nat} (h1 : E = 0 → n = L.length) (h2 : E ≠ 0 → n = 0) : (rowE E L).length = n := by
  unfold rowE
  by_cases h : E = 0
  · rw [if_pos h, h1 h]
  · rw [if_neg h, h2 h]; rfl
theorem rowE_cells {E : Int} {L : List Int} {a : Option Addr} {w : World} (h1 : E = 0 → CellsAt w a (I64s L)) : CellsAt w a (I64s (rowE E L)) := by
  unfold rowE
  by_cases h : E = 0
  · rw [if_pos h]; exact h1 h
  · rw [if_neg h]; exact fun h0 => absurd h0 (by simp [I64s])
theorem rowE_few {E : Int} {L : List Int} {n : Nat} (h : E = 0 → L.length ≤ 100000) (hn : (rowE E L).length = n) : n ≤ 100000 := by
  rw [← hn]; unfold rowE
  by_cases h0 : E = 0
  · rw [if_pos h0]; exact h h0
  · rw [if_neg h0]; simp
def natI (l : List Nat) : List Int := l.map Int.ofNat
theorem natI_cells (l : List Nat) : I64s (natI l) = l.map wV := by simp [I64s, natI, wV, Function.comp_def]
theorem few_len {l : List Int} (h : fwS l = true) : l.length ≤ 8192 := by
  unfold fwS at h
  simp at h
  omega
end Go.Proofs.YtcmhompbdanpdaaGreatDoor
