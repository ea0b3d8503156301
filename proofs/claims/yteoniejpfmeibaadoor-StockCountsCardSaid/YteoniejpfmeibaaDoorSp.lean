/- The walk of awake of layer 51: it returns true, and memory that was there is as it was. (Printed by gen_awake51.py.) -/
import Derived.KernelRfl
import Derived.Test.YteoniejpfmeibaaDoorSo
import Derived.Test.YteoniejpfmeibaaDoorSm
namespace Go.Proofs.YteoniejpfmeibaaDoor
open Go.RowKit Go.Shelf

def sa : ByteArray := ⟨#[97]⟩
def sb : ByteArray := ⟨#[98]⟩
def awZ : List Int := [1, 2, 4, 5]
theorem heldP_data (who : ByteArray) : heldP who = fun b => b.h.data.toList == who.data.toList := by
  funext b; unfold heldP; rw [Lib.toList_data, Lib.toList_data]
def aw1 : List B5 := [⟨1, 0, 0, ⟨#[]⟩⟩, ⟨2, 0, 0, ⟨#[]⟩⟩, ⟨4, 0, 0, ⟨#[]⟩⟩, ⟨5, 0, 0, ⟨#[]⟩⟩]
def aw2 : List B5 := [⟨1, 0, 0, ⟨#[97]⟩⟩, ⟨2, 0, 0, ⟨#[]⟩⟩, ⟨4, 0, 0, ⟨#[]⟩⟩, ⟨5, 0, 0, ⟨#[97]⟩⟩]
def aw3 : List B5 := [⟨1, 0, 0, ⟨#[97]⟩⟩, ⟨2, 0, 0, ⟨#[98]⟩⟩, ⟨4, 0, 0, ⟨#[98]⟩⟩, ⟨5, 0, 0, ⟨#[97]⟩⟩]
def aw4 : List B5 := [⟨1, 3, 1, ⟨#[]⟩⟩, ⟨2, 0, 0, ⟨#[98]⟩⟩, ⟨4, 0, 0, ⟨#[98]⟩⟩, ⟨5, 3, 1, ⟨#[]⟩⟩]
def aw5 : List B5 := [⟨1, 3, 1, ⟨#[]⟩⟩, ⟨2, 0, 0, ⟨#[98]⟩⟩, ⟨4, 0, 0, ⟨#[98]⟩⟩, ⟨5, 2, 1, ⟨#[]⟩⟩]
def aw6 : List B5 := [⟨1, 3, 1, ⟨#[]⟩⟩, ⟨2, 0, 0, ⟨#[98]⟩⟩, ⟨4, 0, 0, ⟨#[98]⟩⟩, ⟨5, 2, 1, ⟨#[97]⟩⟩]
theorem strOk_of {bs : List B5} (h : (bs.all fun b => decide (b.h.size ≤ 1000)) = true) : StrOk bs := by
  intro i hi
  rw [List.all_eq_true] at h
  have := h (bAt bs i) (by rw [bAt_lt hi]; exact List.getElem_mem _)
  rw [decide_eq_true_eq] at this
  omega
theorem so1 : StrOk aw1 := strOk_of (by kernel_rfl)
theorem so2 : StrOk aw2 := strOk_of (by kernel_rfl)
theorem so3 : StrOk aw3 := strOk_of (by kernel_rfl)
theorem so4 : StrOk aw4 := strOk_of (by kernel_rfl)
theorem so5 : StrOk aw5 := strOk_of (by kernel_rfl)
theorem so6 : StrOk aw6 := strOk_of (by kernel_rfl)
theorem aw_new : nwE 2 awZ = 0 ∧ nwB 2 awZ = aw1 := ⟨by kernel_rfl, by kernel_rfl⟩
theorem aw_t1 : tkE 2 aw1 sa 6 = 0 ∧ tkB 2 aw1 sa 6 = aw2 ∧ tkO 2 aw1 sa 6 = [0, 3] := by
  unfold tkE tkB tkO tkE; rw [heldP_data]; exact ⟨by kernel_rfl, by kernel_rfl, by kernel_rfl⟩
theorem aw_t2 : tkE 2 aw2 sb 5 = 6 ∧ tkB 2 aw2 sb 5 = [] ∧ tkO 2 aw2 sb 5 = [] := by
  unfold tkE tkB tkO tkE; rw [heldP_data]; exact ⟨by kernel_rfl, by kernel_rfl, by kernel_rfl⟩
theorem aw_t3 : tkE 2 aw2 sb 6 = 0 ∧ tkB 2 aw2 sb 6 = aw3 ∧ tkO 2 aw2 sb 6 = [1, 2] := by
  unfold tkE tkB tkO tkE; rw [heldP_data]; exact ⟨by kernel_rfl, by kernel_rfl, by kernel_rfl⟩
theorem aw_r : rtE 2 aw3 sa 3 = 0 ∧ rtB 2 aw3 sa 3 = aw4 := by
  unfold rtB rtE; rw [heldP_data]; exact ⟨by kernel_rfl, by kernel_rfl⟩
theorem aw_f : chkS 2 aw4 = 0 ∧ frL 2 aw4 = [] := ⟨by kernel_rfl, by kernel_rfl⟩
theorem aw_c : clE 2 aw4 5 2 = 0 ∧ clB 2 aw4 5 2 = aw5 := ⟨by kernel_rfl, by kernel_rfl⟩
theorem aw_t4 : tkE 2 aw5 sa 5 = 0 ∧ tkB 2 aw5 sa 5 = aw6 ∧ tkO 2 aw5 sa 5 = [3] := by
  unfold tkE tkB tkO tkE; rw [heldP_data]; exact ⟨by kernel_rfl, by kernel_rfl, by kernel_rfl⟩
theorem aw_d : devN 2 aw6 sa = 2 ∧ devE 2 aw6 sa = 0 := by
  unfold devN devE; rw [heldP_data]; exact ⟨by kernel_rfl, by kernel_rfl⟩

theorem equal51 (ao ao2 : Option Addr) (xs : List Int) (n c c2 : Nat) (w : World) (R : Ending → World → Prop) (hn : xs.length = n) (hn' : n ≤ 9223372036854775807)
   (hc : CellsAt w ao (I64s xs)) (hc2 : CellsAt w ao2 (I64s xs)) (hR : ∀ w', Drew w w' → R (.returned (.bool true)) w') :
    Calls Tryd.prog 21 #[.slice ao n c, .slice ao2 n c2] w R := by
  subst hn
  refine equal_any ao ao2 xs xs c c2 w R hn' hn' hc hc2 ?_
  rw [(eqL_iff xs xs).2 rfl]
  exact hR
theorem new51At (ao : Option Addr) (zs : List Int) (n c k : Nat) (m E : Int) (B : List B5) (w : World) (R : Ending → World → Prop) (hn : zs.length = n) (hl : n ≤ 9223372036854775807) (hE : nwE m zs = E) (hB : nwB m zs = B) (hk : B.length = k) (hc : CellsAt w ao (I64s zs))
   (hR : ∀ a' c' w', Below w.heap.size w w' → BSl w' a' c' B → Fresh w.heap.size a' → R (.returned (.tuple #[.agg #[.int .i64 (okM m E), .slice a' k c'], .int .i64 E])) w') :
    Calls Tryd.prog 22 #[.int .i64 m, .slice ao n c] w R := by
  subst hn hk hE hB
  exact newS_any m ao zs c w R hl hc hR
theorem take51At (m : Int) (ao : Option Addr) (bs : List B5) (n c : Nat) (who : ByteArray) (l E : Int) (B : List B5) (O : List Int) (k j : Nat) (w : World) (R : Ending → World → Prop) (hn : bs.length = n) (hl : n ≤ 9223372036854775807) (hb : BSl w ao c bs) (hs : StrOk bs) (hw : who.size ≤ 1000)
   (hE : tkE m bs who l = E) (hB : tkB m bs who l = B) (hO : tkO m bs who l = O) (hk : B.length = k) (hj : O.length = j)
   (hR : ∀ a' c' a2' c2' w', Below w.heap.size w w' → BSl w' a' c' B → CellsAt w' a2' (I64s O) → Fresh w.heap.size a' → Fresh w.heap.size a2' → R (.returned (.tuple #[.agg #[.int .i64 (okM m E), .slice a' k c'], .slice a2' j c2', .int .i64 E])) w') :
    Calls Tryd.prog 25 #[.agg #[.int .i64 m, .slice ao n c], .string who, .int .i64 l] w R := by
  subst hn hk hE hB hO hj
  exact takeS_any m ao bs c who l w R hl hb.2 hb.1 hs (by omega) hR
theorem return51At (m : Int) (ao : Option Addr) (bs : List B5) (n c : Nat) (who : ByteArray) (x E : Int) (B : List B5) (k : Nat) (w : World) (R : Ending → World → Prop) (hn : bs.length = n) (hl : n ≤ 9223372036854775807) (hb : BSl w ao c bs) (hs : StrOk bs) (hw : who.size ≤ 1000)
   (hE : rtE m bs who x = E) (hB : rtB m bs who x = B) (hk : B.length = k)
   (hR : ∀ a' c' w', Below w.heap.size w w' → BSl w' a' c' B → Fresh w.heap.size a' → R (.returned (.tuple #[.agg #[.int .i64 (okM m E), .slice a' k c'], .int .i64 E])) w') :
    Calls Tryd.prog 27 #[.agg #[.int .i64 m, .slice ao n c], .string who, .int .i64 x] w R := by
  subst hn hk hE hB
  exact returnS_any m ao bs c who x w R hl hb.2 hb.1 hs (by omega) hR
theorem cal51At (m : Int) (ao : Option Addr) (bs : List B5) (n c : Nat) (l x E : Int) (B : List B5) (k : Nat) (w : World) (R : Ending → World → Prop) (hn : bs.length = n) (hl : n ≤ 9223372036854775807) (hb : BSl w ao c bs) (hs : StrOk bs)
   (hE : clE m bs l x = E) (hB : clB m bs l x = B) (hk : B.length = k)
   (hR : ∀ a' c' w', Below w.heap.size w w' → BSl w' a' c' B → Fresh w.heap.size a' → R (.returned (.tuple #[.agg #[.int .i64 (okM m E), .slice a' k c'], .int .i64 E])) w') :
    Calls Tryd.prog 29 #[.agg #[.int .i64 m, .slice ao n c], .int .i64 l, .int .i64 x] w R := by
  subst hn hk hE hB
  exact calibrate_any m ao bs c l x w R hl hb.2 hb.1 hs hR
theorem free51At (m : Int) (ao : Option Addr) (bs : List B5) (n c : Nat) (E : Int) (F : List Int) (k : Nat) (w : World) (R : Ending → World → Prop) (hn : bs.length = n) (hl : n ≤ 9223372036854775807) (hb : BSl w ao c bs) (hs : StrOk bs)
   (hE : chkS m bs = E) (hF : frL m bs = F) (hk : F.length = k)
   (hR : ∀ a' c' w', Below w.heap.size w w' → CellsAt w' a' (I64s F) → R (.returned (.tuple #[.slice a' k c', .int .i64 E])) w') :
    Calls Tryd.prog 15 #[.agg #[.int .i64 m, .slice ao n c]] w R := by
  subst hn hk hE hF
  refine freeS_any m ao bs c w R hl hb.2 hb.1 hs ?_
  intro v w' hb' ho
  obtain ⟨a, c', rfl, hc, _⟩ := ho.read
  exact hR a c' w' hb' hc
theorem dev51At (m : Int) (ao : Option Addr) (bs : List B5) (n c : Nat) (who : ByteArray) (V E : Int) (w : World) (R : Ending → World → Prop) (hn : bs.length = n) (hl : n ≤ 9223372036854775807) (hb : BSl w ao c bs) (hs : StrOk bs) (hw : who.size ≤ 1000)
   (hV : devN m bs who = V) (hE : devE m bs who = E) (hR : ∀ w', Below w.heap.size w w' → R (.returned (.tuple #[.int .i64 V, .int .i64 E])) w') :
    Calls Tryd.prog 17 #[.agg #[.int .i64 m, .slice ao n c], .string who] w R := by
  subst hn hV hE
  exact devS_any m ao bs c who w R hl hb.2 hb.1 hs (by omega) hR

/-- The box of the stock. -/
def QBox (w : World) (Q : Nat) (a : Option Addr) (c : Nat) : Prop := w.heap[Q]? = some (.cells #[.int .i64 2, .slice a 4 c] 24 (0, 0))
theorem QBox.c0 {w : World} {Q : Nat} {a : Option Addr} {c : Nat} (h : QBox w Q a c) : w.cell? ⟨Q, 0, none⟩ = some (.int .i64 2) := cell_at h rfl
theorem QBox.c1 {w : World} {Q : Nat} {a : Option Addr} {c : Nat} (h : QBox w Q a c) : w.cell? ⟨Q, 1, none⟩ = some (.slice a 4 c) := cell_at h rfl
theorem QBox.fr {w : World} {Q : Nat} {a : Option Addr} {c : Nat} (h : QBox w Q a c) (j : Nat) : w.frozen? ⟨Q, j, none⟩ = false := frozen_at h j
theorem QBox.lt {w : World} {Q : Nat} {a : Option Addr} {c : Nat} (h : QBox w Q a c) : Q < w.heap.size := lt_of_block h
theorem QBox.below {w w' : World} {Q : Nat} {a : Option Addr} {c : Nat} (h : QBox w Q a c) (hb : Below w.heap.size w w') : QBox w' Q a c := (hb.block Q h.lt).trans h
theorem QBox.put {w : World} {Q : Nat} {a : Option Addr} {c : Nat} (h : QBox w Q a c) (a' : Option Addr) (c' : Nat) : QBox ((w.setCell ⟨Q, 0, none⟩ (.int .i64 2)).setCell ⟨Q, 1, none⟩ (.slice a' 4 c')) Q a' c' := by
  unfold QBox
  have h1 := heap_setCell_same w Q 0 _ _ (.int .i64 2) h
  exact heap_setCell_same _ Q 1 _ _ (.slice a' 4 c') h1
theorem CellsAt.two {w : World} {Q : Nat} {ao : Option Addr} {cs : List Value} (h : CellsAt w ao cs) (hf : Fresh (Q + 1) ao) (u v : Value) : CellsAt ((w.setCell ⟨Q, 0, none⟩ u).setCell ⟨Q, 1, none⟩ v) ao cs :=
  (h.setOther' (fun b o e => by have := hf b o e; show Q ≠ b; omega) u).setOther' (fun b o e => by have := hf b o e; show Q ≠ b; omega) v
theorem BSl.two {w : World} {Q : Nat} {ao : Option Addr} {c : Nat} {bs : List B5} (h : BSl w ao c bs) (hf : Fresh (Q + 1) ao) (u v : Value) : BSl ((w.setCell ⟨Q, 0, none⟩ u).setCell ⟨Q, 1, none⟩ v) ao c bs := ⟨h.1.two hf u v, h.2⟩

theorem CellsAt.of_heap4 {w : World} {b : Nat} {x y z u : Int} {e : TypeId} (h : w.heap[b]? = some (.cells #[.int .i64 x, .int .i64 y, .int .i64 z, .int .i64 u] e (0, 0))) : CellsAt w (some ⟨b, 0, none⟩) (I64s [x, y, z, u]) := by
  intro _
  refine ⟨b, 0, rfl, lt_of_block h, fun j hj => ?_⟩
  rw [Nat.zero_add]
  match j, hj with
  | 0, _ => exact cell_at h rfl
  | 1, _ => exact cell_at h rfl
  | 2, _ => exact cell_at h rfl
  | 3, _ => exact cell_at h rfl
theorem CellsAt.of_heap2 {w : World} {b : Nat} {x y : Int} {e : TypeId} (h : w.heap[b]? = some (.cells #[.int .i64 x, .int .i64 y] e (0, 0))) : CellsAt w (some ⟨b, 0, none⟩) (I64s [x, y]) := by
  intro _
  refine ⟨b, 0, rfl, lt_of_block h, fun j hj => ?_⟩
  rw [Nat.zero_add]
  match j, hj with
  | 0, _ => exact cell_at h rfl
  | 1, _ => exact cell_at h rfl
theorem CellsAt.of_heap1 {w : World} {b : Nat} {x : Int} {e : TypeId} (h : w.heap[b]? = some (.cells #[.int .i64 x] e (0, 0))) : CellsAt w (some ⟨b, 0, none⟩) (I64s [x]) := by
  intro _
  refine ⟨b, 0, rfl, lt_of_block h, fun j hj => ?_⟩
  rw [Nat.zero_add]
  match j, hj with
  | 0, _ => exact cell_at h rfl

set_option maxRecDepth 100000 in
set_option maxHeartbeats 8000000 in
theorem awake_any (w : World) (R : Ending → World → Prop) (hR : ∀ w', Below w.heap.size w w' → R (.returned (.bool true)) w') :
    Calls Tryd.prog 14 #[] w R := by
  have HR := Lib.hid hR
  clear hR
  go_enter Tryd.func14, Tryd.ntmps14
  go_wp2_with fail
  obtain ⟨v0, e0, B0, t0, X0⟩ := box_ex w #[.int .i64 1, .int .i64 2, .int .i64 4, .int .i64 5] 3
  rw [e0]
  have C0 := Lib.hid (CellsAt.of_heap4 X0.out)
  clear e0 X0
  refine new51At _ awZ 4 4 4 2 0 aw1 _ _ rfl (by omega) aw_new.1 aw_new.2 rfl C0.out ?_
  intro a1 c1 w1 hb1 hs1 hf1
  have HB1 := Lib.hid (B0.out.trans (hb1.mono (by omega)))
  have z1 : w.heap.size ≤ w1.heap.size := HB1.out.size
  have HS1 := Lib.hid hs1
  clear hb1 hs1 hf1
  rw [show okM 2 0 = 2 from rfl]
  go_wp2_with fail
  obtain ⟨W1, e1, D1, t1, X1⟩ := box_ex w1 #[.int .i64 2, .slice a1 4 c1] 24
  rw [e1]
  clear e1
  obtain ⟨Q, hQ⟩ : ∃ Q, w1.heap.size = Q := ⟨_, rfl⟩
  have Q1 : Hid (QBox W1 Q a1 c1) := by unfold Hid; rw [← hQ]; exact X1
  have A1 : Hid (Below w.heap.size w W1) := HB1.out.trans (D1.out.mono (by omega))
  have S1 := Lib.hid (HS1.out.below D1.out)
  have hQz : w.heap.size ≤ Q := by omega
  rw [hQ]
  clear hQ X1 D1 HS1 t1

  have p0 := Q1.out.c0
  have p1 := Q1.out.c1
  go_wp2_with fail
  refine take51At 2 _ aw1 4 _ sa 6 0 aw2 [0, 3] 4 2 _ _ rfl (by omega) S1.out so1 (by decide) aw_t1.1 aw_t1.2.1 aw_t1.2.2 rfl rfl ?_
  intro a2 c2 x2 y2 w2 hb hs ho hf hfo
  have hfx2 : Hid (Fresh (Q + 1) x2) := hfo.mono Q1.out.lt
  have zq : Q + 1 ≤ W1.heap.size := Q1.out.lt
  have B2 := Lib.hid (A1.out.trans (hb.mono A1.out.size))
  have q2 := Lib.hid (Q1.out.below hb)
  have f0 := q2.out.fr 0
  have f1 := q2.out.fr 1
  have r0 := q2.out.c0
  have r1 := q2.out.c1
  have Q2' := Lib.hid (q2.out.put a2 c2)
  have S2' := Lib.hid (hs.two (hf.mono zq) (.int .i64 2) (.slice a2 4 c2))
  have A2' := Lib.hid ((B2.out.setCell (p := ⟨Q, 0, none⟩) hQz (.int .i64 2)).setCell (p := ⟨Q, 1, none⟩) hQz (.slice a2 4 c2))
  have O2' := Lib.hid ((ho).two (hfx2.out) (.int .i64 2) (.slice a2 4 c2))
  clear hb hs hf p0 p1 ho hfo
  rw [show okM 2 0 = 2 from rfl]
  go_wp2_with fail
  obtain ⟨W2, hW2⟩ : ∃ W, (w2.setCell ⟨Q, 0, none⟩ (.int .i64 2)).setCell ⟨Q, 1, none⟩ (.slice a2 4 c2) = W := ⟨_, rfl⟩
  rw [hW2] at Q2' S2' A2' O2'
  rw [hW2]
  have HZ2 : Hid (W2.heap.size = w2.heap.size) := by unfold Hid; rw [← hW2]; simp [World.setCell]
  clear hW2 f0 f1 r0 r1 zq
  have Q2 := Q2'
  have S2 := S2'
  have A2 := A2'
  clear Q2' S2' A2'
  have O2 := O2'
  clear O2'
  have p0 := Q2.out.c0
  have p1 := Q2.out.c1
  go_wp2_with fail
  refine take51At 2 _ aw2 4 _ sb 5 6 [] [] 0 0 _ _ rfl (by omega) S2.out so2 (by decide) aw_t2.1 aw_t2.2.1 aw_t2.2.2 rfl rfl ?_
  intro a3 c3 x3 y3 w3 hb hs ho hf hfo
  have A3' := Lib.hid (A2.out.trans (hb.mono A2.out.size))
  have Q3' := Lib.hid (Q2.out.below hb)
  have S3' := Lib.hid (S2.out.below hb)
  have O3' := Lib.hid (O2.out.below hb)
  have r0 : (w3.alloc (.cells #[.int .i64 0, .slice a3 0 c3] 24)).cell? ⟨Q, 0, none⟩ = some (.int .i64 2) := cellB ((Below.refl _ _).alloc (Nat.le_refl _) _) Q3'.out.c0 Q3'.out.lt
  have r1 : (w3.alloc (.cells #[.int .i64 0, .slice a3 0 c3] 24)).cell? ⟨Q, 1, none⟩ = some (.slice a2 4 c2) := cellB ((Below.refl _ _).alloc (Nat.le_refl _) _) Q3'.out.c1 Q3'.out.lt
  clear hb hs ho hf hfo p0 p1
  rw [show okM 2 6 = 0 from rfl]
  go_wp2_with fail
  clear r0 r1
  obtain ⟨W3, e3, D3, t3, X3⟩ := box_ex w3 #[.int .i64 0, .slice a3 0 c3] 24
  rw [e3]
  clear e3 X3 t3
  have A3 := Lib.hid (A3'.out.trans (D3.out.mono A3'.out.size))
  have Q3 := Lib.hid (Q3'.out.below D3.out)
  have S3 := Lib.hid (S3'.out.below D3.out)
  have O3 := Lib.hid (O3'.out.below D3.out)
  clear A3' Q3' S3' O3' D3
  have p0 := Q3.out.c0
  have p1 := Q3.out.c1
  go_wp2_with fail
  refine take51At 2 _ aw2 4 _ sb 6 0 aw3 [1, 2] 4 2 _ _ rfl (by omega) S3.out so2 (by decide) aw_t3.1 aw_t3.2.1 aw_t3.2.2 rfl rfl ?_
  intro a4 c4 x4 y4 w4 hb hs ho hf hfo
  have hfx4 : Hid (Fresh (Q + 1) x4) := hfo.mono Q3.out.lt
  have zq : Q + 1 ≤ W3.heap.size := Q3.out.lt
  have B4 := Lib.hid (A3.out.trans (hb.mono A3.out.size))
  have q4 := Lib.hid (Q3.out.below hb)
  have f0 := q4.out.fr 0
  have f1 := q4.out.fr 1
  have r0 := q4.out.c0
  have r1 := q4.out.c1
  have Q4' := Lib.hid (q4.out.put a4 c4)
  have S4' := Lib.hid (hs.two (hf.mono zq) (.int .i64 2) (.slice a4 4 c4))
  have A4' := Lib.hid ((B4.out.setCell (p := ⟨Q, 0, none⟩) hQz (.int .i64 2)).setCell (p := ⟨Q, 1, none⟩) hQz (.slice a4 4 c4))
  have N4' := Lib.hid ((ho).two (hfx4.out) (.int .i64 2) (.slice a4 4 c4))
  have O4' := Lib.hid ((O3.out.below hb).two (hfx2.out) (.int .i64 2) (.slice a4 4 c4))
  clear hb hs hf p0 p1 ho hfo
  rw [show okM 2 0 = 2 from rfl]
  go_wp2_with fail
  obtain ⟨W4, hW4⟩ : ∃ W, (w4.setCell ⟨Q, 0, none⟩ (.int .i64 2)).setCell ⟨Q, 1, none⟩ (.slice a4 4 c4) = W := ⟨_, rfl⟩
  rw [hW4] at Q4' S4' A4' N4' O4'
  rw [hW4]
  have HZ4 : Hid (W4.heap.size = w4.heap.size) := by unfold Hid; rw [← hW4]; simp [World.setCell]
  clear hW4 f0 f1 r0 r1 zq
  have Q4 := Q4'
  have S4 := S4'
  have A4 := A4'
  clear Q4' S4' A4'
  have N4 := N4'
  clear N4'
  have O4 := O4'
  clear O4'
  obtain ⟨V4, e4, D4, t4, X4⟩ := box_ex W4 #[.int .i64 0, .int .i64 3] 3
  rw [e4]
  clear e4
  rw [HZ4.out] at X4
  refine equal51 _ _ [0, 3] 2 _ _ _ _ rfl (by omega) (O4.out.below D4.out) (CellsAt.of_heap2 X4.out) ?_
  intro w5 hd5
  have D5 := Lib.hid (D4.out.trans (hd5.below _))
  clear hd5 X4
  go_wp2_with fail
  obtain ⟨V5, e5, D5', t5, X5⟩ := box_ex w5 #[.int .i64 1, .int .i64 2] 3
  rw [e5]
  clear e5
  have D6 := Lib.hid (D5.out.trans (D5'.out.mono D5.out.size))
  refine equal51 _ _ [1, 2] 2 _ _ _ _ rfl (by omega) (N4.out.below D6.out) (CellsAt.of_heap2 X5.out) ?_
  intro W5 hd5
  have D7 := Lib.hid (D6.out.trans (hd5.below _))
  have A5 := Lib.hid (A4.out.trans (D7.out.mono A4.out.size))
  have Q5 := Lib.hid (Q4.out.below D7.out)
  have S5 := Lib.hid (S4.out.below D7.out)
  clear hd5 X5 D4 t4 D5 D5' t5 D6 D7
  have p0 := Q5.out.c0
  have p1 := Q5.out.c1
  go_wp2_with fail
  refine return51At 2 _ aw3 4 _ sa 3 0 aw4 4 _ _ rfl (by omega) S5.out so3 (by decide) aw_r.1 aw_r.2 rfl ?_
  intro a6 c6 w6 hb hs hf
  have zq : Q + 1 ≤ W5.heap.size := Q5.out.lt
  have B6 := Lib.hid (A5.out.trans (hb.mono A5.out.size))
  have q6 := Lib.hid (Q5.out.below hb)
  have f0 := q6.out.fr 0
  have f1 := q6.out.fr 1
  have r0 := q6.out.c0
  have r1 := q6.out.c1
  have Q6' := Lib.hid (q6.out.put a6 c6)
  have S6' := Lib.hid (hs.two (hf.mono zq) (.int .i64 2) (.slice a6 4 c6))
  have A6' := Lib.hid ((B6.out.setCell (p := ⟨Q, 0, none⟩) hQz (.int .i64 2)).setCell (p := ⟨Q, 1, none⟩) hQz (.slice a6 4 c6))
  clear hb hs hf p0 p1
  rw [show okM 2 0 = 2 from rfl]
  go_wp2_with fail
  obtain ⟨W6, hW6⟩ : ∃ W, (w6.setCell ⟨Q, 0, none⟩ (.int .i64 2)).setCell ⟨Q, 1, none⟩ (.slice a6 4 c6) = W := ⟨_, rfl⟩
  rw [hW6] at Q6' S6' A6'
  rw [hW6]
  have HZ6 : Hid (W6.heap.size = w6.heap.size) := by unfold Hid; rw [← hW6]; simp [World.setCell]
  clear hW6 f0 f1 r0 r1 zq
  have Q6 := Q6'
  have S6 := S6'
  have A6 := A6'
  clear Q6' S6' A6'
  have p0 := Q6.out.c0
  have p1 := Q6.out.c1
  go_wp2_with fail
  refine free51At 2 _ aw4 4 _ 0 [] 0 _ _ rfl (by omega) S6.out so4 aw_f.1 aw_f.2 rfl ?_
  intro x7 y7 W7 hb hc7
  have A7 := Lib.hid (A6.out.trans (hb.mono A6.out.size))
  have Q7 := Lib.hid (Q6.out.below hb)
  have S7 := Lib.hid (S6.out.below hb)
  clear hb hc7 p0 p1
  have p0 := Q7.out.c0
  have p1 := Q7.out.c1
  go_wp2_with fail
  refine cal51At 2 _ aw4 4 _ 5 2 0 aw5 4 _ _ rfl (by omega) S7.out so4 aw_c.1 aw_c.2 rfl ?_
  intro a8 c8 w8 hb hs hf
  have zq : Q + 1 ≤ W7.heap.size := Q7.out.lt
  have B8 := Lib.hid (A7.out.trans (hb.mono A7.out.size))
  have q8 := Lib.hid (Q7.out.below hb)
  have f0 := q8.out.fr 0
  have f1 := q8.out.fr 1
  have r0 := q8.out.c0
  have r1 := q8.out.c1
  have Q8' := Lib.hid (q8.out.put a8 c8)
  have S8' := Lib.hid (hs.two (hf.mono zq) (.int .i64 2) (.slice a8 4 c8))
  have A8' := Lib.hid ((B8.out.setCell (p := ⟨Q, 0, none⟩) hQz (.int .i64 2)).setCell (p := ⟨Q, 1, none⟩) hQz (.slice a8 4 c8))
  clear hb hs hf p0 p1
  rw [show okM 2 0 = 2 from rfl]
  go_wp2_with fail
  obtain ⟨W8, hW8⟩ : ∃ W, (w8.setCell ⟨Q, 0, none⟩ (.int .i64 2)).setCell ⟨Q, 1, none⟩ (.slice a8 4 c8) = W := ⟨_, rfl⟩
  rw [hW8] at Q8' S8' A8'
  rw [hW8]
  have HZ8 : Hid (W8.heap.size = w8.heap.size) := by unfold Hid; rw [← hW8]; simp [World.setCell]
  clear hW8 f0 f1 r0 r1 zq
  have Q8 := Q8'
  have S8 := S8'
  have A8 := A8'
  clear Q8' S8' A8'
  have p0 := Q8.out.c0
  have p1 := Q8.out.c1
  go_wp2_with fail
  refine take51At 2 _ aw5 4 _ sa 5 0 aw6 [3] 4 1 _ _ rfl (by omega) S8.out so5 (by decide) aw_t4.1 aw_t4.2.1 aw_t4.2.2 rfl rfl ?_
  intro a9 c9 x9 y9 w9 hb hs ho hf hfo
  have hfx9 : Hid (Fresh (Q + 1) x9) := hfo.mono Q8.out.lt
  have zq : Q + 1 ≤ W8.heap.size := Q8.out.lt
  have B9 := Lib.hid (A8.out.trans (hb.mono A8.out.size))
  have q9 := Lib.hid (Q8.out.below hb)
  have f0 := q9.out.fr 0
  have f1 := q9.out.fr 1
  have r0 := q9.out.c0
  have r1 := q9.out.c1
  have Q9' := Lib.hid (q9.out.put a9 c9)
  have S9' := Lib.hid (hs.two (hf.mono zq) (.int .i64 2) (.slice a9 4 c9))
  have A9' := Lib.hid ((B9.out.setCell (p := ⟨Q, 0, none⟩) hQz (.int .i64 2)).setCell (p := ⟨Q, 1, none⟩) hQz (.slice a9 4 c9))
  have O9' := Lib.hid ((ho).two (hfx9.out) (.int .i64 2) (.slice a9 4 c9))
  clear hb hs hf p0 p1 ho hfo
  rw [show okM 2 0 = 2 from rfl]
  go_wp2_with fail
  obtain ⟨W9, hW9⟩ : ∃ W, (w9.setCell ⟨Q, 0, none⟩ (.int .i64 2)).setCell ⟨Q, 1, none⟩ (.slice a9 4 c9) = W := ⟨_, rfl⟩
  rw [hW9] at Q9' S9' A9' O9'
  rw [hW9]
  have HZ9 : Hid (W9.heap.size = w9.heap.size) := by unfold Hid; rw [← hW9]; simp [World.setCell]
  clear hW9 f0 f1 r0 r1 zq
  have Q9 := Q9'
  have S9 := S9'
  have A9 := A9'
  clear Q9' S9' A9'
  have O9 := O9'
  clear O9'
  have p0 := Q9.out.c0
  have p1 := Q9.out.c1
  go_wp2_with fail
  refine dev51At 2 _ aw6 4 _ sa 2 0 _ _ rfl (by omega) S9.out so6 (by decide) aw_d.1 aw_d.2 ?_
  intro W10 hb
  have A10 := Lib.hid (A9.out.trans (hb.mono A9.out.size))
  have O10 := Lib.hid (O9.out.below hb)
  clear hb p0 p1
  go_wp2_with fail
  obtain ⟨V11, e11, D11, t11, X11⟩ := box_ex W10 #[.int .i64 3] 3
  rw [e11]
  clear e11
  refine equal51 _ _ [3] 1 _ _ _ _ rfl (by omega) (O10.out.below D11.out) (CellsAt.of_heap1 X11.out) ?_
  intro W12 hd
  have A12 := Lib.hid (A10.out.trans ((D11.out.trans (hd.below _)).mono A10.out.size))
  clear hd X11 D11 t11
  go_wp2_with fail
  exact HR.out _ A12.out
end Go.Proofs.YteoniejpfmeibaaDoor
