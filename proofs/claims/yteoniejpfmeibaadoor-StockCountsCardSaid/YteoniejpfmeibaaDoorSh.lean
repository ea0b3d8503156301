/- Plain words of what changes a stock. -/
import Derived.Test.YteoniejpfmeibaaDoorSa
namespace Go.Proofs.YteoniejpfmeibaaDoor
open Go.RowKit

theorem bC_set : ∀ (bs : List B5) (i : Nat) (b : B5), i < bs.length →
    bC (bs.set i b) = ((((bC bs).set (i * 4) (.int .i64 b.l)).set (i * 4 + 1) (.int .i64 b.w)).set (i * 4 + 2) (.int .i64 b.u)).set (i * 4 + 3) (.string b.h)
  | [], i, _, h => absurd h (by simp)
  | a :: bs, 0, b, _ => by rw [List.set_cons_zero, bC_cons, bC_cons]; rfl
  | a :: bs, i + 1, b, h => by
    rw [List.set_cons_succ, bC_cons, bC_cons, bC_set bs i b (by simpa using h), show (i + 1) * 4 = i * 4 + 4 from by omega]
    rfl
theorem bAt_lt {bs : List B5} {i : Nat} (h : i < bs.length) : bAt bs i = bs[i] := by unfold bAt; rw [List.getD_eq_getElem?_getD, List.getElem?_eq_getElem h]; rfl
theorem bAt_set {bs : List B5} {i j : Nat} {b : B5} (h : i < bs.length) : bAt (bs.set i b) j = if i = j then b else bAt bs j := by
  unfold bAt
  rw [List.getD_eq_getElem?_getD, List.getElem?_set, List.getD_eq_getElem?_getD]
  by_cases e : i = j
  · rw [if_pos e, if_pos e, if_pos h]; rfl
  · rw [if_neg e, if_neg e]
theorem set_same {cs : List Value} {j : Nat} {v : Value} (h : cs[j]? = some v) : cs.set j v = cs := by
  obtain ⟨hj, e⟩ := List.getElem?_eq_some_iff.1 h
  rw [← e]; exact List.set_getElem_self hj
theorem bC_set3 {bs : List B5} {i : Nat} (h : i < bs.length) (s : ByteArray) : (bC bs).set (i * 4 + 3) (.string s) = bC (bs.set i { bAt bs i with h := s }) := by
  obtain ⟨h1, h2, h3, h4⟩ := bC_get bs i h
  rw [bC_set bs i _ h, set_same h1, set_same h2, set_same h3]
theorem bC_set1 {bs : List B5} {i : Nat} (h : i < bs.length) (x : Int) : (bC bs).set (i * 4 + 1) (.int .i64 x) = bC (bs.set i { bAt bs i with w := x }) := by
  obtain ⟨h1, h2, h3, h4⟩ := bC_get bs i h
  rw [bC_set bs i _ h, set_same h1]
  have e3 : ((bC bs).set (i * 4 + 1) (.int .i64 x))[i * 4 + 2]? = some (.int .i64 (bAt bs i).u) := by rw [List.getElem?_set_ne (by omega)]; exact h3
  have e4 : ((bC bs).set (i * 4 + 1) (.int .i64 x))[i * 4 + 3]? = some (.string (bAt bs i).h) := by rw [List.getElem?_set_ne (by omega)]; exact h4
  rw [set_same e3, set_same e4]
theorem bC_set2 {bs : List B5} {i : Nat} (h : i < bs.length) (x : Int) : (bC bs).set (i * 4 + 2) (.int .i64 x) = bC (bs.set i { bAt bs i with u := x }) := by
  obtain ⟨h1, h2, h3, h4⟩ := bC_get bs i h
  rw [bC_set bs i _ h, set_same h1, set_same h2]
  have e4 : ((bC bs).set (i * 4 + 2) (.int .i64 x))[i * 4 + 3]? = some (.string (bAt bs i).h) := by rw [List.getElem?_set_ne (by omega)]; exact h4
  rw [set_same e4]

/-- 'resting': the error; the place. -/
def plL (l : Int) (bs : List B5) : List Int := pickL (lenP l) bs
def rsE (m : Int) (bs : List B5) (l : Int) : Int :=
  if chkS m bs = 0 then if (plL l bs).length = 0 then 6 else if (bAt bs (at0 (plL l bs) 0).toNat).h.size = 0 then 0 else 14 else chkS m bs
def rsI (bs : List B5) (l : Int) : Nat := (at0 (plL l bs) 0).toNat
def clE (m : Int) (bs : List B5) (l x : Int) : Int := if rsE m bs l = 0 then if inB x 0 100000 = true then 0 else 2 else rsE m bs l
def clB (m : Int) (bs : List B5) (l x : Int) : List B5 := if clE m bs l x = 0 then bs.set (rsI bs l) { bAt bs (rsI bs l) with w := x } else []
def rpB (m : Int) (bs : List B5) (l : Int) : List B5 := if rsE m bs l = 0 then bs.set (rsI bs l) ⟨l, 0, 0, ⟨#[]⟩⟩ else []
/-- The greatest permitted wear of a result. -/
def okM (m e : Int) : Int := if e = 0 then m else 0

/-- 'Take'. -/
def lensTo (bs : List B5) (free : List Int) : Nat → List Int
  | 0 => []
  | n + 1 => lensTo bs free n ++ [(bAt bs (at0 free n).toNat).l]
def lensL (bs : List B5) (free : List Int) : List Int := lensTo bs free free.length
theorem lensTo_length (bs : List B5) (free : List Int) : ∀ n, (lensTo bs free n).length = n
  | 0 => rfl
  | n + 1 => by rw [lensTo, List.length_append, lensTo_length bs free n]; rfl
def tkI (free st : List Int) (k : Nat) : Nat := (at0 free (at0 st k).toNat).toNat
def tkTo (bs : List B5) (free st : List Int) (who : ByteArray) : Nat → List B5
  | 0 => bs
  | k + 1 => (tkTo bs free st who k).set (tkI free st k) { bAt (tkTo bs free st who k) (tkI free st k) with h := who }
def tkOut (free st : List Int) : Nat → List Int
  | 0 => []
  | k + 1 => tkOut free st k ++ [(tkI free st k : Int)]
theorem tkTo_length (bs : List B5) (free st : List Int) (who : ByteArray) : ∀ k, (tkTo bs free st who k).length = bs.length
  | 0 => rfl
  | k + 1 => by rw [tkTo, List.length_set, tkTo_length bs free st who k]
theorem tkOut_length (free st : List Int) : ∀ k, (tkOut free st k).length = k
  | 0 => rfl
  | k + 1 => by rw [tkOut, List.length_append, tkOut_length free st k]; rfl
/-- The set, the stack of 'Take'. -/
def tkSet (m : Int) (bs : List B5) : List Int := lensL bs (pickL (freeP m) bs)
def tkE (m : Int) (bs : List B5) (who : ByteArray) (l : Int) : Int :=
  if nmS m bs who = 0 then if (pickL (heldP who) bs).length = 0 then fewE (tkSet m bs) l else 7 else nmS m bs who
def tkB (m : Int) (bs : List B5) (who : ByteArray) (l : Int) : List B5 :=
  if tkE m bs who l = 0 then tkTo bs (pickL (freeP m) bs) (fewL (tkSet m bs) l) who (fewL (tkSet m bs) l).length else []
def tkO (m : Int) (bs : List B5) (who : ByteArray) (l : Int) : List Int :=
  if tkE m bs who l = 0 then tkOut (pickL (freeP m) bs) (fewL (tkSet m bs) l) (fewL (tkSet m bs) l).length else []

/-- 'Return'. -/
def rtF (L : List Int) (x : Int) (j : Nat) (s : List B5) : List B5 ⊕ Int :=
  if 100000 < wrap64 ((bAt s (at0 L j).toNat).w + x) ∨ 1048576 < wrap64 ((bAt s (at0 L j).toNat).u + 1) then .inr 11
  else .inl (s.set (at0 L j).toNat ⟨(bAt s (at0 L j).toNat).l, wrap64 ((bAt s (at0 L j).toNat).w + x), wrap64 ((bAt s (at0 L j).toNat).u + 1), ⟨#[]⟩⟩)
def rtX (bs : List B5) (L : List Int) (x : Int) : List B5 ⊕ Int := loopE (rtF L x) L.length 0 bs
def rtR1 : List B5 ⊕ Int → List B5 | .inl s => s | .inr _ => []
def rtR2 : List B5 ⊕ Int → Int | .inl _ => 0 | .inr r => r
def rtE (m : Int) (bs : List B5) (who : ByteArray) (x : Int) : Int :=
  if nmS m bs who = 0 then if inB x 0 100000 = true then if (pickL (heldP who) bs).length = 0 then 6 else rtR2 (rtX bs (pickL (heldP who) bs) x) else 2 else nmS m bs who
def rtB (m : Int) (bs : List B5) (who : ByteArray) (x : Int) : List B5 := if rtE m bs who x = 0 then rtR1 (rtX bs (pickL (heldP who) bs) x) else []

/-- 'New'. -/
def newTo (zs : List Int) : Nat → List B5
  | 0 => []
  | n + 1 => newTo zs n ++ [⟨at0 zs n, 0, 0, ⟨#[]⟩⟩]
theorem newTo_length (zs : List Int) : ∀ n, (newTo zs n).length = n
  | 0 => rfl
  | n + 1 => by rw [newTo, List.length_append, newTo_length zs n]; rfl
def nwE (m : Int) (zs : List Int) : Int := if inB m 0 100000 = true then chk zs else 2
def nwB (m : Int) (zs : List Int) : List B5 := if nwE m zs = 0 then newTo zs zs.length else []
theorem bC_append (a b : List B5) : bC (a ++ b) = bC a ++ bC b := by unfold bC; rw [List.flatMap_append]
end Go.Proofs.YteoniejpfmeibaaDoor
