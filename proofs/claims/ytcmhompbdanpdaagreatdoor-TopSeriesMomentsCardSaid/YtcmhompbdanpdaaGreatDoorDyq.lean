/- Drawn regions, operation by operation, with the post kept out of sight. -/
import Derived.Deep.RegionHeld3
import Derived.Deep.AppendLies
import Derived.Deep.Upon
import Derived.Test.YtcmhompbdanpdaaGreatDoorSa
namespace Go.Proofs.YtcmhompbdanpdaaGreatDoor
open Go.RowKit
section
variable {P : Program} {ops : Array Oper} {Q : Exit → Act → World → Prop} {md : Region.Mode} {S : World → Prop}
/-- What a post says of a panic does not hang on the frame. -/
def Calm (Q : Exit → Act → World → Prop) : Prop := ∀ c a a' w, Q (.panic c) a w → Q (.panic c) a' w
theorem regionQ {id : Nat} {a : Act} {w : World} (S : World → Prop) (hm : P.follows .mixedOrders = true) (hS : S w.drew)
    (h : ∀ Q' : Exit → Act → World → Prop, Calm Q' → Shut (∀ a w, Q .normal a w → Q' .normal a w) → S w.drew → wpAnyH P .any ops Q' S ops.size (Array.replicate ops.size false) a w.drew) : (Code.region id ops true).wp P Q a w :=
  wp_region_noPanic (wp_region_held_drew hm hS (h (NoPanic Q) (fun _ _ _ _ h => h) (fun _ _ h => NoPanic.normal h)))
theorem takeQ {i : Nat} {oi : Oper} {d : Option Tmp} {v : Value} {fuel : Nat} {listed : Array Bool} {a : Act} {w : World} (hi : ops[i]? = some oi) (hd : oi.dst = d)
    (hs : Region.noSelect ops = true) (hf : Region.free md ops listed i = true) (hr : (Region.ready md ops listed).contains i = true)
    (hQ : Calm Q) (hS : S w) (hw : Region.wanted oi (yielded ops a.tmps) = true) (hy : ∀ w, S w → (execOp a.eval oi).run P w = .ok (.value v) w)
    (h : wpAnyH P md ops Q S fuel (listed.setIfInBounds i true) (a.put d v) w) : wpAnyH P md ops Q S (fuel + 1) listed a w := by
  subst hd
  exact wpAnyH_take hi hs hf hr (fun c a w h => hQ c _ _ w h) (Or.inl ⟨hw, hy⟩) hS h
theorem skipQ {i : Nat} {oi : Oper} {d : Option Tmp} {fuel : Nat} {listed : Array Bool} {a : Act} {w : World} (hi : ops[i]? = some oi) (hd : oi.dst = d)
    (hs : Region.noSelect ops = true) (hf : Region.free md ops listed i = true) (hr : (Region.ready md ops listed).contains i = true)
    (hQ : Calm Q) (hS : S w) (hw : Region.wanted oi (yielded ops a.tmps) = false)
    (h : wpAnyH P md ops Q S fuel (listed.setIfInBounds i true) (a.put d undef) w) : wpAnyH P md ops Q S (fuel + 1) listed a w := by
  subst hd
  exact wpAnyH_take hi hs hf hr (fun c a w h => hQ c _ _ w h) (Or.inr ⟨hw, rfl⟩) hS h
/-- append of nothing, at a step of a drawn region. -/
theorem step_none {w : World} {o : Oper} {a : Act} {K : Act → World → Prop} {E : Prop} (hgd : o.guard = none) (s x : Operand) (t : TypeId)
    (ho : o.op = .call { callee := .builtin .append, args := #[s, x], argTypes := #[t, t] }) (e : TypeId) (i : TypeInfo) (ht : P.underlying t = some (.slice e)) (hi : P.info? e = some i)
    (b : Option Addr) (n c : Nat) (hle : n ≤ c) (hs : a.eval s = .slice b n c) (a2 : Option Addr) (c2 : Nat) (hx : a.eval x = .slice a2 0 c2) (h : K (a.put o.dst (.slice b n c)) w) :
    if Region.wanted o (yielded ops a.tmps) = true then Oper.wp P o a w K Q else E := by
  have hw : Region.wanted o (yielded ops a.tmps) = true := by simp [Region.wanted, hgd]
  rw [if_pos hw]
  have hr : (Builtin.append_ #[t, t] o.type #[.slice b n c, .slice a2 0 c2]).run P w = .ok (.slice b n c) w := by
    refine run_append_nothing w t t o.type e i ht hi b n c hle _ ?_
    cases a2 with
    | some ad => exact Src.ofSlice w ht ad 0 c2 [] (by simp) (by simp) (by simp)
    | none =>
      exact Src.ofNil w ht c2
  unfold Oper.wp execOp
  simp only [ho, resolve, invoke, builtin, Sem.run_bind, Sem.run_pure, Result.andThen_ok, List.map_toArray, List.map_cons, List.map_nil, hs, hx, hr]
  exact h
/-- append of as many as there are, at a step of a drawn region. -/
theorem step_appendN {w : World} {o : Oper} {a : Act} {K : Act → World → Prop} {E : Prop} (hgd : o.guard = none) (s x : Operand) (t : TypeId)
    (ho : o.op = .call { callee := .builtin .append, args := #[s, x], argTypes := #[t, t] })
    (base : Nat) (e : TypeId) {z : Value} {size bytes : Nat} (ht : P.underlying t = some (.slice e)) (hi : (P.info? e).map (fun i => (i.zero, i.size, i.bytes)) = some (some z, size, bytes))
    (hzs : z.cells.size = size) (hsz : 0 < size)
    (v : Value) (n : Nat) (xs : List Value) (hs : a.eval s = v) (hown : w.ownsRow base e size v n xs)
    (ad : Option Addr) (m c : Nat) (news : List Value) (hx : a.eval x = .slice ad m c) (hl : news.length = m * size) (hc : CellsAt w ad news) (h1 : ∀ u ∈ news, u.oneCell' = true)
    (h63 : n + m ≤ 9223372036854775807) (hbytes : (n + m) * bytes ≤ 140737488355328) (hbase : base ≤ w.heap.size)
    (h : ∀ v' w', w'.ownsRow base e size v' (n + m) (xs ++ news) → Below base w w' → K (a.put o.dst v') w') :
    if Region.wanted o (yielded ops a.tmps) = true then Oper.wp P o a w K Q else E := by
  obtain ⟨i, q1, q2, q3, q4⟩ := info_parts hi
  by_cases h0 : m = 0
  · subst h0
    obtain rfl : news = [] := List.length_eq_zero_iff.1 (by simpa using hl)
    have hK := h v w (by simpa using hown) (Below.refl _ _)
    rcases hown.2 with ⟨rfl, _⟩ | ⟨g, cap, cur, rfl, _, _, hnc, _⟩
    · exact step_none hgd s x t ho e i ht q1 none 0 0 (Nat.le_refl _) hs ad c hx hK
    · exact step_none hgd s x t ho e i ht q1 (some ⟨g, 0, none⟩) n cap hnc hs ad c hx hK
  · obtain ⟨b, o', e', _, _⟩ := hc (by rw [hl]; exact Nat.mul_pos (by omega) hsz)
    subst e'
    refine step_append_lies w hgd s x t ho base e i z size bytes ht q1 q2 q3 q4 hzs hsz v n xs hs hown ⟨b, o', none⟩ m c news hx hl ?_ h1 (by omega) (by unfold maxLen; omega) hbytes hbase w.heap.size rfl ?_
    · intro j u hj
      have hadd : (⟨b, o', none⟩ : Addr).add j = ⟨b, o' + j, none⟩ := by unfold Addr.add; split <;> simp_all
      rw [hadd]; exact hc.get rfl hj
    · intro g cap w' h2 h3 _ _
      exact h _ w' h2 ((Below.refl base w).grown h3 hbase (fun j e => (hown.lt j e).1))
end
end Go.Proofs.YtcmhompbdanpdaaGreatDoor
