/- slices.Backward over a chain's nodes: the iterator's contract. -/
import Derived.Test.YtjbdmaehomhdeaaF8
import Derived.RangeFuncNested
import Derived.RangeFuncBound
import Derived.RangeFuncCalls
import Derived.RangeFuncLeaves
import Derived.RangeFuncBox
import Derived.Shelf.Abstract
import Derived.Shelf.RegionOpen
import Derived.WalkKit
import Derived.OwnWalkIn
import Derived.TacticsInMore
import Derived.LoopNIn
import Derived.LoopIn
namespace Go.Proofs.Ytjbdmaehomhdeaa
open Go.RowKit Go.Shelf
attribute [local go_sem] Oper.semAt_some

/-- a node as it lies in memory: its bytes at a slice -/
structure NV where
  base : Bool
  A : Option Addr
  c : Nat
  bs : List Nat
def NV.val (x : NV) : Value := .agg #[.bool x.base, .slice x.A x.bs.length x.c]
def NV.cells (x : NV) : List Value := [.bool x.base, .slice x.A x.bs.length x.c]
/-- the indices m - 1, .., 0 -/
def down (m : Nat) : List (Fin m) := (List.finRange m).reverse
theorem down_length (m : Nat) : (down m).length = m := by simp [down]
theorem down_get (m k : Nat) (h : k < m) : (down m)[k]? = some ⟨m - 1 - k, by omega⟩ := by
  simp only [down]
  rw [List.getElem?_reverse (by simpa using h)]
  rw [List.getElem?_eq_getElem (by simp; omega)]
  simp
theorem down_take (m k : Nat) (h : k < m) : (down m).take (k + 1) = (down m).take k ++ [⟨m - 1 - k, by omega⟩] := by
  rw [List.take_add_one, down_get m k h]; rfl
theorem down_all (m : Nat) : (down m).take m = down m := List.take_of_length_le (by simp [down])

/-- what a round keeps: what lay below n₀, and the box Bs -/
structure KB (n₀ Bs : Nat) (W W' : World) : Prop where
  be : Below n₀ W W'
  bx : W'.heap[Bs]? = W.heap[Bs]?
theorem KB.refl (n₀ Bs : Nat) (W : World) : KB n₀ Bs W W := ⟨Below.refl _ _, rfl⟩
theorem KB.trans {n₀ Bs : Nat} {A B C : World} (h : KB n₀ Bs A B) (h2 : KB n₀ Bs B C) : KB n₀ Bs A C := ⟨h.be.trans h2.be, h2.bx.trans h.bx⟩
theorem KB.b {n₀ Bs : Nat} {w : World} (h1 : n₀ ≤ w.heap.size) (h2 : Bs < w.heap.size) (W : World) (l : Nat) (o o' : Obj) (hl : w.heap.size ≤ l) (ho : W.heap[l]? = some o) (hc : o.isCells = false) (hw : o.isWalk = false) : KB n₀ Bs W (W.putObj l o') :=
  ⟨belowK_b h1 W l o o' hl ho hc hw, (belowK_b (n₀ := Bs + 1) (w := w) (by omega) W l o o' hl ho hc hw).block Bs (by omega)⟩
theorem Rd.node {w : World} {lo hi : Nat} {A : Option Addr} {l : List NV} (h : Rd NV.cells 2 w lo hi A l) {i : Nat} (hi' : i < l.length) :
    ∃ ad x, A = some ad ∧ Hid (x = l[i]) ∧ lo ≤ ad.block ∧ ad.block < hi ∧ w.cell? (ad.add (i * 2)) = some (.bool x.base) ∧ w.cell? ⟨(ad.add (i * 2)).block, (ad.add (i * 2)).off + 1, none⟩ = some (.slice x.A x.bs.length x.c) := by
  obtain ⟨ad, e, h1, h2, hc⟩ := h.at_ hi'
  refine ⟨ad, l[i], e, Lib.hid rfl, h1, h2, hc 0 _ rfl, ?_⟩
  rw [← add_field _ _ 1 (by omega)]; exact hc 1 _ rfl

set_option maxRecDepth 100000 in
set_option maxHeartbeats 4000000 in
theorem back1_in (F : Fence) (n : Nat) (h8 : F.fn 63) (hro : F.round = none) (hn : 1 ≤ n) (l0 Bs n₀ lo hi : Nat) (l : List NV) (A : Option Addr) (m cap : Nat) (hm : m ≤ l.length) (hlen : m ≤ 140737488351232) (hhi : hi ≤ n₀) (J Jx : List (Fin m) → World → Prop)
    (hY : ∀ pre (x : Fin m) W, J pre W → pre.length < m → YieldAt F (n - 1) Try.prog l0 #[.int .i64 (x.1 : Int), (l[x.1]'(Nat.lt_of_lt_of_le x.2 hm)).val] W fun e W' =>
      (e = .returned (.bool true) ∧ J (pre ++ [x]) W' ∧ KB n₀ Bs W W') ∨ (e = .returned (.bool false) ∧ Jx (pre ++ [x]) W'))
    (W : World) (hBs : W.cell? ⟨Bs, 0, none⟩ = some (.slice A m cap)) (hc : Rd NV.cells 2 W lo hi A l) (h0 : J [] W) :
    CallsIn F n Try.prog 63 #[.func (.yield l0) #[] #[], .pointer (some ⟨Bs, 0, none⟩)] W fun e W' => (∃ v, e = .returned v) ∧
      ((∃ ys, ys = down m ∧ J ys W') ∨ (∃ pre, (∃ k, k ≤ m ∧ pre = (down m).take k) ∧ Jx pre W')) := by
  have HW : ∀ k : Nat, k ≤ m → IntKind.i64.wrap ((m : Int) - 1 - (k : Int) - 1) = (m : Int) - 1 - (k : Int) - 1 := fun k hk => by rw [IntKind.wrap_i64]; omega
  have HW0 : IntKind.i64.wrap ((m : Int) - 1) = (m : Int) - 1 := by rw [IntKind.wrap_i64]; omega
  refine callsIn_of_wp Try.func63 rfl h8 ?_ hro
  simp only [Try.ntmps63, List.size_toArray, List.length_cons, List.length_nil, Nat.reduceAdd, Nat.reduceSub, Array.replicate_succ, Array.replicate_zero, List.push_toArray, List.append_toArray, List.nil_append, List.cons_append]
  gi_wp2
  gi_loopw [3] (fun i wr => ∃ k : Nat, k ≤ m ∧ i = .int .i64 ((m : Int) - 1 - (k : Int)) ∧ J ((down m).take k) wr ∧ KB n₀ Bs W wr)
    (fun i _ => (intOf i + 1).toNat)
  case atStart => exact ⟨0, Nat.zero_le _, by simp, h0, KB.refl _ _ _⟩
  case round =>
    obtain ⟨k, hk, rfl, hJs, hnx⟩ := hrel
    have hbx : wr.cell? ⟨Bs, 0, none⟩ = some (.slice A m cap) := (World.cell?_of_block (a := ⟨Bs, 0, none⟩) hnx.bx).trans hBs
    by_cases hlt : k < m
    · obtain ⟨ad, x, rfl, hx, _, _, c0, c1⟩ := (hc.below (hnx.be.mono hhi)).node (i := m - 1 - k) (by omega)
      obtain ⟨fn, tmps, assign, body, hy, hR⟩ := hY _ ⟨m - 1 - k, by omega⟩ wr hJs (by rw [List.length_take, down_length]; omega)
      dsimp only at hy
      rw [← hx.out] at hy
      unfold NV.val at hy
      have hix : ((m - 1 - k : Nat) : Int) = (m : Int) - 1 - (k : Int) := by omega
      rw [hix] at hy
      have hgo : (0 : Int) ≤ (m : Int) - 1 - (k : Int) := by omega
      gi_wp2
      refine hR.mono ?_
      rintro e W3 (⟨rfl, hJ3, hk3⟩ | ⟨rfl, hJx3⟩)
      · have hw := HW k hk
        gi_wp2
        go_roundw
        case rel => exact ⟨k + 1, by omega, by simp; omega, by rw [down_take m k hlt]; exact hJ3, hnx.trans hk3⟩
        case measure => simp [intOf]; omega
      · gi_wp2
        refine bodyPost_ret (results_none rfl _ _ _) rfl ?_
        exact ⟨⟨_, rfl⟩, .inr ⟨_, ⟨k + 1, by omega, (down_take m k hlt).symm⟩, hJx3⟩⟩
    · obtain rfl : k = m := by omega
      rw [down_all] at hJs
      have hno : ¬ ((0 : Int) ≤ (k : Int) - 1 - (k : Int)) := by omega
      gi_wp2
      go_end0
      exact ⟨⟨_, rfl⟩, .inl hJs⟩

set_option maxRecDepth 100000 in
set_option maxHeartbeats 1000000 in
/-- slices.Backward(l): the slice value is boxed; the function value captures the box -/
theorem back_in (F : Fence) (n : Nat) (h6 : F.fn 33) (hro : F.round = none) (a : Option Addr) (len cap : Nat) (w : World) :
    CallsIn F n Try.prog 33 #[.slice a len cap] w fun e w' => e = .returned (.func (.func 63) #[] #[.pointer (some ⟨w.heap.size, 0, none⟩)]) ∧ w' = w.alloc (.cells #[.slice a len cap] 35) := by
  refine callsIn_of_wp Try.func33 rfl h6 ?_ hro
  simp only [Try.ntmps33, List.size_toArray, List.length_cons, List.length_nil, Nat.reduceAdd, Nat.reduceSub, Array.replicate_succ, Array.replicate_zero, List.push_toArray, List.append_toArray, List.nil_append, List.cons_append]
  gi_wp2
  go_ret
  exact ⟨rfl, rfl⟩
theorem back_stops (F : Fence) (n : Nat) (h8 : F.fn 63) (hro : F.round = none) (hn : 1 ≤ n) (Bs n₀ lo hi : Nat) (l : List NV) (A : Option Addr) (m cap : Nat) (hm : m ≤ l.length) (hlen : m ≤ 140737488351232) (hhi : hi ≤ n₀) (w : World) (hBs : Bs < w.heap.size) (hn₀ : n₀ ≤ w.heap.size)
    (hc : w.cell? ⟨Bs, 0, none⟩ = some (.slice A m cap)) (hr : Rd NV.cells 2 w lo hi A l) :
    SeqStopsK F n Try.prog 63 #[.pointer (some ⟨Bs, 0, none⟩)] (fun x : Fin m => #[Value.int .i64 (x.1 : Int), (l[x.1]'(Nat.lt_of_lt_of_le x.2 hm)).val]) (KB n₀ Bs) (fun ys => ys = down m)
      (fun pre => ∃ k, k ≤ m ∧ pre = (down m).take k) m w := fun l0 J Jx W hW _ _ hY h0 =>
  back1_in F n h8 hro hn l0 Bs n₀ lo hi l A m cap hm hlen hhi J Jx hY W ((hW.cell (p := ⟨Bs, 0, none⟩) (by show Bs < _; omega)).trans hc) (hr.below (hW.mono (by omega))) h0
end Go.Proofs.Ytjbdmaehomhdeaa
