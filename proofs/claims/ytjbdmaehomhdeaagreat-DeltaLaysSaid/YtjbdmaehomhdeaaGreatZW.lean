/- slices.Backward over a chain's nodes: the iterator's contract. -/
import Derived.Test.YtjbdmaehomhdeaaGreatF8
import Derived.Test.YtjbdmaehomhdeaaGreatG14
import Derived.RangeFuncNested
import Derived.RangeFuncBound
import Derived.RangeFuncCalls
import Derived.RangeFuncLeaves
import Derived.RangeFuncBox
import Derived.Shelf.Abstract
import Derived.Shelf.RegionOpen
import Derived.WalkKit
import Derived.OwnWalkIn
import Derived.TacticsInMore
import Derived.LoopNIn
import Derived.LoopIn
set_option linter.unusedSimpArgs false
set_option linter.unusedVariables false
namespace Go.Proofs.YtjbdmaehomhdeaaGreat
open Go.RowKit Go.Shelf
attribute [local go_sem] Oper.semAt_some

/-- a node as it lies in memory: its bytes at a slice -/
structure NV where
  base : Bool
  A : Option Addr
  c : Nat
  bs : List Nat
def NV.val (x : NV) : Value := .agg #[.bool x.base, .slice x.A x.bs.length x.c]
def NV.cells (x : NV) : List Value := [.bool x.base, .slice x.A x.bs.length x.c]
/-- the indices m - 1, .., 0 -/
def down (m : Nat) : List (Fin m) := (List.finRange m).reverse
theorem down_length (m : Nat) : (down m).length = m := by simp [down]
theorem down_get (m k : Nat) (h : k < m) : (down m)[k]? = some ⟨m - 1 - k, by omega⟩ := by
  simp only [down]
  rw [List.getElem?_reverse (by simpa using h)]
  rw [List.getElem?_eq_getElem (by simp; omega)]
  simp
theorem down_take (m k : Nat) (h : k < m) : (down m).take (k + 1) = (down m).take k ++ [⟨m - 1 - k, by omega⟩] := by
  rw [List.take_add_one, down_get m k h]; rfl
theorem down_all (m : Nat) : (down m).take m = down m := List.take_of_length_le (by simp [down])

/-- what a round keeps: what lay below n₀, and the box Bs -/
structure KB (n₀ Bs : Nat) (W W' : World) : Prop where
  be : Below n₀ W W'
  bx : W'.heap[Bs]? = W.heap[Bs]?
theorem KB.refl (n₀ Bs : Nat) (W : World) : KB n₀ Bs W W := ⟨Below.refl _ _, rfl⟩
theorem KB.trans {n₀ Bs : Nat} {A B C : World} (h : KB n₀ Bs A B) (h2 : KB n₀ Bs B C) : KB n₀ Bs A C := ⟨h.be.trans h2.be, h2.bx.trans h.bx⟩
theorem KB.b {n₀ Bs : Nat} {w : World} (h1 : n₀ ≤ w.heap.size) (h2 : Bs < w.heap.size) (W : World) (l : Nat) (o o' : Obj) (hl : w.heap.size ≤ l) (ho : W.heap[l]? = some o) (hc : o.isCells = false) (hw : o.isWalk = false) : KB n₀ Bs W (W.putObj l o') :=
  ⟨belowK_b h1 W l o o' hl ho hc hw, (belowK_b (n₀ := Bs + 1) (w := w) (by omega) W l o o' hl ho hc hw).block Bs (by omega)⟩
theorem Rd.node {w : World} {lo hi : Nat} {A : Option Addr} {l : List NV} (h : Rd NV.cells 2 w lo hi A l) {i : Nat} (hi' : i < l.length) :
    ∃ ad x, A = some ad ∧ Hid (x = l[i]) ∧ lo ≤ ad.block ∧ ad.block < hi ∧ w.cell? (ad.add (i * 2)) = some (.bool x.base) ∧ w.cell? ⟨(ad.add (i * 2)).block, (ad.add (i * 2)).off + 1, none⟩ = some (.slice x.A x.bs.length x.c) := by
  obtain ⟨ad, e, h1, h2, hc⟩ := h.at_ hi'
  refine ⟨ad, l[i], e, Lib.hid rfl, h1, h2, hc 0 _ rfl, ?_⟩
  rw [← add_field _ _ 1 (by omega)]; exact hc 1 _ rfl

set_option maxRecDepth 100000 in
set_option maxHeartbeats 4000000 in
theorem back1_in (F : Fence) (n : Nat) (h8 : F.fn 82) (hro : F.round = none) (hn : 1 ≤ n) (l0 Bs n₀ lo hi : Nat) (l : List NV) (A : Option Addr) (m cap : Nat) (hm : m ≤ l.length) (hlen : m ≤ 140737488351232) (hhi : hi ≤ n₀) (J Jx : List (Fin m) → World → Prop)
    (hY : ∀ pre (x : Fin m) W, J pre W → pre.length < m → YieldAt F (n - 1) Tryz.prog l0 #[.int .i64 (x.1 : Int), (l[x.1]'(Nat.lt_of_lt_of_le x.2 hm)).val] W fun e W' =>
      (e = .returned (.bool true) ∧ J (pre ++ [x]) W' ∧ KB n₀ Bs W W') ∨ (e = .returned (.bool false) ∧ Jx (pre ++ [x]) W'))
    (W : World) (hBs : W.cell? ⟨Bs, 0, none⟩ = some (.slice A m cap)) (hc : Rd NV.cells 2 W lo hi A l) (h0 : J [] W) :
    CallsIn F n Tryz.prog 82 #[.func (.yield l0) #[] #[], .pointer (some ⟨Bs, 0, none⟩)] W fun e W' => (∃ v, e = .returned v) ∧
      ((∃ ys, ys = down m ∧ J ys W') ∨ (∃ pre, (∃ k, k ≤ m ∧ pre = (down m).take k) ∧ Jx pre W')) := by
  have HW : ∀ k : Nat, k ≤ m → IntKind.i64.wrap ((m : Int) - 1 - (k : Int) - 1) = (m : Int) - 1 - (k : Int) - 1 := fun k hk => by rw [IntKind.wrap_i64]; omega
  have HW0 : IntKind.i64.wrap ((m : Int) - 1) = (m : Int) - 1 := by rw [IntKind.wrap_i64]; omega
  refine callsIn_of_wp Tryz.func82 rfl h8 ?_ hro
  simp only [Tryz.ntmps82, List.size_toArray, List.length_cons, List.length_nil, Nat.reduceAdd, Nat.reduceSub, Array.replicate_succ, Array.replicate_zero, List.push_toArray, List.append_toArray, List.nil_append, List.cons_append]
  gi_wp2
  gi_loopw [3] (fun i wr => ∃ k : Nat, k ≤ m ∧ i = .int .i64 ((m : Int) - 1 - (k : Int)) ∧ J ((down m).take k) wr ∧ KB n₀ Bs W wr)
    (fun i _ => (intOf i + 1).toNat)
  case atStart => exact ⟨0, Nat.zero_le _, by simp, h0, KB.refl _ _ _⟩
  case round =>
    obtain ⟨k, hk, rfl, hJs, hnx⟩ := hrel
    have hbx : wr.cell? ⟨Bs, 0, none⟩ = some (.slice A m cap) := (World.cell?_of_block (a := ⟨Bs, 0, none⟩) hnx.bx).trans hBs
    by_cases hlt : k < m
    · obtain ⟨ad, x, rfl, hx, _, _, c0, c1⟩ := (hc.below (hnx.be.mono hhi)).node (i := m - 1 - k) (by omega)
      obtain ⟨fn, tmps, assign, body, hy, hR⟩ := hY _ ⟨m - 1 - k, by omega⟩ wr hJs (by rw [List.length_take, down_length]; omega)
      dsimp only at hy
      rw [← hx.out] at hy
      unfold NV.val at hy
      have hix : ((m - 1 - k : Nat) : Int) = (m : Int) - 1 - (k : Int) := by omega
      rw [hix] at hy
      have hgo : (0 : Int) ≤ (m : Int) - 1 - (k : Int) := by omega
      gi_wp2
      refine hR.mono ?_
      rintro e W3 (⟨rfl, hJ3, hk3⟩ | ⟨rfl, hJx3⟩)
      · have hw := HW k hk
        gi_wp2
        go_roundw
        case rel => exact ⟨k + 1, by omega, by simp; omega, by rw [down_take m k hlt]; exact hJ3, hnx.trans hk3⟩
        case measure => simp [intOf]; omega
      · gi_wp2
        refine bodyPost_ret (results_none rfl _ _ _) rfl ?_
        exact ⟨⟨_, rfl⟩, .inr ⟨_, ⟨k + 1, by omega, (down_take m k hlt).symm⟩, hJx3⟩⟩
    · obtain rfl : k = m := by omega
      rw [down_all] at hJs
      have hno : ¬ ((0 : Int) ≤ (k : Int) - 1 - (k : Int)) := by omega
      gi_wp2
      go_end0
      exact ⟨⟨_, rfl⟩, .inl hJs⟩

set_option maxRecDepth 100000 in
set_option maxHeartbeats 1000000 in
/-- slices.Backward(l): the slice value is boxed; the function value captures the box -/
theorem back_in (F : Fence) (n : Nat) (h6 : F.fn 51) (hro : F.round = none) (a : Option Addr) (len cap : Nat) (w : World) :
    CallsIn F n Tryz.prog 51 #[.slice a len cap] w fun e w' => e = .returned (.func (.func 82) #[] #[.pointer (some ⟨w.heap.size, 0, none⟩)]) ∧ w' = w.alloc (.cells #[.slice a len cap] 51) := by
  refine callsIn_of_wp Tryz.func51 rfl h6 ?_ hro
  simp only [Tryz.ntmps51, List.size_toArray, List.length_cons, List.length_nil, Nat.reduceAdd, Nat.reduceSub, Array.replicate_succ, Array.replicate_zero, List.push_toArray, List.append_toArray, List.nil_append, List.cons_append]
  gi_wp2
  go_ret
  exact ⟨rfl, rfl⟩
theorem back_stops (F : Fence) (n : Nat) (h8 : F.fn 82) (hro : F.round = none) (hn : 1 ≤ n) (Bs n₀ lo hi : Nat) (l : List NV) (A : Option Addr) (m cap : Nat) (hm : m ≤ l.length) (hlen : m ≤ 140737488351232) (hhi : hi ≤ n₀) (w : World) (hBs : Bs < w.heap.size) (hn₀ : n₀ ≤ w.heap.size)
    (hc : w.cell? ⟨Bs, 0, none⟩ = some (.slice A m cap)) (hr : Rd NV.cells 2 w lo hi A l) :
    SeqStopsK F n Tryz.prog 82 #[.pointer (some ⟨Bs, 0, none⟩)] (fun x : Fin m => #[Value.int .i64 (x.1 : Int), (l[x.1]'(Nat.lt_of_lt_of_le x.2 hm)).val]) (KB n₀ Bs) (fun ys => ys = down m)
      (fun pre => ∃ k, k ≤ m ∧ pre = (down m).take k) m w := fun l0 J Jx W hW _ _ hY h0 =>
  back1_in F n h8 hro hn l0 Bs n₀ lo hi l A m cap hm hlen hhi J Jx hY W ((hW.cell (p := ⟨Bs, 0, none⟩) (by show Bs < _; omega)).trans hc) (hr.below (hW.mono (by omega))) h0
end Go.Proofs.YtjbdmaehomhdeaaGreat

namespace Go.Proofs.YtjbdmaehomhdeaaGreat
open Go.RowKit

theorem Oper.in_round {P : Program} {o : Oper} {a : Act} {w : World} {K : Act → World → Prop} {Q : Exit → Act → World → Prop} (l n : Nat) (hd : ∀ c, o.op ≠ .defer c) (h : o.wp P a w K Q) : o.wpIn (Fence.wide.inRound l) n P a w K Q := by
  refine ⟨fun _ _ => trivial, ?_⟩
  rw [Oper.semAt_plain (Fence.wide.inRound l) _ _ hd]
  unfold Oper.wp at h
  generalize (execOp a.eval o).run P w = r at h ⊢
  cases r with
  | ok x w' =>
    cases x with
    | value v => exact h
    | skip => exact h
    | defer d => exact h
    | enter f args => exact ⟨fun hh => by simp [Fence.wide] at hh, CallsIn.inRound l (callsIn_wide.2 h)⟩
    | row r args =>
      refine ⟨fun hh => by simp [Fence.wide] at hh, fun c cs _ => ?_⟩
      obtain ⟨v, w2, h1, h2⟩ := h c cs
      exact ⟨v, w2, h1, stepsIn_wide.2 h2⟩
    | _ => exact h.elim
  | halt x w' =>
    cases x with
    | panic v => exact h
    | _ => exact h.elim
def noDefer (ops : Array Oper) : Bool := ops.toList.all fun o => match o.op with | .defer _ => false | _ => true
theorem noDefer_ok {ops : Array Oper} (h : noDefer ops = true) : ∀ (i : Nat) (o : Oper), ops[i]? = some o → ∀ c, o.op ≠ .defer c := by
  intro i o ho c hc
  unfold noDefer at h
  rw [List.all_eq_true] at h
  have h1 := h o (by rw [← Array.getElem?_toList] at ho; exact List.mem_of_getElem? ho)
  rw [hc] at h1
  cases h1
theorem wpAny_in {P : Program} {ops : Array Oper} {Q : Exit → Act → World → Prop} (l n : Nat) (hd : ∀ (i : Nat) (o : Oper), ops[i]? = some o → ∀ c, o.op ≠ .defer c) (hg : ∀ (i : Nat) (o : Oper), ops[i]? = some o → o.guard = none ∧ ∀ e ∈ o.after.toList, Region.binds .any e = true → e.on < i)
    {a : Act} {S : List Nat} (J : (Nat → Bool) → (Nat → Value) → World → Prop)
    (hstep : ∀ (i : Nat) (o : Oper), ops[i]? = some o → ∀ D X w, J D X w → D i = false → (∀ e ∈ o.after.toList, Region.binds .any e = true → D e.on = true) → o.wp P (over a S X) w (fun a2 w2 => ∃ X2, a2 = over a S X2 ∧ J (fun j => D j || j == i) X2 w2) Q)
    (hend : ∀ D X w, J D X w → (∀ i, i < ops.size → D i = true) → Q .normal (over a S X) w) :
    ∀ (fuel : Nat) (listed : Array Bool) (X : Nat → Value) (w : World), listed.size = ops.size → (List.range ops.size).countP (fun i => !listed.getD i false) ≤ fuel → J (fun j => listed.getD j false) X w → wpAnyIn (Fence.wide.inRound l) n P .any ops Q fuel listed (over a S X) w := by
  have hfin : ∀ (listed : Array Bool), listed.size = ops.size → Region.ready .any ops listed = [] → ∀ i, i < ops.size → listed.getD i false = true := by
    intro listed hsz hr i
    induction i using Nat.strongRecOn with
    | ind i ih =>
      intro hi
      rw [Region.ready, List.filter_eq_nil_iff] at hr
      have h1 := hr i (List.mem_range.2 hi)
      cases hD : listed.getD i false with
      | true => rfl
      | false =>
        exfalso
        apply h1
        have hlt : i < listed.size := by omega
        have hT : listed.getD i true = false := by
          simp only [Array.getD_eq_getD_getElem?, Array.getElem?_eq_getElem hlt, Option.getD_some] at hD ⊢; exact hD
        obtain ⟨o, ho⟩ : ∃ o, ops[i]? = some o := ⟨_, Array.getElem?_eq_getElem hi⟩
        rw [hT, ho]
        simp only [Bool.not_false, Bool.true_and, Option.map_some, Option.getD_some]
        rw [← Array.all_toList, List.all_eq_true]
        intro e he
        cases hb : Region.binds .any e with
        | false => rfl
        | true =>
          have hlt2 := (hg i o ho).2 e he hb
          rw [ih e.on hlt2 (by omega), Bool.or_true]
  intro fuel
  induction fuel with
  | zero =>
    intro listed X w hsz hc hJ
    have hall : ∀ i, i < ops.size → listed.getD i false = true := by
      intro i hi
      have h0 := Nat.le_zero.1 hc
      rw [List.countP_eq_zero] at h0
      simpa using h0 i (List.mem_range.2 hi)
    refine ⟨?_, hend _ X w hJ hall⟩
    rw [Region.ready, List.filter_eq_nil_iff]
    intro i hi
    have h2 := hall i (List.mem_range.1 hi)
    have hlt : i < listed.size := by have := List.mem_range.1 hi; omega
    simp only [Array.getD_eq_getD_getElem?, Array.getElem?_eq_getElem hlt, Option.getD_some] at h2 ⊢
    simp [h2]
  | succ fuel ih =>
    intro listed X w hsz hc hJ
    refine ⟨fun hr => hend _ X w hJ (hfin listed hsz hr), fun i hi => ?_⟩
    rw [Region.ready, List.mem_filter] at hi
    obtain ⟨hi1, hi2⟩ := hi
    have hlt : i < ops.size := List.mem_range.1 hi1
    have hlt2 : i < listed.size := by omega
    obtain ⟨o, ho⟩ : ∃ o, ops[i]? = some o := ⟨_, Array.getElem?_eq_getElem hlt⟩
    rw [ho] at hi2
    simp only [Option.map_some, Option.getD_some, Bool.and_eq_true] at hi2
    have hDi : listed.getD i false = false := by
      have := hi2.1
      simp only [Array.getD_eq_getD_getElem?, Array.getElem?_eq_getElem hlt2, Option.getD_some] at this ⊢
      simpa using this
    have hdep : ∀ e ∈ o.after.toList, Region.binds .any e = true → listed.getD e.on false = true := by
      intro e he hb
      have h2 := hi2.2
      rw [← Array.all_toList, List.all_eq_true] at h2
      have := h2 e he
      rw [hb] at this
      simpa using this
    unfold wpOpIn
    rw [ho]
    simp only []
    rw [if_pos (by simp [Region.wanted, (hg i o ho).1])]
    refine Oper.in_round l n (hd i o ho) (Oper.wp_mono ?_ (hstep i o ho _ X w hJ hDi hdep))
    rintro a2 w2 ⟨X2, rfl, hJ2⟩
    refine ih _ X2 w2 (by simpa using hsz) ?_ ?_
    · have hpt : ∀ j, j < ops.size → (listed.setIfInBounds i true).getD j false = (listed.getD j false || j == i) := by
        intro j hj
        by_cases hji : j = i
        · subst hji; simp [Array.getD_eq_getD_getElem?, hlt2]
        · have : (j == i) = false := by simpa using hji
          rw [this, Bool.or_false]
          simp [Array.getD_eq_getD_getElem?, Array.getElem?_setIfInBounds_ne (Ne.symm hji)]
      have hlt3 : (List.range ops.size).countP (fun j => !(listed.setIfInBounds i true).getD j false) + 1 ≤ (List.range ops.size).countP (fun j => !listed.getD j false) := by
        obtain ⟨l1, l2, hl⟩ := List.append_of_mem (List.mem_range.2 hlt)
        have hm1 : ∀ j ∈ List.range ops.size, j < ops.size := fun j hj => List.mem_range.1 hj
        rw [hl] at hm1 ⊢
        have hle : ∀ l : List Nat, (∀ j ∈ l, j < ops.size) → l.countP (fun j => !(listed.setIfInBounds i true).getD j false) ≤ l.countP (fun j => !listed.getD j false) := by
          intro l hl2
          refine List.countP_mono_left fun j hj h => ?_
          rw [hpt j (hl2 j hj)] at h
          cases hq : listed.getD j false with
          | false => rfl
          | true => rw [hq] at h; simp at h
        rw [List.countP_append, List.countP_append, List.countP_cons, List.countP_cons]
        have h1 := hle l1 (fun j hj => hm1 j (by simp [hj]))
        have h2 := hle l2 (fun j hj => hm1 j (by simp [hj]))
        rw [hpt i hlt, hDi]
        simp only [beq_self_eq_true, Bool.or_true, Bool.not_true, Bool.not_false, if_true, Bool.false_eq_true, if_false]
        omega
      omega
    · have hJe : (fun j => (listed.setIfInBounds i true).getD j false) = (fun j => listed.getD j false || j == i) := by
        funext j
        by_cases hji : j = i
        · subst hji; simp [Array.getD_eq_getD_getElem?, hlt2]
        · have : (j == i) = false := by simpa using hji
          rw [this, Bool.or_false]
          simp [Array.getD_eq_getD_getElem?, Array.getElem?_setIfInBounds_ne (Ne.symm hji)]
      rw [hJe]
      exact hJ2
theorem wpIn_region_inv {P : Program} {ops : Array Oper} {Q : Exit → Act → World → Prop} (l n : Nat) {id : Nat} {a : Act} {w : World} (hm : P.follows .mixedOrders = true) (S : List Nat) (J : (Nat → Bool) → (Nat → Value) → World → Prop) (hd : noDefer ops = true)
    (hg : ∀ (i : Nat) (o : Oper), ops[i]? = some o → o.guard = none ∧ ∀ e ∈ o.after.toList, Region.binds .any e = true → e.on < i)
    (h0 : J (fun _ => false) (fun s => a.eval (.tmp s)) w.drew)
    (hstep : ∀ (i : Nat) (o : Oper), ops[i]? = some o → ∀ D X w, J D X w → D i = false → (∀ e ∈ o.after.toList, Region.binds .any e = true → D e.on = true) → o.wp P (over a S X) w (fun a2 w2 => ∃ X2, a2 = over a S X2 ∧ J (fun j => D j || j == i) X2 w2) Q)
    (hend : ∀ D X w, J D X w → (∀ i, i < ops.size → D i = true) → Q .normal (over a S X) w) : (Code.region id ops true).wpIn (Fence.wide.inRound l) n P Q a w := by
  refine wpIn_region_any hm ?_
  have h := wpAny_in (P := P) (ops := ops) (Q := Q) l n (noDefer_ok hd) hg (a := a) (S := S) J hstep hend ops.size (Array.replicate ops.size false) (fun s => a.eval (.tmp s)) w.drew (by simp) (by
    refine Nat.le_trans List.countP_le_length ?_
    simp) (by
    have e : (fun j => (Array.replicate ops.size false).getD j false) = fun _ => false := by
      funext j
      simp only [Array.getD_eq_getD_getElem?]
      rcases Nat.lt_or_ge j ops.size with hj | hj
      · simp [hj]
      · rw [Array.getElem?_eq_none (by simpa using hj)]; rfl
    rw [e]; exact h0)
  rw [over_id] at h
  exact h
section
variable {P : Program} {ops : Array Oper} {rest : List Oper} {o : Oper} {a : Act} {w : World} {Q : Exit → Act → World → Prop} {l n : Nat}
theorem wpListIn_load_row (hgd : o.guard = none) (ty : TypeId) (p : Operand) (ho : o.op = .load ty p) (g : Nat) (hp : a.eval p = .pointer (some ⟨g, 0, none⟩)) (t : TypeId) (cs : Array Value) (d : TypeDesc) (hg : Blk w g t cs)
    (hu : P.underlying ty = some d) (hd : (match d with | .struct _ | .array _ _ => true | _ => false) = true) (hi : (P.info? ty).map (·.size) = some cs.size) (h : wpListIn (Fence.wide.inRound l) n P ops Q rest (a.put o.dst (.agg cs)) w) : wpListIn (Fence.wide.inRound l) n P ops Q (o :: rest) a w :=
  wpListIn_plain hgd fun K hK => Oper.in_round l n (fun c hc => by rw [ho] at hc; cases hc) (wp1_load_row rfl ty p ho rfl g hp t cs d hg hu hd hi (hK _ _ h))
theorem wpListIn_store_row (hgd : o.guard = none) (ty : TypeId) (p x : Operand) (ho : o.op = .store ty p x) (hd : o.dst = none)
    (g : Nat) (hp : a.eval p = .pointer (some ⟨g, 0, none⟩)) (t : TypeId) (cs cur : Array Value) (hx : a.eval x = .agg cs) (hg : Blk w g t cur) (hs : cs.size = cur.size) (hi : (P.info? ty).map (·.size) = some cs.size) (h1 : ∀ v ∈ cs.toList, v.oneCell' = true)
    (h : ∀ w', Turned w w' g → Blk w' g t cs → wpListIn (Fence.wide.inRound l) n P ops Q rest a w') : wpListIn (Fence.wide.inRound l) n P ops Q (o :: rest) a w :=
  wpListIn_plain hgd fun K hK => Oper.in_round l n (fun c hc => by rw [ho] at hc; cases hc) (wp1_store_row rfl ty p x ho hd g hp t cs cur hx hg hs hi h1 fun w' h2 h3 => hK _ _ (h w' h2 h3))
end
end Go.Proofs.YtjbdmaehomhdeaaGreat
