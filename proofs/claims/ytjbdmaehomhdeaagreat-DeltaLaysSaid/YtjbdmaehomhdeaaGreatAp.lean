/- delta.Apply's drawn regions: the invariants. -/
import Derived.Test.YtjbdmaehomhdeaaGreatSpJ
set_option linter.unusedSimpArgs false
set_option linter.unusedVariables false
namespace Go.Proofs.YtjbdmaehomhdeaaGreat
open Go.RowKit

/-- remove.on -/
structure RmJ (w : World) (T : TypeId) (V : Array Value) (n : Int) (D : Nat → Bool) (X : Nat → Value) (W : World) : Prop where
  be : Below w.heap.size w W
  sz : w.heap.size + 3 ≤ W.heap.size
  p1 : Blk W (w.heap.size + 1) T V
  l0 : D 0 = true → X 6 = .agg V
  l1 : D 1 = true → X 7 = .agg V
  c2 : D 2 = true → X 8 = .int .i64 n
  r : ∃ a, a.size = 7 ∧ Blk W (w.heap.size + 2) T a ∧ (D 3 = true → a = V)
  e4 : D 4 = true → X 5 = .int .i64 n
section
variable {w : World} {T : TypeId} {V : Array Value} {n : Int} {D : Nat → Bool} {X : Nat → Value} {W : World}
theorem RmJ.load0 (h : RmJ w T V n D X W) : RmJ w T V n (on1 D 0) (put1 X 6 (.agg V)) W := by
  refine ⟨?_, ?_, ?_, ?_, ?_, ?_, ?_, ?_⟩ <;> try simp only [on1_ne (show 1 ≠ 0 by decide), on1_ne (show 2 ≠ 0 by decide), on1_ne (show 3 ≠ 0 by decide), on1_ne (show 4 ≠ 0 by decide), put1_ne (show 5 ≠ 6 by decide), put1_ne (show 7 ≠ 6 by decide), put1_ne (show 8 ≠ 6 by decide), on1_eq, put1_eq]
  · exact h.be
  · exact h.sz
  · exact h.p1
  · exact fun _ => trivial
  · exact h.l1
  · exact h.c2
  · exact h.r
  · exact h.e4
theorem RmJ.load1 (h : RmJ w T V n D X W) : RmJ w T V n (on1 D 1) (put1 X 7 (.agg V)) W := by
  refine ⟨?_, ?_, ?_, ?_, ?_, ?_, ?_, ?_⟩ <;> try simp only [on1_ne (show 0 ≠ 1 by decide), on1_ne (show 2 ≠ 1 by decide), on1_ne (show 3 ≠ 1 by decide), on1_ne (show 4 ≠ 1 by decide), put1_ne (show 5 ≠ 7 by decide), put1_ne (show 6 ≠ 7 by decide), put1_ne (show 8 ≠ 7 by decide), on1_eq, put1_eq]
  · exact h.be
  · exact h.sz
  · exact h.p1
  · exact h.l0
  · exact fun _ => trivial
  · exact h.c2
  · exact h.r
  · exact h.e4
theorem RmJ.call2 (h : RmJ w T V n D X W) {W' : World} (hb : Below W.heap.size W W') : RmJ w T V n (on1 D 2) (put1 X 8 (.int .i64 n)) W' := by
  refine ⟨?_, ?_, ?_, ?_, ?_, ?_, ?_, ?_⟩ <;> try simp only [on1_ne (show 0 ≠ 2 by decide), on1_ne (show 1 ≠ 2 by decide), on1_ne (show 3 ≠ 2 by decide), on1_ne (show 4 ≠ 2 by decide), put1_ne (show 5 ≠ 8 by decide), put1_ne (show 6 ≠ 8 by decide), put1_ne (show 7 ≠ 8 by decide), on1_eq, put1_eq]
  · exact h.be.trans (hb.mono h.be.size)
  · exact Nat.le_trans h.sz hb.size
  · exact h.p1.below hb h.p1.lt
  · exact h.l0
  · exact h.l1
  · exact fun _ => trivial
  · exact h.r.elim fun a ha => ⟨a, ha.1, ha.2.1.below hb ha.2.1.lt, ha.2.2⟩
  · exact h.e4
theorem RmJ.store3 (h : RmJ w T V n D X W) {W' : World} (hV : V.size = 7) (hT : Turned W W' (w.heap.size + 2)) (hB : Blk W' (w.heap.size + 2) T V) : RmJ w T V n (on1 D 3) X W' := by
  refine ⟨?_, ?_, ?_, ?_, ?_, ?_, ?_, ?_⟩ <;> try simp only [on1_ne (show 0 ≠ 3 by decide), on1_ne (show 1 ≠ 3 by decide), on1_ne (show 2 ≠ 3 by decide), on1_ne (show 4 ≠ 3 by decide), on1_eq]
  · exact hT.below h.be (by omega) h.be.size
  · rw [hT.sz]; exact h.sz
  · exact hT.blk h.p1 (by omega)
  · exact h.l0
  · exact h.l1
  · exact h.c2
  · exact ⟨V, hV, hB, fun _ => rfl⟩
  · exact h.e4
theorem RmJ.assign4 (h : RmJ w T V n D X W) : RmJ w T V n (on1 D 4) (put1 X 5 (.int .i64 n)) W := by
  refine ⟨?_, ?_, ?_, ?_, ?_, ?_, ?_, ?_⟩ <;> try simp only [on1_ne (show 0 ≠ 4 by decide), on1_ne (show 1 ≠ 4 by decide), on1_ne (show 2 ≠ 4 by decide), on1_ne (show 3 ≠ 4 by decide), put1_ne (show 6 ≠ 5 by decide), put1_ne (show 7 ≠ 5 by decide), put1_ne (show 8 ≠ 5 by decide), on1_eq, put1_eq]
  · exact h.be
  · exact h.sz
  · exact h.p1
  · exact h.l0
  · exact h.l1
  · exact h.c2
  · exact h.r
  · exact fun _ => trivial
end

/-- Apply's last region -/
structure ApJ (w W0 : World) (m : Nat) (T TD : TypeId) (DV PV : Array Value) (v : Value) (q : Page) (n : Int) (D : Nat → Bool) (X : Nat → Value) (W : World) : Prop where
  be : Below w.heap.size w W
  hm : 3 ≤ m
  sz : w.heap.size + m ≤ W.heap.size
  keep : ∀ k, w.heap.size + m ≤ k → k < W0.heap.size → W.heap[k]? = W0.heap[k]?
  gt : W0.heap.size ≤ W.heap.size
  bp : Blk W w.heap.size T PV
  bd : Blk W (w.heap.size + 1) TD DV
  l0 : D 0 = true → X 34 = .agg DV
  o1 : D 1 = true → X 35 = v
  l2 : D 2 = true → X 36 = .agg PV
  r3 : D 3 = true → ∃ A A' c c' lo, X 37 = .tuple #[q.val A c A' c', .int .i64 n] ∧ w.heap.size + m ≤ lo ∧ Pg W lo W.heap.size q A A' c c' ∧ (D 4 = true → X 38 = q.val A c A' c')
  x5 : D 5 = true → X 39 = .int .i64 n
  s6 : ∃ a, a.size = 7 ∧ Blk W (w.heap.size + 2) T a ∧ (D 6 = true → X 38 = .agg a)
  e7 : D 7 = true → X 5 = .int .i64 n
  d4 : D 4 = true → D 3 = true
  d6 : D 6 = true → D 4 = true
section
variable {w W0 : World} {m : Nat} {T TD : TypeId} {DV PV : Array Value} {v : Value} {q : Page} {n : Int} {D : Nat → Bool} {X : Nat → Value} {W : World}
theorem ApJ.load0 (h : ApJ w W0 m T TD DV PV v q n D X W) : ApJ w W0 m T TD DV PV v q n (on1 D 0) (put1 X 34 (.agg DV)) W := by
  refine ⟨?_, ?_, ?_, ?_, ?_, ?_, ?_, ?_, ?_, ?_, ?_, ?_, ?_, ?_, ?_, ?_⟩ <;> try simp only [on1_ne (show 1 ≠ 0 by decide), on1_ne (show 2 ≠ 0 by decide), on1_ne (show 3 ≠ 0 by decide), on1_ne (show 4 ≠ 0 by decide), on1_ne (show 5 ≠ 0 by decide), on1_ne (show 6 ≠ 0 by decide), on1_ne (show 7 ≠ 0 by decide), put1_ne (show 35 ≠ 34 by decide), put1_ne (show 36 ≠ 34 by decide), put1_ne (show 37 ≠ 34 by decide), put1_ne (show 38 ≠ 34 by decide), put1_ne (show 39 ≠ 34 by decide), put1_ne (show 5 ≠ 34 by decide), on1_eq, put1_eq]
  · exact h.be
  · exact h.hm
  · exact h.sz
  · exact h.keep
  · exact h.gt
  · exact h.bp
  · exact h.bd
  · exact fun _ => trivial
  · exact h.o1
  · exact h.l2
  · exact h.r3
  · exact h.x5
  · exact h.s6
  · exact h.e7
  · exact h.d4
  · exact h.d6
theorem ApJ.of1 (h : ApJ w W0 m T TD DV PV v q n D X W) {W' : World} (hb : Below W.heap.size W W') : ApJ w W0 m T TD DV PV v q n (on1 D 1) (put1 X 35 v) W' := by
  refine ⟨?_, ?_, ?_, ?_, ?_, ?_, ?_, ?_, ?_, ?_, ?_, ?_, ?_, ?_, ?_, ?_⟩ <;> try simp only [on1_ne (show 0 ≠ 1 by decide), on1_ne (show 2 ≠ 1 by decide), on1_ne (show 3 ≠ 1 by decide), on1_ne (show 4 ≠ 1 by decide), on1_ne (show 5 ≠ 1 by decide), on1_ne (show 6 ≠ 1 by decide), on1_ne (show 7 ≠ 1 by decide), put1_ne (show 34 ≠ 35 by decide), put1_ne (show 36 ≠ 35 by decide), put1_ne (show 37 ≠ 35 by decide), put1_ne (show 38 ≠ 35 by decide), put1_ne (show 39 ≠ 35 by decide), put1_ne (show 5 ≠ 35 by decide), on1_eq, put1_eq]
  · exact h.be.trans (hb.mono h.be.size)
  · exact h.hm
  · exact Nat.le_trans h.sz hb.size
  · exact fun k h1 h2 => (hb.block k (Nat.lt_of_lt_of_le h2 h.gt)).trans (h.keep k h1 h2)
  · exact Nat.le_trans h.gt hb.size
  · exact h.bp.below hb h.bp.lt
  · exact h.bd.below hb h.bd.lt
  · exact h.l0
  · exact fun _ => trivial
  · exact h.l2
  · exact fun h3 => (h.r3 h3).elim fun A ⟨A', c, c', lo, h4, h5, h6, h7⟩ => ⟨A, A', c, c', lo, h4, h5, (h6.below hb).mono (Nat.le_refl _) hb.size, h7⟩
  · exact h.x5
  · exact h.s6.elim fun a ha => ⟨a, ha.1, ha.2.1.below hb ha.2.1.lt, ha.2.2⟩
  · exact h.e7
  · exact h.d4
  · exact h.d6
theorem ApJ.load2 (h : ApJ w W0 m T TD DV PV v q n D X W) : ApJ w W0 m T TD DV PV v q n (on1 D 2) (put1 X 36 (.agg PV)) W := by
  refine ⟨?_, ?_, ?_, ?_, ?_, ?_, ?_, ?_, ?_, ?_, ?_, ?_, ?_, ?_, ?_, ?_⟩ <;> try simp only [on1_ne (show 0 ≠ 2 by decide), on1_ne (show 1 ≠ 2 by decide), on1_ne (show 3 ≠ 2 by decide), on1_ne (show 4 ≠ 2 by decide), on1_ne (show 5 ≠ 2 by decide), on1_ne (show 6 ≠ 2 by decide), on1_ne (show 7 ≠ 2 by decide), put1_ne (show 34 ≠ 36 by decide), put1_ne (show 35 ≠ 36 by decide), put1_ne (show 37 ≠ 36 by decide), put1_ne (show 38 ≠ 36 by decide), put1_ne (show 39 ≠ 36 by decide), put1_ne (show 5 ≠ 36 by decide), on1_eq, put1_eq]
  · exact h.be
  · exact h.hm
  · exact h.sz
  · exact h.keep
  · exact h.gt
  · exact h.bp
  · exact h.bd
  · exact h.l0
  · exact h.o1
  · exact fun _ => trivial
  · exact h.r3
  · exact h.x5
  · exact h.s6
  · exact h.e7
  · exact h.d4
  · exact h.d6
theorem ApJ.on3 (h : ApJ w W0 m T TD DV PV v q n D X W) (hD : D 3 = false) {W' : World} (hb : Below W.heap.size W W') {A A' : Option Addr} {c c' lo : Nat} (hlo : w.heap.size + m ≤ lo) (hP : Pg W' lo W'.heap.size q A A' c c') : ApJ w W0 m T TD DV PV v q n (on1 D 3) (put1 X 37 (.tuple #[q.val A c A' c', .int .i64 n])) W' := by
  have h4 : D 4 = false := by
    cases hq : D 4 with
    | false => rfl
    | true => have := h.d4 hq; rw [hD] at this; cases this
  refine ⟨?_, ?_, ?_, ?_, ?_, ?_, ?_, ?_, ?_, ?_, ?_, ?_, ?_, ?_, ?_, ?_⟩ <;> try simp only [on1_ne (show 0 ≠ 3 by decide), on1_ne (show 1 ≠ 3 by decide), on1_ne (show 2 ≠ 3 by decide), on1_ne (show 4 ≠ 3 by decide), on1_ne (show 5 ≠ 3 by decide), on1_ne (show 6 ≠ 3 by decide), on1_ne (show 7 ≠ 3 by decide), put1_ne (show 34 ≠ 37 by decide), put1_ne (show 35 ≠ 37 by decide), put1_ne (show 36 ≠ 37 by decide), put1_ne (show 38 ≠ 37 by decide), put1_ne (show 39 ≠ 37 by decide), put1_ne (show 5 ≠ 37 by decide), on1_eq, put1_eq]
  · exact h.be.trans (hb.mono h.be.size)
  · exact h.hm
  · exact Nat.le_trans h.sz hb.size
  · exact fun k h1 h2 => (hb.block k (Nat.lt_of_lt_of_le h2 h.gt)).trans (h.keep k h1 h2)
  · exact Nat.le_trans h.gt hb.size
  · exact h.bp.below hb h.bp.lt
  · exact h.bd.below hb h.bd.lt
  · exact h.l0
  · exact h.o1
  · exact h.l2
  · exact fun _ => ⟨A, A', c, c', lo, rfl, hlo, hP, fun h => by rw [h4] at h; cases h⟩
  · exact h.x5
  · exact h.s6.elim fun a ha => ⟨a, ha.1, ha.2.1.below hb ha.2.1.lt, ha.2.2⟩
  · exact h.e7
  · exact fun _ => trivial
  · exact h.d6
theorem ApJ.ext4 (h : ApJ w W0 m T TD DV PV v q n D X W) (hD : D 4 = false) {A A' : Option Addr} {c c' lo : Nat} (hX : X 37 = .tuple #[q.val A c A' c', .int .i64 n]) (hlo : w.heap.size + m ≤ lo) (hP : Pg W lo W.heap.size q A A' c c') (h3 : D 3 = true) : ApJ w W0 m T TD DV PV v q n (on1 D 4) (put1 X 38 (q.val A c A' c')) W := by
  refine ⟨?_, ?_, ?_, ?_, ?_, ?_, ?_, ?_, ?_, ?_, ?_, ?_, ?_, ?_, ?_, ?_⟩ <;> try simp only [on1_ne (show 0 ≠ 4 by decide), on1_ne (show 1 ≠ 4 by decide), on1_ne (show 2 ≠ 4 by decide), on1_ne (show 3 ≠ 4 by decide), on1_ne (show 5 ≠ 4 by decide), on1_ne (show 6 ≠ 4 by decide), on1_ne (show 7 ≠ 4 by decide), put1_ne (show 34 ≠ 38 by decide), put1_ne (show 35 ≠ 38 by decide), put1_ne (show 36 ≠ 38 by decide), put1_ne (show 37 ≠ 38 by decide), put1_ne (show 39 ≠ 38 by decide), put1_ne (show 5 ≠ 38 by decide), on1_eq, put1_eq]
  · exact h.be
  · exact h.hm
  · exact h.sz
  · exact h.keep
  · exact h.gt
  · exact h.bp
  · exact h.bd
  · exact h.l0
  · exact h.o1
  · exact h.l2
  · exact fun _ => ⟨A, A', c, c', lo, hX, hlo, hP, fun _ => rfl⟩
  · exact h.x5
  · exact h.s6.elim fun a ha => ⟨a, ha.1, ha.2.1, fun h6 => by have := h.d6 h6; rw [hD] at this; cases this⟩
  · exact h.e7
  · exact fun _ => h3
  · exact fun _ => trivial
theorem ApJ.ext5 (h : ApJ w W0 m T TD DV PV v q n D X W) : ApJ w W0 m T TD DV PV v q n (on1 D 5) (put1 X 39 (.int .i64 n)) W := by
  refine ⟨?_, ?_, ?_, ?_, ?_, ?_, ?_, ?_, ?_, ?_, ?_, ?_, ?_, ?_, ?_, ?_⟩ <;> try simp only [on1_ne (show 0 ≠ 5 by decide), on1_ne (show 1 ≠ 5 by decide), on1_ne (show 2 ≠ 5 by decide), on1_ne (show 3 ≠ 5 by decide), on1_ne (show 4 ≠ 5 by decide), on1_ne (show 6 ≠ 5 by decide), on1_ne (show 7 ≠ 5 by decide), put1_ne (show 34 ≠ 39 by decide), put1_ne (show 35 ≠ 39 by decide), put1_ne (show 36 ≠ 39 by decide), put1_ne (show 37 ≠ 39 by decide), put1_ne (show 38 ≠ 39 by decide), put1_ne (show 5 ≠ 39 by decide), on1_eq, put1_eq]
  · exact h.be
  · exact h.hm
  · exact h.sz
  · exact h.keep
  · exact h.gt
  · exact h.bp
  · exact h.bd
  · exact h.l0
  · exact h.o1
  · exact h.l2
  · exact h.r3
  · exact fun _ => trivial
  · exact h.s6
  · exact h.e7
  · exact h.d4
  · exact h.d6
theorem ApJ.store6 (h : ApJ w W0 m T TD DV PV v q n D X W) {W' : World} {a : Array Value} (hX : X 38 = .agg a) (ha : a.size = 7) (h4 : D 4 = true) (hT : Turned W W' (w.heap.size + 2)) (hB : Blk W' (w.heap.size + 2) T a) : ApJ w W0 m T TD DV PV v q n (on1 D 6) X W' := by
  refine ⟨?_, ?_, ?_, ?_, ?_, ?_, ?_, ?_, ?_, ?_, ?_, ?_, ?_, ?_, ?_, ?_⟩ <;> try simp only [on1_ne (show 0 ≠ 6 by decide), on1_ne (show 1 ≠ 6 by decide), on1_ne (show 2 ≠ 6 by decide), on1_ne (show 3 ≠ 6 by decide), on1_ne (show 4 ≠ 6 by decide), on1_ne (show 5 ≠ 6 by decide), on1_ne (show 7 ≠ 6 by decide), on1_eq]
  · exact hT.below h.be (by omega) h.be.size
  · exact h.hm
  · rw [hT.sz]; exact h.sz
  · exact fun k h1 h2 => (hT.other (by have := h.hm; omega)).trans (h.keep k h1 h2)
  · rw [hT.sz]; exact h.gt
  · exact hT.blk h.bp (by omega)
  · exact hT.blk h.bd (by omega)
  · exact h.l0
  · exact h.o1
  · exact h.l2
  · exact fun h3 => (h.r3 h3).elim fun A ⟨A', c, c', lo, h4, h5, h6, h7⟩ => ⟨A, A', c, c', lo, h4, h5, by rw [hT.sz]; exact ⟨h6.items.keep (fun p h1 _ => hT.cell (by have := h.hm; omega)), h6.kids.keep (fun p h1 _ => hT.cell (by have := h.hm; omega)), h6.li, h6.lk, h6.bi, h6.bk⟩, h7⟩
  · exact h.x5
  · exact ⟨a, ha, hB, fun _ => hX⟩
  · exact h.e7
  · exact h.d4
  · exact fun _ => h4
theorem ApJ.assign7 (h : ApJ w W0 m T TD DV PV v q n D X W) : ApJ w W0 m T TD DV PV v q n (on1 D 7) (put1 X 5 (.int .i64 n)) W := by
  refine ⟨?_, ?_, ?_, ?_, ?_, ?_, ?_, ?_, ?_, ?_, ?_, ?_, ?_, ?_, ?_, ?_⟩ <;> try simp only [on1_ne (show 0 ≠ 7 by decide), on1_ne (show 1 ≠ 7 by decide), on1_ne (show 2 ≠ 7 by decide), on1_ne (show 3 ≠ 7 by decide), on1_ne (show 4 ≠ 7 by decide), on1_ne (show 5 ≠ 7 by decide), on1_ne (show 6 ≠ 7 by decide), put1_ne (show 34 ≠ 5 by decide), put1_ne (show 35 ≠ 5 by decide), put1_ne (show 36 ≠ 5 by decide), put1_ne (show 37 ≠ 5 by decide), put1_ne (show 38 ≠ 5 by decide), put1_ne (show 39 ≠ 5 by decide), on1_eq, put1_eq]
  · exact h.be
  · exact h.hm
  · exact h.sz
  · exact h.keep
  · exact h.gt
  · exact h.bp
  · exact h.bd
  · exact h.l0
  · exact h.o1
  · exact h.l2
  · exact h.r3
  · exact h.x5
  · exact h.s6
  · exact fun _ => trivial
  · exact h.d4
  · exact h.d6
end

/-- Apply's two clones -/
structure CnJ (w W0 : World) (m : Nat) (T : TypeId) (VI VK : Value) (PV : Value → Value → Array Value) (its : List Item) (kds : List Kid) (D : Nat → Bool) (X : Nat → Value) (W : World) : Prop where
  be : Below w.heap.size w W
  sz : w.heap.size + m ≤ W.heap.size
  hm : 3 ≤ m
  oth : ∀ k, w.heap.size < k → k < w.heap.size + m → W.heap[k]? = W0.heap[k]?
  f0 : D 0 = true → X 26 = .pointer (some ⟨w.heap.size, 5, none⟩)
  f3 : D 3 = true → X 29 = .pointer (some ⟨w.heap.size, 6, none⟩)
  f6 : D 6 = true → X 32 = .pointer (some ⟨w.heap.size, 5, none⟩)
  f8 : D 8 = true → X 33 = .pointer (some ⟨w.heap.size, 6, none⟩)
  l1 : D 1 = true → X 27 = VI
  l4 : D 4 = true → X 30 = VK
  o2 : D 2 = true → OwnItem W (w.heap.size + m) (X 28) its
  o5 : D 5 = true → OwnKid W (w.heap.size + m) (X 31) kds
  b : ∃ u5 u6, Blk W w.heap.size T (PV u5 u6) ∧ (D 7 = true → u5 = X 28) ∧ (D 7 = false → u5 = VI) ∧ (D 9 = true → u6 = X 31) ∧ (D 9 = false → u6 = VK)
  d7 : D 7 = true → D 2 = true
  d9 : D 9 = true → D 5 = true
  d2 : D 2 = true → D 1 = true
  d5 : D 5 = true → D 4 = true
section
variable {w W0 : World} {m : Nat} {T : TypeId} {VI VK : Value} {PV : Value → Value → Array Value} {its : List Item} {kds : List Kid} {D : Nat → Bool} {X : Nat → Value} {W : World}
theorem CnJ.no7 (h : CnJ w W0 m T VI VK PV its kds D X W) (h1 : D 2 = false) : D 7 = false := by
  cases hq : D 7 with
  | false => rfl
  | true => have := h.d7 hq; rw [h1] at this; cases this
theorem CnJ.no9 (h : CnJ w W0 m T VI VK PV its kds D X W) (h1 : D 5 = false) : D 9 = false := by
  cases hq : D 9 with
  | false => rfl
  | true => have := h.d9 hq; rw [h1] at this; cases this
theorem CnJ.no2 (h : CnJ w W0 m T VI VK PV its kds D X W) (h1 : D 1 = false) : D 2 = false := by
  cases hq : D 2 with
  | false => rfl
  | true => have := h.d2 hq; rw [h1] at this; cases this
theorem CnJ.no5 (h : CnJ w W0 m T VI VK PV its kds D X W) (h1 : D 4 = false) : D 5 = false := by
  cases hq : D 5 with
  | false => rfl
  | true => have := h.d5 hq; rw [h1] at this; cases this
theorem CnJ.addr0 (h : CnJ w W0 m T VI VK PV its kds D X W) : CnJ w W0 m T VI VK PV its kds (on1 D 0) (put1 X 26 (.pointer (some ⟨w.heap.size, 5, none⟩))) W := by
  refine ⟨?_, ?_, ?_, ?_, ?_, ?_, ?_, ?_, ?_, ?_, ?_, ?_, ?_, ?_, ?_, ?_, ?_⟩ <;> try simp only [on1_ne (show 1 ≠ 0 by decide), on1_ne (show 2 ≠ 0 by decide), on1_ne (show 3 ≠ 0 by decide), on1_ne (show 4 ≠ 0 by decide), on1_ne (show 5 ≠ 0 by decide), on1_ne (show 6 ≠ 0 by decide), on1_ne (show 7 ≠ 0 by decide), on1_ne (show 8 ≠ 0 by decide), on1_ne (show 9 ≠ 0 by decide), put1_ne (show 27 ≠ 26 by decide), put1_ne (show 28 ≠ 26 by decide), put1_ne (show 29 ≠ 26 by decide), put1_ne (show 30 ≠ 26 by decide), put1_ne (show 31 ≠ 26 by decide), put1_ne (show 32 ≠ 26 by decide), put1_ne (show 33 ≠ 26 by decide), on1_eq, put1_eq]
  · exact h.be
  · exact h.sz
  · exact h.hm
  · exact h.oth
  · exact fun _ => trivial
  · exact h.f3
  · exact h.f6
  · exact h.f8
  · exact h.l1
  · exact h.l4
  · exact h.o2
  · exact h.o5
  · exact h.b
  · exact h.d7
  · exact h.d9
  · exact h.d2
  · exact h.d5
theorem CnJ.addr3 (h : CnJ w W0 m T VI VK PV its kds D X W) : CnJ w W0 m T VI VK PV its kds (on1 D 3) (put1 X 29 (.pointer (some ⟨w.heap.size, 6, none⟩))) W := by
  refine ⟨?_, ?_, ?_, ?_, ?_, ?_, ?_, ?_, ?_, ?_, ?_, ?_, ?_, ?_, ?_, ?_, ?_⟩ <;> try simp only [on1_ne (show 0 ≠ 3 by decide), on1_ne (show 1 ≠ 3 by decide), on1_ne (show 2 ≠ 3 by decide), on1_ne (show 4 ≠ 3 by decide), on1_ne (show 5 ≠ 3 by decide), on1_ne (show 6 ≠ 3 by decide), on1_ne (show 7 ≠ 3 by decide), on1_ne (show 8 ≠ 3 by decide), on1_ne (show 9 ≠ 3 by decide), put1_ne (show 26 ≠ 29 by decide), put1_ne (show 27 ≠ 29 by decide), put1_ne (show 28 ≠ 29 by decide), put1_ne (show 30 ≠ 29 by decide), put1_ne (show 31 ≠ 29 by decide), put1_ne (show 32 ≠ 29 by decide), put1_ne (show 33 ≠ 29 by decide), on1_eq, put1_eq]
  · exact h.be
  · exact h.sz
  · exact h.hm
  · exact h.oth
  · exact h.f0
  · exact fun _ => trivial
  · exact h.f6
  · exact h.f8
  · exact h.l1
  · exact h.l4
  · exact h.o2
  · exact h.o5
  · exact h.b
  · exact h.d7
  · exact h.d9
  · exact h.d2
  · exact h.d5
theorem CnJ.addr6 (h : CnJ w W0 m T VI VK PV its kds D X W) : CnJ w W0 m T VI VK PV its kds (on1 D 6) (put1 X 32 (.pointer (some ⟨w.heap.size, 5, none⟩))) W := by
  refine ⟨?_, ?_, ?_, ?_, ?_, ?_, ?_, ?_, ?_, ?_, ?_, ?_, ?_, ?_, ?_, ?_, ?_⟩ <;> try simp only [on1_ne (show 0 ≠ 6 by decide), on1_ne (show 1 ≠ 6 by decide), on1_ne (show 2 ≠ 6 by decide), on1_ne (show 3 ≠ 6 by decide), on1_ne (show 4 ≠ 6 by decide), on1_ne (show 5 ≠ 6 by decide), on1_ne (show 7 ≠ 6 by decide), on1_ne (show 8 ≠ 6 by decide), on1_ne (show 9 ≠ 6 by decide), put1_ne (show 26 ≠ 32 by decide), put1_ne (show 27 ≠ 32 by decide), put1_ne (show 28 ≠ 32 by decide), put1_ne (show 29 ≠ 32 by decide), put1_ne (show 30 ≠ 32 by decide), put1_ne (show 31 ≠ 32 by decide), put1_ne (show 33 ≠ 32 by decide), on1_eq, put1_eq]
  · exact h.be
  · exact h.sz
  · exact h.hm
  · exact h.oth
  · exact h.f0
  · exact h.f3
  · exact fun _ => trivial
  · exact h.f8
  · exact h.l1
  · exact h.l4
  · exact h.o2
  · exact h.o5
  · exact h.b
  · exact h.d7
  · exact h.d9
  · exact h.d2
  · exact h.d5
theorem CnJ.addr8 (h : CnJ w W0 m T VI VK PV its kds D X W) : CnJ w W0 m T VI VK PV its kds (on1 D 8) (put1 X 33 (.pointer (some ⟨w.heap.size, 6, none⟩))) W := by
  refine ⟨?_, ?_, ?_, ?_, ?_, ?_, ?_, ?_, ?_, ?_, ?_, ?_, ?_, ?_, ?_, ?_, ?_⟩ <;> try simp only [on1_ne (show 0 ≠ 8 by decide), on1_ne (show 1 ≠ 8 by decide), on1_ne (show 2 ≠ 8 by decide), on1_ne (show 3 ≠ 8 by decide), on1_ne (show 4 ≠ 8 by decide), on1_ne (show 5 ≠ 8 by decide), on1_ne (show 6 ≠ 8 by decide), on1_ne (show 7 ≠ 8 by decide), on1_ne (show 9 ≠ 8 by decide), put1_ne (show 26 ≠ 33 by decide), put1_ne (show 27 ≠ 33 by decide), put1_ne (show 28 ≠ 33 by decide), put1_ne (show 29 ≠ 33 by decide), put1_ne (show 30 ≠ 33 by decide), put1_ne (show 31 ≠ 33 by decide), put1_ne (show 32 ≠ 33 by decide), on1_eq, put1_eq]
  · exact h.be
  · exact h.sz
  · exact h.hm
  · exact h.oth
  · exact h.f0
  · exact h.f3
  · exact h.f6
  · exact fun _ => trivial
  · exact h.l1
  · exact h.l4
  · exact h.o2
  · exact h.o5
  · exact h.b
  · exact h.d7
  · exact h.d9
  · exact h.d2
  · exact h.d5
theorem CnJ.load1 (h : CnJ w W0 m T VI VK PV its kds D X W) : CnJ w W0 m T VI VK PV its kds (on1 D 1) (put1 X 27 VI) W := by
  refine ⟨?_, ?_, ?_, ?_, ?_, ?_, ?_, ?_, ?_, ?_, ?_, ?_, ?_, ?_, ?_, ?_, ?_⟩ <;> try simp only [on1_ne (show 0 ≠ 1 by decide), on1_ne (show 2 ≠ 1 by decide), on1_ne (show 3 ≠ 1 by decide), on1_ne (show 4 ≠ 1 by decide), on1_ne (show 5 ≠ 1 by decide), on1_ne (show 6 ≠ 1 by decide), on1_ne (show 7 ≠ 1 by decide), on1_ne (show 8 ≠ 1 by decide), on1_ne (show 9 ≠ 1 by decide), put1_ne (show 26 ≠ 27 by decide), put1_ne (show 28 ≠ 27 by decide), put1_ne (show 29 ≠ 27 by decide), put1_ne (show 30 ≠ 27 by decide), put1_ne (show 31 ≠ 27 by decide), put1_ne (show 32 ≠ 27 by decide), put1_ne (show 33 ≠ 27 by decide), on1_eq, put1_eq]
  · exact h.be
  · exact h.sz
  · exact h.hm
  · exact h.oth
  · exact h.f0
  · exact h.f3
  · exact h.f6
  · exact h.f8
  · exact fun _ => trivial
  · exact h.l4
  · exact h.o2
  · exact h.o5
  · exact h.b
  · exact h.d7
  · exact h.d9
  · exact fun _ => trivial
  · exact h.d5
theorem CnJ.load4 (h : CnJ w W0 m T VI VK PV its kds D X W) : CnJ w W0 m T VI VK PV its kds (on1 D 4) (put1 X 30 VK) W := by
  refine ⟨?_, ?_, ?_, ?_, ?_, ?_, ?_, ?_, ?_, ?_, ?_, ?_, ?_, ?_, ?_, ?_, ?_⟩ <;> try simp only [on1_ne (show 0 ≠ 4 by decide), on1_ne (show 1 ≠ 4 by decide), on1_ne (show 2 ≠ 4 by decide), on1_ne (show 3 ≠ 4 by decide), on1_ne (show 5 ≠ 4 by decide), on1_ne (show 6 ≠ 4 by decide), on1_ne (show 7 ≠ 4 by decide), on1_ne (show 8 ≠ 4 by decide), on1_ne (show 9 ≠ 4 by decide), put1_ne (show 26 ≠ 30 by decide), put1_ne (show 27 ≠ 30 by decide), put1_ne (show 28 ≠ 30 by decide), put1_ne (show 29 ≠ 30 by decide), put1_ne (show 31 ≠ 30 by decide), put1_ne (show 32 ≠ 30 by decide), put1_ne (show 33 ≠ 30 by decide), on1_eq, put1_eq]
  · exact h.be
  · exact h.sz
  · exact h.hm
  · exact h.oth
  · exact h.f0
  · exact h.f3
  · exact h.f6
  · exact h.f8
  · exact h.l1
  · exact fun _ => trivial
  · exact h.o2
  · exact h.o5
  · exact h.b
  · exact h.d7
  · exact h.d9
  · exact h.d2
  · exact fun _ => trivial
theorem CnJ.call2 (h : CnJ w W0 m T VI VK PV its kds D X W) (hD : D 2 = false) (h1 : D 1 = true) {W' : World} (hb : Below W.heap.size W W') {v : Value} (hO : OwnItem W' W.heap.size v its) : CnJ w W0 m T VI VK PV its kds (on1 D 2) (put1 X 28 v) W' := by
  have h7 := h.no7 hD
  refine ⟨?_, ?_, ?_, ?_, ?_, ?_, ?_, ?_, ?_, ?_, ?_, ?_, ?_, ?_, ?_, ?_, ?_⟩ <;> try simp only [on1_ne (show 0 ≠ 2 by decide), on1_ne (show 1 ≠ 2 by decide), on1_ne (show 3 ≠ 2 by decide), on1_ne (show 4 ≠ 2 by decide), on1_ne (show 5 ≠ 2 by decide), on1_ne (show 6 ≠ 2 by decide), on1_ne (show 7 ≠ 2 by decide), on1_ne (show 8 ≠ 2 by decide), on1_ne (show 9 ≠ 2 by decide), put1_ne (show 26 ≠ 28 by decide), put1_ne (show 27 ≠ 28 by decide), put1_ne (show 29 ≠ 28 by decide), put1_ne (show 30 ≠ 28 by decide), put1_ne (show 31 ≠ 28 by decide), put1_ne (show 32 ≠ 28 by decide), put1_ne (show 33 ≠ 28 by decide), on1_eq, put1_eq]
  · exact h.be.trans (hb.mono h.be.size)
  · exact Nat.le_trans h.sz hb.size
  · exact h.hm
  · exact fun k h1 h2 => (hb.block k (Nat.lt_of_lt_of_le h2 h.sz)).trans (h.oth k h1 h2)
  · exact h.f0
  · exact h.f3
  · exact h.f6
  · exact h.f8
  · exact h.l1
  · exact h.l4
  · exact fun _ => hO.mono h.sz
  · exact fun h2 => (h.o5 h2).on hb
  · exact h.b.elim fun u5 ⟨u6, h1, h2, h3, h4, h5⟩ => ⟨u5, u6, h1.below hb h1.lt, (fun h => by rw [h7] at h; cases h), h3, h4, h5⟩
  · exact fun _ => trivial
  · exact h.d9
  · exact fun _ => h1
  · exact h.d5
theorem CnJ.call5 (h : CnJ w W0 m T VI VK PV its kds D X W) (hD : D 5 = false) (h1 : D 4 = true) {W' : World} (hb : Below W.heap.size W W') {v : Value} (hO : OwnKid W' W.heap.size v kds) : CnJ w W0 m T VI VK PV its kds (on1 D 5) (put1 X 31 v) W' := by
  have h9 := h.no9 hD
  refine ⟨?_, ?_, ?_, ?_, ?_, ?_, ?_, ?_, ?_, ?_, ?_, ?_, ?_, ?_, ?_, ?_, ?_⟩ <;> try simp only [on1_ne (show 0 ≠ 5 by decide), on1_ne (show 1 ≠ 5 by decide), on1_ne (show 2 ≠ 5 by decide), on1_ne (show 3 ≠ 5 by decide), on1_ne (show 4 ≠ 5 by decide), on1_ne (show 6 ≠ 5 by decide), on1_ne (show 7 ≠ 5 by decide), on1_ne (show 8 ≠ 5 by decide), on1_ne (show 9 ≠ 5 by decide), put1_ne (show 26 ≠ 31 by decide), put1_ne (show 27 ≠ 31 by decide), put1_ne (show 28 ≠ 31 by decide), put1_ne (show 29 ≠ 31 by decide), put1_ne (show 30 ≠ 31 by decide), put1_ne (show 32 ≠ 31 by decide), put1_ne (show 33 ≠ 31 by decide), on1_eq, put1_eq]
  · exact h.be.trans (hb.mono h.be.size)
  · exact Nat.le_trans h.sz hb.size
  · exact h.hm
  · exact fun k h1 h2 => (hb.block k (Nat.lt_of_lt_of_le h2 h.sz)).trans (h.oth k h1 h2)
  · exact h.f0
  · exact h.f3
  · exact h.f6
  · exact h.f8
  · exact h.l1
  · exact h.l4
  · exact fun h2 => (h.o2 h2).on hb
  · exact fun _ => hO.mono h.sz
  · exact h.b.elim fun u5 ⟨u6, h1, h2, h3, h4, h5⟩ => ⟨u5, u6, h1.below hb h1.lt, h2, h3, (fun h => by rw [h9] at h; cases h), h5⟩
  · exact h.d7
  · exact fun _ => trivial
  · exact h.d2
  · exact fun _ => h1
theorem CnJ.store7 (h : CnJ w W0 m T VI VK PV its kds D X W) (h2 : D 2 = true) (hset : ∀ u5 u6 v, (PV u5 u6).setIfInBounds 5 v = PV v u6) : CnJ w W0 m T VI VK PV its kds (on1 D 7) X (W.setCell ⟨w.heap.size, 5, none⟩ (X 28)) := by
  refine ⟨?_, ?_, ?_, ?_, ?_, ?_, ?_, ?_, ?_, ?_, ?_, ?_, ?_, ?_, ?_, ?_, ?_⟩ <;> try simp only [on1_ne (show 0 ≠ 7 by decide), on1_ne (show 1 ≠ 7 by decide), on1_ne (show 2 ≠ 7 by decide), on1_ne (show 3 ≠ 7 by decide), on1_ne (show 4 ≠ 7 by decide), on1_ne (show 5 ≠ 7 by decide), on1_ne (show 6 ≠ 7 by decide), on1_ne (show 8 ≠ 7 by decide), on1_ne (show 9 ≠ 7 by decide), on1_eq]
  · exact h.be.setCell (p := ⟨w.heap.size, 5, none⟩) (Nat.le_refl _) _
  · simpa using h.sz
  · exact h.hm
  · exact fun k h1 h2 => (Below.heap_setCell W ⟨w.heap.size, 5, none⟩ _ k (by simp; omega)).trans (h.oth k h1 h2)
  · exact h.f0
  · exact h.f3
  · exact h.f6
  · exact h.f8
  · exact h.l1
  · exact h.l4
  · exact fun h2 => (h.o2 h2).setLow (by have := h.hm; omega) _
  · exact fun h2 => (h.o5 h2).setLow (by have := h.hm; omega) _
  · exact h.b.elim fun u5 ⟨u6, h1, _, _, h4, h5⟩ => ⟨X 28, u6, by rw [← hset u5]; exact h1.set_ 5 _, fun _ => rfl, fun h => (Bool.noConfusion h), h4, h5⟩
  · exact fun _ => h2
  · exact h.d9
  · exact h.d2
  · exact h.d5
theorem CnJ.store9 (h : CnJ w W0 m T VI VK PV its kds D X W) (h2 : D 5 = true) (hset : ∀ u5 u6 v, (PV u5 u6).setIfInBounds 6 v = PV u5 v) : CnJ w W0 m T VI VK PV its kds (on1 D 9) X (W.setCell ⟨w.heap.size, 6, none⟩ (X 31)) := by
  refine ⟨?_, ?_, ?_, ?_, ?_, ?_, ?_, ?_, ?_, ?_, ?_, ?_, ?_, ?_, ?_, ?_, ?_⟩ <;> try simp only [on1_ne (show 0 ≠ 9 by decide), on1_ne (show 1 ≠ 9 by decide), on1_ne (show 2 ≠ 9 by decide), on1_ne (show 3 ≠ 9 by decide), on1_ne (show 4 ≠ 9 by decide), on1_ne (show 5 ≠ 9 by decide), on1_ne (show 6 ≠ 9 by decide), on1_ne (show 7 ≠ 9 by decide), on1_ne (show 8 ≠ 9 by decide), on1_eq]
  · exact h.be.setCell (p := ⟨w.heap.size, 6, none⟩) (Nat.le_refl _) _
  · simpa using h.sz
  · exact h.hm
  · exact fun k h1 h2 => (Below.heap_setCell W ⟨w.heap.size, 6, none⟩ _ k (by simp; omega)).trans (h.oth k h1 h2)
  · exact h.f0
  · exact h.f3
  · exact h.f6
  · exact h.f8
  · exact h.l1
  · exact h.l4
  · exact fun h2 => (h.o2 h2).setLow (by have := h.hm; omega) _
  · exact fun h2 => (h.o5 h2).setLow (by have := h.hm; omega) _
  · exact h.b.elim fun u5 ⟨u6, h1, h4, h5, _, _⟩ => ⟨u5, X 31, by rw [← hset u5 u6]; exact h1.set_ 6 _, h4, h5, fun _ => rfl, fun h => (Bool.noConfusion h)⟩
  · exact h.d7
  · exact fun _ => h2
  · exact h.d2
  · exact h.d5
end
end Go.Proofs.YtjbdmaehomhdeaaGreat
