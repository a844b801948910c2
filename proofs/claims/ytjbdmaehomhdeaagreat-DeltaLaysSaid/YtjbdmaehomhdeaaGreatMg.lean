/- page.Merge's drawn region: the invariant. -/
import Derived.Test.YtjbdmaehomhdeaaGreatSpJ
set_option linter.unusedSimpArgs false
set_option linter.unusedVariables false
namespace Go.Proofs.YtjbdmaehomhdeaaGreat
open Go.RowKit

/-- two lists of lists, two calls, two stores into the call's first block -/
structure MgJ (w W0 : World) (m : Nat) (T TI TK : TypeId) (VI VK QI QK : Value) (PV : Value → Value → Array Value) (its : List Item) (kds : List Kid) (D : Nat → Bool) (X : Nat → Value) (W : World) : Prop where
  be : Below w.heap.size w W
  sz : w.heap.size + m ≤ W.heap.size
  hm : 3 ≤ m
  oth : ∀ k, w.heap.size < k → k < w.heap.size + m → W.heap[k]? = W0.heap[k]?
  f0 : D 0 = true → X 61 = .pointer (some ⟨w.heap.size, 5, none⟩)
  f2 : D 2 = true → X 63 = .pointer (some ⟨w.heap.size + 1, 5, none⟩)
  f6 : D 6 = true → X 67 = .pointer (some ⟨w.heap.size, 6, none⟩)
  f8 : D 8 = true → X 69 = .pointer (some ⟨w.heap.size + 1, 6, none⟩)
  f12 : D 12 = true → X 73 = .pointer (some ⟨w.heap.size, 5, none⟩)
  f14 : D 14 = true → X 74 = .pointer (some ⟨w.heap.size, 6, none⟩)
  l1 : D 1 = true → X 62 = VI
  l3 : D 3 = true → X 64 = QI
  l7 : D 7 = true → X 68 = VK
  l9 : D 9 = true → X 70 = QK
  s4 : D 4 = true → ∃ g, X 65 = .slice (some ⟨g, 0, none⟩) 2 2 ∧ w.heap.size + m ≤ g ∧ Blk W g TI #[VI, QI]
  s10 : D 10 = true → ∃ g, X 71 = .slice (some ⟨g, 0, none⟩) 2 2 ∧ w.heap.size + m ≤ g ∧ Blk W g TK #[VK, QK]
  o5 : D 5 = true → OwnItem W (w.heap.size + m) (X 66) its
  o11 : D 11 = true → OwnKid W (w.heap.size + m) (X 72) kds
  b : ∃ u5 u6, Blk W w.heap.size T (PV u5 u6) ∧ (D 13 = true → u5 = X 66) ∧ (D 13 = false → u5 = VI) ∧ (D 15 = true → u6 = X 72) ∧ (D 15 = false → u6 = VK)
  d13 : D 13 = true → D 5 = true
  d15 : D 15 = true → D 11 = true
  d5 : D 5 = true → D 4 = true
  d11 : D 11 = true → D 10 = true
  d4 : D 4 = true → D 1 = true
  d10 : D 10 = true → D 7 = true
section
variable {w W0 : World} {m : Nat} {T TI TK : TypeId} {VI VK QI QK : Value} {PV : Value → Value → Array Value} {its : List Item} {kds : List Kid} {D : Nat → Bool} {X : Nat → Value} {W : World}
theorem MgJ.no13 (h : MgJ w W0 m T TI TK VI VK QI QK PV its kds D X W) (h1 : D 5 = false) : D 13 = false := by
  cases hq : D 13 with
  | false => rfl
  | true => have := h.d13 hq; rw [h1] at this; cases this
theorem MgJ.no15 (h : MgJ w W0 m T TI TK VI VK QI QK PV its kds D X W) (h1 : D 11 = false) : D 15 = false := by
  cases hq : D 15 with
  | false => rfl
  | true => have := h.d15 hq; rw [h1] at this; cases this
theorem MgJ.no5 (h : MgJ w W0 m T TI TK VI VK QI QK PV its kds D X W) (h1 : D 4 = false) : D 5 = false := by
  cases hq : D 5 with
  | false => rfl
  | true => have := h.d5 hq; rw [h1] at this; cases this
theorem MgJ.no11 (h : MgJ w W0 m T TI TK VI VK QI QK PV its kds D X W) (h1 : D 10 = false) : D 11 = false := by
  cases hq : D 11 with
  | false => rfl
  | true => have := h.d11 hq; rw [h1] at this; cases this
theorem MgJ.no4 (h : MgJ w W0 m T TI TK VI VK QI QK PV its kds D X W) (h1 : D 1 = false) : D 4 = false := by
  cases hq : D 4 with
  | false => rfl
  | true => have := h.d4 hq; rw [h1] at this; cases this
theorem MgJ.no10 (h : MgJ w W0 m T TI TK VI VK QI QK PV its kds D X W) (h1 : D 7 = false) : D 10 = false := by
  cases hq : D 10 with
  | false => rfl
  | true => have := h.d10 hq; rw [h1] at this; cases this
theorem MgJ.addr0 (h : MgJ w W0 m T TI TK VI VK QI QK PV its kds D X W) : MgJ w W0 m T TI TK VI VK QI QK PV its kds (on1 D 0) (put1 X 61 (.pointer (some ⟨w.heap.size, 5, none⟩))) W := by
  refine ⟨?_, ?_, ?_, ?_, ?_, ?_, ?_, ?_, ?_, ?_, ?_, ?_, ?_, ?_, ?_, ?_, ?_, ?_, ?_, ?_, ?_, ?_, ?_, ?_, ?_⟩ <;> try simp only [on1_ne (show 1 ≠ 0 by decide), on1_ne (show 2 ≠ 0 by decide), on1_ne (show 3 ≠ 0 by decide), on1_ne (show 4 ≠ 0 by decide), on1_ne (show 5 ≠ 0 by decide), on1_ne (show 6 ≠ 0 by decide), on1_ne (show 7 ≠ 0 by decide), on1_ne (show 8 ≠ 0 by decide), on1_ne (show 9 ≠ 0 by decide), on1_ne (show 10 ≠ 0 by decide), on1_ne (show 11 ≠ 0 by decide), on1_ne (show 12 ≠ 0 by decide), on1_ne (show 13 ≠ 0 by decide), on1_ne (show 14 ≠ 0 by decide), on1_ne (show 15 ≠ 0 by decide), put1_ne (show 62 ≠ 61 by decide), put1_ne (show 63 ≠ 61 by decide), put1_ne (show 64 ≠ 61 by decide), put1_ne (show 65 ≠ 61 by decide), put1_ne (show 66 ≠ 61 by decide), put1_ne (show 67 ≠ 61 by decide), put1_ne (show 68 ≠ 61 by decide), put1_ne (show 69 ≠ 61 by decide), put1_ne (show 70 ≠ 61 by decide), put1_ne (show 71 ≠ 61 by decide), put1_ne (show 72 ≠ 61 by decide), put1_ne (show 73 ≠ 61 by decide), put1_ne (show 74 ≠ 61 by decide), on1_eq, put1_eq]
  · exact h.be
  · exact h.sz
  · exact h.hm
  · exact h.oth
  · exact fun _ => trivial
  · exact h.f2
  · exact h.f6
  · exact h.f8
  · exact h.f12
  · exact h.f14
  · exact h.l1
  · exact h.l3
  · exact h.l7
  · exact h.l9
  · exact h.s4
  · exact h.s10
  · exact h.o5
  · exact h.o11
  · exact h.b
  · exact h.d13
  · exact h.d15
  · exact h.d5
  · exact h.d11
  · exact h.d4
  · exact h.d10
theorem MgJ.addr2 (h : MgJ w W0 m T TI TK VI VK QI QK PV its kds D X W) : MgJ w W0 m T TI TK VI VK QI QK PV its kds (on1 D 2) (put1 X 63 (.pointer (some ⟨w.heap.size + 1, 5, none⟩))) W := by
  refine ⟨?_, ?_, ?_, ?_, ?_, ?_, ?_, ?_, ?_, ?_, ?_, ?_, ?_, ?_, ?_, ?_, ?_, ?_, ?_, ?_, ?_, ?_, ?_, ?_, ?_⟩ <;> try simp only [on1_ne (show 0 ≠ 2 by decide), on1_ne (show 1 ≠ 2 by decide), on1_ne (show 3 ≠ 2 by decide), on1_ne (show 4 ≠ 2 by decide), on1_ne (show 5 ≠ 2 by decide), on1_ne (show 6 ≠ 2 by decide), on1_ne (show 7 ≠ 2 by decide), on1_ne (show 8 ≠ 2 by decide), on1_ne (show 9 ≠ 2 by decide), on1_ne (show 10 ≠ 2 by decide), on1_ne (show 11 ≠ 2 by decide), on1_ne (show 12 ≠ 2 by decide), on1_ne (show 13 ≠ 2 by decide), on1_ne (show 14 ≠ 2 by decide), on1_ne (show 15 ≠ 2 by decide), put1_ne (show 61 ≠ 63 by decide), put1_ne (show 62 ≠ 63 by decide), put1_ne (show 64 ≠ 63 by decide), put1_ne (show 65 ≠ 63 by decide), put1_ne (show 66 ≠ 63 by decide), put1_ne (show 67 ≠ 63 by decide), put1_ne (show 68 ≠ 63 by decide), put1_ne (show 69 ≠ 63 by decide), put1_ne (show 70 ≠ 63 by decide), put1_ne (show 71 ≠ 63 by decide), put1_ne (show 72 ≠ 63 by decide), put1_ne (show 73 ≠ 63 by decide), put1_ne (show 74 ≠ 63 by decide), on1_eq, put1_eq]
  · exact h.be
  · exact h.sz
  · exact h.hm
  · exact h.oth
  · exact h.f0
  · exact fun _ => trivial
  · exact h.f6
  · exact h.f8
  · exact h.f12
  · exact h.f14
  · exact h.l1
  · exact h.l3
  · exact h.l7
  · exact h.l9
  · exact h.s4
  · exact h.s10
  · exact h.o5
  · exact h.o11
  · exact h.b
  · exact h.d13
  · exact h.d15
  · exact h.d5
  · exact h.d11
  · exact h.d4
  · exact h.d10
theorem MgJ.addr6 (h : MgJ w W0 m T TI TK VI VK QI QK PV its kds D X W) : MgJ w W0 m T TI TK VI VK QI QK PV its kds (on1 D 6) (put1 X 67 (.pointer (some ⟨w.heap.size, 6, none⟩))) W := by
  refine ⟨?_, ?_, ?_, ?_, ?_, ?_, ?_, ?_, ?_, ?_, ?_, ?_, ?_, ?_, ?_, ?_, ?_, ?_, ?_, ?_, ?_, ?_, ?_, ?_, ?_⟩ <;> try simp only [on1_ne (show 0 ≠ 6 by decide), on1_ne (show 1 ≠ 6 by decide), on1_ne (show 2 ≠ 6 by decide), on1_ne (show 3 ≠ 6 by decide), on1_ne (show 4 ≠ 6 by decide), on1_ne (show 5 ≠ 6 by decide), on1_ne (show 7 ≠ 6 by decide), on1_ne (show 8 ≠ 6 by decide), on1_ne (show 9 ≠ 6 by decide), on1_ne (show 10 ≠ 6 by decide), on1_ne (show 11 ≠ 6 by decide), on1_ne (show 12 ≠ 6 by decide), on1_ne (show 13 ≠ 6 by decide), on1_ne (show 14 ≠ 6 by decide), on1_ne (show 15 ≠ 6 by decide), put1_ne (show 61 ≠ 67 by decide), put1_ne (show 62 ≠ 67 by decide), put1_ne (show 63 ≠ 67 by decide), put1_ne (show 64 ≠ 67 by decide), put1_ne (show 65 ≠ 67 by decide), put1_ne (show 66 ≠ 67 by decide), put1_ne (show 68 ≠ 67 by decide), put1_ne (show 69 ≠ 67 by decide), put1_ne (show 70 ≠ 67 by decide), put1_ne (show 71 ≠ 67 by decide), put1_ne (show 72 ≠ 67 by decide), put1_ne (show 73 ≠ 67 by decide), put1_ne (show 74 ≠ 67 by decide), on1_eq, put1_eq]
  · exact h.be
  · exact h.sz
  · exact h.hm
  · exact h.oth
  · exact h.f0
  · exact h.f2
  · exact fun _ => trivial
  · exact h.f8
  · exact h.f12
  · exact h.f14
  · exact h.l1
  · exact h.l3
  · exact h.l7
  · exact h.l9
  · exact h.s4
  · exact h.s10
  · exact h.o5
  · exact h.o11
  · exact h.b
  · exact h.d13
  · exact h.d15
  · exact h.d5
  · exact h.d11
  · exact h.d4
  · exact h.d10
theorem MgJ.addr8 (h : MgJ w W0 m T TI TK VI VK QI QK PV its kds D X W) : MgJ w W0 m T TI TK VI VK QI QK PV its kds (on1 D 8) (put1 X 69 (.pointer (some ⟨w.heap.size + 1, 6, none⟩))) W := by
  refine ⟨?_, ?_, ?_, ?_, ?_, ?_, ?_, ?_, ?_, ?_, ?_, ?_, ?_, ?_, ?_, ?_, ?_, ?_, ?_, ?_, ?_, ?_, ?_, ?_, ?_⟩ <;> try simp only [on1_ne (show 0 ≠ 8 by decide), on1_ne (show 1 ≠ 8 by decide), on1_ne (show 2 ≠ 8 by decide), on1_ne (show 3 ≠ 8 by decide), on1_ne (show 4 ≠ 8 by decide), on1_ne (show 5 ≠ 8 by decide), on1_ne (show 6 ≠ 8 by decide), on1_ne (show 7 ≠ 8 by decide), on1_ne (show 9 ≠ 8 by decide), on1_ne (show 10 ≠ 8 by decide), on1_ne (show 11 ≠ 8 by decide), on1_ne (show 12 ≠ 8 by decide), on1_ne (show 13 ≠ 8 by decide), on1_ne (show 14 ≠ 8 by decide), on1_ne (show 15 ≠ 8 by decide), put1_ne (show 61 ≠ 69 by decide), put1_ne (show 62 ≠ 69 by decide), put1_ne (show 63 ≠ 69 by decide), put1_ne (show 64 ≠ 69 by decide), put1_ne (show 65 ≠ 69 by decide), put1_ne (show 66 ≠ 69 by decide), put1_ne (show 67 ≠ 69 by decide), put1_ne (show 68 ≠ 69 by decide), put1_ne (show 70 ≠ 69 by decide), put1_ne (show 71 ≠ 69 by decide), put1_ne (show 72 ≠ 69 by decide), put1_ne (show 73 ≠ 69 by decide), put1_ne (show 74 ≠ 69 by decide), on1_eq, put1_eq]
  · exact h.be
  · exact h.sz
  · exact h.hm
  · exact h.oth
  · exact h.f0
  · exact h.f2
  · exact h.f6
  · exact fun _ => trivial
  · exact h.f12
  · exact h.f14
  · exact h.l1
  · exact h.l3
  · exact h.l7
  · exact h.l9
  · exact h.s4
  · exact h.s10
  · exact h.o5
  · exact h.o11
  · exact h.b
  · exact h.d13
  · exact h.d15
  · exact h.d5
  · exact h.d11
  · exact h.d4
  · exact h.d10
theorem MgJ.addr12 (h : MgJ w W0 m T TI TK VI VK QI QK PV its kds D X W) : MgJ w W0 m T TI TK VI VK QI QK PV its kds (on1 D 12) (put1 X 73 (.pointer (some ⟨w.heap.size, 5, none⟩))) W := by
  refine ⟨?_, ?_, ?_, ?_, ?_, ?_, ?_, ?_, ?_, ?_, ?_, ?_, ?_, ?_, ?_, ?_, ?_, ?_, ?_, ?_, ?_, ?_, ?_, ?_, ?_⟩ <;> try simp only [on1_ne (show 0 ≠ 12 by decide), on1_ne (show 1 ≠ 12 by decide), on1_ne (show 2 ≠ 12 by decide), on1_ne (show 3 ≠ 12 by decide), on1_ne (show 4 ≠ 12 by decide), on1_ne (show 5 ≠ 12 by decide), on1_ne (show 6 ≠ 12 by decide), on1_ne (show 7 ≠ 12 by decide), on1_ne (show 8 ≠ 12 by decide), on1_ne (show 9 ≠ 12 by decide), on1_ne (show 10 ≠ 12 by decide), on1_ne (show 11 ≠ 12 by decide), on1_ne (show 13 ≠ 12 by decide), on1_ne (show 14 ≠ 12 by decide), on1_ne (show 15 ≠ 12 by decide), put1_ne (show 61 ≠ 73 by decide), put1_ne (show 62 ≠ 73 by decide), put1_ne (show 63 ≠ 73 by decide), put1_ne (show 64 ≠ 73 by decide), put1_ne (show 65 ≠ 73 by decide), put1_ne (show 66 ≠ 73 by decide), put1_ne (show 67 ≠ 73 by decide), put1_ne (show 68 ≠ 73 by decide), put1_ne (show 69 ≠ 73 by decide), put1_ne (show 70 ≠ 73 by decide), put1_ne (show 71 ≠ 73 by decide), put1_ne (show 72 ≠ 73 by decide), put1_ne (show 74 ≠ 73 by decide), on1_eq, put1_eq]
  · exact h.be
  · exact h.sz
  · exact h.hm
  · exact h.oth
  · exact h.f0
  · exact h.f2
  · exact h.f6
  · exact h.f8
  · exact fun _ => trivial
  · exact h.f14
  · exact h.l1
  · exact h.l3
  · exact h.l7
  · exact h.l9
  · exact h.s4
  · exact h.s10
  · exact h.o5
  · exact h.o11
  · exact h.b
  · exact h.d13
  · exact h.d15
  · exact h.d5
  · exact h.d11
  · exact h.d4
  · exact h.d10
theorem MgJ.addr14 (h : MgJ w W0 m T TI TK VI VK QI QK PV its kds D X W) : MgJ w W0 m T TI TK VI VK QI QK PV its kds (on1 D 14) (put1 X 74 (.pointer (some ⟨w.heap.size, 6, none⟩))) W := by
  refine ⟨?_, ?_, ?_, ?_, ?_, ?_, ?_, ?_, ?_, ?_, ?_, ?_, ?_, ?_, ?_, ?_, ?_, ?_, ?_, ?_, ?_, ?_, ?_, ?_, ?_⟩ <;> try simp only [on1_ne (show 0 ≠ 14 by decide), on1_ne (show 1 ≠ 14 by decide), on1_ne (show 2 ≠ 14 by decide), on1_ne (show 3 ≠ 14 by decide), on1_ne (show 4 ≠ 14 by decide), on1_ne (show 5 ≠ 14 by decide), on1_ne (show 6 ≠ 14 by decide), on1_ne (show 7 ≠ 14 by decide), on1_ne (show 8 ≠ 14 by decide), on1_ne (show 9 ≠ 14 by decide), on1_ne (show 10 ≠ 14 by decide), on1_ne (show 11 ≠ 14 by decide), on1_ne (show 12 ≠ 14 by decide), on1_ne (show 13 ≠ 14 by decide), on1_ne (show 15 ≠ 14 by decide), put1_ne (show 61 ≠ 74 by decide), put1_ne (show 62 ≠ 74 by decide), put1_ne (show 63 ≠ 74 by decide), put1_ne (show 64 ≠ 74 by decide), put1_ne (show 65 ≠ 74 by decide), put1_ne (show 66 ≠ 74 by decide), put1_ne (show 67 ≠ 74 by decide), put1_ne (show 68 ≠ 74 by decide), put1_ne (show 69 ≠ 74 by decide), put1_ne (show 70 ≠ 74 by decide), put1_ne (show 71 ≠ 74 by decide), put1_ne (show 72 ≠ 74 by decide), put1_ne (show 73 ≠ 74 by decide), on1_eq, put1_eq]
  · exact h.be
  · exact h.sz
  · exact h.hm
  · exact h.oth
  · exact h.f0
  · exact h.f2
  · exact h.f6
  · exact h.f8
  · exact h.f12
  · exact fun _ => trivial
  · exact h.l1
  · exact h.l3
  · exact h.l7
  · exact h.l9
  · exact h.s4
  · exact h.s10
  · exact h.o5
  · exact h.o11
  · exact h.b
  · exact h.d13
  · exact h.d15
  · exact h.d5
  · exact h.d11
  · exact h.d4
  · exact h.d10
theorem MgJ.load1 (h : MgJ w W0 m T TI TK VI VK QI QK PV its kds D X W) : MgJ w W0 m T TI TK VI VK QI QK PV its kds (on1 D 1) (put1 X 62 VI) W := by
  refine ⟨?_, ?_, ?_, ?_, ?_, ?_, ?_, ?_, ?_, ?_, ?_, ?_, ?_, ?_, ?_, ?_, ?_, ?_, ?_, ?_, ?_, ?_, ?_, ?_, ?_⟩ <;> try simp only [on1_ne (show 0 ≠ 1 by decide), on1_ne (show 2 ≠ 1 by decide), on1_ne (show 3 ≠ 1 by decide), on1_ne (show 4 ≠ 1 by decide), on1_ne (show 5 ≠ 1 by decide), on1_ne (show 6 ≠ 1 by decide), on1_ne (show 7 ≠ 1 by decide), on1_ne (show 8 ≠ 1 by decide), on1_ne (show 9 ≠ 1 by decide), on1_ne (show 10 ≠ 1 by decide), on1_ne (show 11 ≠ 1 by decide), on1_ne (show 12 ≠ 1 by decide), on1_ne (show 13 ≠ 1 by decide), on1_ne (show 14 ≠ 1 by decide), on1_ne (show 15 ≠ 1 by decide), put1_ne (show 61 ≠ 62 by decide), put1_ne (show 63 ≠ 62 by decide), put1_ne (show 64 ≠ 62 by decide), put1_ne (show 65 ≠ 62 by decide), put1_ne (show 66 ≠ 62 by decide), put1_ne (show 67 ≠ 62 by decide), put1_ne (show 68 ≠ 62 by decide), put1_ne (show 69 ≠ 62 by decide), put1_ne (show 70 ≠ 62 by decide), put1_ne (show 71 ≠ 62 by decide), put1_ne (show 72 ≠ 62 by decide), put1_ne (show 73 ≠ 62 by decide), put1_ne (show 74 ≠ 62 by decide), on1_eq, put1_eq]
  · exact h.be
  · exact h.sz
  · exact h.hm
  · exact h.oth
  · exact h.f0
  · exact h.f2
  · exact h.f6
  · exact h.f8
  · exact h.f12
  · exact h.f14
  · exact fun _ => trivial
  · exact h.l3
  · exact h.l7
  · exact h.l9
  · exact h.s4
  · exact h.s10
  · exact h.o5
  · exact h.o11
  · exact h.b
  · exact h.d13
  · exact h.d15
  · exact h.d5
  · exact h.d11
  · exact fun _ => trivial
  · exact h.d10
theorem MgJ.load3 (h : MgJ w W0 m T TI TK VI VK QI QK PV its kds D X W) : MgJ w W0 m T TI TK VI VK QI QK PV its kds (on1 D 3) (put1 X 64 QI) W := by
  refine ⟨?_, ?_, ?_, ?_, ?_, ?_, ?_, ?_, ?_, ?_, ?_, ?_, ?_, ?_, ?_, ?_, ?_, ?_, ?_, ?_, ?_, ?_, ?_, ?_, ?_⟩ <;> try simp only [on1_ne (show 0 ≠ 3 by decide), on1_ne (show 1 ≠ 3 by decide), on1_ne (show 2 ≠ 3 by decide), on1_ne (show 4 ≠ 3 by decide), on1_ne (show 5 ≠ 3 by decide), on1_ne (show 6 ≠ 3 by decide), on1_ne (show 7 ≠ 3 by decide), on1_ne (show 8 ≠ 3 by decide), on1_ne (show 9 ≠ 3 by decide), on1_ne (show 10 ≠ 3 by decide), on1_ne (show 11 ≠ 3 by decide), on1_ne (show 12 ≠ 3 by decide), on1_ne (show 13 ≠ 3 by decide), on1_ne (show 14 ≠ 3 by decide), on1_ne (show 15 ≠ 3 by decide), put1_ne (show 61 ≠ 64 by decide), put1_ne (show 62 ≠ 64 by decide), put1_ne (show 63 ≠ 64 by decide), put1_ne (show 65 ≠ 64 by decide), put1_ne (show 66 ≠ 64 by decide), put1_ne (show 67 ≠ 64 by decide), put1_ne (show 68 ≠ 64 by decide), put1_ne (show 69 ≠ 64 by decide), put1_ne (show 70 ≠ 64 by decide), put1_ne (show 71 ≠ 64 by decide), put1_ne (show 72 ≠ 64 by decide), put1_ne (show 73 ≠ 64 by decide), put1_ne (show 74 ≠ 64 by decide), on1_eq, put1_eq]
  · exact h.be
  · exact h.sz
  · exact h.hm
  · exact h.oth
  · exact h.f0
  · exact h.f2
  · exact h.f6
  · exact h.f8
  · exact h.f12
  · exact h.f14
  · exact h.l1
  · exact fun _ => trivial
  · exact h.l7
  · exact h.l9
  · exact h.s4
  · exact h.s10
  · exact h.o5
  · exact h.o11
  · exact h.b
  · exact h.d13
  · exact h.d15
  · exact h.d5
  · exact h.d11
  · exact h.d4
  · exact h.d10
theorem MgJ.load7 (h : MgJ w W0 m T TI TK VI VK QI QK PV its kds D X W) : MgJ w W0 m T TI TK VI VK QI QK PV its kds (on1 D 7) (put1 X 68 VK) W := by
  refine ⟨?_, ?_, ?_, ?_, ?_, ?_, ?_, ?_, ?_, ?_, ?_, ?_, ?_, ?_, ?_, ?_, ?_, ?_, ?_, ?_, ?_, ?_, ?_, ?_, ?_⟩ <;> try simp only [on1_ne (show 0 ≠ 7 by decide), on1_ne (show 1 ≠ 7 by decide), on1_ne (show 2 ≠ 7 by decide), on1_ne (show 3 ≠ 7 by decide), on1_ne (show 4 ≠ 7 by decide), on1_ne (show 5 ≠ 7 by decide), on1_ne (show 6 ≠ 7 by decide), on1_ne (show 8 ≠ 7 by decide), on1_ne (show 9 ≠ 7 by decide), on1_ne (show 10 ≠ 7 by decide), on1_ne (show 11 ≠ 7 by decide), on1_ne (show 12 ≠ 7 by decide), on1_ne (show 13 ≠ 7 by decide), on1_ne (show 14 ≠ 7 by decide), on1_ne (show 15 ≠ 7 by decide), put1_ne (show 61 ≠ 68 by decide), put1_ne (show 62 ≠ 68 by decide), put1_ne (show 63 ≠ 68 by decide), put1_ne (show 64 ≠ 68 by decide), put1_ne (show 65 ≠ 68 by decide), put1_ne (show 66 ≠ 68 by decide), put1_ne (show 67 ≠ 68 by decide), put1_ne (show 69 ≠ 68 by decide), put1_ne (show 70 ≠ 68 by decide), put1_ne (show 71 ≠ 68 by decide), put1_ne (show 72 ≠ 68 by decide), put1_ne (show 73 ≠ 68 by decide), put1_ne (show 74 ≠ 68 by decide), on1_eq, put1_eq]
  · exact h.be
  · exact h.sz
  · exact h.hm
  · exact h.oth
  · exact h.f0
  · exact h.f2
  · exact h.f6
  · exact h.f8
  · exact h.f12
  · exact h.f14
  · exact h.l1
  · exact h.l3
  · exact fun _ => trivial
  · exact h.l9
  · exact h.s4
  · exact h.s10
  · exact h.o5
  · exact h.o11
  · exact h.b
  · exact h.d13
  · exact h.d15
  · exact h.d5
  · exact h.d11
  · exact h.d4
  · exact fun _ => trivial
theorem MgJ.load9 (h : MgJ w W0 m T TI TK VI VK QI QK PV its kds D X W) : MgJ w W0 m T TI TK VI VK QI QK PV its kds (on1 D 9) (put1 X 70 QK) W := by
  refine ⟨?_, ?_, ?_, ?_, ?_, ?_, ?_, ?_, ?_, ?_, ?_, ?_, ?_, ?_, ?_, ?_, ?_, ?_, ?_, ?_, ?_, ?_, ?_, ?_, ?_⟩ <;> try simp only [on1_ne (show 0 ≠ 9 by decide), on1_ne (show 1 ≠ 9 by decide), on1_ne (show 2 ≠ 9 by decide), on1_ne (show 3 ≠ 9 by decide), on1_ne (show 4 ≠ 9 by decide), on1_ne (show 5 ≠ 9 by decide), on1_ne (show 6 ≠ 9 by decide), on1_ne (show 7 ≠ 9 by decide), on1_ne (show 8 ≠ 9 by decide), on1_ne (show 10 ≠ 9 by decide), on1_ne (show 11 ≠ 9 by decide), on1_ne (show 12 ≠ 9 by decide), on1_ne (show 13 ≠ 9 by decide), on1_ne (show 14 ≠ 9 by decide), on1_ne (show 15 ≠ 9 by decide), put1_ne (show 61 ≠ 70 by decide), put1_ne (show 62 ≠ 70 by decide), put1_ne (show 63 ≠ 70 by decide), put1_ne (show 64 ≠ 70 by decide), put1_ne (show 65 ≠ 70 by decide), put1_ne (show 66 ≠ 70 by decide), put1_ne (show 67 ≠ 70 by decide), put1_ne (show 68 ≠ 70 by decide), put1_ne (show 69 ≠ 70 by decide), put1_ne (show 71 ≠ 70 by decide), put1_ne (show 72 ≠ 70 by decide), put1_ne (show 73 ≠ 70 by decide), put1_ne (show 74 ≠ 70 by decide), on1_eq, put1_eq]
  · exact h.be
  · exact h.sz
  · exact h.hm
  · exact h.oth
  · exact h.f0
  · exact h.f2
  · exact h.f6
  · exact h.f8
  · exact h.f12
  · exact h.f14
  · exact h.l1
  · exact h.l3
  · exact h.l7
  · exact fun _ => trivial
  · exact h.s4
  · exact h.s10
  · exact h.o5
  · exact h.o11
  · exact h.b
  · exact h.d13
  · exact h.d15
  · exact h.d5
  · exact h.d11
  · exact h.d4
  · exact h.d10
theorem MgJ.build4 (h : MgJ w W0 m T TI TK VI VK QI QK PV its kds D X W) (h1 : D 1 = true) : MgJ w W0 m T TI TK VI VK QI QK PV its kds (on1 D 4) (put1 X 65 (.slice (some ⟨W.heap.size, 0, none⟩) 2 2)) (W.alloc (.cells #[VI, QI] TI)) := by
  have hb : Below W.heap.size W (W.alloc (.cells #[VI, QI] TI)) := (Below.refl _ _).alloc (Nat.le_refl _) _
  refine ⟨?_, ?_, ?_, ?_, ?_, ?_, ?_, ?_, ?_, ?_, ?_, ?_, ?_, ?_, ?_, ?_, ?_, ?_, ?_, ?_, ?_, ?_, ?_, ?_, ?_⟩ <;> try simp only [on1_ne (show 0 ≠ 4 by decide), on1_ne (show 1 ≠ 4 by decide), on1_ne (show 2 ≠ 4 by decide), on1_ne (show 3 ≠ 4 by decide), on1_ne (show 5 ≠ 4 by decide), on1_ne (show 6 ≠ 4 by decide), on1_ne (show 7 ≠ 4 by decide), on1_ne (show 8 ≠ 4 by decide), on1_ne (show 9 ≠ 4 by decide), on1_ne (show 10 ≠ 4 by decide), on1_ne (show 11 ≠ 4 by decide), on1_ne (show 12 ≠ 4 by decide), on1_ne (show 13 ≠ 4 by decide), on1_ne (show 14 ≠ 4 by decide), on1_ne (show 15 ≠ 4 by decide), put1_ne (show 61 ≠ 65 by decide), put1_ne (show 62 ≠ 65 by decide), put1_ne (show 63 ≠ 65 by decide), put1_ne (show 64 ≠ 65 by decide), put1_ne (show 66 ≠ 65 by decide), put1_ne (show 67 ≠ 65 by decide), put1_ne (show 68 ≠ 65 by decide), put1_ne (show 69 ≠ 65 by decide), put1_ne (show 70 ≠ 65 by decide), put1_ne (show 71 ≠ 65 by decide), put1_ne (show 72 ≠ 65 by decide), put1_ne (show 73 ≠ 65 by decide), put1_ne (show 74 ≠ 65 by decide), on1_eq, put1_eq]
  · exact h.be.trans (hb.mono h.be.size)
  · exact Nat.le_trans h.sz hb.size
  · exact h.hm
  · exact fun k h1 h2 => (hb.block k (Nat.lt_of_lt_of_le h2 h.sz)).trans (h.oth k h1 h2)
  · exact h.f0
  · exact h.f2
  · exact h.f6
  · exact h.f8
  · exact h.f12
  · exact h.f14
  · exact h.l1
  · exact h.l3
  · exact h.l7
  · exact h.l9
  · exact fun _ => ⟨W.heap.size, rfl, h.sz, Blk.new _ _ _⟩
  · exact fun h2 => (h.s10 h2).elim fun g ⟨a, b, c⟩ => ⟨g, a, b, c.below hb c.lt⟩
  · exact fun h2 => (h.o5 h2).on hb
  · exact fun h2 => (h.o11 h2).on hb
  · exact h.b.elim fun u5 ⟨u6, h1, h2, h3, h4, h5⟩ => ⟨u5, u6, h1.below hb h1.lt, h2, h3, h4, h5⟩
  · exact h.d13
  · exact h.d15
  · exact fun _ => trivial
  · exact h.d11
  · exact fun _ => h1
  · exact h.d10
theorem MgJ.build10 (h : MgJ w W0 m T TI TK VI VK QI QK PV its kds D X W) (h1 : D 7 = true) : MgJ w W0 m T TI TK VI VK QI QK PV its kds (on1 D 10) (put1 X 71 (.slice (some ⟨W.heap.size, 0, none⟩) 2 2)) (W.alloc (.cells #[VK, QK] TK)) := by
  have hb : Below W.heap.size W (W.alloc (.cells #[VK, QK] TK)) := (Below.refl _ _).alloc (Nat.le_refl _) _
  refine ⟨?_, ?_, ?_, ?_, ?_, ?_, ?_, ?_, ?_, ?_, ?_, ?_, ?_, ?_, ?_, ?_, ?_, ?_, ?_, ?_, ?_, ?_, ?_, ?_, ?_⟩ <;> try simp only [on1_ne (show 0 ≠ 10 by decide), on1_ne (show 1 ≠ 10 by decide), on1_ne (show 2 ≠ 10 by decide), on1_ne (show 3 ≠ 10 by decide), on1_ne (show 4 ≠ 10 by decide), on1_ne (show 5 ≠ 10 by decide), on1_ne (show 6 ≠ 10 by decide), on1_ne (show 7 ≠ 10 by decide), on1_ne (show 8 ≠ 10 by decide), on1_ne (show 9 ≠ 10 by decide), on1_ne (show 11 ≠ 10 by decide), on1_ne (show 12 ≠ 10 by decide), on1_ne (show 13 ≠ 10 by decide), on1_ne (show 14 ≠ 10 by decide), on1_ne (show 15 ≠ 10 by decide), put1_ne (show 61 ≠ 71 by decide), put1_ne (show 62 ≠ 71 by decide), put1_ne (show 63 ≠ 71 by decide), put1_ne (show 64 ≠ 71 by decide), put1_ne (show 65 ≠ 71 by decide), put1_ne (show 66 ≠ 71 by decide), put1_ne (show 67 ≠ 71 by decide), put1_ne (show 68 ≠ 71 by decide), put1_ne (show 69 ≠ 71 by decide), put1_ne (show 70 ≠ 71 by decide), put1_ne (show 72 ≠ 71 by decide), put1_ne (show 73 ≠ 71 by decide), put1_ne (show 74 ≠ 71 by decide), on1_eq, put1_eq]
  · exact h.be.trans (hb.mono h.be.size)
  · exact Nat.le_trans h.sz hb.size
  · exact h.hm
  · exact fun k h1 h2 => (hb.block k (Nat.lt_of_lt_of_le h2 h.sz)).trans (h.oth k h1 h2)
  · exact h.f0
  · exact h.f2
  · exact h.f6
  · exact h.f8
  · exact h.f12
  · exact h.f14
  · exact h.l1
  · exact h.l3
  · exact h.l7
  · exact h.l9
  · exact fun h2 => (h.s4 h2).elim fun g ⟨a, b, c⟩ => ⟨g, a, b, c.below hb c.lt⟩
  · exact fun _ => ⟨W.heap.size, rfl, h.sz, Blk.new _ _ _⟩
  · exact fun h2 => (h.o5 h2).on hb
  · exact fun h2 => (h.o11 h2).on hb
  · exact h.b.elim fun u5 ⟨u6, h1, h2, h3, h4, h5⟩ => ⟨u5, u6, h1.below hb h1.lt, h2, h3, h4, h5⟩
  · exact h.d13
  · exact h.d15
  · exact h.d5
  · exact fun _ => trivial
  · exact h.d4
  · exact fun _ => h1
theorem MgJ.call5 (h : MgJ w W0 m T TI TK VI VK QI QK PV its kds D X W) (hD : D 5 = false) (h1 : D 4 = true) {W' : World} (hb : Below W.heap.size W W') {v : Value} (hO : OwnItem W' W.heap.size v its) : MgJ w W0 m T TI TK VI VK QI QK PV its kds (on1 D 5) (put1 X 66 v) W' := by
  have h7 := h.no13 hD
  refine ⟨?_, ?_, ?_, ?_, ?_, ?_, ?_, ?_, ?_, ?_, ?_, ?_, ?_, ?_, ?_, ?_, ?_, ?_, ?_, ?_, ?_, ?_, ?_, ?_, ?_⟩ <;> try simp only [on1_ne (show 0 ≠ 5 by decide), on1_ne (show 1 ≠ 5 by decide), on1_ne (show 2 ≠ 5 by decide), on1_ne (show 3 ≠ 5 by decide), on1_ne (show 4 ≠ 5 by decide), on1_ne (show 6 ≠ 5 by decide), on1_ne (show 7 ≠ 5 by decide), on1_ne (show 8 ≠ 5 by decide), on1_ne (show 9 ≠ 5 by decide), on1_ne (show 10 ≠ 5 by decide), on1_ne (show 11 ≠ 5 by decide), on1_ne (show 12 ≠ 5 by decide), on1_ne (show 13 ≠ 5 by decide), on1_ne (show 14 ≠ 5 by decide), on1_ne (show 15 ≠ 5 by decide), put1_ne (show 61 ≠ 66 by decide), put1_ne (show 62 ≠ 66 by decide), put1_ne (show 63 ≠ 66 by decide), put1_ne (show 64 ≠ 66 by decide), put1_ne (show 65 ≠ 66 by decide), put1_ne (show 67 ≠ 66 by decide), put1_ne (show 68 ≠ 66 by decide), put1_ne (show 69 ≠ 66 by decide), put1_ne (show 70 ≠ 66 by decide), put1_ne (show 71 ≠ 66 by decide), put1_ne (show 72 ≠ 66 by decide), put1_ne (show 73 ≠ 66 by decide), put1_ne (show 74 ≠ 66 by decide), on1_eq, put1_eq]
  · exact h.be.trans (hb.mono h.be.size)
  · exact Nat.le_trans h.sz hb.size
  · exact h.hm
  · exact fun k h1 h2 => (hb.block k (Nat.lt_of_lt_of_le h2 h.sz)).trans (h.oth k h1 h2)
  · exact h.f0
  · exact h.f2
  · exact h.f6
  · exact h.f8
  · exact h.f12
  · exact h.f14
  · exact h.l1
  · exact h.l3
  · exact h.l7
  · exact h.l9
  · exact fun h2 => (h.s4 h2).elim fun g ⟨a, b, c⟩ => ⟨g, a, b, c.below hb c.lt⟩
  · exact fun h2 => (h.s10 h2).elim fun g ⟨a, b, c⟩ => ⟨g, a, b, c.below hb c.lt⟩
  · exact fun _ => hO.mono h.sz
  · exact fun h2 => (h.o11 h2).on hb
  · exact h.b.elim fun u5 ⟨u6, h1, h2, h3, h4, h5⟩ => ⟨u5, u6, h1.below hb h1.lt, (fun h => by rw [h7] at h; cases h), h3, h4, h5⟩
  · exact fun _ => trivial
  · exact h.d15
  · exact fun _ => h1
  · exact h.d11
  · exact h.d4
  · exact h.d10
theorem MgJ.call11 (h : MgJ w W0 m T TI TK VI VK QI QK PV its kds D X W) (hD : D 11 = false) (h1 : D 10 = true) {W' : World} (hb : Below W.heap.size W W') {v : Value} (hO : OwnKid W' W.heap.size v kds) : MgJ w W0 m T TI TK VI VK QI QK PV its kds (on1 D 11) (put1 X 72 v) W' := by
  have h9 := h.no15 hD
  refine ⟨?_, ?_, ?_, ?_, ?_, ?_, ?_, ?_, ?_, ?_, ?_, ?_, ?_, ?_, ?_, ?_, ?_, ?_, ?_, ?_, ?_, ?_, ?_, ?_, ?_⟩ <;> try simp only [on1_ne (show 0 ≠ 11 by decide), on1_ne (show 1 ≠ 11 by decide), on1_ne (show 2 ≠ 11 by decide), on1_ne (show 3 ≠ 11 by decide), on1_ne (show 4 ≠ 11 by decide), on1_ne (show 5 ≠ 11 by decide), on1_ne (show 6 ≠ 11 by decide), on1_ne (show 7 ≠ 11 by decide), on1_ne (show 8 ≠ 11 by decide), on1_ne (show 9 ≠ 11 by decide), on1_ne (show 10 ≠ 11 by decide), on1_ne (show 12 ≠ 11 by decide), on1_ne (show 13 ≠ 11 by decide), on1_ne (show 14 ≠ 11 by decide), on1_ne (show 15 ≠ 11 by decide), put1_ne (show 61 ≠ 72 by decide), put1_ne (show 62 ≠ 72 by decide), put1_ne (show 63 ≠ 72 by decide), put1_ne (show 64 ≠ 72 by decide), put1_ne (show 65 ≠ 72 by decide), put1_ne (show 66 ≠ 72 by decide), put1_ne (show 67 ≠ 72 by decide), put1_ne (show 68 ≠ 72 by decide), put1_ne (show 69 ≠ 72 by decide), put1_ne (show 70 ≠ 72 by decide), put1_ne (show 71 ≠ 72 by decide), put1_ne (show 73 ≠ 72 by decide), put1_ne (show 74 ≠ 72 by decide), on1_eq, put1_eq]
  · exact h.be.trans (hb.mono h.be.size)
  · exact Nat.le_trans h.sz hb.size
  · exact h.hm
  · exact fun k h1 h2 => (hb.block k (Nat.lt_of_lt_of_le h2 h.sz)).trans (h.oth k h1 h2)
  · exact h.f0
  · exact h.f2
  · exact h.f6
  · exact h.f8
  · exact h.f12
  · exact h.f14
  · exact h.l1
  · exact h.l3
  · exact h.l7
  · exact h.l9
  · exact fun h2 => (h.s4 h2).elim fun g ⟨a, b, c⟩ => ⟨g, a, b, c.below hb c.lt⟩
  · exact fun h2 => (h.s10 h2).elim fun g ⟨a, b, c⟩ => ⟨g, a, b, c.below hb c.lt⟩
  · exact fun h2 => (h.o5 h2).on hb
  · exact fun _ => hO.mono h.sz
  · exact h.b.elim fun u5 ⟨u6, h1, h2, h3, h4, h5⟩ => ⟨u5, u6, h1.below hb h1.lt, h2, h3, (fun h => by rw [h9] at h; cases h), h5⟩
  · exact h.d13
  · exact fun _ => trivial
  · exact h.d5
  · exact fun _ => h1
  · exact h.d4
  · exact h.d10
theorem MgJ.store13 (h : MgJ w W0 m T TI TK VI VK QI QK PV its kds D X W) (h2 : D 5 = true) (hset : ∀ u5 u6 v, (PV u5 u6).setIfInBounds 5 v = PV v u6) : MgJ w W0 m T TI TK VI VK QI QK PV its kds (on1 D 13) X (W.setCell ⟨w.heap.size, 5, none⟩ (X 66)) := by
  refine ⟨?_, ?_, ?_, ?_, ?_, ?_, ?_, ?_, ?_, ?_, ?_, ?_, ?_, ?_, ?_, ?_, ?_, ?_, ?_, ?_, ?_, ?_, ?_, ?_, ?_⟩ <;> try simp only [on1_ne (show 0 ≠ 13 by decide), on1_ne (show 1 ≠ 13 by decide), on1_ne (show 2 ≠ 13 by decide), on1_ne (show 3 ≠ 13 by decide), on1_ne (show 4 ≠ 13 by decide), on1_ne (show 5 ≠ 13 by decide), on1_ne (show 6 ≠ 13 by decide), on1_ne (show 7 ≠ 13 by decide), on1_ne (show 8 ≠ 13 by decide), on1_ne (show 9 ≠ 13 by decide), on1_ne (show 10 ≠ 13 by decide), on1_ne (show 11 ≠ 13 by decide), on1_ne (show 12 ≠ 13 by decide), on1_ne (show 14 ≠ 13 by decide), on1_ne (show 15 ≠ 13 by decide), on1_eq]
  · exact h.be.setCell (p := ⟨w.heap.size, 5, none⟩) (Nat.le_refl _) _
  · simpa using h.sz
  · exact h.hm
  · exact fun k h1 h2 => (Below.heap_setCell W ⟨w.heap.size, 5, none⟩ _ k (by simp; omega)).trans (h.oth k h1 h2)
  · exact h.f0
  · exact h.f2
  · exact h.f6
  · exact h.f8
  · exact h.f12
  · exact h.f14
  · exact h.l1
  · exact h.l3
  · exact h.l7
  · exact h.l9
  · exact fun h2 => (h.s4 h2).elim fun g ⟨a, b, c⟩ => ⟨g, a, b, c.far (by have := h.hm; simp; omega) _⟩
  · exact fun h2 => (h.s10 h2).elim fun g ⟨a, b, c⟩ => ⟨g, a, b, c.far (by have := h.hm; simp; omega) _⟩
  · exact fun h2 => (h.o5 h2).setLow (by have := h.hm; omega) _
  · exact fun h2 => (h.o11 h2).setLow (by have := h.hm; omega) _
  · exact h.b.elim fun u5 ⟨u6, h1, _, _, h4, h5⟩ => ⟨X 66, u6, by rw [← hset u5]; exact h1.set_ 5 _, fun _ => rfl, fun h => (Bool.noConfusion h), h4, h5⟩
  · exact fun _ => h2
  · exact h.d15
  · exact h.d5
  · exact h.d11
  · exact h.d4
  · exact h.d10
theorem MgJ.store15 (h : MgJ w W0 m T TI TK VI VK QI QK PV its kds D X W) (h2 : D 11 = true) (hset : ∀ u5 u6 v, (PV u5 u6).setIfInBounds 6 v = PV u5 v) : MgJ w W0 m T TI TK VI VK QI QK PV its kds (on1 D 15) X (W.setCell ⟨w.heap.size, 6, none⟩ (X 72)) := by
  refine ⟨?_, ?_, ?_, ?_, ?_, ?_, ?_, ?_, ?_, ?_, ?_, ?_, ?_, ?_, ?_, ?_, ?_, ?_, ?_, ?_, ?_, ?_, ?_, ?_, ?_⟩ <;> try simp only [on1_ne (show 0 ≠ 15 by decide), on1_ne (show 1 ≠ 15 by decide), on1_ne (show 2 ≠ 15 by decide), on1_ne (show 3 ≠ 15 by decide), on1_ne (show 4 ≠ 15 by decide), on1_ne (show 5 ≠ 15 by decide), on1_ne (show 6 ≠ 15 by decide), on1_ne (show 7 ≠ 15 by decide), on1_ne (show 8 ≠ 15 by decide), on1_ne (show 9 ≠ 15 by decide), on1_ne (show 10 ≠ 15 by decide), on1_ne (show 11 ≠ 15 by decide), on1_ne (show 12 ≠ 15 by decide), on1_ne (show 13 ≠ 15 by decide), on1_ne (show 14 ≠ 15 by decide), on1_eq]
  · exact h.be.setCell (p := ⟨w.heap.size, 6, none⟩) (Nat.le_refl _) _
  · simpa using h.sz
  · exact h.hm
  · exact fun k h1 h2 => (Below.heap_setCell W ⟨w.heap.size, 6, none⟩ _ k (by simp; omega)).trans (h.oth k h1 h2)
  · exact h.f0
  · exact h.f2
  · exact h.f6
  · exact h.f8
  · exact h.f12
  · exact h.f14
  · exact h.l1
  · exact h.l3
  · exact h.l7
  · exact h.l9
  · exact fun h2 => (h.s4 h2).elim fun g ⟨a, b, c⟩ => ⟨g, a, b, c.far (by have := h.hm; simp; omega) _⟩
  · exact fun h2 => (h.s10 h2).elim fun g ⟨a, b, c⟩ => ⟨g, a, b, c.far (by have := h.hm; simp; omega) _⟩
  · exact fun h2 => (h.o5 h2).setLow (by have := h.hm; omega) _
  · exact fun h2 => (h.o11 h2).setLow (by have := h.hm; omega) _
  · exact h.b.elim fun u5 ⟨u6, h1, h4, h5, _, _⟩ => ⟨u5, X 72, by rw [← hset u5 u6]; exact h1.set_ 6 _, h4, h5, fun _ => rfl, fun h => (Bool.noConfusion h)⟩
  · exact h.d13
  · exact fun _ => h2
  · exact h.d5
  · exact h.d11
  · exact h.d4
  · exact h.d10
end
end Go.Proofs.YtjbdmaehomhdeaaGreat
