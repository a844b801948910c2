/- page.Split's drawn region with two copies: the invariant, in plain Lean; one operation at a time under its own law. -/
import Derived.Test.YtjbdmaehomhdeaaGreatZG
set_option linter.unusedSimpArgs false
set_option linter.unusedVariables false
namespace Go.Proofs.YtjbdmaehomhdeaaGreat
open Go.RowKit

def ptr (g : Nat) : Value := .pointer (some ⟨g, 0, none⟩)
theorem ptr_inj {g g' : Nat} (h : ptr g = ptr g') : g = g' := by
  unfold ptr at h
  injection h with h; injection h with h; injection h
def put1 (X : Nat → Value) (s : Nat) (v : Value) : Nat → Value := fun t => if t = s then v else X t
def on1 (D : Nat → Bool) (i : Nat) : Nat → Bool := fun j => D j || j == i
theorem on1_ne {D : Nat → Bool} {i j : Nat} (h : j ≠ i) : on1 D i j = D j := by
  have : (j == i) = false := by simpa using h
  simp [on1, this]
theorem on1_eq {D : Nat → Bool} {i : Nat} : on1 D i i = true := by simp [on1]
theorem put1_ne {X : Nat → Value} {s t : Nat} {v : Value} (h : t ≠ s) : put1 X s v t = X t := if_neg h
theorem put1_eq {X : Nat → Value} {s : Nat} {v : Value} : put1 X s v s = v := if_pos rfl

structure SpJ (w : World) (bs : List (TypeId × Array Value)) (V : Array Value) (VO : Option Addr → Nat → Option Addr → Nat → Array Value) (T : TypeId) (its : List Item) (kds : List Kid) (ni nk : Nat) (D : Nat → Bool) (X : Nat → Value) (W : World) : Prop where
  fr : Fr w W bs
  l0 : D 0 = true → X 68 = .agg V
  l2 : D 2 = true → X 70 = .agg V
  o1 : D 1 = true → ∃ EI dI EK dK, X 69 = .agg (VO EI dI EK dK) ∧ OwnItem W (w.heap.size + bs.length) (.slice EI ni dI) its ∧ OwnKid W (w.heap.size + bs.length) (.slice EK nk dK) kds ∧ ∀ k g, ((Value.slice EI ni dI).ownBlock = some k ∨ (Value.slice EK nk dK).ownBlock = some k) → ((D 4 = true ∧ X 14 = ptr g) ∨ (D 5 = true ∧ X 15 = ptr g)) → k ≠ g
  o3 : D 3 = true → ∃ ER dr EQ dq, X 71 = .agg (VO ER dr EQ dq) ∧ ni ≤ dr ∧ nk ≤ dq
  a4 : D 4 = true → ∃ g cs, X 14 = ptr g ∧ w.heap.size + bs.length ≤ g ∧ cs.size = 7 ∧ Blk W g T cs ∧ (D 6 = true → X 69 = .agg cs)
  a5 : D 5 = true → ∃ g cs, X 15 = ptr g ∧ w.heap.size + bs.length ≤ g ∧ cs.size = 7 ∧ Blk W g T cs ∧ (D 7 = true → X 71 = .agg cs)
  ne : D 4 = true → D 5 = true → X 14 ≠ X 15
  d6 : D 6 = true → D 1 = true ∧ D 4 = true
  d7 : D 7 = true → D 3 = true ∧ D 5 = true

section
variable {w : World} {bs : List (TypeId × Array Value)} {V : Array Value} {VO : Option Addr → Nat → Option Addr → Nat → Array Value} {T : TypeId} {its : List Item} {kds : List Kid} {ni nk : Nat} {D : Nat → Bool} {X : Nat → Value} {W : World}
theorem SpJ.start (h : Fr w W bs) : SpJ w bs V VO T its kds ni nk (fun _ => false) X W :=
  ⟨h, by simp, by simp, by simp, by simp, by simp, by simp, by simp, by simp, by simp⟩
theorem SpJ.load0 (h : SpJ w bs V VO T its kds ni nk D X W) : SpJ w bs V VO T its kds ni nk (on1 D 0) (put1 X 68 (.agg V)) W := by
  refine ⟨h.fr, fun _ => put1_eq, ?_, ?_, ?_, ?_, ?_, ?_, ?_, ?_⟩ <;> simp only [on1_ne (show 1 ≠ 0 by decide), on1_ne (show 2 ≠ 0 by decide), on1_ne (show 3 ≠ 0 by decide), on1_ne (show 4 ≠ 0 by decide), on1_ne (show 5 ≠ 0 by decide), on1_ne (show 6 ≠ 0 by decide), on1_ne (show 7 ≠ 0 by decide), put1_ne (show 69 ≠ 68 by decide), put1_ne (show 70 ≠ 68 by decide), put1_ne (show 71 ≠ 68 by decide), put1_ne (show 14 ≠ 68 by decide), put1_ne (show 15 ≠ 68 by decide)]
  · exact h.l2
  · exact h.o1
  · exact h.o3
  · exact h.a4
  · exact h.a5
  · exact h.ne
  · exact h.d6
  · exact h.d7
theorem SpJ.load2 (h : SpJ w bs V VO T its kds ni nk D X W) : SpJ w bs V VO T its kds ni nk (on1 D 2) (put1 X 70 (.agg V)) W := by
  refine ⟨h.fr, ?_, fun _ => put1_eq, ?_, ?_, ?_, ?_, ?_, ?_, ?_⟩ <;> simp only [on1_ne (show 1 ≠ 2 by decide), on1_ne (show 0 ≠ 2 by decide), on1_ne (show 3 ≠ 2 by decide), on1_ne (show 4 ≠ 2 by decide), on1_ne (show 5 ≠ 2 by decide), on1_ne (show 6 ≠ 2 by decide), on1_ne (show 7 ≠ 2 by decide), put1_ne (show 68 ≠ 70 by decide), put1_ne (show 69 ≠ 70 by decide), put1_ne (show 71 ≠ 70 by decide), put1_ne (show 14 ≠ 70 by decide), put1_ne (show 15 ≠ 70 by decide)]
  · exact h.l0
  · exact h.o1
  · exact h.o3
  · exact h.a4
  · exact h.a5
  · exact h.ne
  · exact h.d6
  · exact h.d7
theorem SpJ.own1 (h : SpJ w bs V VO T its kds ni nk D X W) (hD : D 1 = false) {W' : World} (hb : Below W.heap.size W W') (EI : Option Addr) (dI : Nat) (EK : Option Addr) (dK : Nat) (hI : OwnItem W' W.heap.size (.slice EI ni dI) its) (hK : OwnKid W' W.heap.size (.slice EK nk dK) kds) :
    SpJ w bs V VO T its kds ni nk (on1 D 1) (put1 X 69 (.agg (VO EI dI EK dK))) W' := by
  have h6 : D 6 = false := by
    cases hq : D 6 with
    | false => rfl
    | true => have := (h.d6 hq).1; rw [hD] at this; cases this
  refine ⟨h.fr.on hb, ?_, ?_, fun _ => ⟨EI, dI, EK, dK, put1_eq, hI.mono h.fr.sz, hK.mono h.fr.sz, ?_⟩, ?_, ?_, ?_, ?_, ?_, ?_⟩ <;> simp only [on1_ne (show 2 ≠ 1 by decide), on1_ne (show 0 ≠ 1 by decide), on1_ne (show 3 ≠ 1 by decide), on1_ne (show 4 ≠ 1 by decide), on1_ne (show 5 ≠ 1 by decide), on1_ne (show 6 ≠ 1 by decide), on1_ne (show 7 ≠ 1 by decide), put1_ne (show 68 ≠ 69 by decide), put1_ne (show 70 ≠ 69 by decide), put1_ne (show 71 ≠ 69 by decide), put1_ne (show 14 ≠ 69 by decide), put1_ne (show 15 ≠ 69 by decide)]
  · exact h.l0
  · exact h.l2
  · intro k g hk hg e
    subst e
    have hkb : W.heap.size ≤ k := by
      rcases hk with hk | hk
      · exact (hI.block k hk).1
      · exact (hK.block k hk).1
    rcases hg with ⟨h4, hx⟩ | ⟨h5, hx⟩
    · obtain ⟨g, cs, e, _, _, hB, _⟩ := h.a4 h4
      rw [hx] at e
      have := hB.lt
      rw [← ptr_inj e] at this; omega
    · obtain ⟨g, cs, e, _, _, hB, _⟩ := h.a5 h5
      rw [hx] at e
      have := hB.lt
      rw [← ptr_inj e] at this; omega
  · exact h.o3
  · intro h4
    obtain ⟨g, cs, e, e2, e3, hB, _⟩ := h.a4 h4
    exact ⟨g, cs, e, e2, e3, hB.below hb hB.lt, fun e6 => by rw [h6] at e6; cases e6⟩
  · intro h5
    obtain ⟨g, cs, e, e2, e3, hB, e7⟩ := h.a5 h5
    exact ⟨g, cs, e, e2, e3, hB.below hb hB.lt, e7⟩
  · exact h.ne
  · intro e; rw [h6] at e; cases e
  · exact h.d7
theorem SpJ.own3 (h : SpJ w bs V VO T its kds ni nk D X W) (hD : D 3 = false) {W' : World} (hb : Below W.heap.size W W') (EI : Option Addr) (dI : Nat) (EK : Option Addr) (dK : Nat) (hI : ni ≤ dI) (hK : nk ≤ dK) :
    SpJ w bs V VO T its kds ni nk (on1 D 3) (put1 X 71 (.agg (VO EI dI EK dK))) W' := by
  have h7 : D 7 = false := by
    cases hq : D 7 with
    | false => rfl
    | true => have := (h.d7 hq).1; rw [hD] at this; cases this
  refine ⟨h.fr.on hb, ?_, ?_, ?_, fun _ => ⟨EI, dI, EK, dK, put1_eq, hI, hK⟩, ?_, ?_, ?_, ?_, ?_⟩ <;> simp only [on1_ne (show 2 ≠ 3 by decide), on1_ne (show 0 ≠ 3 by decide), on1_ne (show 1 ≠ 3 by decide), on1_ne (show 4 ≠ 3 by decide), on1_ne (show 5 ≠ 3 by decide), on1_ne (show 6 ≠ 3 by decide), on1_ne (show 7 ≠ 3 by decide), put1_ne (show 68 ≠ 71 by decide), put1_ne (show 70 ≠ 71 by decide), put1_ne (show 69 ≠ 71 by decide), put1_ne (show 14 ≠ 71 by decide), put1_ne (show 15 ≠ 71 by decide)]
  · exact h.l0
  · exact h.l2
  · intro h1
    obtain ⟨EI, dI, EK, dK, e, hI, hK, hap⟩ := h.o1 h1
    exact ⟨EI, dI, EK, dK, e, hI.on hb, hK.on hb, hap⟩
  · intro h4
    obtain ⟨g, cs, e, e2, e3, hB, e6⟩ := h.a4 h4
    exact ⟨g, cs, e, e2, e3, hB.below hb hB.lt, e6⟩
  · intro h5
    obtain ⟨g, cs, e, e2, e3, hB, _⟩ := h.a5 h5
    exact ⟨g, cs, e, e2, e3, hB.below hb hB.lt, fun e6 => by rw [h7] at e6; cases e6⟩
  · exact h.ne
  · exact h.d6
  · intro e; rw [h7] at e; cases e
theorem SpJ.alloc4 (h : SpJ w bs V VO T its kds ni nk D X W) (hD : D 4 = false) (Z : Array Value) (hZ : Z.size = 7) : SpJ w bs V VO T its kds ni nk (on1 D 4) (put1 X 14 (ptr W.heap.size)) (W.alloc (.cells Z T)) := by
  have h6 : D 6 = false := by
    cases hq : D 6 with
    | false => rfl
    | true => have := (h.d6 hq).2; rw [hD] at this; cases this
  have hb : Below W.heap.size W (W.alloc (.cells Z T)) := (Below.refl _ _).alloc (Nat.le_refl _) _
  refine ⟨h.fr.on hb, ?_, ?_, ?_, ?_, fun _ => ⟨W.heap.size, Z, put1_eq, h.fr.sz, hZ, Blk.new _ _ _, ?_⟩, ?_, ?_, ?_, ?_⟩ <;> simp only [on1_ne (show 2 ≠ 4 by decide), on1_ne (show 0 ≠ 4 by decide), on1_ne (show 1 ≠ 4 by decide), on1_ne (show 3 ≠ 4 by decide), on1_ne (show 5 ≠ 4 by decide), on1_ne (show 6 ≠ 4 by decide), on1_ne (show 7 ≠ 4 by decide), put1_ne (show 68 ≠ 14 by decide), put1_ne (show 70 ≠ 14 by decide), put1_ne (show 69 ≠ 14 by decide), put1_ne (show 71 ≠ 14 by decide), put1_ne (show 15 ≠ 14 by decide), put1_eq, on1_eq]
  · exact h.l0
  · exact h.l2
  · intro h1
    obtain ⟨EI, dI, EK, dK, e, hI, hK, hap⟩ := h.o1 h1
    refine ⟨EI, dI, EK, dK, e, hI.on hb, hK.on hb, fun k g hk hg => ?_⟩
    rcases hg with ⟨_, hx⟩ | hg
    · have := ptr_inj hx
      have h2 : k < W.heap.size := by
        rcases hk with hk | hk
        · exact (hI.block k hk).2
        · exact (hK.block k hk).2
      omega
    · exact hap k g hk (.inr hg)
  · exact h.o3
  · intro e; rw [h6] at e; cases e
  · intro h5
    obtain ⟨g, cs, e, e2, e3, hB, e7⟩ := h.a5 h5
    exact ⟨g, cs, e, e2, e3, hB.below hb hB.lt, e7⟩
  · intro _ h5 e
    obtain ⟨g, cs, e2, _, _, hB, _⟩ := h.a5 h5
    rw [e2] at e
    have := hB.lt
    have := ptr_inj e
    omega
  · intro e; rw [h6] at e; cases e
  · exact h.d7
theorem SpJ.alloc5 (h : SpJ w bs V VO T its kds ni nk D X W) (hD : D 5 = false) (Z : Array Value) (hZ : Z.size = 7) : SpJ w bs V VO T its kds ni nk (on1 D 5) (put1 X 15 (ptr W.heap.size)) (W.alloc (.cells Z T)) := by
  have h7 : D 7 = false := by
    cases hq : D 7 with
    | false => rfl
    | true => have := (h.d7 hq).2; rw [hD] at this; cases this
  have hb : Below W.heap.size W (W.alloc (.cells Z T)) := (Below.refl _ _).alloc (Nat.le_refl _) _
  refine ⟨h.fr.on hb, ?_, ?_, ?_, ?_, ?_, fun _ => ⟨W.heap.size, Z, put1_eq, h.fr.sz, hZ, Blk.new _ _ _, ?_⟩, ?_, ?_, ?_⟩ <;> simp only [on1_ne (show 2 ≠ 5 by decide), on1_ne (show 0 ≠ 5 by decide), on1_ne (show 1 ≠ 5 by decide), on1_ne (show 3 ≠ 5 by decide), on1_ne (show 4 ≠ 5 by decide), on1_ne (show 6 ≠ 5 by decide), on1_ne (show 7 ≠ 5 by decide), put1_ne (show 68 ≠ 15 by decide), put1_ne (show 70 ≠ 15 by decide), put1_ne (show 69 ≠ 15 by decide), put1_ne (show 71 ≠ 15 by decide), put1_ne (show 14 ≠ 15 by decide), put1_eq, on1_eq]
  · exact h.l0
  · exact h.l2
  · intro h1
    obtain ⟨EI, dI, EK, dK, e, hI, hK, hap⟩ := h.o1 h1
    refine ⟨EI, dI, EK, dK, e, hI.on hb, hK.on hb, fun k g hk hg => ?_⟩
    rcases hg with hg | ⟨_, hx⟩
    · exact hap k g hk (.inl hg)
    · have := ptr_inj hx
      have h2 : k < W.heap.size := by
        rcases hk with hk | hk
        · exact (hI.block k hk).2
        · exact (hK.block k hk).2
      omega
  · exact h.o3
  · intro h4
    obtain ⟨g, cs, e, e2, e3, hB, e7⟩ := h.a4 h4
    exact ⟨g, cs, e, e2, e3, hB.below hb hB.lt, e7⟩
  · intro e; rw [h7] at e; cases e
  · intro h4 _ e
    obtain ⟨g, cs, e2, _, _, hB, _⟩ := h.a4 h4
    rw [e2] at e
    have := hB.lt
    have := ptr_inj e
    omega
  · exact h.d6
  · intro e; rw [h7] at e; cases e
theorem SpJ.turn (h : SpJ w bs V VO T its kds ni nk D X W) {W' : World} {g : Nat} (hg : w.heap.size + bs.length ≤ g) (hl : g < W.heap.size) (hT : Turned W W' g) : Fr w W' bs :=
  h.fr.on' (B := w.heap.size + bs.length) (hT.below (Below.refl _ _) hg (by omega)) (Nat.le_refl _) h.fr.sz
theorem SpJ.store6 (h : SpJ w bs V VO T its kds ni nk D X W) (h1 : D 1 = true) (h4 : D 4 = true) {W' : World} {g : Nat} {cs : Array Value} (hx : X 14 = ptr g) (hv : X 69 = .agg cs) (hcs : cs.size = 7) (hT : Turned W W' g) (hB' : Blk W' g T cs) : SpJ w bs V VO T its kds ni nk (on1 D 6) X W' := by
  obtain ⟨g', cs', e, e2, e3, hB, e7⟩ := h.a4 h4
  have hgg : g' = g := ptr_inj (e.symm.trans hx)
  subst hgg
  refine ⟨h.turn e2 hB.lt hT, ?_, ?_, ?_, ?_, fun _ => ⟨g', cs, hx, e2, hcs, hB', fun _ => hv⟩, ?_, ?_, ?_, ?_⟩ <;> simp only [on1_ne (show 2 ≠ 6 by decide), on1_ne (show 0 ≠ 6 by decide), on1_ne (show 1 ≠ 6 by decide), on1_ne (show 3 ≠ 6 by decide), on1_ne (show 4 ≠ 6 by decide), on1_ne (show 5 ≠ 6 by decide), on1_ne (show 7 ≠ 6 by decide), on1_eq]
  · exact h.l0
  · exact h.l2
  · intro _
    obtain ⟨EI, dI, EK, dK, e, hI, hK, hap⟩ := h.o1 h1
    exact ⟨EI, dI, EK, dK, e, hI.keep (fun k hk => hT.other (hap k g' (.inl hk) (.inl ⟨h4, hx⟩))), hK.keep (fun k hk => hT.other (hap k g' (.inr hk) (.inl ⟨h4, hx⟩))), hap⟩
  · exact h.o3
  · intro h5
    obtain ⟨g5, cs5, e5, e25, e35, hB5, e75⟩ := h.a5 h5
    exact ⟨g5, cs5, e5, e25, e35, hT.blk hB5 (fun eq => h.ne h4 h5 (by rw [hx, e5, eq])), e75⟩
  · exact h.ne
  · exact fun _ => ⟨h1, h4⟩
  · exact h.d7
theorem SpJ.store7 (h : SpJ w bs V VO T its kds ni nk D X W) (h3 : D 3 = true) (h5 : D 5 = true) {W' : World} {g : Nat} {cs : Array Value} (hx : X 15 = ptr g) (hv : X 71 = .agg cs) (hcs : cs.size = 7) (hT : Turned W W' g) (hB' : Blk W' g T cs) : SpJ w bs V VO T its kds ni nk (on1 D 7) X W' := by
  obtain ⟨g', cs', e, e2, e3, hB, e7⟩ := h.a5 h5
  have hgg : g' = g := ptr_inj (e.symm.trans hx)
  subst hgg
  refine ⟨h.turn e2 hB.lt hT, ?_, ?_, ?_, ?_, ?_, fun _ => ⟨g', cs, hx, e2, hcs, hB', fun _ => hv⟩, ?_, ?_, ?_⟩ <;> simp only [on1_ne (show 2 ≠ 7 by decide), on1_ne (show 0 ≠ 7 by decide), on1_ne (show 1 ≠ 7 by decide), on1_ne (show 3 ≠ 7 by decide), on1_ne (show 4 ≠ 7 by decide), on1_ne (show 5 ≠ 7 by decide), on1_ne (show 6 ≠ 7 by decide), on1_eq]
  · exact h.l0
  · exact h.l2
  · intro h1
    obtain ⟨EI, dI, EK, dK, e, hI, hK, hap⟩ := h.o1 h1
    exact ⟨EI, dI, EK, dK, e, hI.keep (fun k hk => hT.other (hap k g' (.inl hk) (.inr ⟨h5, hx⟩))), hK.keep (fun k hk => hT.other (hap k g' (.inr hk) (.inr ⟨h5, hx⟩))), hap⟩
  · exact h.o3
  · intro h4
    obtain ⟨g4, cs4, e4, e24, e34, hB4, e64⟩ := h.a4 h4
    exact ⟨g4, cs4, e4, e24, e34, hT.blk hB4 (fun eq => h.ne h4 h5 (by rw [hx, e4, eq])), e64⟩
  · exact h.ne
  · exact h.d6
  · exact fun _ => ⟨h3, h5⟩
end

/-- Split's last region: two pages into the results -/
structure SpE (w W0 : World) (T : TypeId) (g1 g2 : Nat) (V1 V2 : Array Value) (D : Nat → Bool) (X : Nat → Value) (W : World) : Prop where
  be : Below w.heap.size w W
  l0 : D 0 = true → X 101 = .agg V1
  l1 : D 1 = true → X 102 = .agg V2
  b1 : Blk W g1 T V1
  b2 : Blk W g2 T V2
  r1 : ∃ a, a.size = 7 ∧ Blk W (w.heap.size + 1) T a ∧ (D 2 = true → a = V1)
  r2 : ∃ a, a.size = 7 ∧ Blk W (w.heap.size + 2) T a ∧ (D 3 = true → a = V2)
  d2 : D 2 = true → D 0 = true
  d3 : D 3 = true → D 1 = true
  e : D 4 = true → X 8 = .int .i64 0
  keep : ∀ k, w.heap.size + 3 ≤ k → W.heap[k]? = W0.heap[k]?
  sz : W.heap.size = W0.heap.size
section
variable {w W0 : World} {T : TypeId} {g1 g2 : Nat} {V1 V2 : Array Value} {D : Nat → Bool} {X : Nat → Value} {W : World}
theorem SpE.load0 (h : SpE w W0 T g1 g2 V1 V2 D X W) : SpE w W0 T g1 g2 V1 V2 (on1 D 0) (put1 X 101 (.agg V1)) W := by
  refine ⟨h.be, fun _ => put1_eq, ?_, h.b1, h.b2, ?_, ?_, ?_, ?_, ?_, h.keep, h.sz⟩ <;> simp only [on1_ne (show 1 ≠ 0 by decide), on1_ne (show 2 ≠ 0 by decide), on1_ne (show 3 ≠ 0 by decide), on1_ne (show 4 ≠ 0 by decide), put1_ne (show 102 ≠ 101 by decide), put1_ne (show 8 ≠ 101 by decide), on1_eq]
  · exact h.l1
  · exact h.r1
  · exact h.r2
  · exact fun _ => trivial
  · exact h.d3
  · exact h.e
theorem SpE.load1 (h : SpE w W0 T g1 g2 V1 V2 D X W) : SpE w W0 T g1 g2 V1 V2 (on1 D 1) (put1 X 102 (.agg V2)) W := by
  refine ⟨h.be, ?_, fun _ => put1_eq, h.b1, h.b2, ?_, ?_, ?_, ?_, ?_, h.keep, h.sz⟩ <;> simp only [on1_ne (show 0 ≠ 1 by decide), on1_ne (show 2 ≠ 1 by decide), on1_ne (show 3 ≠ 1 by decide), on1_ne (show 4 ≠ 1 by decide), put1_ne (show 101 ≠ 102 by decide), put1_ne (show 8 ≠ 102 by decide), on1_eq]
  · exact h.l0
  · exact h.r1
  · exact h.r2
  · exact h.d2
  · exact fun _ => trivial
  · exact h.e
theorem SpE.assign (h : SpE w W0 T g1 g2 V1 V2 D X W) : SpE w W0 T g1 g2 V1 V2 (on1 D 4) (put1 X 8 (.int .i64 0)) W := by
  refine ⟨h.be, ?_, ?_, h.b1, h.b2, ?_, ?_, ?_, ?_, fun _ => put1_eq, h.keep, h.sz⟩ <;> simp only [on1_ne (show 0 ≠ 4 by decide), on1_ne (show 2 ≠ 4 by decide), on1_ne (show 3 ≠ 4 by decide), on1_ne (show 1 ≠ 4 by decide), put1_ne (show 101 ≠ 8 by decide), put1_ne (show 102 ≠ 8 by decide)]
  · exact h.l0
  · exact h.l1
  · exact h.r1
  · exact h.r2
  · exact h.d2
  · exact h.d3
theorem SpE.store2 (h : SpE w W0 T g1 g2 V1 V2 D X W) (h0 : D 0 = true) (hg1 : w.heap.size + 3 ≤ g1) (hg2 : w.heap.size + 3 ≤ g2) (hV : V1.size = 7) {W' : World} (hT : Turned W W' (w.heap.size + 1)) (hB : Blk W' (w.heap.size + 1) T V1) : SpE w W0 T g1 g2 V1 V2 (on1 D 2) X W' := by
  refine ⟨hT.below h.be (by omega) h.be.size, ?_, ?_, hT.blk h.b1 (by omega), hT.blk h.b2 (by omega), ⟨V1, hV, hB, fun _ => rfl⟩, ?_, ?_, ?_, ?_, fun k hk => (hT.other (by omega)).trans (h.keep k hk), hT.sz.trans h.sz⟩ <;> simp only [on1_ne (show 0 ≠ 2 by decide), on1_ne (show 1 ≠ 2 by decide), on1_ne (show 3 ≠ 2 by decide), on1_ne (show 4 ≠ 2 by decide)]
  · exact h.l0
  · exact h.l1
  · obtain ⟨a, h1, h2, h3⟩ := h.r2
    exact ⟨a, h1, hT.blk h2 (by omega), h3⟩
  · exact fun _ => h0
  · exact h.d3
  · exact h.e
theorem SpE.store3 (h : SpE w W0 T g1 g2 V1 V2 D X W) (h1 : D 1 = true) (hg1 : w.heap.size + 3 ≤ g1) (hg2 : w.heap.size + 3 ≤ g2) (hV : V2.size = 7) {W' : World} (hT : Turned W W' (w.heap.size + 2)) (hB : Blk W' (w.heap.size + 2) T V2) : SpE w W0 T g1 g2 V1 V2 (on1 D 3) X W' := by
  refine ⟨hT.below h.be (by omega) h.be.size, ?_, ?_, hT.blk h.b1 (by omega), hT.blk h.b2 (by omega), ?_, ⟨V2, hV, hB, fun _ => rfl⟩, ?_, ?_, ?_, fun k hk => (hT.other (by omega)).trans (h.keep k hk), hT.sz.trans h.sz⟩ <;> simp only [on1_ne (show 0 ≠ 3 by decide), on1_ne (show 1 ≠ 3 by decide), on1_ne (show 2 ≠ 3 by decide), on1_ne (show 4 ≠ 3 by decide)]
  · exact h.l0
  · exact h.l1
  · obtain ⟨a, h1, h2, h3⟩ := h.r1
    exact ⟨a, h1, hT.blk h2 (by omega), h3⟩
  · exact h.d2
  · exact fun _ => h1
  · exact h.e
end
theorem OwnItem.far {W : World} {b g i : Nat} {v : Value} {l : List Item} (h : OwnItem W b v l) (hne : ∀ k, v.ownBlock = some k → k ≠ g) (u : Value) : OwnItem (W.setCell ⟨g, i, none⟩ u) b v l :=
  h.keep fun k hk => Below.heap_setCell W ⟨g, i, none⟩ u k (hne k hk)
theorem OwnItem.takeRd {W : World} {b n d i : Nat} {E : Option Addr} {l : List Item} (h : OwnItem W b (.slice E n d) l) : Rd Item.cells 4 W b W.heap.size E (l.take i) := by
  obtain ⟨A, c, e, _, hr⟩ := h.form
  injection e with e1 e2 e3
  subst e1
  intro hn
  obtain ⟨ad, e, h1, h2, h3⟩ := hr (fun e => hn (by rw [e]; simp))
  refine ⟨ad, e, h1, h2, fun j x hx => h3 j x ?_⟩
  rw [List.getElem?_take] at hx
  split at hx
  · exact hx
  · cases hx
theorem OwnKid.far {W : World} {b g i : Nat} {v : Value} {l : List Kid} (h : OwnKid W b v l) (hne : ∀ k, v.ownBlock = some k → k ≠ g) (u : Value) : OwnKid (W.setCell ⟨g, i, none⟩ u) b v l :=
  h.keep fun k hk => Below.heap_setCell W ⟨g, i, none⟩ u k (hne k hk)
theorem OwnKid.takeRd {W : World} {b n d i : Nat} {E : Option Addr} {l : List Kid} (h : OwnKid W b (.slice E n d) l) : Rd Kid.cells 2 W b W.heap.size E (l.take i) := by
  obtain ⟨A, c, e, _, hr⟩ := h.form
  injection e with e1 e2 e3
  subst e1
  intro hn
  obtain ⟨ad, e, h1, h2, h3⟩ := hr (fun e => hn (by rw [e]; simp))
  refine ⟨ad, e, h1, h2, fun j x hx => h3 j x ?_⟩
  rw [List.getElem?_take] at hx
  split at hx
  · exact hx
  · cases hx

/-! ### one operation of a drawn region -/
section
variable {P : Program} {o : Oper} {a : Act} {w : World} {K : Act → World → Prop} {Q : Exit → Act → World → Prop}
theorem wp1_load_row {l : Oper} (hl : l = o) (ty : TypeId) (p : Operand) (ho : l.op = .load ty p) {d1 : Option Tmp} (hd1 : l.dst = d1) (g : Nat) (hp : a.eval p = .pointer (some ⟨g, 0, none⟩)) (t : TypeId) (cs : Array Value) (d : TypeDesc) (hg : Blk w g t cs)
    (hu : P.underlying ty = some d) (hd : (match d with | .struct _ | .array _ _ => true | _ => false) = true) (hi : (P.info? ty).map (·.size) = some cs.size) (h : K (a.put d1 (.agg cs)) w) : o.wp P a w K Q := by
  subst hl hd1
  unfold Oper.wp execOp
  simp only [ho, hp, Instr.loadAt, Instr.sureAddr, Sem.run_bind, Sem.run_pure, Result.andThen_ok, run_loadVar_row w g t ty cs _ d hg hu hd hi]
  exact h
theorem wp1_store_row {l : Oper} (hl : l = o) (ty : TypeId) (p x : Operand) (ho : l.op = .store ty p x) (hd : l.dst = none)
    (g : Nat) (hp : a.eval p = .pointer (some ⟨g, 0, none⟩)) (t : TypeId) (cs cur : Array Value) (hx : a.eval x = .agg cs) (hg : Blk w g t cur) (hs : cs.size = cur.size) (hi : (P.info? ty).map (·.size) = some cs.size) (h1 : ∀ v ∈ cs.toList, v.oneCell' = true)
    (h : ∀ w', Turned w w' g → Blk w' g t cs → K a w') : o.wp P a w K Q := by
  subst hl
  have hT : Turned w (w.setRow g cs) g := ⟨⟨rfl, rfl, rfl, by simp, fun k _ hk => setRow_other w g k cs (fun e => hk (by rw [e]))⟩, by simp⟩
  have hB : Blk (w.setRow g cs) g t cs := setRow_heap w g cur cs t _ hg
  unfold Oper.wp execOp
  simp only [ho, hp, hx, Instr.storeAt, Instr.sureAddr, Sem.run_bind, Sem.run_pure, Result.andThen_ok, run_storeVar_row w g ty t cs cur hg hs hi h1]
  have := h (w.setRow g cs) hT hB
  simpa [hd, Act.put, Oper.upon] using this
theorem wp1_call {l : Oper} (hl : l = o) (f : FuncId) (args : Array Operand) (ts : Array TypeId) {d1 : Option Tmp} (hd1 : l.dst = d1) (ho : l.op = .call { callee := .value (.func f), args := args, argTypes := ts }) (vs : Array Value) (hv : args.map a.eval = vs) {fn : Func} {c : Code} (hf : P.funcs[f]? = some fn) (hname : (fn.name == "runtime.NumGoroutine") = false) (hb : fn.body = some c)
    {R : Ending → World → Prop} (hc : Calls P f vs w R) (h : ∀ e w', R e w' → ∃ v, e = .returned v ∧ K (a.put d1 v) w') : o.wp P a w K Q := by
  subst hl hd1
  subst hv
  have h1 : fn.name ≠ "runtime.NumGoroutine" := by simpa using hname
  have hE : ∀ args, (callFunc f args).run P w = .ok (.enter f args) w := fun args => by simp [callFunc, hf, h1, hb]
  have hr : (execOp a.eval l).run P w = .ok (.enter f (args.map a.eval)) w := by
    unfold execOp
    simp [ho, resolve, invoke, Act.eval, Deferred.ofValue, hE]
  unfold Oper.wp
  rw [hr, Oper.upon_enter]
  refine hc.mono ?_
  intro e w' he
  obtain ⟨v, rfl, hk⟩ := h e w' he
  exact hk
theorem wp1_run {l : Oper} (hl : l = o) {v : Value} {w' : World} {d1 : Option Tmp} (hd1 : l.dst = d1) (hr : (execOp a.eval l).run P w = .ok (.value v) w') (h : K (a.put d1 v) w') : o.wp P a w K Q := by
  subst hl hd1
  unfold Oper.wp
  rw [hr]
  exact h
end
section
variable {P : Program} {o : Oper} {a : Act} {w : World} {K : Act → World → Prop} {Q : Exit → Act → World → Prop}
theorem wp1_assign {l : Oper} (hl : l = o) (x : Operand) (ho : l.op = .assign x) {d1 : Option Tmp} (hd1 : l.dst = d1) {v : Value} (hv : a.eval x = v) (h : K (a.put d1 v) w) : o.wp P a w K Q := by
  subst hl hd1 hv
  refine wp1_run rfl rfl ?_ h
  unfold execOp
  simp [ho]
theorem wp1_extract {l : Oper} (hl : l = o) (x : Operand) (i : Nat) (ho : l.op = .extract x i) {d1 : Option Tmp} (hd1 : l.dst = d1) {vs : Array Value} (hv : a.eval x = .tuple vs) {v : Value} (hi : vs[i]? = some v) (h : K (a.put d1 v) w) : o.wp P a w K Q := by
  subst hl hd1
  refine wp1_run rfl rfl ?_ h
  unfold execOp
  simp [ho, hv, hi, Instr.extract]
theorem wp1_addr {l : Oper} (hl : l = o) (ty : TypeId) (x : Operand) (i : Nat) (ho : l.op = .fieldAddr ty x i) {d1 : Option Tmp} (hd1 : l.dst = d1) {v r : Value} (hv : a.eval x = v) (hi : (Instr.fieldAt ty v i).run P w = .ok r w) (h : K (a.put d1 r) w) : o.wp P a w K Q := by
  subst hl hd1
  refine wp1_run rfl rfl ?_ h
  unfold execOp
  simp [ho, hv, hi, Result.andThen]
theorem wp1_load_cell {l : Oper} (hl : l = o) (ty : TypeId) (x : Operand) (ho : l.op = .load ty x) {d1 : Option Tmp} (hd1 : l.dst = d1) {ad : Addr} (hv : a.eval x = .pointer (some ad)) {v : Value} (hi : (loadVar ty ad).run P w = .ok v w) (h : K (a.put d1 v) w) : o.wp P a w K Q := by
  subst hl hd1
  refine wp1_run rfl rfl ?_ h
  unfold execOp
  simp [ho, hv, hi, Instr.loadAt, Instr.sureAddr, Result.andThen]
theorem wp1_store_cell {l : Oper} (hl : l = o) (ty : TypeId) (p x : Operand) (ho : l.op = .store ty p x) (hd : l.dst = none) {ad : Addr} (hp : a.eval p = .pointer (some ad)) {v : Value} (hv : a.eval x = v) {w' : World} (hi : (storeVar ty ad v).run P w = .ok () w') (h : K a w') : o.wp P a w K Q := by
  subst hl
  unfold Oper.wp execOp
  simp only [ho, hp, hv, Instr.storeAt, Instr.sureAddr, Sem.run_bind, Sem.run_pure, Result.andThen_ok, hi]
  simpa [hd, Act.put, Oper.upon] using h
theorem wp1_invoke {l : Oper} (hl : l = o) (r x : Operand) (m : String) (ts : Array TypeId) {d1 : Option Tmp} (hd1 : l.dst = d1) (ho : l.op = .call { callee := .invoke r m, args := #[x], argTypes := ts }) (rv : Value) (hr : a.eval r = rv) (xv : Value) (hv : a.eval x = xv)
    (f : FuncId) (as2 : Array Value) (hm : (callMethod rv m #[xv]).run P w = .ok (.enter f as2) w)
    {R : Ending → World → Prop} (hc : Calls P f as2 w R) (h : ∀ e w', R e w' → ∃ v, e = .returned v ∧ K (a.put d1 v) w') : o.wp P a w K Q := by
  subst hl hd1 hr hv
  have hE : (execOp a.eval l).run P w = .ok (.enter f as2) w := by
    unfold execOp
    simp [ho, resolve, invoke, hm]
  unfold Oper.wp
  rw [hE, Oper.upon_enter]
  refine hc.mono ?_
  intro e w' he
  obtain ⟨v, rfl, hk⟩ := h e w' he
  exact hk
theorem wp1_build {l : Oper} (hl : l = o) (t n : Nat) (parts : Array (Nat × Operand)) (ho : l.op = .buildSlice t n parts) {d1 : Option Tmp} (hd1 : l.dst = d1) {vs : Array (Nat × Value)} (hv : parts.map (fun x => (x.1, a.eval x.2)) = vs) {v : Value} {w' : World} (hr : (Instr.buildSlice t n vs).run P w = .ok v w') (h : K (a.put d1 v) w') : o.wp P a w K Q := by
  subst hl hd1 hv
  refine wp1_run rfl rfl ?_ h
  unfold execOp
  simp [ho, hr, Result.andThen]
end
end Go.Proofs.YtjbdmaehomhdeaaGreat
