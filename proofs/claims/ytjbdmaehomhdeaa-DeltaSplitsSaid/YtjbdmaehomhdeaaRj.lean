/- A drawn region that calls once and lays what it gives into a new block: its invariant, for any such region. -/
import Derived.Test.YtjbdmaehomhdeaaSpJ
namespace Go.Proofs.Ytjbdmaehomhdeaa
open Go.RowKit

/-- a region's operations: those ahead of the call or beside it (index, slot, value); the call and those that hang on it, by the call's outcome r; the new block; its store -/
structure Rs (ρ : Type) where
  pre : List (Nat × Nat × Value)
  post : ρ → List (Nat × Nat × Value)
  ic : Nat
  ia : Nat
  sa : Nat
  st : Nat
  T : TypeId
  n : Nat
  V : ρ → Array Value
  R : ρ → Nat → Nat → World → Prop
def okSk (p k : List (Nat × Nat)) (ic ia sa st : Nat) : Bool :=
  decide ((p ++ k).map (·.1)).Nodup && (decide ((p ++ k).map (·.2)).Nodup && (decide (ic ∈ k.map (·.1)) && (decide (ia ∉ (p ++ k).map (·.1)) && (decide (st ∉ (p ++ k).map (·.1)) && (decide (sa ∉ (p ++ k).map (·.2)) && decide (ia ≠ st))))))
structure Rs.Ok {ρ : Type} (s : Rs ρ) : Prop where
  ex : ∃ p k, s.pre.map (fun e => (e.1, e.2.1)) = p ∧ (∀ r, (s.post r).map (fun e => (e.1, e.2.1)) = k) ∧ okSk p k s.ic s.ia s.sa s.st = true
  hR : ∀ r lo hi W W', s.R r lo hi W → (∀ b, lo ≤ b → b < hi → W'.heap[b]? = W.heap[b]?) → s.R r lo hi W'
theorem nodup_inj {α β : Type} {f : α → β} : ∀ {l : List α}, (l.map f).Nodup → ∀ {a b : α}, a ∈ l → b ∈ l → f a = f b → a = b
  | [], _, a, b, ha, _, _ => by cases ha
  | x :: l, h, a, b, ha, hb, e => by
    rw [List.map_cons, List.nodup_cons] at h
    rcases List.mem_cons.1 ha with h1 | h1
    · rcases List.mem_cons.1 hb with h2 | h2
      · rw [h1, h2]
      · exact absurd (List.mem_map.2 ⟨b, h2, by rw [← e, h1]⟩) h.1
    · rcases List.mem_cons.1 hb with h2 | h2
      · exact absurd (List.mem_map.2 ⟨a, h1, by rw [e, h2]⟩) h.1
      · exact nodup_inj h.2 h1 h2 e
section
variable {ρ : Type} {s : Rs ρ}
/-- any two of all operations with values are apart -/
theorem Rs.Ok.apart (ok : s.Ok) (r : ρ) {e f : Nat × Nat × Value} (he : e ∈ s.pre ++ s.post r) (hf : f ∈ s.pre ++ s.post r) (h : e.1 = f.1 ∨ e.2.1 = f.2.1) : e = f := by
  obtain ⟨p, k, hp, hk, ho⟩ := ok.ex
  unfold okSk at ho
  simp only [Bool.and_eq_true, decide_eq_true_eq] at ho
  obtain ⟨h1, h2, _⟩ := ho
  have e1 : p ++ k = (s.pre ++ s.post r).map (fun e => (e.1, e.2.1)) := by rw [List.map_append, hp, hk r]
  rw [e1, List.map_map] at h1 h2
  rcases h with h | h
  · exact nodup_inj h1 he hf h
  · exact nodup_inj h2 he hf h
theorem Rs.Ok.cross (ok : s.Ok) (r : ρ) {e f : Nat × Nat × Value} (he : e ∈ s.pre) (hf : f ∈ s.post r) : e.1 ≠ f.1 ∧ e.2.1 ≠ f.2.1 := by
  obtain ⟨p, k, hp, hk, ho⟩ := ok.ex
  unfold okSk at ho
  simp only [Bool.and_eq_true, decide_eq_true_eq] at ho
  obtain ⟨h1, h2, _⟩ := ho
  rw [← hp, ← hk r, List.map_append, List.map_map, List.map_map] at h1 h2
  exact ⟨(List.nodup_append.1 h1).2.2 _ (List.mem_map.2 ⟨e, he, rfl⟩) _ (List.mem_map.2 ⟨f, hf, rfl⟩), (List.nodup_append.1 h2).2.2 _ (List.mem_map.2 ⟨e, he, rfl⟩) _ (List.mem_map.2 ⟨f, hf, rfl⟩)⟩
theorem Rs.Ok.off (ok : s.Ok) (r : ρ) {e : Nat × Nat × Value} (he : e ∈ s.pre ++ s.post r) : e.1 ≠ s.ia ∧ e.1 ≠ s.st ∧ e.2.1 ≠ s.sa := by
  obtain ⟨p, k, hp, hk, ho⟩ := ok.ex
  unfold okSk at ho
  simp only [Bool.and_eq_true, decide_eq_true_eq] at ho
  obtain ⟨_, _, _, h4, h5, h6, _⟩ := ho
  have e1 : p ++ k = (s.pre ++ s.post r).map (fun e => (e.1, e.2.1)) := by rw [List.map_append, hp, hk r]
  rw [e1, List.map_map] at h4 h5 h6
  exact ⟨fun h => h4 (List.mem_map.2 ⟨e, he, h⟩), fun h => h5 (List.mem_map.2 ⟨e, he, h⟩), fun h => h6 (List.mem_map.2 ⟨e, he, h⟩)⟩
theorem Rs.Ok.ne (ok : s.Ok) : s.ia ≠ s.st ∧ (∀ r : ρ, s.ic ≠ s.ia ∧ s.ic ≠ s.st ∧ ∃ e ∈ s.post r, e.1 = s.ic) := by
  obtain ⟨p, k, hp, hk, ho⟩ := ok.ex
  unfold okSk at ho
  simp only [Bool.and_eq_true, decide_eq_true_eq] at ho
  obtain ⟨_, _, h3, h4, h5, _, h7⟩ := ho
  refine ⟨h7, fun r => ?_⟩
  obtain ⟨x, hx, e⟩ := List.mem_map.1 h3
  rw [← hk r] at hx
  obtain ⟨y, hy, rfl⟩ := List.mem_map.1 hx
  obtain ⟨a, b, _⟩ := ok.off r (List.mem_append.2 (.inr hy))
  refine ⟨fun h => a (e.trans h), fun h => b (e.trans h), y, hy, e⟩

structure RJ (s : Rs ρ) (base : Nat) (w0 : World) (cons : List (Nat × TypeId × Array Value)) (D : Nat → Bool) (X : Nat → Value) (W : World) : Prop where
  hb : base ≤ w0.heap.size
  be : Below base w0 W
  sz : w0.heap.size ≤ W.heap.size
  cs : ∀ e ∈ cons, e.1 < w0.heap.size ∧ Blk W e.1 e.2.1 e.2.2
  vs : ∀ e ∈ s.pre, D e.1 = true → X e.2.1 = e.2.2
  dp : ∀ r, ∀ e ∈ s.post r, D e.1 = true → D s.ic = true
  ds : D s.st = true → D s.ic = true ∧ D s.ia = true
  al : D s.ia = true → ∃ g cs, X s.sa = .pointer (some ⟨g, 0, none⟩) ∧ w0.heap.size ≤ g ∧ cs.size = s.n ∧ Blk W g s.T cs
  ca : D s.ic = true → ∃ r lo hi, w0.heap.size ≤ lo ∧ hi ≤ W.heap.size ∧ s.R r lo hi W ∧ (∀ e ∈ s.post r, D e.1 = true → X e.2.1 = e.2.2) ∧
    (D s.ia = true → ∃ g, X s.sa = .pointer (some ⟨g, 0, none⟩) ∧ (g < lo ∨ hi ≤ g)) ∧ (D s.st = true → ∃ g, X s.sa = .pointer (some ⟨g, 0, none⟩) ∧ Blk W g s.T (s.V r))
variable {base : Nat} {w0 : World} {cons : List (Nat × TypeId × Array Value)} {D : Nat → Bool} {X : Nat → Value} {W W' : World}
theorem on1_or {D : Nat → Bool} {i j : Nat} (h : on1 D i j = true) : j = i ∨ D j = true := by
  unfold on1 at h
  simp only [Bool.or_eq_true, beq_iff_eq] at h
  exact h.symm
theorem on1_up {D : Nat → Bool} {i j : Nat} (h : D j = true) : on1 D i j = true := by
  unfold on1; rw [h]; rfl
theorem on1_not {D : Nat → Bool} {i j : Nat} (h : on1 D i j = true) (hn : j ≠ i) : D j = true := (on1_or h).resolve_left hn
theorem RJ.pre1 (h : RJ s base w0 cons D X W) (ok : s.Ok) (r0 : ρ) {i t : Nat} {v : Value} (hm : (i, t, v) ∈ s.pre) : RJ s base w0 cons (on1 D i) (put1 X t v) W := by
  have hmr : ∀ r, (i, t, v) ∈ s.pre ++ s.post r := fun r => List.mem_append.2 (.inl hm)
  obtain ⟨o1, o2, o3⟩ := ok.off r0 (hmr r0)
  have hic : s.ic ≠ i := by
    obtain ⟨_, _, e, he, e1⟩ := ok.ne.2 r0
    have := (ok.cross r0 hm he).1
    rw [e1] at this
    exact fun hc => this hc.symm
  refine ⟨h.hb, h.be, h.sz, h.cs, fun e he hd => ?_, fun r e he hd => ?_, fun hd => ?_, fun hd => ?_, fun hd => ?_⟩
  · by_cases hi : e.1 = i
    · have := ok.apart r0 (List.mem_append.2 (.inl he)) (hmr r0) (.inl hi)
      subst this
      exact put1_eq
    · have hne : e.2.1 ≠ t := fun hc => hi (by rw [ok.apart r0 (List.mem_append.2 (.inl he)) (hmr r0) (.inr hc)])
      rw [put1_ne hne]
      exact h.vs e he (on1_not hd hi)
  · exact on1_up (h.dp r e he (on1_not hd (fun hc => (ok.cross r hm he).1 hc.symm)))
  · obtain ⟨a, b⟩ := h.ds (on1_not hd (fun hc => o2 hc.symm))
    exact ⟨on1_up a, on1_up b⟩
  · obtain ⟨g, cs, a, b⟩ := h.al (on1_not hd (fun hc => o1 hc.symm))
    exact ⟨g, cs, by rw [put1_ne (fun hc => o3 hc.symm)]; exact a, b⟩
  · obtain ⟨r, lo, hi, a, b, c, d, e, f⟩ := h.ca (on1_not hd hic)
    refine ⟨r, lo, hi, a, b, c, fun e he hd => ?_, fun hd => ?_, fun hd => ?_⟩
    · have hx := ok.cross r hm he
      rw [put1_ne (fun hc => hx.2 hc.symm)]
      exact d e he (on1_not hd (fun hc => hx.1 hc.symm))
    · rw [put1_ne (fun hc => o3 hc.symm)]
      exact e (on1_not hd (fun hc => o1 hc.symm))
    · rw [put1_ne (fun hc => o3 hc.symm)]
      exact f (on1_not hd (fun hc => o2 hc.symm))
theorem RJ.post1 (h : RJ s base w0 cons D X W) (ok : s.Ok) (hic : D s.ic = true) : ∃ r, (∀ e ∈ s.post r, D e.1 = true → X e.2.1 = e.2.2) ∧ ∀ i t v, (i, t, v) ∈ s.post r → RJ s base w0 cons (on1 D i) (put1 X t v) W := by
  obtain ⟨r, lo, hi, a, b, c, d, e, f⟩ := h.ca hic
  refine ⟨r, d, fun i t v hm => ?_⟩
  have hmr : (i, t, v) ∈ s.pre ++ s.post r := List.mem_append.2 (.inr hm)
  obtain ⟨o1, o2, o3⟩ := ok.off r hmr
  refine ⟨h.hb, h.be, h.sz, h.cs, fun e he hd => ?_, fun r e he hd => on1_up hic, fun hd => ?_, fun hd => ?_, fun hd => ⟨r, lo, hi, a, b, c, fun e he hd => ?_, fun hd => ?_, fun hd => ?_⟩⟩
  · have hx := ok.cross r he hm
    rw [put1_ne hx.2]
    exact h.vs e he (on1_not hd hx.1)
  · obtain ⟨a, b⟩ := h.ds (on1_not hd (fun hc => o2 hc.symm))
    exact ⟨on1_up a, on1_up b⟩
  · obtain ⟨g, cs, a, b⟩ := h.al (on1_not hd (fun hc => o1 hc.symm))
    exact ⟨g, cs, by rw [put1_ne (fun hc => o3 hc.symm)]; exact a, b⟩
  · by_cases hi : e.1 = i
    · have := ok.apart r (List.mem_append.2 (.inr he)) hmr (.inl hi)
      subst this
      exact put1_eq
    · have hne : e.2.1 ≠ t := fun hc => hi (by rw [ok.apart r (List.mem_append.2 (.inr he)) hmr (.inr hc)])
      rw [put1_ne hne]
      exact d e he (on1_not hd hi)
  · rw [put1_ne (fun hc => o3 hc.symm)]
    exact e (on1_not hd (fun hc => o1 hc.symm))
  · rw [put1_ne (fun hc => o3 hc.symm)]
    exact f (on1_not hd (fun hc => o2 hc.symm))
theorem RJ.call1 (h : RJ s base w0 cons D X W) (ok : s.Ok) (hD : D s.ic = false) (hb : Below W.heap.size W W') (r : ρ) {t : Nat} {v : Value} (hm : (s.ic, t, v) ∈ s.post r) (hR : s.R r W.heap.size W'.heap.size W') : RJ s base w0 cons (on1 D s.ic) (put1 X t v) W' := by
  have hmr : (s.ic, t, v) ∈ s.pre ++ s.post r := List.mem_append.2 (.inr hm)
  obtain ⟨o1, o2, o3⟩ := ok.off r hmr
  have hst : D s.st = false := by
    cases hs : D s.st with
    | false => rfl
    | true => rw [(h.ds hs).1] at hD; cases hD
  have hst' : ¬ on1 D s.ic s.st = true := fun hc => by
    have := on1_not hc (fun e => o2 e.symm)
    rw [hst] at this; cases this
  refine ⟨h.hb, h.be.trans (hb.mono (Nat.le_trans h.hb h.sz)), Nat.le_trans h.sz hb.size, fun e he => ⟨(h.cs e he).1, (h.cs e he).2.below hb (h.cs e he).2.lt⟩, fun e he hd => ?_, fun r e he hd => on1_eq, fun hd => absurd hd hst', fun hd => ?_, fun hd => ⟨r, W.heap.size, W'.heap.size, h.sz, Nat.le_refl _, hR, fun e he hd => ?_, fun hd => ?_, fun hd => absurd hd hst'⟩⟩
  · have hx := ok.cross r he hm
    rw [put1_ne hx.2]
    exact h.vs e he (on1_not hd hx.1)
  · obtain ⟨g, cs, a, b, c, d⟩ := h.al (on1_not hd (fun hc => o1 hc.symm))
    exact ⟨g, cs, by rw [put1_ne (fun hc => o3 hc.symm)]; exact a, b, c, d.below hb d.lt⟩
  · by_cases hi : e.1 = s.ic
    · have := ok.apart r (List.mem_append.2 (.inr he)) hmr (.inl hi)
      subst this
      exact put1_eq
    · have := h.dp r e he (on1_not hd hi)
      rw [hD] at this; cases this
  · obtain ⟨g, cs, a, b, c, d⟩ := h.al (on1_not hd (fun hc => o1 hc.symm))
    exact ⟨g, by rw [put1_ne (fun hc => o3 hc.symm)]; exact a, .inl d.lt⟩
theorem RJ.alloc1 (h : RJ s base w0 cons D X W) (ok : s.Ok) (r0 : ρ) (hD : D s.ia = false) {cs0 : Array Value} (h0 : cs0.size = s.n) : RJ s base w0 cons (on1 D s.ia) (put1 X s.sa (.pointer (some ⟨W.heap.size, 0, none⟩))) (W.alloc (.cells cs0 s.T)) := by
  obtain ⟨n1, n2⟩ := ok.ne
  have hst : D s.st = false := by
    cases hs : D s.st with
    | false => rfl
    | true => rw [(h.ds hs).2] at hD; cases hD
  have hst' : ¬ on1 D s.ia s.st = true := fun hc => by
    have := on1_not hc (fun e => n1 e.symm)
    rw [hst] at this; cases this
  have hb : Below W.heap.size W (W.alloc (.cells cs0 s.T)) := (Below.refl _ _).alloc (Nat.le_refl _) _
  refine ⟨h.hb, h.be.alloc (Nat.le_trans h.hb h.sz) _, Nat.le_trans h.sz hb.size, fun e he => ⟨(h.cs e he).1, (h.cs e he).2.below hb (h.cs e he).2.lt⟩, fun e he hd => ?_, fun r e he hd => ?_, fun hd => absurd hd hst', fun hd => ?_, fun hd => ?_⟩
  · obtain ⟨o1, o2, o3⟩ := ok.off r0 (List.mem_append.2 (.inl he))
    rw [put1_ne o3]
    exact h.vs e he (on1_not hd o1)
  · obtain ⟨o1, o2, o3⟩ := ok.off r (List.mem_append.2 (.inr he))
    exact on1_up (h.dp r e he (on1_not hd o1))
  · exact ⟨W.heap.size, cs0, put1_eq, h.sz, h0, Blk.new _ _ _⟩
  · obtain ⟨r, lo, hi, a, b, c, d, e, f⟩ := h.ca (on1_not hd (n2 r0).1)
    refine ⟨r, lo, hi, a, Nat.le_trans b hb.size, ok.hR r lo hi _ _ c (fun k h1 h2 => hb.block k (by omega)), fun e he hd => ?_, fun hd => ⟨W.heap.size, put1_eq, .inr b⟩, fun hd => absurd hd hst'⟩
    obtain ⟨o1, o2, o3⟩ := ok.off r (List.mem_append.2 (.inr he))
    rw [put1_ne o3]
    exact d e he (on1_not hd o1)
theorem RJ.store1 (h : RJ s base w0 cons D X W) (ok : s.Ok) (hic : D s.ic = true) (hia : D s.ia = true) :
    ∃ r g cs, X s.sa = .pointer (some ⟨g, 0, none⟩) ∧ Blk W g s.T cs ∧ cs.size = s.n ∧ (∀ e ∈ s.post r, D e.1 = true → X e.2.1 = e.2.2) ∧ ∀ W', Turned W W' g → Blk W' g s.T (s.V r) → (s.V r).size = s.n → RJ s base w0 cons (on1 D s.st) X W' := by
  obtain ⟨r, lo, hi, a, b, c, d, e, f⟩ := h.ca hic
  obtain ⟨g, cs, a1, b1, c1, d1⟩ := h.al hia
  obtain ⟨g', a2, b2⟩ := e hia
  have hg : g' = g := by
    rw [a1] at a2
    cases a2; rfl
  subst hg
  obtain ⟨n1, n2⟩ := ok.ne
  refine ⟨r, g', cs, a1, d1, c1, d, fun W' hT hB hn => ⟨h.hb, hT.below h.be (Nat.le_trans h.hb b1) (Nat.le_trans h.hb h.sz), by rw [hT.sz]; exact h.sz, fun e he => ⟨(h.cs e he).1, hT.blk (h.cs e he).2 (by have := (h.cs e he).1; omega)⟩, fun e he hd => ?_, fun r e he hd => on1_up hic, fun hd => ⟨on1_up hic, on1_up hia⟩, fun hd => ⟨g', _, a1, b1, hn, hB⟩,
    fun hd => ⟨r, lo, hi, a, by rw [hT.sz]; exact b, ok.hR r lo hi _ _ c (fun k h1 h2 => hT.other (by omega)), fun e he hd => ?_, fun hd => ⟨g', a1, b2⟩, fun hd => ⟨g', a1, hB⟩⟩⟩⟩
  · exact h.vs e he (on1_not hd (ok.off r (List.mem_append.2 (.inl he))).2.1)
  · exact d e he (on1_not hd (ok.off r (List.mem_append.2 (.inr he))).2.1)
end
section
variable {P : Program} {o : Oper} {a : Act} {w : World} {K : Act → World → Prop} {Q : Exit → Act → World → Prop}
theorem wp1_alloc {l : Oper} (hl : l = o) (t : TypeId) (ho : l.op = .alloc t) {d1 : Option Tmp} (hd1 : l.dst = d1) {v : Value} {w' : World} (hr : (Instr.alloc t true (.tuple #[])).run P w = .ok v w') (h : K (a.put d1 v) w') : o.wp P a w K Q := by
  subst hl hd1
  refine wp1_run rfl rfl ?_ h
  unfold execOp
  simp [ho, hr, Result.andThen]
theorem wp1_move {l : Oper} (hl : l = o) (x : Operand) (ho : l.op = .move x) {d1 : Option Tmp} (hd1 : l.dst = d1) {v : Value} (hv : a.eval x = v) (h : K (a.put d1 v) w) : o.wp P a w K Q := by
  subst hl hd1 hv
  refine wp1_run rfl rfl ?_ h
  unfold execOp
  simp [ho]
theorem wp1_index {l : Oper} (hl : l = o) (ty : TypeId) (x ix : Operand) (ho : l.op = .indexAddr ty x ix) {d1 : Option Tmp} (hd1 : l.dst = d1) {v u r : Value} (hv : a.eval x = v) (hu : a.eval ix = u) (hi : (Instr.indexAt ty v u).run P w = .ok r w) (h : K (a.put d1 r) w) : o.wp P a w K Q := by
  subst hl hd1
  refine wp1_run rfl rfl ?_ h
  unfold execOp
  simp [ho, hv, hu, hi, Result.andThen]
end
end Go.Proofs.Ytjbdmaehomhdeaa
