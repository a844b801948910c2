/- Rows of nodes: one after the other in a block, appended to. -/
import Derived.Test.YtjbdmaehomhdeaaG15
import Derived.Test.YtjbdmaehomhdeaaZH
namespace Go.Proofs.Ytjbdmaehomhdeaa
open Go.RowKit

theorem info_node : (Try.prog.info? 43).map (fun i => (i.zero, i.size, i.bytes)) = some (some (.agg #[.bool false, .slice none 0 0]), 2, 32) := by kernel_rfl
/-- the slice value v owns these -/
def OwnNV (w : World) (base : Nat) (v : Value) (l : List NV) : Prop := w.ownsRow base 43 2 v l.length (l.flatMap NV.cells)
theorem NV.cells_length (l : List NV) : (l.flatMap NV.cells).length = l.length * 2 := by
  induction l with
  | nil => rfl
  | cons x r ih => simp only [List.flatMap_cons, List.length_append, ih, NV.cells, List.length_cons, List.length_nil]; omega
theorem OwnNV.nil (w : World) (base : Nat) : OwnNV w base (.slice none 0 0) [] := World.ownsRow_nil w base 43 2
theorem OwnNV.block {w : World} {base : Nat} {v : Value} {l : List NV} (h : OwnNV w base v l) : ∀ k, v.ownBlock = some k → base ≤ k ∧ k < w.heap.size := by
  rcases h.2 with ⟨rfl, _⟩ | ⟨g, cap, cur, rfl, hg, hh, _⟩
  · intro k hk; simp [Value.ownBlock] at hk
  · intro k hk
    simp [Value.ownBlock] at hk
    subst hk
    refine ⟨hg, ?_⟩
    rcases Nat.lt_or_ge g w.heap.size with hlt | hge
    · exact hlt
    · rw [Array.getElem?_eq_none hge] at hh; cases hh
theorem OwnNV.keep {w w' : World} {base : Nat} {v : Value} {l : List NV} (h : OwnNV w base v l) (hb : ∀ k, v.ownBlock = some k → w'.heap[k]? = w.heap[k]?) : OwnNV w' base v l := by
  refine ⟨h.1, ?_⟩
  rcases h.2 with hn | ⟨g, cap, cur, rfl, hg, hh, rest⟩
  · exact .inl hn
  · exact .inr ⟨g, cap, cur, rfl, hg, (hb g (by simp [Value.ownBlock])).trans hh, rest⟩
theorem OwnNV.form {w : World} {base : Nat} {v : Value} {l : List NV} (h : OwnNV w base v l) : ∃ A c, v = .slice A l.length c ∧ l.length ≤ c ∧ Rd NV.cells 2 w base w.heap.size A l := by
  have hlt := h.block
  have h0 := h
  rcases h.2 with ⟨rfl, hl⟩ | ⟨g, cap, cur, rfl, hg, hh, hn, hcm, hsz, htk⟩
  · have : l = [] := List.eq_nil_of_length_eq_zero hl
    subst this
    exact ⟨none, 0, rfl, Nat.le_refl _, Rd.nil⟩
  · refine ⟨_, _, rfl, hn, fun _ => ⟨_, rfl, hg, (hlt g (by simp [Value.ownBlock])).2, fun i x hx j u hu => ?_⟩⟩
    refine h0.cells (g := g) rfl (i * 2 + j) u ?_
    have hil : i < l.length := (List.getElem?_eq_some_iff.1 hx).1
    have hj : j < 2 := by
      rcases Nat.lt_or_ge j 2 with h | h
      · exact h
      · rw [List.getElem?_eq_none (by simp [NV.cells]; omega)] at hu; cases hu
    have hsplit : l.flatMap NV.cells = (l.take i).flatMap NV.cells ++ (x.cells ++ (l.drop (i + 1)).flatMap NV.cells) := by
      have h1 : l = l.take i ++ (x :: l.drop (i + 1)) := by
        have hx' : l[i] = x := by rw [List.getElem?_eq_getElem hil] at hx; exact Option.some.inj hx
        rw [← hx', ← List.drop_eq_getElem_cons hil, List.take_append_drop]
      conv => lhs; rw [h1]
      rw [List.flatMap_append, List.flatMap_cons]
    rw [hsplit, List.getElem?_append_right (by rw [NV.cells_length, List.length_take]; omega), NV.cells_length, List.length_take, Nat.min_eq_left (by omega), Nat.add_sub_cancel_left]
    rw [List.getElem?_append_left (by simp [NV.cells]; omega)]
    exact hu

theorem Rd.flatNV {w : World} {lo hi : Nat} {ad : Addr} {l : List NV} (h : Rd NV.cells 2 w lo hi (some ad) l) : ∀ j u, (l.flatMap NV.cells)[j]? = some u → w.cell? (ad.add j) = some u := by
  intro j u hu
  have hj : j < (l.flatMap NV.cells).length := (List.getElem?_eq_some_iff.1 hu).1
  rw [NV.cells_length] at hj
  obtain ⟨ad', e, _, _, hc⟩ := h (by intro e; subst e; simp at hj)
  obtain rfl := Option.some.inj e
  have hi : j / 2 < l.length := by omega
  have h1 : (l.flatMap NV.cells)[(j / 2) * 2 + j % 2]? = (l[j / 2].cells)[j % 2]? := by
    have hsplit : l.flatMap NV.cells = (l.take (j / 2)).flatMap NV.cells ++ (l[j / 2].cells ++ (l.drop (j / 2 + 1)).flatMap NV.cells) := by
      conv => lhs; rw [← List.take_append_drop (j / 2) l, List.drop_eq_getElem_cons hi]
      rw [List.flatMap_append, List.flatMap_cons]
    rw [hsplit, List.getElem?_append_right (by rw [NV.cells_length, List.length_take]; omega), NV.cells_length, List.length_take, Nat.min_eq_left (by omega), Nat.add_sub_cancel_left]
    rw [List.getElem?_append_left (by simp [NV.cells]; omega)]
  have h2 : (j / 2) * 2 + j % 2 = j := by omega
  rw [h2, hu] at h1
  have := hc (j / 2) _ (List.getElem?_eq_getElem hi) (j % 2) u h1.symm
  rwa [h2] at this
theorem NV.one (x : NV) : ∀ u ∈ x.cells, u.oneCell' = true := by
  intro u hu
  simp [NV.cells] at hu
  rcases hu with rfl | rfl | rfl | rfl <;> rfl
theorem NV.ones (l : List NV) : ∀ u ∈ l.flatMap NV.cells, u.oneCell' = true := by
  intro u hu
  obtain ⟨x, _, hx⟩ := List.mem_flatMap.1 hu
  exact NV.one x u hx
theorem OwnNV.mono {w : World} {b b' : Nat} {v : Value} {l : List NV} (h : OwnNV w b v l) (hb : b' ≤ b) : OwnNV w b' v l := by
  refine ⟨h.1, ?_⟩
  rcases h.2 with hn | ⟨g, cap, cur, rfl, hg, rest⟩
  · exact .inl hn
  · exact .inr ⟨g, cap, cur, rfl, Nat.le_trans hb hg, rest⟩
theorem OwnNV.below {w w' : World} {b B : Nat} {v : Value} {l : List NV} (h : OwnNV w b v l) (hb : Below B w w') (hB : w.heap.size ≤ B) : OwnNV w' b v l :=
  h.keep fun k hk => hb.block k (Nat.lt_of_lt_of_le (h.block k hk).2 hB)
theorem OwnNV.setLow {w : World} {b g i : Nat} {v : Value} {l : List NV} (h : OwnNV w b v l) (hg : g < b) (u : Value) : OwnNV (w.setCell ⟨g, i, none⟩ u) b v l :=
  h.keep fun k hk => Below.heap_setCell w ⟨g, i, none⟩ u k (by have := (h.block k hk).1; simp; omega)
/-- append(v, l...): elements out of a slice -/
theorem appNVs {ops : Array Oper} {rest : List Oper} {o : Oper} {a : Act} {Q : Exit → Act → World → Prop} (w : World) (hgd : o.guard = none) (s x : Operand)
    (ho : o.op = .call { callee := .builtin .append, args := #[s, x], argTypes := #[35, 35] })
    (base : Nat) (v : Value) (l m : List NV) (A : Option Addr) (c lo hi : Nat) (hs : a.eval s = v) (hown : OwnNV w base v l) (hx : a.eval x = .slice A m.length c) (hr : Rd NV.cells 2 w lo hi A m) (hlen : l.length + m.length ≤ 1000000) (hbase : base ≤ w.heap.size)
    (h : ∀ v' w', OwnNV w' base v' (l ++ m) → w.grownBy w' v.ownBlock → wpList Try.prog ops Q rest (a.put o.dst v') w') : wpList Try.prog ops Q (o :: rest) a w := by
  obtain ⟨i0, hi0, hz0, hz1, hz2⟩ := info_parts info_node
  refine wpList_plain hgd fun K hK => ?_
  have key : ∃ v' w', (Builtin.append_ #[35, 35] o.type #[v, .slice A m.length c]).run Try.prog w = .ok v' w' ∧ OwnNV w' base v' (l ++ m) ∧ w.grownBy w' v.ownBlock := by
    rcases A with _ | ad
    · have hm : m = [] := by
        rcases m with _ | ⟨b, r⟩
        · rfl
        · obtain ⟨ad, e, _⟩ := hr (by simp); cases e
      subst hm
      refine ⟨v, w, ?_, by simpa using hown, World.grownBy.refl _ _⟩
      rcases hown.2 with ⟨rfl, hl⟩ | ⟨g, cap, cur, rfl, _, _, hnc, _⟩
      · simp [Builtin.append_, run_underlying Try.underlying35, sizeOf, typeInfo, hi0, Builtin.lenOf, Builtin.firstCells]
      · simp [Builtin.append_, run_underlying Try.underlying35, sizeOf, typeInfo, hi0, Builtin.lenOf, Builtin.firstCells, hnc, storeCells]
    · obtain ⟨v', w', hrun, h2, h3, _, h5⟩ := run_append_own_at (P := Try.prog) w base 35 o.type 43 i0 _ 2 (16 * 2) Try.underlying35 hi0 hz0 hz1 hz2 rfl (by omega) v l.length (l.flatMap NV.cells) hown ad m.length c (m.flatMap NV.cells) (by rw [NV.cells_length])
        hr.flatNV (NV.ones m) (by simp only [maxLen]; omega) (by omega) hbase
      refine ⟨v', w', hrun, ?_, h3⟩
      unfold OwnNV
      rw [List.flatMap_append, List.length_append]
      exact h2
  obtain ⟨v', w', hrun, h2, h3⟩ := key
  unfold Oper.wp execOp
  simp only [ho, resolve, invoke, builtin, Sem.run_bind, Sem.run_pure, Result.andThen_ok, List.map_toArray, List.map_cons, List.map_nil, hs, hx, hrun]
  exact hK _ _ (h v' w' h2 h3)


theorem OwnNV.made {w : World} {base g : Nat} {l : List NV} {n : Nat} (hb : Blk w g 43 (l.flatMap NV.cells).toArray) (hn : n = l.length) (hg : base ≤ g) (hl : l.length ≤ 1000000) : OwnNV w base (.slice (some ⟨g, 0, none⟩) n n) l := by
  subst hn
  refine ⟨NV.cells_length l, .inr ⟨g, l.length, (l.flatMap NV.cells).toArray, rfl, hg, hb, Nat.le_refl _, by unfold maxLen; omega, ?_, ?_⟩⟩
  · simpa using NV.cells_length l
  · rw [← NV.cells_length]
    exact List.take_length
theorem Rd.drop_lo {α : Type} {f : α → List Value} {k : Nat} {w : World} {lo hi : Nat} {A : Option Addr} {l : List α} (h : Rd f k w lo hi A l) : Rd f k w 0 hi A l := h.mono (Nat.zero_le _) (Nat.le_refl _)
end Go.Proofs.Ytjbdmaehomhdeaa
