import Derived.Test.YtjbdmaehomhdeaaC1
namespace Go.Proofs.Ytjbdmaehomhdeaa
open Go.RowKit

/-- append(v, x) at a step of a region that draws its order: one more -/
theorem stepItem {ops : Array Oper} {o : Oper} {a : Act} {K : Act → World → Prop} {Q : Exit → Act → World → Prop} {E : Prop} (w : World) (hgd : o.guard = none) (s x : Operand)
    (ho : o.op = .call { callee := .builtin .append, args := #[s, x], argTypes := #[24, 24] })
    (base g0 : Nat) (v : Value) (l : List Item) (y : Item) (hs : a.eval s = v) (hown : OwnItem w base v l) (hx : a.eval x = .slice (some ⟨g0, 0, none⟩) 1 1) (hblk : Blk w g0 39 y.cells.toArray)
    (hlen : l.length ≤ 1000000) (hbase : base ≤ w.heap.size)
    (h : ∀ g cap w', OwnItem w' base (.slice (some ⟨g, 0, none⟩) (l.length + 1) cap) (l ++ [y]) → w.grownBy w' v.ownBlock → (v.ownBlock = some g ∨ w.heap.size ≤ g) → g < w'.heap.size → K (a.put o.dst (.slice (some ⟨g, 0, none⟩) (l.length + 1) cap)) w') :
    if Region.wanted o (yielded ops a.tmps) = true then Oper.wp Try.prog o a w K Q else E := by
  obtain ⟨i0, hi0, hz0, hz1, hz2⟩ := info_parts info_item
  refine step_append_lies _ hgd s x _ ho base 39 i0 _ 4 48 Try.underlying24 hi0 hz0 hz1 hz2 rfl (by omega) v l.length (l.flatMap Item.cells) hs hown ⟨g0, 0, none⟩ 1 1 y.cells hx rfl
    (World.news_of_block (cs := y.cells.toArray) (t := 39) (fr := (0, 0)) hblk) (by intro u hu; simp [Item.cells] at hu; rcases hu with rfl | rfl | rfl | rfl <;> rfl) (by omega) (by simp only [maxLen]; omega) (by omega) hbase w.heap.size rfl ?_
  intro g cap w' h2 h3 h4 h5
  refine h g cap w' ?_ h3 (h4.imp id (fun e => by omega)) h5
  unfold OwnItem
  rw [List.length_append, List.flatMap_append]
  simpa using h2

/-- append(v, x) at a step of a region that draws its order: one more -/
theorem stepKid {ops : Array Oper} {o : Oper} {a : Act} {K : Act → World → Prop} {Q : Exit → Act → World → Prop} {E : Prop} (w : World) (hgd : o.guard = none) (s x : Operand)
    (ho : o.op = .call { callee := .builtin .append, args := #[s, x], argTypes := #[25, 25] })
    (base g0 : Nat) (v : Value) (l : List Kid) (y : Kid) (hs : a.eval s = v) (hown : OwnKid w base v l) (hx : a.eval x = .slice (some ⟨g0, 0, none⟩) 1 1) (hblk : Blk w g0 60 y.cells.toArray)
    (hlen : l.length ≤ 1000000) (hbase : base ≤ w.heap.size)
    (h : ∀ g cap w', OwnKid w' base (.slice (some ⟨g, 0, none⟩) (l.length + 1) cap) (l ++ [y]) → w.grownBy w' v.ownBlock → (v.ownBlock = some g ∨ w.heap.size ≤ g) → g < w'.heap.size → K (a.put o.dst (.slice (some ⟨g, 0, none⟩) (l.length + 1) cap)) w') :
    if Region.wanted o (yielded ops a.tmps) = true then Oper.wp Try.prog o a w K Q else E := by
  obtain ⟨i0, hi0, hz0, hz1, hz2⟩ := info_parts info_kid
  refine step_append_lies _ hgd s x _ ho base 60 i0 _ 2 24 Try.underlying25 hi0 hz0 hz1 hz2 rfl (by omega) v l.length (l.flatMap Kid.cells) hs hown ⟨g0, 0, none⟩ 1 1 y.cells hx rfl
    (World.news_of_block (cs := y.cells.toArray) (t := 60) (fr := (0, 0)) hblk) (by intro u hu; simp [Kid.cells] at hu; rcases hu with rfl | rfl <;> rfl) (by omega) (by simp only [maxLen]; omega) (by omega) hbase w.heap.size rfl ?_
  intro g cap w' h2 h3 h4 h5
  refine h g cap w' ?_ h3 (h4.imp id (fun e => by omega)) h5
  unfold OwnKid
  rw [List.length_append, List.flatMap_append]
  simpa using h2

end Go.Proofs.Ytjbdmaehomhdeaa
