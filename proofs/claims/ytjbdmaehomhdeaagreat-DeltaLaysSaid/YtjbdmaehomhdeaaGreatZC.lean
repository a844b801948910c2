/- words and walks for this claim. -/
import Derived.Test.YtjbdmaehomhdeaaGreatZB
import Derived.Deep.RegionLaw
set_option linter.unusedSimpArgs false
set_option linter.unusedVariables false
namespace Go.Proofs.YtjbdmaehomhdeaaGreat
open Go.RowKit

/-! ### a page out of bytes -/
def itemAt (bs : List Nat) : Item × List Nat :=
  let r1 := bs.drop (1 + textN bs)
  let r2 := r1.drop 6
  let r3 := r2.drop 1
  (⟨textOf bs, textOf r3, leN (r1.take 6), ((leN (r2.take 1) : Nat) : Int) == 1⟩, r3.drop (1 + textN r3))
def kidAt (bs : List Nat) : Kid × List Nat :=
  let r1 := bs.drop (1 + textN bs)
  (⟨textOf bs, leN (r1.take 2)⟩, r1.drop 2)
def takeItems : Nat → List Nat → List Item × List Nat
  | 0, bs => ([], bs)
  | n + 1, bs => ((takeItems n bs).1 ++ [(itemAt (takeItems n bs).2).1], (itemAt (takeItems n bs).2).2)
def takeKids : Nat → List Nat → List Kid × List Nat
  | 0, bs => ([], bs)
  | n + 1, bs => ((takeKids n bs).1 ++ [(kidAt (takeKids n bs).2).1], (kidAt (takeKids n bs).2).2)
def rest1 (bs : List Nat) : List Nat := bs.drop 1
def rest2 (bs : List Nat) : List Nat := (rest1 bs).drop 1
def rest3 (bs : List Nat) : List Nat := (rest2 bs).drop (1 + textN (rest2 bs))
def rest4 (bs : List Nat) : List Nat := (rest3 bs).drop (1 + textN (rest3 bs))
def rest5 (bs : List Nat) : List Nat := (rest4 bs).drop 2
def rest6 (bs : List Nat) : List Nat := (rest5 bs).drop 1
def countN (bs : List Nat) : Nat := leN ((rest5 bs).take 1)
/-- what bytes say, right or not -/
def told (bs : List Nat) : Page :=
  { level := leN (bs.take 1), last := ((leN ((rest1 bs).take 1) : Nat) : Int) == 1, low := textOf (rest2 bs), high := textOf (rest3 bs), side := leN ((rest4 bs).take 2),
    items := if leN (bs.take 1) = 0 then (takeItems (countN bs) (rest6 bs)).1 else [], kids := if leN (bs.take 1) = 0 then [] else (takeKids (countN bs) (rest6 bs)).1 }
theorem takeItems_length (n : Nat) (bs : List Nat) : (takeItems n bs).1.length = n := by
  induction n with
  | zero => rfl
  | succ n ih => simp [takeItems, ih]
theorem takeKids_length (n : Nat) (bs : List Nat) : (takeKids n bs).1.length = n := by
  induction n with
  | zero => rfl
  | succ n ih => simp [takeKids, ih]
/-- the page that bytes are, and the errno of Decode -/
noncomputable def Page.form (bs : List Nat) : Bool := (told bs).ok && decide ((told bs).bytes = bs)
def Page.zero : Page := ⟨0, ByteArray.empty, ByteArray.empty, false, 0, [], []⟩
noncomputable def decoded (bs : List Nat) : Page := cond (Page.form bs) (told bs) Page.zero
noncomputable def decodeE (bs : List Nat) : Int := cond (Page.form bs) 0 102

theorem info_item : (Tryz.prog.info? 23).map (fun i => (i.zero, i.size, i.bytes)) = some (some (.agg #[.string ByteArray.empty, .string ByteArray.empty, .int .i64 0, .bool false]), 4, 48) := by kernel_rfl
theorem info_kid : (Tryz.prog.info? 61).map (fun i => (i.zero, i.size, i.bytes)) = some (some (.agg #[.string ByteArray.empty, .int .i64 0]), 2, 24) := by kernel_rfl
/-- the slice value v owns these -/
def OwnItem (w : World) (base : Nat) (v : Value) (l : List Item) : Prop := w.ownsRow base 23 4 v l.length (l.flatMap Item.cells)
theorem Item.cells_length (l : List Item) : (l.flatMap Item.cells).length = l.length * 4 := by
  induction l with
  | nil => rfl
  | cons x r ih => simp only [List.flatMap_cons, List.length_append, ih, Item.cells, List.length_cons, List.length_nil]; omega
theorem OwnItem.nil (w : World) (base : Nat) : OwnItem w base (.slice none 0 0) [] := World.ownsRow_nil w base 23 4
theorem OwnItem.block {w : World} {base : Nat} {v : Value} {l : List Item} (h : OwnItem w base v l) : ∀ k, v.ownBlock = some k → base ≤ k ∧ k < w.heap.size := by
  rcases h.2 with ⟨rfl, _⟩ | ⟨g, cap, cur, rfl, hg, hh, _⟩
  · intro k hk; simp [Value.ownBlock] at hk
  · intro k hk
    simp [Value.ownBlock] at hk
    subst hk
    refine ⟨hg, ?_⟩
    rcases Nat.lt_or_ge g w.heap.size with hlt | hge
    · exact hlt
    · rw [Array.getElem?_eq_none hge] at hh; cases hh
theorem OwnItem.keep {w w' : World} {base : Nat} {v : Value} {l : List Item} (h : OwnItem w base v l) (hb : ∀ k, v.ownBlock = some k → w'.heap[k]? = w.heap[k]?) : OwnItem w' base v l := by
  refine ⟨h.1, ?_⟩
  rcases h.2 with hn | ⟨g, cap, cur, rfl, hg, hh, rest⟩
  · exact .inl hn
  · exact .inr ⟨g, cap, cur, rfl, hg, (hb g (by simp [Value.ownBlock])).trans hh, rest⟩
theorem OwnItem.form {w : World} {base : Nat} {v : Value} {l : List Item} (h : OwnItem w base v l) : ∃ A c, v = .slice A l.length c ∧ l.length ≤ c ∧ Rd Item.cells 4 w base w.heap.size A l := by
  have hlt := h.block
  have h0 := h
  rcases h.2 with ⟨rfl, hl⟩ | ⟨g, cap, cur, rfl, hg, hh, hn, hcm, hsz, htk⟩
  · have : l = [] := List.eq_nil_of_length_eq_zero hl
    subst this
    exact ⟨none, 0, rfl, Nat.le_refl _, Rd.nil⟩
  · refine ⟨_, _, rfl, hn, fun _ => ⟨_, rfl, hg, (hlt g (by simp [Value.ownBlock])).2, fun i x hx j u hu => ?_⟩⟩
    refine h0.cells (g := g) rfl (i * 4 + j) u ?_
    have hil : i < l.length := (List.getElem?_eq_some_iff.1 hx).1
    have hj : j < 4 := by
      rcases Nat.lt_or_ge j 4 with h | h
      · exact h
      · rw [List.getElem?_eq_none (by simp [Item.cells]; omega)] at hu; cases hu
    have hsplit : l.flatMap Item.cells = (l.take i).flatMap Item.cells ++ (x.cells ++ (l.drop (i + 1)).flatMap Item.cells) := by
      have h1 : l = l.take i ++ (x :: l.drop (i + 1)) := by
        have hx' : l[i] = x := by rw [List.getElem?_eq_getElem hil] at hx; exact Option.some.inj hx
        rw [← hx', ← List.drop_eq_getElem_cons hil, List.take_append_drop]
      conv => lhs; rw [h1]
      rw [List.flatMap_append, List.flatMap_cons]
    rw [hsplit, List.getElem?_append_right (by rw [Item.cells_length, List.length_take]; omega), Item.cells_length, List.length_take, Nat.min_eq_left (by omega), Nat.add_sub_cancel_left]
    rw [List.getElem?_append_left (by simp [Item.cells]; omega)]
    exact hu

/-- the slice value v owns these -/
def OwnKid (w : World) (base : Nat) (v : Value) (l : List Kid) : Prop := w.ownsRow base 61 2 v l.length (l.flatMap Kid.cells)
theorem Kid.cells_length (l : List Kid) : (l.flatMap Kid.cells).length = l.length * 2 := by
  induction l with
  | nil => rfl
  | cons x r ih => simp only [List.flatMap_cons, List.length_append, ih, Kid.cells, List.length_cons, List.length_nil]; omega
theorem OwnKid.nil (w : World) (base : Nat) : OwnKid w base (.slice none 0 0) [] := World.ownsRow_nil w base 61 2
theorem OwnKid.block {w : World} {base : Nat} {v : Value} {l : List Kid} (h : OwnKid w base v l) : ∀ k, v.ownBlock = some k → base ≤ k ∧ k < w.heap.size := by
  rcases h.2 with ⟨rfl, _⟩ | ⟨g, cap, cur, rfl, hg, hh, _⟩
  · intro k hk; simp [Value.ownBlock] at hk
  · intro k hk
    simp [Value.ownBlock] at hk
    subst hk
    refine ⟨hg, ?_⟩
    rcases Nat.lt_or_ge g w.heap.size with hlt | hge
    · exact hlt
    · rw [Array.getElem?_eq_none hge] at hh; cases hh
theorem OwnKid.keep {w w' : World} {base : Nat} {v : Value} {l : List Kid} (h : OwnKid w base v l) (hb : ∀ k, v.ownBlock = some k → w'.heap[k]? = w.heap[k]?) : OwnKid w' base v l := by
  refine ⟨h.1, ?_⟩
  rcases h.2 with hn | ⟨g, cap, cur, rfl, hg, hh, rest⟩
  · exact .inl hn
  · exact .inr ⟨g, cap, cur, rfl, hg, (hb g (by simp [Value.ownBlock])).trans hh, rest⟩
theorem OwnKid.form {w : World} {base : Nat} {v : Value} {l : List Kid} (h : OwnKid w base v l) : ∃ A c, v = .slice A l.length c ∧ l.length ≤ c ∧ Rd Kid.cells 2 w base w.heap.size A l := by
  have hlt := h.block
  have h0 := h
  rcases h.2 with ⟨rfl, hl⟩ | ⟨g, cap, cur, rfl, hg, hh, hn, hcm, hsz, htk⟩
  · have : l = [] := List.eq_nil_of_length_eq_zero hl
    subst this
    exact ⟨none, 0, rfl, Nat.le_refl _, Rd.nil⟩
  · refine ⟨_, _, rfl, hn, fun _ => ⟨_, rfl, hg, (hlt g (by simp [Value.ownBlock])).2, fun i x hx j u hu => ?_⟩⟩
    refine h0.cells (g := g) rfl (i * 2 + j) u ?_
    have hil : i < l.length := (List.getElem?_eq_some_iff.1 hx).1
    have hj : j < 2 := by
      rcases Nat.lt_or_ge j 2 with h | h
      · exact h
      · rw [List.getElem?_eq_none (by simp [Kid.cells]; omega)] at hu; cases hu
    have hsplit : l.flatMap Kid.cells = (l.take i).flatMap Kid.cells ++ (x.cells ++ (l.drop (i + 1)).flatMap Kid.cells) := by
      have h1 : l = l.take i ++ (x :: l.drop (i + 1)) := by
        have hx' : l[i] = x := by rw [List.getElem?_eq_getElem hil] at hx; exact Option.some.inj hx
        rw [← hx', ← List.drop_eq_getElem_cons hil, List.take_append_drop]
      conv => lhs; rw [h1]
      rw [List.flatMap_append, List.flatMap_cons]
    rw [hsplit, List.getElem?_append_right (by rw [Kid.cells_length, List.length_take]; omega), Kid.cells_length, List.length_take, Nat.min_eq_left (by omega), Nat.add_sub_cancel_left]
    rw [List.getElem?_append_left (by simp [Kid.cells]; omega)]
    exact hu

end Go.Proofs.YtjbdmaehomhdeaaGreat

namespace Go.Proofs.YtjbdmaehomhdeaaGreat
open Go.RowKit

/-- append(v, x) at a step of a region that draws its order: one more -/
theorem stepItem {ops : Array Oper} {o : Oper} {a : Act} {K : Act → World → Prop} {Q : Exit → Act → World → Prop} {E : Prop} (w : World) (hgd : o.guard = none) (s x : Operand)
    (ho : o.op = .call { callee := .builtin .append, args := #[s, x], argTypes := #[24, 24] })
    (base g0 : Nat) (v : Value) (l : List Item) (y : Item) (hs : a.eval s = v) (hown : OwnItem w base v l) (hx : a.eval x = .slice (some ⟨g0, 0, none⟩) 1 1) (hblk : Blk w g0 23 y.cells.toArray)
    (hlen : l.length ≤ 1000000) (hbase : base ≤ w.heap.size)
    (h : ∀ g cap w', OwnItem w' base (.slice (some ⟨g, 0, none⟩) (l.length + 1) cap) (l ++ [y]) → w.grownBy w' v.ownBlock → (v.ownBlock = some g ∨ w.heap.size ≤ g) → g < w'.heap.size → K (a.put o.dst (.slice (some ⟨g, 0, none⟩) (l.length + 1) cap)) w') :
    if Region.wanted o (yielded ops a.tmps) = true then Oper.wp Tryz.prog o a w K Q else E := by
  obtain ⟨i0, hi0, hz0, hz1, hz2⟩ := info_parts info_item
  refine step_append_lies _ hgd s x _ ho base 23 i0 _ 4 48 Tryz.underlying24 hi0 hz0 hz1 hz2 rfl (by omega) v l.length (l.flatMap Item.cells) hs hown ⟨g0, 0, none⟩ 1 1 y.cells hx rfl
    (World.news_of_block (cs := y.cells.toArray) (t := 23) (fr := (0, 0)) hblk) (by intro u hu; simp [Item.cells] at hu; rcases hu with rfl | rfl | rfl | rfl <;> rfl) (by omega) (by simp only [maxLen]; omega) (by omega) hbase w.heap.size rfl ?_
  intro g cap w' h2 h3 h4 h5
  refine h g cap w' ?_ h3 (h4.imp id (fun e => by omega)) h5
  unfold OwnItem
  rw [List.length_append, List.flatMap_append]
  simpa using h2

/-- append(v, x) at a step of a region that draws its order: one more -/
theorem stepKid {ops : Array Oper} {o : Oper} {a : Act} {K : Act → World → Prop} {Q : Exit → Act → World → Prop} {E : Prop} (w : World) (hgd : o.guard = none) (s x : Operand)
    (ho : o.op = .call { callee := .builtin .append, args := #[s, x], argTypes := #[25, 25] })
    (base g0 : Nat) (v : Value) (l : List Kid) (y : Kid) (hs : a.eval s = v) (hown : OwnKid w base v l) (hx : a.eval x = .slice (some ⟨g0, 0, none⟩) 1 1) (hblk : Blk w g0 61 y.cells.toArray)
    (hlen : l.length ≤ 1000000) (hbase : base ≤ w.heap.size)
    (h : ∀ g cap w', OwnKid w' base (.slice (some ⟨g, 0, none⟩) (l.length + 1) cap) (l ++ [y]) → w.grownBy w' v.ownBlock → (v.ownBlock = some g ∨ w.heap.size ≤ g) → g < w'.heap.size → K (a.put o.dst (.slice (some ⟨g, 0, none⟩) (l.length + 1) cap)) w') :
    if Region.wanted o (yielded ops a.tmps) = true then Oper.wp Tryz.prog o a w K Q else E := by
  obtain ⟨i0, hi0, hz0, hz1, hz2⟩ := info_parts info_kid
  refine step_append_lies _ hgd s x _ ho base 61 i0 _ 2 24 Tryz.underlying25 hi0 hz0 hz1 hz2 rfl (by omega) v l.length (l.flatMap Kid.cells) hs hown ⟨g0, 0, none⟩ 1 1 y.cells hx rfl
    (World.news_of_block (cs := y.cells.toArray) (t := 61) (fr := (0, 0)) hblk) (by intro u hu; simp [Kid.cells] at hu; rcases hu with rfl | rfl <;> rfl) (by omega) (by simp only [maxLen]; omega) (by omega) hbase w.heap.size rfl ?_
  intro g cap w' h2 h3 h4 h5
  refine h g cap w' ?_ h3 (h4.imp id (fun e => by omega)) h5
  unfold OwnKid
  rw [List.length_append, List.flatMap_append]
  simpa using h2

end Go.Proofs.YtjbdmaehomhdeaaGreat

namespace Go.Proofs.YtjbdmaehomhdeaaGreat
open Go.RowKit

theorem Tk.later {w w' : World} {g lo hi : Nat} {ty : TypeId} {bs : List Nat} (h : Tk w g lo hi ty bs) (hb : Below w.heap.size w w') (hh : hi ≤ w.heap.size) : Tk w' g lo hi ty bs := by
  obtain ⟨A, c, h1, h2, h3⟩ := h.ex
  exact ⟨⟨A, c, h1.below hb h1.lt, h2, h3.below (hb.mono hh)⟩, h.apart, h.small⟩
theorem takeItems_le (n : Nat) (bs : List Nat) : (takeItems n bs).2.length ≤ bs.length := by
  induction n with
  | zero => exact Nat.le_refl _
  | succ n ih => simp only [takeItems, itemAt, List.length_drop]; omega
theorem takeKids_le (n : Nat) (bs : List Nat) : (takeKids n bs).2.length ≤ bs.length := by
  induction n with
  | zero => exact Nat.le_refl _
  | succ n ih => simp only [takeKids, kidAt, List.length_drop]; omega
theorem Tk.far {w w' : World} {g lo hi : Nat} {ty : TypeId} {bs : List Nat} (h : Tk w g lo hi ty bs) (hk : ∀ k, k = g ∨ k < hi → w'.heap[k]? = w.heap[k]?) : Tk w' g lo hi ty bs := by
  obtain ⟨A, c, h1, h2, h3⟩ := h.ex
  exact ⟨⟨A, c, (hk g (.inl rfl)).trans h1, h2, h3.keep fun p _ hp => World.cell?_of_block (hk p.block (.inr hp))⟩, h.apart, h.small⟩
/-- what a round of Decode's loop leaves: behind the calls (w6), the append (w7) and the store -/
theorem round_left (w wr w6 w7 : World) (gT gP : Nat) (o : Obj) (v : Value) (g7 : Nat) (hT : gT = w.heap.size + 1) (hgt : gT < gP) (hPlt : gP < wr.heap.size) (hB : Below w.heap.size w wr) (h6 : wr.drew.grownBy w6 (some gT))
    (h7 : (w6.alloc o).grownBy w7 v.ownBlock) (hv : ∀ k, v.ownBlock = some k → gP + 1 ≤ k ∧ k < wr.heap.size) (hn : v.ownBlock = some g7 ∨ (w6.alloc o).heap.size ≤ g7) (i : Nat) (u : Value) :
    (∀ k, k = gT ∨ k < w.heap.size → (w7.setCell ⟨gP, i, none⟩ u).heap[k]? = w6.heap[k]?) ∧ (w7.setCell ⟨gP, i, none⟩ u).heap[w.heap.size]? = wr.heap[w.heap.size]? ∧ Below w.heap.size w (w7.setCell ⟨gP, i, none⟩ u) ∧ g7 ≠ gP := by
  have hs6 : wr.heap.size ≤ w6.heap.size := h6.size
  have hall : ∀ k, k ≤ gT → (w7.setCell ⟨gP, i, none⟩ u).heap[k]? = w6.heap[k]? := fun k hk =>
    (Below.heap_setCell w7 ⟨gP, i, none⟩ u k (by simp; omega)).trans ((h7.block k (by simp; omega) (fun e => by have := (hv k e.symm).1; omega)).trans (Below.heap_alloc w6 o k (by omega)))
  refine ⟨fun k hk => hall k (by omega), (hall _ (by omega)).trans (h6.block _ (by show w.heap.size < wr.heap.size; omega) (by simp; omega)), ?_, ?_⟩
  · have b6 : Below w.heap.size wr w6 := ⟨h6.os, h6.tape, h6.output, h6.size, fun k hk => h6.block k (by show k < wr.heap.size; omega) (by simp; omega)⟩
    have b7 := ((hB.trans b6).alloc (by omega) o).grown h7 (by simp; omega) (fun k hk => by have := (hv k hk).1; omega)
    exact b7.setCell (p := ⟨gP, i, none⟩) (by simp; omega) u
  · rcases hn with h | h
    · have := (hv g7 h).1; omega
    · simp at h; omega
/-- Decode's post: the page in new memory, or none -/
def PostD (w : World) (bs : List Nat) (e : Ending) (w' : World) : Prop := ∃ A A' c c', e = .returned (.tuple #[(decoded bs).val A c A' c', .int .i64 (decodeE bs)]) ∧ Pg w' w.heap.size w'.heap.size (decoded bs) A A' c c' ∧ Below w.heap.size w w'

theorem set7 (w : World) (g : Nat) (p : Addr) (hp : p.block ≠ g) (a b c d e f h : Value) :
    (((((((w.setCell ⟨g, 0, none⟩ a).setCell ⟨g, 1, none⟩ b).setCell ⟨g, 2, none⟩ c).setCell ⟨g, 3, none⟩ d).setCell ⟨g, 4, none⟩ e).setCell ⟨g, 5, none⟩ f).setCell ⟨g, 6, none⟩ h).cell? p = w.cell? p := by
  have one : ∀ (w : World) (i : Nat) (u : Value), (w.setCell ⟨g, i, none⟩ u).cell? p = w.cell? p := fun w i u => World.cell?_setCell_other w _ p u (fun e => hp (by rw [← e]))
  rw [one, one, one, one, one, one, one]
theorem pg_kept {w0 wr w10 W' : World} {p : Page} {A A' : Option Addr} {c c' : Nat} (h : Pg wr (w0.heap.size + 1) wr.heap.size p A A' c c') (hb : Below wr.heap.size wr w10) (hk : ∀ q : Addr, q.block ≠ w0.heap.size → W'.cell? q = w10.cell? q) (hs : W'.heap.size = w10.heap.size) : Pg W' w0.heap.size W'.heap.size p A A' c c' := by
  have hsz := hb.size
  have hc : ∀ q : Addr, w0.heap.size + 1 ≤ q.block → q.block < wr.heap.size → W'.cell? q = wr.cell? q := fun q h1 h2 => (hk q (by omega)).trans (hb.cell h2)
  exact ⟨(h.items.keep hc).mono (by omega) (by omega), (h.kids.keep hc).mono (by omega) (by omega), h.li, h.lk, h.bi, h.bk⟩
theorem Page.Fine.bytes_len {p : Page} (h : p.Fine) : p.bytes.length ≤ 140737488351232 := by
  have h1 := h.head_len
  have h2 := h.items_len p.items.length
  have h3 := h.kids_len p.kids.length
  rw [List.take_length] at h2 h3
  simp only [Page.bytes, List.length_append]
  omega
theorem decode_none (w W' : World) (bs : List Nat) (hf : Page.form bs = false) (hB : Below w.heap.size w W') :
    PostD w bs (.returned (.tuple #[.agg #[.int .i64 0, .string { data := #[] }, .string { data := #[] }, .bool false, .int .i64 0, .slice none 0 0, .slice none 0 0], .int .i64 102])) W' := by
  refine ⟨none, none, 0, 0, ?_, ?_, hB⟩
  · unfold decoded decodeE; rw [hf]; rfl
  · unfold decoded; rw [hf]
    exact ⟨Rd.nil, Rd.nil, Nat.le_refl _, Nat.le_refl _, Nat.zero_le _, Nat.zero_le _⟩
theorem decode_some (w W' : World) (bs : List Nat) (A A' : Option Addr) (c c' : Nat) (hf : Page.form bs = true) (hB : Below w.heap.size w W') (hP : Pg W' w.heap.size W'.heap.size (told bs) A A' c c') :
    PostD w bs (.returned (.tuple #[(told bs).val A c A' c', .int .i64 0])) W' := by
  refine ⟨A, A', c, c', ?_, ?_, hB⟩
  · unfold decoded decodeE; rw [hf]; rfl
  · unfold decoded; rw [hf]; exact hP

set_option maxRecDepth 100000 in
set_option maxHeartbeats 20000000 in
theorem page_Decode (lo c : Nat) (A : Option Addr) (bs : List Nat) (w : World) (hr : Rd byteCell 1 w lo w.heap.size A bs) (hc : bs.length ≤ c) (hb : ∀ b ∈ bs, b < 256) (hl : bs.length ≤ 140737488351232) :
    Calls Tryz.prog 50 #[.slice A bs.length c] w (PostD w bs) := by
  have HR := Lib.hid hr
  have HC := Lib.hid hc
  have HS := Lib.hid hb
  have HL := Lib.hid hl
  clear hr hc hb hl
  obtain ⟨nb, hnb⟩ : ∃ n, n = bs.length := ⟨_, rfl⟩
  rw [← hnb]
  have HNB := Lib.hid hnb
  clear hnb
  have HLEN : Hid ((rest2 bs).length ≤ 140737488351232 ∧ (rest3 bs).length ≤ 140737488351232 ∧ (rest6 bs).length ≤ 140737488351232) := Lib.hid (by
    have := HL.out
    simp only [rest1, rest2, rest3, rest4, rest5, rest6, List.length_drop]
    omega)
  go_enter Tryz.func50, Tryz.ntmps50
  go_upto_region 2 with (fail)
  have hR0 : Blk ((w.alloc (Obj.cells #[Value.int IntKind.i64 0, Value.string { data := #[] }, Value.string { data := #[] }, Value.bool false, Value.int IntKind.i64 0, Value.slice none 0 0, Value.slice none 0 0] 27)).alloc (Obj.cells #[Value.slice A nb c] 124)) w.heap.size 27 #[Value.int IntKind.i64 0, Value.string { data := #[] }, Value.string { data := #[] }, Value.bool false, Value.int IntKind.i64 0, Value.slice none 0 0, Value.slice none 0 0] := (Blk.new _ _ _).alloc _
  have hT0 : Blk ((w.alloc (Obj.cells #[Value.int IntKind.i64 0, Value.string { data := #[] }, Value.string { data := #[] }, Value.bool false, Value.int IntKind.i64 0, Value.slice none 0 0, Value.slice none 0 0] 27)).alloc (Obj.cells #[Value.slice A nb c] 124)) (w.heap.size + 1) 124 #[Value.slice A nb c] := by
    have := Blk.new (w.alloc (Obj.cells #[Value.int IntKind.i64 0, Value.string { data := #[] }, Value.string { data := #[] }, Value.bool false, Value.int IntKind.i64 0, Value.slice none 0 0, Value.slice none 0 0] 27)) 124 #[Value.slice A nb c]
    simpa using this
  have hB0 : Below w.heap.size w ((w.alloc (Obj.cells #[Value.int IntKind.i64 0, Value.string { data := #[] }, Value.string { data := #[] }, Value.bool false, Value.int IntKind.i64 0, Value.slice none 0 0, Value.slice none 0 0] 27)).alloc (Obj.cells #[Value.slice A nb c] 124)) := ((Below.refl _ _).alloc (Nat.le_refl _) _).alloc (by simp) _
  generalize ((w.alloc (Obj.cells #[Value.int IntKind.i64 0, Value.string { data := #[] }, Value.string { data := #[] }, Value.bool false, Value.int IntKind.i64 0, Value.slice none 0 0, Value.slice none 0 0] 27)).alloc (Obj.cells #[Value.slice A nb c] 124)) = w1 at *
  have HR0 := Lib.hid hR0
  have HB0 := Lib.hid hB0
  have HTK : Hid (Tk w1 (w.heap.size + 1) lo w.heap.size 124 bs) := Lib.hid ⟨⟨A, c, by rw [← HNB.out]; exact hT0, HC.out, HR.out.below hB0⟩, .inr (by omega), HS.out⟩
  clear hR0 hT0 hB0
  go_cut [5] (fun v wc => ∃ gP, v = .pointer (some ⟨gP, 0, none⟩) ∧ Hid (Blk wc gP 27 #[.int .i64 (told bs).level, .string (told bs).low, .string (told bs).high, .bool (told bs).last, .int .i64 (told bs).side, .slice none 0 0, .slice none 0 0])
    ∧ Hid (Tk wc (w.heap.size + 1) lo w.heap.size 124 (rest5 bs)) ∧ Hid (w.heap.size + 1 < gP) ∧ Hid (w1.grownBy wc (some (w.heap.size + 1))))
  case first =>
    go_upto_region 3 with (first
      | (go_at_call 80; refine (page_num (w.heap.size + 1) lo w.heap.size 1 (by omega) bs w1 HTK.out).mono ?_; rintro e w2 ⟨rfl, hT2, hg2⟩; have HT2 : Hid (Tk w2 (w.heap.size + 1) lo w.heap.size 124 (rest1 bs)) := Lib.hid hT2; have HG2 := Lib.hid hg2; clear hT2 hg2 HTK)
      | (go_at_call 80; refine (page_num (w.heap.size + 1) lo w.heap.size 1 (by omega) (rest1 bs) w2 HT2.out).mono ?_; rintro e w3 ⟨rfl, hT3, hg3⟩; have HT3 : Hid (Tk w3 (w.heap.size + 1) lo w.heap.size 124 (rest2 bs)) := Lib.hid hT3; have HG3 := Lib.hid (HG2.out.trans hg3); clear hT3 hg3 HT2 HG2)
      | (go_at_call 81; refine (page_text (w.heap.size + 1) lo w.heap.size (rest2 bs) w3 HT3.out HLEN.out.1).mono ?_; rintro e w4 ⟨rfl, hT4, hg4⟩; have HT4 : Hid (Tk w4 (w.heap.size + 1) lo w.heap.size 124 (rest3 bs)) := Lib.hid hT4; have HG4 := Lib.hid (HG3.out.trans hg4); clear hT4 hg4 HT3 HG3)
      | (go_at_call 81; refine (page_text (w.heap.size + 1) lo w.heap.size (rest3 bs) w4 HT4.out HLEN.out.2.1).mono ?_; rintro e w5 ⟨rfl, hT5, hg5⟩; have HT5 : Hid (Tk w5 (w.heap.size + 1) lo w.heap.size 124 (rest4 bs)) := Lib.hid hT5; have HG5 := Lib.hid (HG4.out.trans hg5); clear hT5 hg5 HT4 HG4)
      | (go_at_call 80; refine (page_num (w.heap.size + 1) lo w.heap.size 2 (by omega) (rest4 bs) w5 HT5.out).mono ?_; rintro e w6 ⟨rfl, hT6, hg6⟩; have HT6 : Hid (Tk w6 (w.heap.size + 1) lo w.heap.size 124 (rest5 bs)) := Lib.hid hT6; have HG6 := Lib.hid (HG5.out.trans hg6); clear hT6 hg6 HT5 HG5))
    go_meet
    case rel =>
      have hgt : w.heap.size + 1 < w6.heap.size := by
        obtain ⟨_, _, hk, _⟩ := HT6.out.ex
        exact hk.lt
      refine ⟨_, rfl, Lib.hid ?_, Lib.hid ?_, Lib.hid hgt, Lib.hid ?_⟩
      · exact Blk.new _ _ _
      · exact HT6.out.later ((Below.refl _ _).alloc (Nat.le_refl _) _) (by have := HB0.out.size; have := HG6.out.size; omega)
      · exact HG6.out.trans (World.grownBy_alloc _ _ _)
  case rest =>
    obtain ⟨gP, rfl, HP, HT, HGP, HG⟩ := hcut
    have HRc : Hid (Blk wc w.heap.size 27 #[Value.int IntKind.i64 0, Value.string { data := #[] }, Value.string { data := #[] }, Value.bool false, Value.int IntKind.i64 0, Value.slice none 0 0, Value.slice none 0 0]) := Lib.hid ((HG.out.block _ HR0.out.lt (by simp)).trans HR0.out)
    have HBc : Hid (Below w.heap.size w wc) := Lib.hid (HB0.out.trans ⟨HG.out.os, HG.out.tape, HG.out.output, HG.out.size, fun k hk => HG.out.block k (Nat.lt_of_lt_of_le hk HB0.out.size) (by simp; omega)⟩)
    obtain ⟨lv, hlv⟩ : ∃ n, n = leN (bs.take 1) := ⟨_, rfl⟩
    have HLV := Lib.hid hlv
    have hle : (told bs).level = (lv : Int) := by rw [hlv]; rfl
    rw [hle] at HP
    obtain ⟨tl, htl⟩ : ∃ x, x = (told bs).low := ⟨_, rfl⟩
    obtain ⟨th, hth⟩ : ∃ x, x = (told bs).high := ⟨_, rfl⟩
    obtain ⟨tb, htb⟩ : ∃ x, x = (told bs).last := ⟨_, rfl⟩
    obtain ⟨ts, hts⟩ : ∃ x, x = (told bs).side := ⟨_, rfl⟩
    rw [← htl, ← hth, ← htb, ← hts] at HP
    have HTL := Lib.hid htl
    have HTH := Lib.hid hth
    have HTB := Lib.hid htb
    have HTS := Lib.hid hts
    have HLE := Lib.hid hle
    clear htl hth htb hts hle hlv HG HB0 HR0 HTK
    obtain ⟨cN, hcN⟩ : ∃ n, n = countN bs := ⟨_, rfl⟩
    have HCN := Lib.hid hcN
    have HCB : Hid (cN ≤ 255) := Lib.hid (by
      rw [hcN]
      have := leN_lt ((rest5 bs).take 1) (fun b hb => HT.out.small b (List.mem_of_mem_take hb))
      have h2 : ((rest5 bs).take 1).length ≤ 1 := by rw [List.length_take]; omega
      have h3 : 256 ^ ((rest5 bs).take 1).length ≤ 256 ^ 1 := Nat.pow_le_pow_right (by omega) h2
      unfold countN
      omega)
    clear hcN
    by_cases hlv0 : lv = 0
    · subst hlv0
      go_wp2_with (go_at_call 80; refine (page_num (w.heap.size + 1) lo w.heap.size 1 (by omega) (rest5 bs) wc HT.out).mono ?_; rintro e w2 ⟨rfl, hT2, hg2⟩; have HT2 : Hid (Tk w2 (w.heap.size + 1) lo w.heap.size 124 (rest6 bs)) := Lib.hid hT2; have HG2 := Lib.hid hg2; clear hT2 hg2 HT; rw [show leN ((rest5 bs).take 1) = cN from HCN.out.symm])
      go_loopw [23] (fun i wr => ∃ j : Nat, j ≤ cN ∧ i = .int .i64 j ∧ Hid (∃ vI, Blk wr gP 27 #[.int .i64 0, .string tl, .string th, .bool tb, .int .i64 ts, vI, .slice none 0 0] ∧ OwnItem wr (gP + 1) vI (takeItems j (rest6 bs)).1) ∧
          Hid (Tk wr (w.heap.size + 1) lo w.heap.size 124 (takeItems j (rest6 bs)).2) ∧ Hid (Blk wr w.heap.size 27 #[Value.int IntKind.i64 0, Value.string { data := #[] }, Value.string { data := #[] }, Value.bool false, Value.int IntKind.i64 0, Value.slice none 0 0, Value.slice none 0 0]) ∧ Hid (Below w.heap.size w wr)) (fun i _ => cN - (intOf i).toNat)
      case atStart =>
        refine ⟨0, Nat.zero_le _, rfl, Lib.hid ⟨_, (HG2.out.block _ HP.out.lt (by have := HGP.out; simp; omega)).trans HP.out, OwnItem.nil _ _⟩, HT2, Lib.hid ((HG2.out.block _ HRc.out.lt (by simp)).trans HRc.out), Lib.hid (HBc.out.trans ⟨HG2.out.os, HG2.out.tape, HG2.out.output, HG2.out.size, fun k hk => HG2.out.block k (Nat.lt_of_lt_of_le hk HBc.out.size) (by simp; omega)⟩)⟩
      case round =>
        obtain ⟨j, hj, rfl, ⟨vI, hPr, hOr⟩, HTr, HRr, HBr⟩ := hrel
        have hcb := HCB.out
        by_cases hlt : j < cN
        · have HPr := Lib.hid hPr
          have HOr := Lib.hid hOr
          clear hPr hOr
          have p0 : wr.cell? ⟨gP, 0, none⟩ = some (.int .i64 0) := HPr.out.cell 0
          go_upto_region 6 with (fail)
          have p5 : wr.cell? ⟨gP, 5, none⟩ = some vI := HPr.out.cell 5
          have f5 := HPr.out.frozen 5
          have HLR : Hid ((takeItems j (rest6 bs)).2.length ≤ 140737488351232) := Lib.hid (Nat.le_trans (takeItems_le j _) HLEN.out.2.2)
          obtain ⟨r0, hr0⟩ : ∃ r, r = (takeItems j (rest6 bs)).2 := ⟨_, rfl⟩
          rw [← hr0] at HTr HLR
          have HR0' := Lib.hid hr0
          obtain ⟨r1, hr1⟩ : ∃ r, r = r0.drop (1 + textN r0) := ⟨_, rfl⟩
          obtain ⟨r2, hr2⟩ : ∃ r, r = r1.drop 6 := ⟨_, rfl⟩
          obtain ⟨r3, hr3⟩ : ∃ r, r = r2.drop 1 := ⟨_, rfl⟩
          have HL3 : Hid (r3.length ≤ 140737488351232) := Lib.hid (by
            have := HLR.out
            rw [hr3, hr2, hr1, List.length_drop, List.length_drop, List.length_drop]; omega)
          have HTd : Hid (Tk wr.drew (w.heap.size + 1) lo w.heap.size 124 r0) := Lib.hid (HTr.out.later (Below.refl _ _).drew HBr.out.size)
          have HR1 := Lib.hid hr1
          have HR2 := Lib.hid hr2
          have HR3 := Lib.hid hr3
          have hgt := HGP.out
          have hPlt := HPr.out.lt
          clear hr0 hr1 hr2 hr3
          have HOW : Hid (∀ W (o : Obj), wr.drew.grownBy W (some (w.heap.size + 1)) → OwnItem (W.alloc o) (gP + 1) vI (takeItems j (rest6 bs)).1) := Lib.hid fun W o h => HOr.out.keep fun k hk => by
            obtain ⟨h1, h2⟩ := HOr.out.block k hk
            have hs := h.size
            have h3 : k < W.heap.size := Nat.lt_of_lt_of_le h2 hs
            exact (Below.heap_alloc W o k h3).trans (h.block k h2 (by simp; omega))
          have HBW : Hid (∀ W (o : Obj), wr.drew.grownBy W (some (w.heap.size + 1)) → gP + 1 ≤ (W.alloc o).heap.size) := Lib.hid fun W o h => by
            have hs := h.size
            have : wr.drew.heap.size = wr.heap.size := rfl
            simp; omega
          have HPW : Hid (∀ W (o : Obj) W', wr.drew.grownBy W (some (w.heap.size + 1)) → (W.alloc o).grownBy W' vI.ownBlock → Blk W' gP 27 #[.int .i64 0, .string tl, .string th, .bool tb, .int .i64 ts, vI, .slice none 0 0]) := Lib.hid fun W o W' h h' => by
            have hs := h.size
            have h3 : gP < W.heap.size := Nat.lt_of_lt_of_le hPlt hs
            exact (h'.block gP (by simp; omega) (fun e => by have := (HOr.out.block gP e.symm).1; omega)).trans ((Below.heap_alloc W o gP h3).trans ((h.block gP hPlt (by simp; omega)).trans HPr.out))
          have HLJ : Hid ((takeItems j (rest6 bs)).1.length ≤ 1000000) := Lib.hid (by rw [takeItems_length]; omega)
          have HIT : Hid ((itemAt r0).1 = ⟨textOf r0, textOf r3, leN (r1.take 6), ((leN (r2.take 1) : Nat) : Int) == 1⟩ ∧ (itemAt r0).2 = r3.drop (1 + textN r3)) := Lib.hid (by
            have h1 := HR1.out
            have h2 := HR2.out
            have h3 := HR3.out
            subst h1 h2 h3
            exact ⟨rfl, rfl⟩)
          have HVB := Lib.hid HOr.out.block
          go_region_law (first
            | (refine stepItem _ rfl (.tmp 29) (.tmp 40) rfl (gP + 1) _ vI _ ⟨textOf r0, textOf r3, leN (r1.take 6), ((leN (r2.take 1) : Nat) : Int) == 1⟩ rfl (HOW.out _ _ HG6.out) rfl (Blk.new _ _ _) HLJ.out (HBW.out _ _ HG6.out) ?_; intro g7 cap7 w7 hO7 hg7 hn7 hl7; have hP7 := HPW.out _ _ _ HG6.out hg7; have p7 : w7.cell? ⟨gP, 5, none⟩ = some vI := hP7.cell 5; have f7 := hP7.frozen 5; have HO7 := Lib.hid hO7; have HG7 := Lib.hid hg7; have HN7 := Lib.hid hn7; have HP7 := Lib.hid hP7; clear hO7 hg7 hn7 hP7)
            | (go_simp; first
            | (go_at_call 81; refine (page_text (w.heap.size + 1) lo w.heap.size r0 _ HTd.out HLR.out).mono ?_; rintro e w3 ⟨rfl, hT3, hg3⟩; have HT3 : Hid (Tk w3 (w.heap.size + 1) lo w.heap.size 124 r1) := Lib.hid (by rw [HR1.out]; exact hT3); have HG3 := Lib.hid hg3; have p5' : w3.cell? ⟨gP, 5, none⟩ = some vI := by { rw [hg3.cell_far _ hPlt (by simp; omega)]; exact p5 }; clear hT3 hg3 HTd)
            | (go_at_call 80; refine (page_num (w.heap.size + 1) lo w.heap.size 6 (by omega) r1 _ HT3.out).mono ?_; rintro e w4 ⟨rfl, hT4, hg4⟩; have HT4 : Hid (Tk w4 (w.heap.size + 1) lo w.heap.size 124 r2) := Lib.hid (by rw [HR2.out]; exact hT4); have HG4 := Lib.hid (HG3.out.trans hg4); clear hT4 hg4 HT3 HG3; have p5' : w4.cell? ⟨gP, 5, none⟩ = some vI := by { rw [HG4.out.cell_far _ hPlt (by simp; omega)]; exact p5 })
            | (go_at_call 80; refine (page_num (w.heap.size + 1) lo w.heap.size 1 (by omega) r2 _ HT4.out).mono ?_; rintro e w5 ⟨rfl, hT5, hg5⟩; have HT5 : Hid (Tk w5 (w.heap.size + 1) lo w.heap.size 124 r3) := Lib.hid (by rw [HR3.out]; exact hT5); have HG5 := Lib.hid (HG4.out.trans hg5); clear hT5 hg5 HT4 HG4; have p5' : w5.cell? ⟨gP, 5, none⟩ = some vI := by { rw [HG5.out.cell_far _ hPlt (by simp; omega)]; exact p5 })
            | (go_at_call 81; refine (page_text (w.heap.size + 1) lo w.heap.size r3 _ HT5.out HL3.out).mono ?_; rintro e w6 ⟨rfl, hT6, hg6⟩; have HT6 : Hid (Tk w6 (w.heap.size + 1) lo w.heap.size 124 (r3.drop (1 + textN r3))) := Lib.hid hT6; have HG6 := Lib.hid (HG5.out.trans hg6); clear hT6 hg6 HT5 HG5; have p5' : w6.cell? ⟨gP, 5, none⟩ = some vI := by { rw [HG6.out.cell_far _ hPlt (by simp; omega)]; exact p5 }; have hal6 : ∀ o, (w6.alloc o).cell? ⟨gP, 5, none⟩ = some vI := fun o => (World.cell?_alloc_lt w6 o _ (World.block_lt_of_cell? w6 _ p5')).trans p5')))
          all_goals
            go_wp2
            go_roundw
          case rel | rel | rel | rel | rel | rel =>
            obtain ⟨k1, k2, k3, k4⟩ := round_left w wr w6 w7 (w.heap.size + 1) gP _ vI g7 rfl hgt hPlt HBr.out HG6.out HG7.out HVB.out HN7.out 5 (.slice (some ⟨g7, 0, none⟩) ((takeItems j (rest6 bs)).1.length + 1) cap7)
            refine ⟨j + 1, by omega, by go_num, Lib.hid ⟨_, HP7.out.set_ 5 _, ?_⟩, Lib.hid ?_, Lib.hid (k2.trans HRr.out), Lib.hid k3⟩
            · show OwnItem _ _ _ ((takeItems j (rest6 bs)).1 ++ [(itemAt (takeItems j (rest6 bs)).2).1])
              rw [← HR0'.out, HIT.out.1]
              exact HO7.out.keep fun k hk => Below.heap_setCell w7 ⟨gP, 5, none⟩ _ k (fun e => by simp [Value.ownBlock] at hk; subst hk; exact k4 e)
            · show Tk _ _ _ _ _ (itemAt (takeItems j (rest6 bs)).2).2
              rw [← HR0'.out, HIT.out.2]
              exact HT6.out.far k1
          case measure | measure | measure | measure | measure | measure => simp [intOf]; omega
        · obtain rfl : j = cN := by omega
          obtain ⟨AI, cI, rfl, hcI, hRI⟩ := hOr.form
          have HPr := Lib.hid hPr
          have HIL : Hid ((takeItems j (rest6 bs)).1 = (told bs).items ∧ (told bs).kids = []) := Lib.hid (by rw [HCN.out]; unfold told; rw [← HLV.out]; exact ⟨rfl, rfl⟩)
          have HPG : Hid (Pg wr (w.heap.size + 1) wr.heap.size (told bs) AI none cI 0) := Lib.hid ⟨by rw [← HIL.out.1]; exact hRI.mono (by have := HGP.out; omega) (Nat.le_refl _), by rw [HIL.out.2]; exact Rd.nil, by rw [← HIL.out.1]; exact hcI, by rw [HIL.out.2]; exact Nat.le_refl _, by rw [← HIL.out.1, takeItems_length]; omega, by rw [HIL.out.2]; exact Nat.zero_le _⟩
          have HC7 := Blk.cells7 HPr.out
          obtain ⟨q0, q1, q2, q3, q4, q5, q6⟩ := HC7
          obtain ⟨z0, z1, z2, z3, z4, z5, z6⟩ := Blk.cells7 HRr.out
          obtain ⟨nI, hnI⟩ : ∃ n, n = (takeItems j (rest6 bs)).1.length := ⟨_, rfl⟩
          rw [← hnI] at q5
          have HNI : Hid (nI = (told bs).items.length) := Lib.hid (by rw [hnI, HIL.out.1])
          have HV : Hid ((told bs).val AI cI none 0 = .agg #[.int .i64 0, .string tl, .string th, .bool tb, .int .i64 ts, .slice AI nI cI, .slice none 0 0]) := Lib.hid (by
            unfold Page.val Page.raw
            rw [HLE.out, ← HTL.out, ← HTH.out, ← HTB.out, ← HTS.out, ← HNI.out, HIL.out.2]; rfl)
          have HCH : Hid (Calls Tryz.prog 40 #[.agg #[.int .i64 0, .string tl, .string th, .bool tb, .int .i64 ts, .slice AI nI cI, .slice none 0 0]] wr fun e w' => e = .returned (.int .i64 (told bs).check) ∧ Below wr.heap.size wr w') := Lib.hid (by
            rw [← HV.out]; exact page_Check (told bs) AI none cI 0 (w.heap.size + 1) wr HPG.out)
          have HBY : Hid (∀ W, Below wr.heap.size wr W → (told bs).ok = true → Calls Tryz.prog 61 #[.agg #[.int .i64 0, .string tl, .string th, .bool tb, .int .i64 ts, .slice AI nI cI, .slice none 0 0]] W (PostB W (told bs).bytes)) := Lib.hid (fun W h hok => by
            rw [← HV.out]; exact page_bytes (told bs) AI none cI 0 (w.heap.size + 1) W ((HPG.out.below h).mono (Nat.le_refl _) h.size) (Page.Fine.of_ok hok))
          have hfz : ∀ i, wr.frozen? ⟨w.heap.size, i, none⟩ = false := HRr.out.frozen
          have HNJ := Lib.hid hnI
          clear hPr hOr hnI hRI hcI
          cases hok : (told bs).ok with
          | false =>
            have HOK := Lib.hid hok
            have HC0 : Hid ((told bs).check = 101) := Lib.hid (by unfold Page.check; rw [hok]; rfl)
            clear hok
            go_wp2_with (go_at_call 40; refine HCH.out.mono ?_; rw [HC0.out]; rintro e w8 ⟨rfl, hb8⟩; have hz8 := HRr.out.below hb8 HRr.out.lt; have hf8 : ∀ i, w8.frozen? ⟨w.heap.size, i, none⟩ = false := hz8.frozen; obtain ⟨y0, y1, y2, y3, y4, y5, y6⟩ := Blk.cells7 hz8)
            have hEnd : Blk (((((((w8.setCell ⟨w.heap.size, 0, none⟩ (Value.int IntKind.i64 0)).setCell ⟨w.heap.size, 1, none⟩ (Value.string { data := #[] })).setCell ⟨w.heap.size, 2, none⟩ (Value.string { data := #[] })).setCell ⟨w.heap.size, 3, none⟩ (Value.bool false)).setCell ⟨w.heap.size, 4, none⟩ (Value.int IntKind.i64 0)).setCell ⟨w.heap.size, 5, none⟩ (Value.slice none 0 0)).setCell ⟨w.heap.size, 6, none⟩ (Value.slice none 0 0)) w.heap.size 27 #[Value.int IntKind.i64 0, Value.string { data := #[] }, Value.string { data := #[] }, Value.bool false, Value.int IntKind.i64 0, Value.slice none 0 0, Value.slice none 0 0] := (((((((hz8.set_ 0 (Value.int IntKind.i64 0)).set_ 1 (Value.string { data := #[] })).set_ 2 (Value.string { data := #[] })).set_ 3 (Value.bool false)).set_ 4 (Value.int IntKind.i64 0)).set_ 5 (Value.slice none 0 0)).set_ 6 (Value.slice none 0 0))
            have hBe : Below w.heap.size w (((((((w8.setCell ⟨w.heap.size, 0, none⟩ (Value.int IntKind.i64 0)).setCell ⟨w.heap.size, 1, none⟩ (Value.string { data := #[] })).setCell ⟨w.heap.size, 2, none⟩ (Value.string { data := #[] })).setCell ⟨w.heap.size, 3, none⟩ (Value.bool false)).setCell ⟨w.heap.size, 4, none⟩ (Value.int IntKind.i64 0)).setCell ⟨w.heap.size, 5, none⟩ (Value.slice none 0 0)).setCell ⟨w.heap.size, 6, none⟩ (Value.slice none 0 0)) := ((((((((HBr.out.trans (hb8.mono HBr.out.size)).setCell (p := ⟨w.heap.size, 0, none⟩) (Nat.le_refl _) _).setCell (p := ⟨w.heap.size, 1, none⟩) (Nat.le_refl _) _).setCell (p := ⟨w.heap.size, 2, none⟩) (Nat.le_refl _) _).setCell (p := ⟨w.heap.size, 3, none⟩) (Nat.le_refl _) _).setCell (p := ⟨w.heap.size, 4, none⟩) (Nat.le_refl _) _).setCell (p := ⟨w.heap.size, 5, none⟩) (Nat.le_refl _) _).setCell (p := ⟨w.heap.size, 6, none⟩) (Nat.le_refl _) _)
            generalize (((((((w8.setCell ⟨w.heap.size, 0, none⟩ (Value.int IntKind.i64 0)).setCell ⟨w.heap.size, 1, none⟩ (Value.string { data := #[] })).setCell ⟨w.heap.size, 2, none⟩ (Value.string { data := #[] })).setCell ⟨w.heap.size, 3, none⟩ (Value.bool false)).setCell ⟨w.heap.size, 4, none⟩ (Value.int IntKind.i64 0)).setCell ⟨w.heap.size, 5, none⟩ (Value.slice none 0 0)).setCell ⟨w.heap.size, 6, none⟩ (Value.slice none 0 0)) = W' at *
            obtain ⟨e0, e1, e2, e3, e4, e5, e6⟩ := Blk.cells7 hEnd
            exact bodyPost_ret (v := .tuple #[.agg #[Value.int IntKind.i64 0, Value.string { data := #[] }, Value.string { data := #[] }, Value.bool false, Value.int IntKind.i64 0, Value.slice none 0 0, Value.slice none 0 0], .int .i64 102]) (by simp [results, Tryz.results50, go_sem, e0, e1, e2, e3, e4, e5, e6]) rfl (decode_none w W' bs (by unfold Page.form; rw [HOK.out]; rfl) hBe)
          | true =>
            have HOK := Lib.hid hok
            have HC0 : Hid ((told bs).check = 0) := Lib.hid (by unfold Page.check; rw [hok]; rfl)
            clear hok
            obtain ⟨n9, hn9⟩ : ∃ n, (told bs).bytes.length = n := ⟨_, rfl⟩
            have HN9 := Lib.hid hn9
            have HEQ : Hid (∀ (W : World) (lo' hi' : Nat) (A9 : Option Addr) (c9 : Nat), Rd byteCell 1 W lo' hi' A9 (told bs).bytes → Rd byteCell 1 W lo w.heap.size A bs → Calls Tryz.prog 38 #[.slice A9 n9 c9, .slice A nb c] W fun e w' => e = .returned (.bool (decide ((told bs).bytes = bs))) ∧ ∃ n, w' = W.drewN n) := Lib.hid fun W lo' hi' A9 c9 h1 h2 => by
              rw [HNB.out, ← hn9]
              exact slices_Equal lo' hi' lo w.heap.size c9 c A9 A (told bs).bytes bs W h1 h2 ((Page.Fine.of_ok HOK.out).bytes_len) HL.out
            clear hn9
            by_cases hq : (told bs).bytes = bs
            · have HQ : Hid (decide ((told bs).bytes = bs) = true) := Lib.hid (by simpa using hq)
              have HQF : Hid (Page.form bs = true) := Lib.hid (by unfold Page.form; rw [HOK.out, HQ.out]; rfl)
              clear hq
              go_wp2_with (first
                | (go_at_call 40; refine HCH.out.mono ?_; rw [HC0.out]; rintro e w8 ⟨rfl, hb8⟩; have hp8 := HPr.out.below hb8 HPr.out.lt; obtain ⟨x0, x1, x2, x3, x4, x5, x6⟩ := Blk.cells7 hp8; rw [← HNJ.out] at x5)
                | (go_at_call 61; refine (HBY.out w8 hb8 HOK.out).mono ?_; rintro e w9 ⟨v9, rfl, hO9, hb9⟩; obtain ⟨A9, c9, rfl, _, hR9, _⟩ := OwnB.form hO9 HN9.out)
                | (go_at_call 38; refine (HEQ.out w9 _ _ A9 c9 hR9 ((HR.out.below (HBr.out.trans (hb8.mono HBr.out.size))).below (hb9.mono (Nat.le_trans HBr.out.size hb8.size)))).mono ?_; rw [HQ.out]; rintro e w10 ⟨rfl, n10, hw10⟩; have hb10 : Below w9.heap.size w9 w10 := by { rw [hw10]; exact below_drewN (Below.refl _ _) n10 }; have hbb : Below wr.heap.size wr w10 := (hb8.trans (hb9.mono hb8.size)).trans (hb10.mono (Nat.le_trans hb8.size hb9.size)); have hz8 := HRr.out.below hbb HRr.out.lt; have hf8 : ∀ i, w10.frozen? ⟨w.heap.size, i, none⟩ = false := hz8.frozen; obtain ⟨y0, y1, y2, y3, y4, y5, y6⟩ := Blk.cells7 hz8; have hpA := HPr.out.below hbb HPr.out.lt; obtain ⟨u0, u1, u2, u3, u4, u5, u6⟩ := Blk.cells7 hpA; rw [← HNJ.out] at u5; clear hw10))
              have hEnd : Blk (((((((w10.setCell ⟨w.heap.size, 0, none⟩ (Value.int IntKind.i64 0)).setCell ⟨w.heap.size, 1, none⟩ (Value.string tl)).setCell ⟨w.heap.size, 2, none⟩ (Value.string th)).setCell ⟨w.heap.size, 3, none⟩ (Value.bool tb)).setCell ⟨w.heap.size, 4, none⟩ (Value.int IntKind.i64 ts)).setCell ⟨w.heap.size, 5, none⟩ (Value.slice AI nI cI)).setCell ⟨w.heap.size, 6, none⟩ (Value.slice none 0 0)) w.heap.size 27 #[Value.int IntKind.i64 0, Value.string tl, Value.string th, Value.bool tb, Value.int IntKind.i64 ts, Value.slice AI nI cI, Value.slice none 0 0] := (((((((hz8.set_ 0 (Value.int IntKind.i64 0)).set_ 1 (Value.string tl)).set_ 2 (Value.string th)).set_ 3 (Value.bool tb)).set_ 4 (Value.int IntKind.i64 ts)).set_ 5 (Value.slice AI nI cI)).set_ 6 (Value.slice none 0 0))
              have hBe : Below w.heap.size w (((((((w10.setCell ⟨w.heap.size, 0, none⟩ (Value.int IntKind.i64 0)).setCell ⟨w.heap.size, 1, none⟩ (Value.string tl)).setCell ⟨w.heap.size, 2, none⟩ (Value.string th)).setCell ⟨w.heap.size, 3, none⟩ (Value.bool tb)).setCell ⟨w.heap.size, 4, none⟩ (Value.int IntKind.i64 ts)).setCell ⟨w.heap.size, 5, none⟩ (Value.slice AI nI cI)).setCell ⟨w.heap.size, 6, none⟩ (Value.slice none 0 0)) := ((((((((HBr.out.trans (hbb.mono HBr.out.size)).setCell (p := ⟨w.heap.size, 0, none⟩) (Nat.le_refl _) _).setCell (p := ⟨w.heap.size, 1, none⟩) (Nat.le_refl _) _).setCell (p := ⟨w.heap.size, 2, none⟩) (Nat.le_refl _) _).setCell (p := ⟨w.heap.size, 3, none⟩) (Nat.le_refl _) _).setCell (p := ⟨w.heap.size, 4, none⟩) (Nat.le_refl _) _).setCell (p := ⟨w.heap.size, 5, none⟩) (Nat.le_refl _) _).setCell (p := ⟨w.heap.size, 6, none⟩) (Nat.le_refl _) _)
              have hKe : ∀ p : Addr, p.block ≠ w.heap.size → (((((((w10.setCell ⟨w.heap.size, 0, none⟩ (Value.int IntKind.i64 0)).setCell ⟨w.heap.size, 1, none⟩ (Value.string tl)).setCell ⟨w.heap.size, 2, none⟩ (Value.string th)).setCell ⟨w.heap.size, 3, none⟩ (Value.bool tb)).setCell ⟨w.heap.size, 4, none⟩ (Value.int IntKind.i64 ts)).setCell ⟨w.heap.size, 5, none⟩ (Value.slice AI nI cI)).setCell ⟨w.heap.size, 6, none⟩ (Value.slice none 0 0)).cell? p = w10.cell? p := fun p hp => set7 w10 w.heap.size p hp _ _ _ _ _ _ _
              have hSe : (((((((w10.setCell ⟨w.heap.size, 0, none⟩ (Value.int IntKind.i64 0)).setCell ⟨w.heap.size, 1, none⟩ (Value.string tl)).setCell ⟨w.heap.size, 2, none⟩ (Value.string th)).setCell ⟨w.heap.size, 3, none⟩ (Value.bool tb)).setCell ⟨w.heap.size, 4, none⟩ (Value.int IntKind.i64 ts)).setCell ⟨w.heap.size, 5, none⟩ (Value.slice AI nI cI)).setCell ⟨w.heap.size, 6, none⟩ (Value.slice none 0 0)).heap.size = w10.heap.size := by simp
              generalize (((((((w10.setCell ⟨w.heap.size, 0, none⟩ (Value.int IntKind.i64 0)).setCell ⟨w.heap.size, 1, none⟩ (Value.string tl)).setCell ⟨w.heap.size, 2, none⟩ (Value.string th)).setCell ⟨w.heap.size, 3, none⟩ (Value.bool tb)).setCell ⟨w.heap.size, 4, none⟩ (Value.int IntKind.i64 ts)).setCell ⟨w.heap.size, 5, none⟩ (Value.slice AI nI cI)).setCell ⟨w.heap.size, 6, none⟩ (Value.slice none 0 0)) = W' at *
              obtain ⟨e0, e1, e2, e3, e4, e5, e6⟩ := Blk.cells7 hEnd
              exact bodyPost_ret (v := .tuple #[.agg #[Value.int IntKind.i64 0, Value.string tl, Value.string th, Value.bool tb, Value.int IntKind.i64 ts, Value.slice AI nI cI, Value.slice none 0 0], .int .i64 0]) (by simp [results, Tryz.results50, go_sem, e0, e1, e2, e3, e4, e5, e6]) rfl (by rw [← HV.out]; exact decode_some w W' bs AI none cI 0 HQF.out hBe (pg_kept HPG.out hbb hKe hSe))
            · have HQ : Hid (decide ((told bs).bytes = bs) = false) := Lib.hid (by simpa using hq)
              have HQF : Hid (Page.form bs = false) := Lib.hid (by unfold Page.form; rw [HOK.out, HQ.out]; rfl)
              clear hq
              go_wp2_with (first
                | (go_at_call 40; refine HCH.out.mono ?_; rw [HC0.out]; rintro e w8 ⟨rfl, hb8⟩; have hp8 := HPr.out.below hb8 HPr.out.lt; obtain ⟨x0, x1, x2, x3, x4, x5, x6⟩ := Blk.cells7 hp8; rw [← HNJ.out] at x5)
                | (go_at_call 61; refine (HBY.out w8 hb8 HOK.out).mono ?_; rintro e w9 ⟨v9, rfl, hO9, hb9⟩; obtain ⟨A9, c9, rfl, _, hR9, _⟩ := OwnB.form hO9 HN9.out)
                | (go_at_call 38; refine (HEQ.out w9 _ _ A9 c9 hR9 ((HR.out.below (HBr.out.trans (hb8.mono HBr.out.size))).below (hb9.mono (Nat.le_trans HBr.out.size hb8.size)))).mono ?_; rw [HQ.out]; rintro e w10 ⟨rfl, n10, hw10⟩; have hb10 : Below w9.heap.size w9 w10 := by { rw [hw10]; exact below_drewN (Below.refl _ _) n10 }; have hbb : Below wr.heap.size wr w10 := (hb8.trans (hb9.mono hb8.size)).trans (hb10.mono (Nat.le_trans hb8.size hb9.size)); have hz8 := HRr.out.below hbb HRr.out.lt; have hf8 : ∀ i, w10.frozen? ⟨w.heap.size, i, none⟩ = false := hz8.frozen; obtain ⟨y0, y1, y2, y3, y4, y5, y6⟩ := Blk.cells7 hz8; have hpA := HPr.out.below hbb HPr.out.lt; obtain ⟨u0, u1, u2, u3, u4, u5, u6⟩ := Blk.cells7 hpA; rw [← HNJ.out] at u5; clear hw10))
              have hEnd : Blk (((((((w10.setCell ⟨w.heap.size, 0, none⟩ (Value.int IntKind.i64 0)).setCell ⟨w.heap.size, 1, none⟩ (Value.string { data := #[] })).setCell ⟨w.heap.size, 2, none⟩ (Value.string { data := #[] })).setCell ⟨w.heap.size, 3, none⟩ (Value.bool false)).setCell ⟨w.heap.size, 4, none⟩ (Value.int IntKind.i64 0)).setCell ⟨w.heap.size, 5, none⟩ (Value.slice none 0 0)).setCell ⟨w.heap.size, 6, none⟩ (Value.slice none 0 0)) w.heap.size 27 #[Value.int IntKind.i64 0, Value.string { data := #[] }, Value.string { data := #[] }, Value.bool false, Value.int IntKind.i64 0, Value.slice none 0 0, Value.slice none 0 0] := (((((((hz8.set_ 0 (Value.int IntKind.i64 0)).set_ 1 (Value.string { data := #[] })).set_ 2 (Value.string { data := #[] })).set_ 3 (Value.bool false)).set_ 4 (Value.int IntKind.i64 0)).set_ 5 (Value.slice none 0 0)).set_ 6 (Value.slice none 0 0))
              have hBe : Below w.heap.size w (((((((w10.setCell ⟨w.heap.size, 0, none⟩ (Value.int IntKind.i64 0)).setCell ⟨w.heap.size, 1, none⟩ (Value.string { data := #[] })).setCell ⟨w.heap.size, 2, none⟩ (Value.string { data := #[] })).setCell ⟨w.heap.size, 3, none⟩ (Value.bool false)).setCell ⟨w.heap.size, 4, none⟩ (Value.int IntKind.i64 0)).setCell ⟨w.heap.size, 5, none⟩ (Value.slice none 0 0)).setCell ⟨w.heap.size, 6, none⟩ (Value.slice none 0 0)) := ((((((((HBr.out.trans (hbb.mono HBr.out.size)).setCell (p := ⟨w.heap.size, 0, none⟩) (Nat.le_refl _) _).setCell (p := ⟨w.heap.size, 1, none⟩) (Nat.le_refl _) _).setCell (p := ⟨w.heap.size, 2, none⟩) (Nat.le_refl _) _).setCell (p := ⟨w.heap.size, 3, none⟩) (Nat.le_refl _) _).setCell (p := ⟨w.heap.size, 4, none⟩) (Nat.le_refl _) _).setCell (p := ⟨w.heap.size, 5, none⟩) (Nat.le_refl _) _).setCell (p := ⟨w.heap.size, 6, none⟩) (Nat.le_refl _) _)
              have hKe : ∀ p : Addr, p.block ≠ w.heap.size → (((((((w10.setCell ⟨w.heap.size, 0, none⟩ (Value.int IntKind.i64 0)).setCell ⟨w.heap.size, 1, none⟩ (Value.string { data := #[] })).setCell ⟨w.heap.size, 2, none⟩ (Value.string { data := #[] })).setCell ⟨w.heap.size, 3, none⟩ (Value.bool false)).setCell ⟨w.heap.size, 4, none⟩ (Value.int IntKind.i64 0)).setCell ⟨w.heap.size, 5, none⟩ (Value.slice none 0 0)).setCell ⟨w.heap.size, 6, none⟩ (Value.slice none 0 0)).cell? p = w10.cell? p := fun p hp => set7 w10 w.heap.size p hp _ _ _ _ _ _ _
              have hSe : (((((((w10.setCell ⟨w.heap.size, 0, none⟩ (Value.int IntKind.i64 0)).setCell ⟨w.heap.size, 1, none⟩ (Value.string { data := #[] })).setCell ⟨w.heap.size, 2, none⟩ (Value.string { data := #[] })).setCell ⟨w.heap.size, 3, none⟩ (Value.bool false)).setCell ⟨w.heap.size, 4, none⟩ (Value.int IntKind.i64 0)).setCell ⟨w.heap.size, 5, none⟩ (Value.slice none 0 0)).setCell ⟨w.heap.size, 6, none⟩ (Value.slice none 0 0)).heap.size = w10.heap.size := by simp
              generalize (((((((w10.setCell ⟨w.heap.size, 0, none⟩ (Value.int IntKind.i64 0)).setCell ⟨w.heap.size, 1, none⟩ (Value.string { data := #[] })).setCell ⟨w.heap.size, 2, none⟩ (Value.string { data := #[] })).setCell ⟨w.heap.size, 3, none⟩ (Value.bool false)).setCell ⟨w.heap.size, 4, none⟩ (Value.int IntKind.i64 0)).setCell ⟨w.heap.size, 5, none⟩ (Value.slice none 0 0)).setCell ⟨w.heap.size, 6, none⟩ (Value.slice none 0 0)) = W' at *
              obtain ⟨e0, e1, e2, e3, e4, e5, e6⟩ := Blk.cells7 hEnd
              exact bodyPost_ret (v := .tuple #[.agg #[Value.int IntKind.i64 0, Value.string { data := #[] }, Value.string { data := #[] }, Value.bool false, Value.int IntKind.i64 0, Value.slice none 0 0, Value.slice none 0 0], .int .i64 102]) (by simp [results, Tryz.results50, go_sem, e0, e1, e2, e3, e4, e5, e6]) rfl (decode_none w W' bs HQF.out hBe)
    · have hlvp : ¬ (lv : Int) = 0 := by omega
      go_wp2_with (go_at_call 80; refine (page_num (w.heap.size + 1) lo w.heap.size 1 (by omega) (rest5 bs) wc HT.out).mono ?_; rintro e w2 ⟨rfl, hT2, hg2⟩; have HT2 : Hid (Tk w2 (w.heap.size + 1) lo w.heap.size 124 (rest6 bs)) := Lib.hid hT2; have HG2 := Lib.hid hg2; clear hT2 hg2 HT; rw [show leN ((rest5 bs).take 1) = cN from HCN.out.symm])
      go_loopw [23] (fun i wr => ∃ j : Nat, j ≤ cN ∧ i = .int .i64 j ∧ Hid (∃ vI, Blk wr gP 27 #[.int .i64 lv, .string tl, .string th, .bool tb, .int .i64 ts, .slice none 0 0, vI] ∧ OwnKid wr (gP + 1) vI (takeKids j (rest6 bs)).1) ∧
          Hid (Tk wr (w.heap.size + 1) lo w.heap.size 124 (takeKids j (rest6 bs)).2) ∧ Hid (Blk wr w.heap.size 27 #[Value.int IntKind.i64 0, Value.string { data := #[] }, Value.string { data := #[] }, Value.bool false, Value.int IntKind.i64 0, Value.slice none 0 0, Value.slice none 0 0]) ∧ Hid (Below w.heap.size w wr)) (fun i _ => cN - (intOf i).toNat)
      case atStart =>
        refine ⟨0, Nat.zero_le _, rfl, Lib.hid ⟨_, (HG2.out.block _ HP.out.lt (by have := HGP.out; simp; omega)).trans HP.out, OwnKid.nil _ _⟩, HT2, Lib.hid ((HG2.out.block _ HRc.out.lt (by simp)).trans HRc.out), Lib.hid (HBc.out.trans ⟨HG2.out.os, HG2.out.tape, HG2.out.output, HG2.out.size, fun k hk => HG2.out.block k (Nat.lt_of_lt_of_le hk HBc.out.size) (by simp; omega)⟩)⟩
      case round =>
        obtain ⟨j, hj, rfl, ⟨vI, hPr, hOr⟩, HTr, HRr, HBr⟩ := hrel
        have hcb := HCB.out
        by_cases hlt : j < cN
        · have HPr := Lib.hid hPr
          have HOr := Lib.hid hOr
          clear hPr hOr
          have p0 : wr.cell? ⟨gP, 0, none⟩ = some (.int .i64 lv) := HPr.out.cell 0
          go_upto_region 7 with (fail)
          have p5 : wr.cell? ⟨gP, 6, none⟩ = some vI := HPr.out.cell 6
          have f5 := HPr.out.frozen 6
          have HLR : Hid ((takeKids j (rest6 bs)).2.length ≤ 140737488351232) := Lib.hid (Nat.le_trans (takeKids_le j _) HLEN.out.2.2)
          obtain ⟨r0, hr0⟩ : ∃ r, r = (takeKids j (rest6 bs)).2 := ⟨_, rfl⟩
          rw [← hr0] at HTr HLR
          have HR0' := Lib.hid hr0
          obtain ⟨r1, hr1⟩ : ∃ r, r = r0.drop (1 + textN r0) := ⟨_, rfl⟩
          have HTd : Hid (Tk wr.drew (w.heap.size + 1) lo w.heap.size 124 r0) := Lib.hid (HTr.out.later (Below.refl _ _).drew HBr.out.size)
          have HR1 := Lib.hid hr1
          have hgt := HGP.out
          have hPlt := HPr.out.lt
          clear hr0 hr1
          have HOW : Hid (∀ W (o : Obj), wr.drew.grownBy W (some (w.heap.size + 1)) → OwnKid (W.alloc o) (gP + 1) vI (takeKids j (rest6 bs)).1) := Lib.hid fun W o h => HOr.out.keep fun k hk => by
            obtain ⟨h1, h2⟩ := HOr.out.block k hk
            have hs := h.size
            have h3 : k < W.heap.size := Nat.lt_of_lt_of_le h2 hs
            exact (Below.heap_alloc W o k h3).trans (h.block k h2 (by simp; omega))
          have HBW : Hid (∀ W (o : Obj), wr.drew.grownBy W (some (w.heap.size + 1)) → gP + 1 ≤ (W.alloc o).heap.size) := Lib.hid fun W o h => by
            have hs := h.size
            have : wr.drew.heap.size = wr.heap.size := rfl
            simp; omega
          have HPW : Hid (∀ W (o : Obj) W', wr.drew.grownBy W (some (w.heap.size + 1)) → (W.alloc o).grownBy W' vI.ownBlock → Blk W' gP 27 #[.int .i64 lv, .string tl, .string th, .bool tb, .int .i64 ts, .slice none 0 0, vI]) := Lib.hid fun W o W' h h' => by
            have hs := h.size
            have h3 : gP < W.heap.size := Nat.lt_of_lt_of_le hPlt hs
            exact (h'.block gP (by simp; omega) (fun e => by have := (HOr.out.block gP e.symm).1; omega)).trans ((Below.heap_alloc W o gP h3).trans ((h.block gP hPlt (by simp; omega)).trans HPr.out))
          have HLJ : Hid ((takeKids j (rest6 bs)).1.length ≤ 1000000) := Lib.hid (by rw [takeKids_length]; omega)
          have HIT : Hid ((kidAt r0).1 = ⟨textOf r0, leN (r1.take 2)⟩ ∧ (kidAt r0).2 = r1.drop 2) := Lib.hid (by
            have h1 := HR1.out
            subst h1
            exact ⟨rfl, rfl⟩)
          have HVB := Lib.hid HOr.out.block
          go_region_law (first
            | (refine stepKid _ rfl (.tmp 44) (.tmp 50) rfl (gP + 1) _ vI _ ⟨textOf r0, leN (r1.take 2)⟩ rfl (HOW.out _ _ HG6.out) rfl (Blk.new _ _ _) HLJ.out (HBW.out _ _ HG6.out) ?_; intro g7 cap7 w7 hO7 hg7 hn7 hl7; have hP7 := HPW.out _ _ _ HG6.out hg7; have p7 : w7.cell? ⟨gP, 6, none⟩ = some vI := hP7.cell 6; have f7 := hP7.frozen 6; have HO7 := Lib.hid hO7; have HG7 := Lib.hid hg7; have HN7 := Lib.hid hn7; have HP7 := Lib.hid hP7; clear hO7 hg7 hn7 hP7)
            | (go_simp; first
            | (go_at_call 81; refine (page_text (w.heap.size + 1) lo w.heap.size r0 _ HTd.out HLR.out).mono ?_; rintro e w3 ⟨rfl, hT3, hg3⟩; have HT3 : Hid (Tk w3 (w.heap.size + 1) lo w.heap.size 124 r1) := Lib.hid (by rw [HR1.out]; exact hT3); have HG3 := Lib.hid hg3; have p5' : w3.cell? ⟨gP, 6, none⟩ = some vI := by { rw [hg3.cell_far _ hPlt (by simp; omega)]; exact p5 }; clear hT3 hg3 HTd)
            | (go_at_call 80; refine (page_num (w.heap.size + 1) lo w.heap.size 2 (by omega) r1 _ HT3.out).mono ?_; rintro e w6 ⟨rfl, hT6, hg6⟩; have HT6 : Hid (Tk w6 (w.heap.size + 1) lo w.heap.size 124 (r1.drop 2)) := Lib.hid hT6; have HG6 := Lib.hid (HG3.out.trans hg6); clear hT6 hg6 HT3 HG3; have p5' : w6.cell? ⟨gP, 6, none⟩ = some vI := by { rw [HG6.out.cell_far _ hPlt (by simp; omega)]; exact p5 }; have hal6 : ∀ o, (w6.alloc o).cell? ⟨gP, 6, none⟩ = some vI := fun o => (World.cell?_alloc_lt w6 o _ (World.block_lt_of_cell? w6 _ p5')).trans p5')))
          all_goals
            go_wp2
            go_roundw
          case rel | rel | rel | rel =>
            obtain ⟨k1, k2, k3, k4⟩ := round_left w wr w6 w7 (w.heap.size + 1) gP _ vI g7 rfl hgt hPlt HBr.out HG6.out HG7.out HVB.out HN7.out 6 (.slice (some ⟨g7, 0, none⟩) ((takeKids j (rest6 bs)).1.length + 1) cap7)
            refine ⟨j + 1, by omega, by go_num, Lib.hid ⟨_, HP7.out.set_ 6 _, ?_⟩, Lib.hid ?_, Lib.hid (k2.trans HRr.out), Lib.hid k3⟩
            · show OwnKid _ _ _ ((takeKids j (rest6 bs)).1 ++ [(kidAt (takeKids j (rest6 bs)).2).1])
              rw [← HR0'.out, HIT.out.1]
              exact HO7.out.keep fun k hk => Below.heap_setCell w7 ⟨gP, 6, none⟩ _ k (fun e => by simp [Value.ownBlock] at hk; subst hk; exact k4 e)
            · show Tk _ _ _ _ _ (kidAt (takeKids j (rest6 bs)).2).2
              rw [← HR0'.out, HIT.out.2]
              exact HT6.out.far k1
          case measure | measure | measure | measure => simp [intOf]; omega
        · obtain rfl : j = cN := by omega
          obtain ⟨AI, cI, rfl, hcI, hRI⟩ := hOr.form
          have HPr := Lib.hid hPr
          have HIL : Hid ((takeKids j (rest6 bs)).1 = (told bs).kids ∧ (told bs).items = []) := Lib.hid (by rw [HCN.out]; unfold told; rw [← HLV.out]; exact ⟨(if_neg hlv0).symm, if_neg hlv0⟩)
          have HPG : Hid (Pg wr (w.heap.size + 1) wr.heap.size (told bs) none AI 0 cI) := Lib.hid ⟨by rw [HIL.out.2]; exact Rd.nil, by rw [← HIL.out.1]; exact hRI.mono (by have := HGP.out; omega) (Nat.le_refl _), by rw [HIL.out.2]; exact Nat.le_refl _, by rw [← HIL.out.1]; exact hcI, by rw [HIL.out.2]; exact Nat.zero_le _, by rw [← HIL.out.1, takeKids_length]; omega⟩
          have HC7 := Blk.cells7 HPr.out
          obtain ⟨q0, q1, q2, q3, q4, q5, q6⟩ := HC7
          obtain ⟨z0, z1, z2, z3, z4, z5, z6⟩ := Blk.cells7 HRr.out
          obtain ⟨nI, hnI⟩ : ∃ n, n = (takeKids j (rest6 bs)).1.length := ⟨_, rfl⟩
          rw [← hnI] at q6
          have HNI : Hid (nI = (told bs).kids.length) := Lib.hid (by rw [hnI, HIL.out.1])
          have HV : Hid ((told bs).val none 0 AI cI = .agg #[.int .i64 lv, .string tl, .string th, .bool tb, .int .i64 ts, .slice none 0 0, .slice AI nI cI]) := Lib.hid (by
            unfold Page.val Page.raw
            rw [HLE.out, ← HTL.out, ← HTH.out, ← HTB.out, ← HTS.out, ← HNI.out, HIL.out.2]; rfl)
          have HCH : Hid (Calls Tryz.prog 40 #[.agg #[.int .i64 lv, .string tl, .string th, .bool tb, .int .i64 ts, .slice none 0 0, .slice AI nI cI]] wr fun e w' => e = .returned (.int .i64 (told bs).check) ∧ Below wr.heap.size wr w') := Lib.hid (by
            rw [← HV.out]; exact page_Check (told bs) none AI 0 cI (w.heap.size + 1) wr HPG.out)
          have HBY : Hid (∀ W, Below wr.heap.size wr W → (told bs).ok = true → Calls Tryz.prog 61 #[.agg #[.int .i64 lv, .string tl, .string th, .bool tb, .int .i64 ts, .slice none 0 0, .slice AI nI cI]] W (PostB W (told bs).bytes)) := Lib.hid (fun W h hok => by
            rw [← HV.out]; exact page_bytes (told bs) none AI 0 cI (w.heap.size + 1) W ((HPG.out.below h).mono (Nat.le_refl _) h.size) (Page.Fine.of_ok hok))
          have hfz : ∀ i, wr.frozen? ⟨w.heap.size, i, none⟩ = false := HRr.out.frozen
          have HNJ := Lib.hid hnI
          clear hPr hOr hnI hRI hcI
          cases hok : (told bs).ok with
          | false =>
            have HOK := Lib.hid hok
            have HC0 : Hid ((told bs).check = 101) := Lib.hid (by unfold Page.check; rw [hok]; rfl)
            clear hok
            go_wp2_with (go_at_call 40; refine HCH.out.mono ?_; rw [HC0.out]; rintro e w8 ⟨rfl, hb8⟩; have hz8 := HRr.out.below hb8 HRr.out.lt; have hf8 : ∀ i, w8.frozen? ⟨w.heap.size, i, none⟩ = false := hz8.frozen; obtain ⟨y0, y1, y2, y3, y4, y5, y6⟩ := Blk.cells7 hz8)
            have hEnd : Blk (((((((w8.setCell ⟨w.heap.size, 0, none⟩ (Value.int IntKind.i64 0)).setCell ⟨w.heap.size, 1, none⟩ (Value.string { data := #[] })).setCell ⟨w.heap.size, 2, none⟩ (Value.string { data := #[] })).setCell ⟨w.heap.size, 3, none⟩ (Value.bool false)).setCell ⟨w.heap.size, 4, none⟩ (Value.int IntKind.i64 0)).setCell ⟨w.heap.size, 5, none⟩ (Value.slice none 0 0)).setCell ⟨w.heap.size, 6, none⟩ (Value.slice none 0 0)) w.heap.size 27 #[Value.int IntKind.i64 0, Value.string { data := #[] }, Value.string { data := #[] }, Value.bool false, Value.int IntKind.i64 0, Value.slice none 0 0, Value.slice none 0 0] := (((((((hz8.set_ 0 (Value.int IntKind.i64 0)).set_ 1 (Value.string { data := #[] })).set_ 2 (Value.string { data := #[] })).set_ 3 (Value.bool false)).set_ 4 (Value.int IntKind.i64 0)).set_ 5 (Value.slice none 0 0)).set_ 6 (Value.slice none 0 0))
            have hBe : Below w.heap.size w (((((((w8.setCell ⟨w.heap.size, 0, none⟩ (Value.int IntKind.i64 0)).setCell ⟨w.heap.size, 1, none⟩ (Value.string { data := #[] })).setCell ⟨w.heap.size, 2, none⟩ (Value.string { data := #[] })).setCell ⟨w.heap.size, 3, none⟩ (Value.bool false)).setCell ⟨w.heap.size, 4, none⟩ (Value.int IntKind.i64 0)).setCell ⟨w.heap.size, 5, none⟩ (Value.slice none 0 0)).setCell ⟨w.heap.size, 6, none⟩ (Value.slice none 0 0)) := ((((((((HBr.out.trans (hb8.mono HBr.out.size)).setCell (p := ⟨w.heap.size, 0, none⟩) (Nat.le_refl _) _).setCell (p := ⟨w.heap.size, 1, none⟩) (Nat.le_refl _) _).setCell (p := ⟨w.heap.size, 2, none⟩) (Nat.le_refl _) _).setCell (p := ⟨w.heap.size, 3, none⟩) (Nat.le_refl _) _).setCell (p := ⟨w.heap.size, 4, none⟩) (Nat.le_refl _) _).setCell (p := ⟨w.heap.size, 5, none⟩) (Nat.le_refl _) _).setCell (p := ⟨w.heap.size, 6, none⟩) (Nat.le_refl _) _)
            generalize (((((((w8.setCell ⟨w.heap.size, 0, none⟩ (Value.int IntKind.i64 0)).setCell ⟨w.heap.size, 1, none⟩ (Value.string { data := #[] })).setCell ⟨w.heap.size, 2, none⟩ (Value.string { data := #[] })).setCell ⟨w.heap.size, 3, none⟩ (Value.bool false)).setCell ⟨w.heap.size, 4, none⟩ (Value.int IntKind.i64 0)).setCell ⟨w.heap.size, 5, none⟩ (Value.slice none 0 0)).setCell ⟨w.heap.size, 6, none⟩ (Value.slice none 0 0)) = W' at *
            obtain ⟨e0, e1, e2, e3, e4, e5, e6⟩ := Blk.cells7 hEnd
            exact bodyPost_ret (v := .tuple #[.agg #[Value.int IntKind.i64 0, Value.string { data := #[] }, Value.string { data := #[] }, Value.bool false, Value.int IntKind.i64 0, Value.slice none 0 0, Value.slice none 0 0], .int .i64 102]) (by simp [results, Tryz.results50, go_sem, e0, e1, e2, e3, e4, e5, e6]) rfl (decode_none w W' bs (by unfold Page.form; rw [HOK.out]; rfl) hBe)
          | true =>
            have HOK := Lib.hid hok
            have HC0 : Hid ((told bs).check = 0) := Lib.hid (by unfold Page.check; rw [hok]; rfl)
            clear hok
            obtain ⟨n9, hn9⟩ : ∃ n, (told bs).bytes.length = n := ⟨_, rfl⟩
            have HN9 := Lib.hid hn9
            have HEQ : Hid (∀ (W : World) (lo' hi' : Nat) (A9 : Option Addr) (c9 : Nat), Rd byteCell 1 W lo' hi' A9 (told bs).bytes → Rd byteCell 1 W lo w.heap.size A bs → Calls Tryz.prog 38 #[.slice A9 n9 c9, .slice A nb c] W fun e w' => e = .returned (.bool (decide ((told bs).bytes = bs))) ∧ ∃ n, w' = W.drewN n) := Lib.hid fun W lo' hi' A9 c9 h1 h2 => by
              rw [HNB.out, ← hn9]
              exact slices_Equal lo' hi' lo w.heap.size c9 c A9 A (told bs).bytes bs W h1 h2 ((Page.Fine.of_ok HOK.out).bytes_len) HL.out
            clear hn9
            by_cases hq : (told bs).bytes = bs
            · have HQ : Hid (decide ((told bs).bytes = bs) = true) := Lib.hid (by simpa using hq)
              have HQF : Hid (Page.form bs = true) := Lib.hid (by unfold Page.form; rw [HOK.out, HQ.out]; rfl)
              clear hq
              go_wp2_with (first
                | (go_at_call 40; refine HCH.out.mono ?_; rw [HC0.out]; rintro e w8 ⟨rfl, hb8⟩; have hp8 := HPr.out.below hb8 HPr.out.lt; obtain ⟨x0, x1, x2, x3, x4, x5, x6⟩ := Blk.cells7 hp8; rw [← HNJ.out] at x6)
                | (go_at_call 61; refine (HBY.out w8 hb8 HOK.out).mono ?_; rintro e w9 ⟨v9, rfl, hO9, hb9⟩; obtain ⟨A9, c9, rfl, _, hR9, _⟩ := OwnB.form hO9 HN9.out)
                | (go_at_call 38; refine (HEQ.out w9 _ _ A9 c9 hR9 ((HR.out.below (HBr.out.trans (hb8.mono HBr.out.size))).below (hb9.mono (Nat.le_trans HBr.out.size hb8.size)))).mono ?_; rw [HQ.out]; rintro e w10 ⟨rfl, n10, hw10⟩; have hb10 : Below w9.heap.size w9 w10 := by { rw [hw10]; exact below_drewN (Below.refl _ _) n10 }; have hbb : Below wr.heap.size wr w10 := (hb8.trans (hb9.mono hb8.size)).trans (hb10.mono (Nat.le_trans hb8.size hb9.size)); have hz8 := HRr.out.below hbb HRr.out.lt; have hf8 : ∀ i, w10.frozen? ⟨w.heap.size, i, none⟩ = false := hz8.frozen; obtain ⟨y0, y1, y2, y3, y4, y5, y6⟩ := Blk.cells7 hz8; have hpA := HPr.out.below hbb HPr.out.lt; obtain ⟨u0, u1, u2, u3, u4, u5, u6⟩ := Blk.cells7 hpA; rw [← HNJ.out] at u6; clear hw10))
              have hEnd : Blk (((((((w10.setCell ⟨w.heap.size, 0, none⟩ (Value.int IntKind.i64 lv)).setCell ⟨w.heap.size, 1, none⟩ (Value.string tl)).setCell ⟨w.heap.size, 2, none⟩ (Value.string th)).setCell ⟨w.heap.size, 3, none⟩ (Value.bool tb)).setCell ⟨w.heap.size, 4, none⟩ (Value.int IntKind.i64 ts)).setCell ⟨w.heap.size, 5, none⟩ (Value.slice none 0 0)).setCell ⟨w.heap.size, 6, none⟩ (Value.slice AI nI cI)) w.heap.size 27 #[Value.int IntKind.i64 lv, Value.string tl, Value.string th, Value.bool tb, Value.int IntKind.i64 ts, Value.slice none 0 0, Value.slice AI nI cI] := (((((((hz8.set_ 0 (Value.int IntKind.i64 lv)).set_ 1 (Value.string tl)).set_ 2 (Value.string th)).set_ 3 (Value.bool tb)).set_ 4 (Value.int IntKind.i64 ts)).set_ 5 (Value.slice none 0 0)).set_ 6 (Value.slice AI nI cI))
              have hBe : Below w.heap.size w (((((((w10.setCell ⟨w.heap.size, 0, none⟩ (Value.int IntKind.i64 lv)).setCell ⟨w.heap.size, 1, none⟩ (Value.string tl)).setCell ⟨w.heap.size, 2, none⟩ (Value.string th)).setCell ⟨w.heap.size, 3, none⟩ (Value.bool tb)).setCell ⟨w.heap.size, 4, none⟩ (Value.int IntKind.i64 ts)).setCell ⟨w.heap.size, 5, none⟩ (Value.slice none 0 0)).setCell ⟨w.heap.size, 6, none⟩ (Value.slice AI nI cI)) := ((((((((HBr.out.trans (hbb.mono HBr.out.size)).setCell (p := ⟨w.heap.size, 0, none⟩) (Nat.le_refl _) _).setCell (p := ⟨w.heap.size, 1, none⟩) (Nat.le_refl _) _).setCell (p := ⟨w.heap.size, 2, none⟩) (Nat.le_refl _) _).setCell (p := ⟨w.heap.size, 3, none⟩) (Nat.le_refl _) _).setCell (p := ⟨w.heap.size, 4, none⟩) (Nat.le_refl _) _).setCell (p := ⟨w.heap.size, 5, none⟩) (Nat.le_refl _) _).setCell (p := ⟨w.heap.size, 6, none⟩) (Nat.le_refl _) _)
              have hKe : ∀ p : Addr, p.block ≠ w.heap.size → (((((((w10.setCell ⟨w.heap.size, 0, none⟩ (Value.int IntKind.i64 lv)).setCell ⟨w.heap.size, 1, none⟩ (Value.string tl)).setCell ⟨w.heap.size, 2, none⟩ (Value.string th)).setCell ⟨w.heap.size, 3, none⟩ (Value.bool tb)).setCell ⟨w.heap.size, 4, none⟩ (Value.int IntKind.i64 ts)).setCell ⟨w.heap.size, 5, none⟩ (Value.slice none 0 0)).setCell ⟨w.heap.size, 6, none⟩ (Value.slice AI nI cI)).cell? p = w10.cell? p := fun p hp => set7 w10 w.heap.size p hp _ _ _ _ _ _ _
              have hSe : (((((((w10.setCell ⟨w.heap.size, 0, none⟩ (Value.int IntKind.i64 lv)).setCell ⟨w.heap.size, 1, none⟩ (Value.string tl)).setCell ⟨w.heap.size, 2, none⟩ (Value.string th)).setCell ⟨w.heap.size, 3, none⟩ (Value.bool tb)).setCell ⟨w.heap.size, 4, none⟩ (Value.int IntKind.i64 ts)).setCell ⟨w.heap.size, 5, none⟩ (Value.slice none 0 0)).setCell ⟨w.heap.size, 6, none⟩ (Value.slice AI nI cI)).heap.size = w10.heap.size := by simp
              generalize (((((((w10.setCell ⟨w.heap.size, 0, none⟩ (Value.int IntKind.i64 lv)).setCell ⟨w.heap.size, 1, none⟩ (Value.string tl)).setCell ⟨w.heap.size, 2, none⟩ (Value.string th)).setCell ⟨w.heap.size, 3, none⟩ (Value.bool tb)).setCell ⟨w.heap.size, 4, none⟩ (Value.int IntKind.i64 ts)).setCell ⟨w.heap.size, 5, none⟩ (Value.slice none 0 0)).setCell ⟨w.heap.size, 6, none⟩ (Value.slice AI nI cI)) = W' at *
              obtain ⟨e0, e1, e2, e3, e4, e5, e6⟩ := Blk.cells7 hEnd
              exact bodyPost_ret (v := .tuple #[.agg #[Value.int IntKind.i64 lv, Value.string tl, Value.string th, Value.bool tb, Value.int IntKind.i64 ts, Value.slice none 0 0, Value.slice AI nI cI], .int .i64 0]) (by simp [results, Tryz.results50, go_sem, e0, e1, e2, e3, e4, e5, e6]) rfl (by rw [← HV.out]; exact decode_some w W' bs none AI 0 cI HQF.out hBe (pg_kept HPG.out hbb hKe hSe))
            · have HQ : Hid (decide ((told bs).bytes = bs) = false) := Lib.hid (by simpa using hq)
              have HQF : Hid (Page.form bs = false) := Lib.hid (by unfold Page.form; rw [HOK.out, HQ.out]; rfl)
              clear hq
              go_wp2_with (first
                | (go_at_call 40; refine HCH.out.mono ?_; rw [HC0.out]; rintro e w8 ⟨rfl, hb8⟩; have hp8 := HPr.out.below hb8 HPr.out.lt; obtain ⟨x0, x1, x2, x3, x4, x5, x6⟩ := Blk.cells7 hp8; rw [← HNJ.out] at x6)
                | (go_at_call 61; refine (HBY.out w8 hb8 HOK.out).mono ?_; rintro e w9 ⟨v9, rfl, hO9, hb9⟩; obtain ⟨A9, c9, rfl, _, hR9, _⟩ := OwnB.form hO9 HN9.out)
                | (go_at_call 38; refine (HEQ.out w9 _ _ A9 c9 hR9 ((HR.out.below (HBr.out.trans (hb8.mono HBr.out.size))).below (hb9.mono (Nat.le_trans HBr.out.size hb8.size)))).mono ?_; rw [HQ.out]; rintro e w10 ⟨rfl, n10, hw10⟩; have hb10 : Below w9.heap.size w9 w10 := by { rw [hw10]; exact below_drewN (Below.refl _ _) n10 }; have hbb : Below wr.heap.size wr w10 := (hb8.trans (hb9.mono hb8.size)).trans (hb10.mono (Nat.le_trans hb8.size hb9.size)); have hz8 := HRr.out.below hbb HRr.out.lt; have hf8 : ∀ i, w10.frozen? ⟨w.heap.size, i, none⟩ = false := hz8.frozen; obtain ⟨y0, y1, y2, y3, y4, y5, y6⟩ := Blk.cells7 hz8; have hpA := HPr.out.below hbb HPr.out.lt; obtain ⟨u0, u1, u2, u3, u4, u5, u6⟩ := Blk.cells7 hpA; rw [← HNJ.out] at u6; clear hw10))
              have hEnd : Blk (((((((w10.setCell ⟨w.heap.size, 0, none⟩ (Value.int IntKind.i64 0)).setCell ⟨w.heap.size, 1, none⟩ (Value.string { data := #[] })).setCell ⟨w.heap.size, 2, none⟩ (Value.string { data := #[] })).setCell ⟨w.heap.size, 3, none⟩ (Value.bool false)).setCell ⟨w.heap.size, 4, none⟩ (Value.int IntKind.i64 0)).setCell ⟨w.heap.size, 5, none⟩ (Value.slice none 0 0)).setCell ⟨w.heap.size, 6, none⟩ (Value.slice none 0 0)) w.heap.size 27 #[Value.int IntKind.i64 0, Value.string { data := #[] }, Value.string { data := #[] }, Value.bool false, Value.int IntKind.i64 0, Value.slice none 0 0, Value.slice none 0 0] := (((((((hz8.set_ 0 (Value.int IntKind.i64 0)).set_ 1 (Value.string { data := #[] })).set_ 2 (Value.string { data := #[] })).set_ 3 (Value.bool false)).set_ 4 (Value.int IntKind.i64 0)).set_ 5 (Value.slice none 0 0)).set_ 6 (Value.slice none 0 0))
              have hBe : Below w.heap.size w (((((((w10.setCell ⟨w.heap.size, 0, none⟩ (Value.int IntKind.i64 0)).setCell ⟨w.heap.size, 1, none⟩ (Value.string { data := #[] })).setCell ⟨w.heap.size, 2, none⟩ (Value.string { data := #[] })).setCell ⟨w.heap.size, 3, none⟩ (Value.bool false)).setCell ⟨w.heap.size, 4, none⟩ (Value.int IntKind.i64 0)).setCell ⟨w.heap.size, 5, none⟩ (Value.slice none 0 0)).setCell ⟨w.heap.size, 6, none⟩ (Value.slice none 0 0)) := ((((((((HBr.out.trans (hbb.mono HBr.out.size)).setCell (p := ⟨w.heap.size, 0, none⟩) (Nat.le_refl _) _).setCell (p := ⟨w.heap.size, 1, none⟩) (Nat.le_refl _) _).setCell (p := ⟨w.heap.size, 2, none⟩) (Nat.le_refl _) _).setCell (p := ⟨w.heap.size, 3, none⟩) (Nat.le_refl _) _).setCell (p := ⟨w.heap.size, 4, none⟩) (Nat.le_refl _) _).setCell (p := ⟨w.heap.size, 5, none⟩) (Nat.le_refl _) _).setCell (p := ⟨w.heap.size, 6, none⟩) (Nat.le_refl _) _)
              have hKe : ∀ p : Addr, p.block ≠ w.heap.size → (((((((w10.setCell ⟨w.heap.size, 0, none⟩ (Value.int IntKind.i64 0)).setCell ⟨w.heap.size, 1, none⟩ (Value.string { data := #[] })).setCell ⟨w.heap.size, 2, none⟩ (Value.string { data := #[] })).setCell ⟨w.heap.size, 3, none⟩ (Value.bool false)).setCell ⟨w.heap.size, 4, none⟩ (Value.int IntKind.i64 0)).setCell ⟨w.heap.size, 5, none⟩ (Value.slice none 0 0)).setCell ⟨w.heap.size, 6, none⟩ (Value.slice none 0 0)).cell? p = w10.cell? p := fun p hp => set7 w10 w.heap.size p hp _ _ _ _ _ _ _
              have hSe : (((((((w10.setCell ⟨w.heap.size, 0, none⟩ (Value.int IntKind.i64 0)).setCell ⟨w.heap.size, 1, none⟩ (Value.string { data := #[] })).setCell ⟨w.heap.size, 2, none⟩ (Value.string { data := #[] })).setCell ⟨w.heap.size, 3, none⟩ (Value.bool false)).setCell ⟨w.heap.size, 4, none⟩ (Value.int IntKind.i64 0)).setCell ⟨w.heap.size, 5, none⟩ (Value.slice none 0 0)).setCell ⟨w.heap.size, 6, none⟩ (Value.slice none 0 0)).heap.size = w10.heap.size := by simp
              generalize (((((((w10.setCell ⟨w.heap.size, 0, none⟩ (Value.int IntKind.i64 0)).setCell ⟨w.heap.size, 1, none⟩ (Value.string { data := #[] })).setCell ⟨w.heap.size, 2, none⟩ (Value.string { data := #[] })).setCell ⟨w.heap.size, 3, none⟩ (Value.bool false)).setCell ⟨w.heap.size, 4, none⟩ (Value.int IntKind.i64 0)).setCell ⟨w.heap.size, 5, none⟩ (Value.slice none 0 0)).setCell ⟨w.heap.size, 6, none⟩ (Value.slice none 0 0)) = W' at *
              obtain ⟨e0, e1, e2, e3, e4, e5, e6⟩ := Blk.cells7 hEnd
              exact bodyPost_ret (v := .tuple #[.agg #[Value.int IntKind.i64 0, Value.string { data := #[] }, Value.string { data := #[] }, Value.bool false, Value.int IntKind.i64 0, Value.slice none 0 0, Value.slice none 0 0], .int .i64 102]) (by simp [results, Tryz.results50, go_sem, e0, e1, e2, e3, e4, e5, e6]) rfl (decode_none w W' bs HQF.out hBe)
end Go.Proofs.YtjbdmaehomhdeaaGreat
