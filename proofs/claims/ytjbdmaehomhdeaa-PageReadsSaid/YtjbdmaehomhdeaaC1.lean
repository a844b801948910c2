import Derived.Test.YtjbdmaehomhdeaaB7
namespace Go.Proofs.Ytjbdmaehomhdeaa
open Go.RowKit

/-! ### a page out of bytes -/
def itemAt (bs : List Nat) : Item × List Nat :=
  let r1 := bs.drop (1 + textN bs)
  let r2 := r1.drop 6
  let r3 := r2.drop 1
  (⟨textOf bs, textOf r3, leN (r1.take 6), ((leN (r2.take 1) : Nat) : Int) == 1⟩, r3.drop (1 + textN r3))
def kidAt (bs : List Nat) : Kid × List Nat :=
  let r1 := bs.drop (1 + textN bs)
  (⟨textOf bs, leN (r1.take 2)⟩, r1.drop 2)
def takeItems : Nat → List Nat → List Item × List Nat
  | 0, bs => ([], bs)
  | n + 1, bs => ((takeItems n bs).1 ++ [(itemAt (takeItems n bs).2).1], (itemAt (takeItems n bs).2).2)
def takeKids : Nat → List Nat → List Kid × List Nat
  | 0, bs => ([], bs)
  | n + 1, bs => ((takeKids n bs).1 ++ [(kidAt (takeKids n bs).2).1], (kidAt (takeKids n bs).2).2)
def rest1 (bs : List Nat) : List Nat := bs.drop 1
def rest2 (bs : List Nat) : List Nat := (rest1 bs).drop 1
def rest3 (bs : List Nat) : List Nat := (rest2 bs).drop (1 + textN (rest2 bs))
def rest4 (bs : List Nat) : List Nat := (rest3 bs).drop (1 + textN (rest3 bs))
def rest5 (bs : List Nat) : List Nat := (rest4 bs).drop 2
def rest6 (bs : List Nat) : List Nat := (rest5 bs).drop 1
def countN (bs : List Nat) : Nat := leN ((rest5 bs).take 1)
/-- what bytes say, right or not -/
def told (bs : List Nat) : Page :=
  { level := leN (bs.take 1), last := ((leN ((rest1 bs).take 1) : Nat) : Int) == 1, low := textOf (rest2 bs), high := textOf (rest3 bs), side := leN ((rest4 bs).take 2),
    items := if leN (bs.take 1) = 0 then (takeItems (countN bs) (rest6 bs)).1 else [], kids := if leN (bs.take 1) = 0 then [] else (takeKids (countN bs) (rest6 bs)).1 }
theorem takeItems_length (n : Nat) (bs : List Nat) : (takeItems n bs).1.length = n := by
  induction n with
  | zero => rfl
  | succ n ih => simp [takeItems, ih]
theorem takeKids_length (n : Nat) (bs : List Nat) : (takeKids n bs).1.length = n := by
  induction n with
  | zero => rfl
  | succ n ih => simp [takeKids, ih]
/-- the page that bytes are, and the errno of Decode -/
noncomputable def Page.form (bs : List Nat) : Bool := (told bs).ok && decide ((told bs).bytes = bs)
def Page.zero : Page := ⟨0, ByteArray.empty, ByteArray.empty, false, 0, [], []⟩
noncomputable def decoded (bs : List Nat) : Page := cond (Page.form bs) (told bs) Page.zero
noncomputable def decodeE (bs : List Nat) : Int := cond (Page.form bs) 0 102

theorem info_item : (Try.prog.info? 39).map (fun i => (i.zero, i.size, i.bytes)) = some (some (.agg #[.string ByteArray.empty, .string ByteArray.empty, .int .i64 0, .bool false]), 4, 48) := by kernel_rfl
theorem info_kid : (Try.prog.info? 60).map (fun i => (i.zero, i.size, i.bytes)) = some (some (.agg #[.string ByteArray.empty, .int .i64 0]), 2, 24) := by kernel_rfl
/-- the slice value v owns these -/
def OwnItem (w : World) (base : Nat) (v : Value) (l : List Item) : Prop := w.ownsRow base 39 4 v l.length (l.flatMap Item.cells)
theorem Item.cells_length (l : List Item) : (l.flatMap Item.cells).length = l.length * 4 := by
  induction l with
  | nil => rfl
  | cons x r ih => simp only [List.flatMap_cons, List.length_append, ih, Item.cells, List.length_cons, List.length_nil]; omega
theorem OwnItem.nil (w : World) (base : Nat) : OwnItem w base (.slice none 0 0) [] := World.ownsRow_nil w base 39 4
theorem OwnItem.block {w : World} {base : Nat} {v : Value} {l : List Item} (h : OwnItem w base v l) : ∀ k, v.ownBlock = some k → base ≤ k ∧ k < w.heap.size := by
  rcases h.2 with ⟨rfl, _⟩ | ⟨g, cap, cur, rfl, hg, hh, _⟩
  · intro k hk; simp [Value.ownBlock] at hk
  · intro k hk
    simp [Value.ownBlock] at hk
    subst hk
    refine ⟨hg, ?_⟩
    rcases Nat.lt_or_ge g w.heap.size with hlt | hge
    · exact hlt
    · rw [Array.getElem?_eq_none hge] at hh; cases hh
theorem OwnItem.keep {w w' : World} {base : Nat} {v : Value} {l : List Item} (h : OwnItem w base v l) (hb : ∀ k, v.ownBlock = some k → w'.heap[k]? = w.heap[k]?) : OwnItem w' base v l := by
  refine ⟨h.1, ?_⟩
  rcases h.2 with hn | ⟨g, cap, cur, rfl, hg, hh, rest⟩
  · exact .inl hn
  · exact .inr ⟨g, cap, cur, rfl, hg, (hb g (by simp [Value.ownBlock])).trans hh, rest⟩
theorem OwnItem.form {w : World} {base : Nat} {v : Value} {l : List Item} (h : OwnItem w base v l) : ∃ A c, v = .slice A l.length c ∧ l.length ≤ c ∧ Rd Item.cells 4 w base w.heap.size A l := by
  have hlt := h.block
  have h0 := h
  rcases h.2 with ⟨rfl, hl⟩ | ⟨g, cap, cur, rfl, hg, hh, hn, hcm, hsz, htk⟩
  · have : l = [] := List.eq_nil_of_length_eq_zero hl
    subst this
    exact ⟨none, 0, rfl, Nat.le_refl _, Rd.nil⟩
  · refine ⟨_, _, rfl, hn, fun _ => ⟨_, rfl, hg, (hlt g (by simp [Value.ownBlock])).2, fun i x hx j u hu => ?_⟩⟩
    refine h0.cells (g := g) rfl (i * 4 + j) u ?_
    have hil : i < l.length := (List.getElem?_eq_some_iff.1 hx).1
    have hj : j < 4 := by
      rcases Nat.lt_or_ge j 4 with h | h
      · exact h
      · rw [List.getElem?_eq_none (by simp [Item.cells]; omega)] at hu; cases hu
    have hsplit : l.flatMap Item.cells = (l.take i).flatMap Item.cells ++ (x.cells ++ (l.drop (i + 1)).flatMap Item.cells) := by
      have h1 : l = l.take i ++ (x :: l.drop (i + 1)) := by
        have hx' : l[i] = x := by rw [List.getElem?_eq_getElem hil] at hx; exact Option.some.inj hx
        rw [← hx', ← List.drop_eq_getElem_cons hil, List.take_append_drop]
      conv => lhs; rw [h1]
      rw [List.flatMap_append, List.flatMap_cons]
    rw [hsplit, List.getElem?_append_right (by rw [Item.cells_length, List.length_take]; omega), Item.cells_length, List.length_take, Nat.min_eq_left (by omega), Nat.add_sub_cancel_left]
    rw [List.getElem?_append_left (by simp [Item.cells]; omega)]
    exact hu

/-- the slice value v owns these -/
def OwnKid (w : World) (base : Nat) (v : Value) (l : List Kid) : Prop := w.ownsRow base 60 2 v l.length (l.flatMap Kid.cells)
theorem Kid.cells_length (l : List Kid) : (l.flatMap Kid.cells).length = l.length * 2 := by
  induction l with
  | nil => rfl
  | cons x r ih => simp only [List.flatMap_cons, List.length_append, ih, Kid.cells, List.length_cons, List.length_nil]; omega
theorem OwnKid.nil (w : World) (base : Nat) : OwnKid w base (.slice none 0 0) [] := World.ownsRow_nil w base 60 2
theorem OwnKid.block {w : World} {base : Nat} {v : Value} {l : List Kid} (h : OwnKid w base v l) : ∀ k, v.ownBlock = some k → base ≤ k ∧ k < w.heap.size := by
  rcases h.2 with ⟨rfl, _⟩ | ⟨g, cap, cur, rfl, hg, hh, _⟩
  · intro k hk; simp [Value.ownBlock] at hk
  · intro k hk
    simp [Value.ownBlock] at hk
    subst hk
    refine ⟨hg, ?_⟩
    rcases Nat.lt_or_ge g w.heap.size with hlt | hge
    · exact hlt
    · rw [Array.getElem?_eq_none hge] at hh; cases hh
theorem OwnKid.keep {w w' : World} {base : Nat} {v : Value} {l : List Kid} (h : OwnKid w base v l) (hb : ∀ k, v.ownBlock = some k → w'.heap[k]? = w.heap[k]?) : OwnKid w' base v l := by
  refine ⟨h.1, ?_⟩
  rcases h.2 with hn | ⟨g, cap, cur, rfl, hg, hh, rest⟩
  · exact .inl hn
  · exact .inr ⟨g, cap, cur, rfl, hg, (hb g (by simp [Value.ownBlock])).trans hh, rest⟩
theorem OwnKid.form {w : World} {base : Nat} {v : Value} {l : List Kid} (h : OwnKid w base v l) : ∃ A c, v = .slice A l.length c ∧ l.length ≤ c ∧ Rd Kid.cells 2 w base w.heap.size A l := by
  have hlt := h.block
  have h0 := h
  rcases h.2 with ⟨rfl, hl⟩ | ⟨g, cap, cur, rfl, hg, hh, hn, hcm, hsz, htk⟩
  · have : l = [] := List.eq_nil_of_length_eq_zero hl
    subst this
    exact ⟨none, 0, rfl, Nat.le_refl _, Rd.nil⟩
  · refine ⟨_, _, rfl, hn, fun _ => ⟨_, rfl, hg, (hlt g (by simp [Value.ownBlock])).2, fun i x hx j u hu => ?_⟩⟩
    refine h0.cells (g := g) rfl (i * 2 + j) u ?_
    have hil : i < l.length := (List.getElem?_eq_some_iff.1 hx).1
    have hj : j < 2 := by
      rcases Nat.lt_or_ge j 2 with h | h
      · exact h
      · rw [List.getElem?_eq_none (by simp [Kid.cells]; omega)] at hu; cases hu
    have hsplit : l.flatMap Kid.cells = (l.take i).flatMap Kid.cells ++ (x.cells ++ (l.drop (i + 1)).flatMap Kid.cells) := by
      have h1 : l = l.take i ++ (x :: l.drop (i + 1)) := by
        have hx' : l[i] = x := by rw [List.getElem?_eq_getElem hil] at hx; exact Option.some.inj hx
        rw [← hx', ← List.drop_eq_getElem_cons hil, List.take_append_drop]
      conv => lhs; rw [h1]
      rw [List.flatMap_append, List.flatMap_cons]
    rw [hsplit, List.getElem?_append_right (by rw [Kid.cells_length, List.length_take]; omega), Kid.cells_length, List.length_take, Nat.min_eq_left (by omega), Nat.add_sub_cancel_left]
    rw [List.getElem?_append_left (by simp [Kid.cells]; omega)]
    exact hu

end Go.Proofs.Ytjbdmaehomhdeaa
