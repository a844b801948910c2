import Derived.Test.YtjbdmaehomhdeaaA2
namespace Go.Proofs.Ytjbdmaehomhdeaa
open Go.RowKit

theorem lt_irr (a : ByteArray) : lt a a = false := by
  unfold lt
  generalize a.toList = l
  induction l with
  | nil => rfl
  | cons x r ih => simp [Op.bytesLess, ih]

/-- keys rise, and are all of the page's -/
def Rises (p : Page) (ks : List ByteArray) : Prop := ∀ i x, ks[i]? = some x → p.covers x = true ∧ ∀ j y, i = j + 1 → ks[j]? = some y → lt y x = true
open Classical in
noncomputable def rises (p : Page) (ks : List ByteArray) : Bool := decide (Rises p ks)
theorem rises_no {p : Page} {ks : List ByteArray} {i : Nat} {x : ByteArray} (hx : ks[i]? = some x) (h : p.covers x = false ∨ ∃ j y, i = j + 1 ∧ ks[j]? = some y ∧ lt y x = false) : false = rises p ks := by
  unfold rises
  symm
  rw [decide_eq_false_iff_not]
  intro hr
  obtain ⟨h1, h2⟩ := hr i x hx
  rcases h with h | ⟨j, y, e, hy, hl⟩
  · rw [h] at h1; cases h1
  · rw [h2 j y e hy] at hl; cases hl
theorem rises_yes {p : Page} {ks : List ByteArray} (h : Rises p ks) : true = rises p ks := by
  unfold rises
  symm
  simpa using h

def Kid.val (x : Kid) : Value := .agg #[.string x.key, .int .i64 x.page]
def Page.raw (p : Page) (A : Option Addr) (n c : Nat) (A' : Option Addr) (n' c' : Nat) : Value := .agg #[.int .i64 p.level, .string p.low, .string p.high, .bool p.last, .int .i64 p.side, .slice A n c, .slice A' n' c']
def Page.val (p : Page) (A : Option Addr) (c : Nat) (A' : Option Addr) (c' : Nat) : Value := p.raw A p.items.length c A' p.kids.length c'
/-- a page's own block: the boxed parameter -/
abbrev PBlk (w : World) (g : Nat) (p : Page) (A : Option Addr) (n c : Nat) (A' : Option Addr) (n' c' : Nat) : Prop :=
  Blk w g 27 #[.int .i64 p.level, .string p.low, .string p.high, .bool p.last, .int .i64 p.side, .slice A n c, .slice A' n' c']
theorem PBlk.cells {w : World} {g : Nat} {p : Page} {A : Option Addr} {n c : Nat} {A' : Option Addr} {n' c' : Nat} (h : PBlk w g p A n c A' n' c') :
    w.cell? ⟨g, 0, none⟩ = some (.int .i64 p.level) ∧ w.cell? ⟨g, 1, none⟩ = some (.string p.low) ∧ w.cell? ⟨g, 2, none⟩ = some (.string p.high) ∧ w.cell? ⟨g, 3, none⟩ = some (.bool p.last) ∧
    w.cell? ⟨g, 4, none⟩ = some (.int .i64 p.side) ∧ w.cell? ⟨g, 5, none⟩ = some (.slice A n c) ∧ w.cell? ⟨g, 6, none⟩ = some (.slice A' n' c') :=
  ⟨h.cell 0, h.cell 1, h.cell 2, h.cell 3, h.cell 4, h.cell 5, h.cell 6⟩

set_option maxHeartbeats 400000 in
theorem page_itemKey (k v : ByteArray) (n : Int) (g : Bool) (w : World) : Calls Try.prog 48 #[.agg #[.string k, .string v, .int .i64 n, .bool g]] w fun e w' => e = .returned (.string k) ∧ Below w.heap.size w w' := by
  go_enter Try.func48, Try.ntmps48
  go_wp2
  go_ret
  exact ⟨rfl, (Below.refl _ _).alloc (Nat.le_refl _) _⟩

set_option maxHeartbeats 400000 in
theorem page_kidKey (k : ByteArray) (n : Int) (w : World) : Calls Try.prog 80 #[.agg #[.string k, .int .i64 n]] w fun e w' => e = .returned (.string k) ∧ Below w.heap.size w w' := by
  go_enter Try.func80, Try.ntmps80
  go_wp2
  go_ret
  exact ⟨rfl, (Below.refl _ _).alloc (Nat.le_refl _) _⟩
end Go.Proofs.Ytjbdmaehomhdeaa
