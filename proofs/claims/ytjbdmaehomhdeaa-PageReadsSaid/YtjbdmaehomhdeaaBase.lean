/- Plain words for the pages' proofs: items, kids and pages as Lean data; how a slice of structs reads in memory. -/
import Derived.Test.YtjbdmaehomhdeaaProg
import Derived.Test.YtjbdmaehomhdeaaRdB
namespace Go.Proofs.Ytjbdmaehomhdeaa
open Go.RowKit

/-! ### plain data -/
structure Item where
  key : ByteArray
  value : ByteArray
  no : Int
  gone : Bool
structure Kid where
  key : ByteArray
  page : Int
structure Page where
  level : Int
  low : ByteArray
  high : ByteArray
  last : Bool
  side : Int
  items : List Item
  kids : List Kid

def Item.cells (x : Item) : List Value := [.string x.key, .string x.value, .int .i64 x.no, .bool x.gone]
def Kid.cells (x : Kid) : List Value := [.string x.key, .int .i64 x.page]

/-- byte by byte, a beginning ahead of what goes on from it -/
def lt (a b : ByteArray) : Bool := Op.bytesLess a.toList b.toList
def isKey (s : ByteArray) : Bool := decide (1 ≤ s.size ∧ s.size ≤ 16)
def isPage (n : Int) : Bool := decide (1 ≤ n ∧ n ≤ 512)
def Page.covers (p : Page) (k : ByteArray) : Bool := !lt k p.low && (p.last || lt k p.high)
def Item.May (x : Item) : Prop := isKey x.key = true ∧ (x.value.size : Int) ≤ 48 ∧ 1 ≤ x.no ∧ x.no ≤ 1099511627776 ∧ (x.gone = true → x.value.toList.isEmpty = true)
instance (x : Item) : Decidable x.May := by unfold Item.May; infer_instance
/-- the errno of CheckItem -/
def Item.check (x : Item) : Int := if x.May then 0 else 100
def Item.val (x : Item) : Value := .agg #[.string x.key, .string x.value, .int .i64 x.no, .bool x.gone]


theorem Rd.item {w : World} {lo hi : Nat} {A : Option Addr} {l : List Item} (h : Rd Item.cells 4 w lo hi A l) {i : Nat} (hi' : i < l.length) :
    ∃ ad x, A = some ad ∧ Hid (l[i]? = some x) ∧ lo ≤ ad.block ∧ ad.block < hi ∧ w.cell? (ad.add (i * 4)) = some (.string x.key) ∧ w.cell? ⟨(ad.add (i * 4)).block, (ad.add (i * 4)).off + 1, none⟩ = some (.string x.value) ∧
      w.cell? ⟨(ad.add (i * 4)).block, (ad.add (i * 4)).off + 2, none⟩ = some (.int .i64 x.no) ∧ w.cell? ⟨(ad.add (i * 4)).block, (ad.add (i * 4)).off + 3, none⟩ = some (.bool x.gone) := by
  obtain ⟨ad, e, h1, h2, hc⟩ := h.at_ hi'
  refine ⟨ad, l[i], e, Lib.hid (List.getElem?_eq_getElem hi'), h1, h2, hc 0 _ rfl, ?_, ?_, ?_⟩
  · rw [← add_field _ _ 1 (by omega)]; exact hc 1 _ rfl
  · rw [← add_field _ _ 2 (by omega)]; exact hc 2 _ rfl
  · rw [← add_field _ _ 3 (by omega)]; exact hc 3 _ rfl
theorem Rd.kid {w : World} {lo hi : Nat} {A : Option Addr} {l : List Kid} (h : Rd Kid.cells 2 w lo hi A l) {i : Nat} (hi' : i < l.length) :
    ∃ ad x, A = some ad ∧ Hid (l[i]? = some x) ∧ lo ≤ ad.block ∧ ad.block < hi ∧ w.cell? (ad.add (i * 2)) = some (.string x.key) ∧ w.cell? ⟨(ad.add (i * 2)).block, (ad.add (i * 2)).off + 1, none⟩ = some (.int .i64 x.page) := by
  obtain ⟨ad, e, h1, h2, hc⟩ := h.at_ hi'
  refine ⟨ad, l[i], e, Lib.hid (List.getElem?_eq_getElem hi'), h1, h2, hc 0 _ rfl, ?_⟩
  rw [← add_field _ _ 1 (by omega)]; exact hc 1 _ rfl

end Go.Proofs.Ytjbdmaehomhdeaa
