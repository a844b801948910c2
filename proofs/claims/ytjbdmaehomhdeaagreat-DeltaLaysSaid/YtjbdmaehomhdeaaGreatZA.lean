/- Words for memory: how a slice reads as a list, a block that is known whole. -/
import Derived.Test.YtjbdmaehomhdeaaGreatProg
import Derived.WalkKit
import Derived.WalkSpells
import Derived.WalkLawsBesides
import Derived.Deep.QuietTactic
import Derived.BigQuiet
import Derived.Deep.DeepFit
import Derived.Lib.Hide
import Derived.Deep.DeepCutAuto
import Derived.Deep.CutBlock
import Derived.Deep.RegionHeld3
import Derived.Deep.LoopGhost
import Derived.Deep.AppendLies
import Derived.Maps.AppendAt
import Derived.Laws.OwnMore
import Derived.Laws.MakeOwn
import Derived.Laws.Rows
set_option linter.unusedSimpArgs false
set_option linter.unusedVariables false
namespace Go.Proofs.YtjbdmaehomhdeaaGreat
open Go.RowKit

theorem ret_bool {a b : Bool} (h : a = b) : Ending.returned (.bool a) = .returned (.bool b) := by rw [h]
theorem ret_i64 {a b : Int} (h : a = b) : Ending.returned (.int .i64 a) = .returned (.int .i64 b) := by rw [h]

/-! ### how a slice reads -/
theorem block_of_add (a : Addr) (n : Nat) : (a.add n).block = a.block := by unfold Addr.add; split <;> rfl
theorem add_of_add (a : Addr) (i j : Nat) : (a.add i).add j = a.add (i + j) := by
  unfold Addr.add
  by_cases hi : i = 0 <;> by_cases hj : j = 0 <;> simp [hi, hj, Nat.add_assoc]
theorem add_field (a : Addr) (i j : Nat) (hj : 0 < j) : a.add (i + j) = ⟨(a.add i).block, (a.add i).off + j, none⟩ := by
  rw [← add_of_add]; unfold Addr.add; rw [if_neg (by omega)]

/-- the slice at address A reads as the list l, k cells (f x) an element, in blocks from lo on, below hi -/
def Rd {α : Type} (f : α → List Value) (k : Nat) (w : World) (lo hi : Nat) (A : Option Addr) (l : List α) : Prop :=
  l ≠ [] → ∃ ad, A = some ad ∧ lo ≤ ad.block ∧ ad.block < hi ∧ ∀ i x, l[i]? = some x → ∀ j u, (f x)[j]? = some u → w.cell? (ad.add (i * k + j)) = some u

section
variable {α : Type} {f : α → List Value} {k : Nat} {w w' : World} {lo hi lo' hi' : Nat} {A : Option Addr} {l : List α}
theorem Rd.nil : Rd f k w lo hi A [] := fun h => absurd rfl h
theorem Rd.keep (h : Rd f k w lo hi A l) (hk : ∀ p : Addr, lo ≤ p.block → p.block < hi → w'.cell? p = w.cell? p) : Rd f k w' lo hi A l := fun hn => by
  obtain ⟨ad, e, h1, h2, hc⟩ := h hn
  exact ⟨ad, e, h1, h2, fun i x hx j u hu => (hk _ (by rw [block_of_add]; exact h1) (by rw [block_of_add]; exact h2)).trans (hc i x hx j u hu)⟩
theorem Rd.mono (h : Rd f k w lo hi A l) (h1 : lo' ≤ lo) (h2 : hi ≤ hi') : Rd f k w lo' hi' A l := fun hn => by
  obtain ⟨ad, e, a, b, hc⟩ := h hn
  exact ⟨ad, e, Nat.le_trans h1 a, Nat.lt_of_lt_of_le b h2, hc⟩
theorem Rd.below (h : Rd f k w lo hi A l) (hb : Below hi w w') : Rd f k w' lo hi A l := h.keep fun _ _ hp => hb.cell hp
theorem Rd.at_ (h : Rd f k w lo hi A l) {i : Nat} (hi' : i < l.length) : ∃ ad, A = some ad ∧ lo ≤ ad.block ∧ ad.block < hi ∧ ∀ j u, (f l[i])[j]? = some u → w.cell? (ad.add (i * k + j)) = some u := by
  obtain ⟨ad, e, h1, h2, hc⟩ := h (by intro e; subst e; simp at hi')
  exact ⟨ad, e, h1, h2, hc i _ (List.getElem?_eq_getElem hi')⟩
theorem Rd.tail {n c : Nat} (h : Rd f k w lo hi A l) (hl : l.length ≤ c) (hn : n ≤ l.length) : Rd f k w lo hi (if c = n then A else A.map (·.add (n * k))) (l.drop n) := fun hne => by
  have hlt : n < l.length := by
    rcases Nat.lt_or_ge n l.length with h | h
    · exact h
    · exact absurd (List.drop_eq_nil_of_le h) hne
  obtain ⟨ad, rfl, h1, h2, hc⟩ := h (by intro e; subst e; simp at hlt)
  rw [if_neg (by omega)]
  refine ⟨ad.add (n * k), rfl, by rw [block_of_add]; exact h1, by rw [block_of_add]; exact h2, fun i x hx j u hu => ?_⟩
  rw [add_of_add, show n * k + (i * k + j) = (n + i) * k + j by rw [Nat.add_mul]; omega]
  exact hc (n + i) x (by rw [← hx, List.getElem?_drop]) j u hu
theorem Rd.take {n : Nat} (h : Rd f k w lo hi A l) : Rd f k w lo hi A (l.take n) := fun hne => by
  obtain ⟨ad, e, h1, h2, hc⟩ := h (by intro e; subst e; simp at hne)
  refine ⟨ad, e, h1, h2, fun i x hx j u hu => hc i x ?_ j u hu⟩
  rw [List.getElem?_take] at hx
  split at hx
  · exact hx
  · cases hx
end

/-- block g is just these cells, of element type t, none frozen -/
def Blk (w : World) (g : Nat) (t : TypeId) (cs : Array Value) : Prop := w.heap[g]? = some (.cells cs t (0, 0))
section
variable {w w' : World} {g : Nat} {t : TypeId} {cs : Array Value}
theorem Blk.lt (h : Blk w g t cs) : g < w.heap.size := by
  rcases Nat.lt_or_ge g w.heap.size with hlt | hge
  · exact hlt
  · unfold Blk at h; rw [Array.getElem?_eq_none hge] at h; cases h
theorem Blk.cell (h : Blk w g t cs) (i : Nat) : w.cell? ⟨g, i, none⟩ = cs[i]? := cell_of_row w g i cs t (0, 0) h
theorem Blk.frozen (h : Blk w g t cs) (i : Nat) : w.frozen? ⟨g, i, none⟩ = false := by
  unfold Blk at h
  simp [World.frozen?, h]
theorem Blk.new (w : World) (t : TypeId) (cs : Array Value) : Blk (w.alloc (.cells cs t)) w.heap.size t cs := heap_alloc_new w _
theorem Blk.alloc (h : Blk w g t cs) (o : Obj) : Blk (w.alloc o) g t cs := (Below.heap_alloc w o g h.lt).trans h
theorem Blk.set_ (h : Blk w g t cs) (i : Nat) (u : Value) : Blk (w.setCell ⟨g, i, none⟩ u) g t (cs.setIfInBounds i u) := by
  unfold Blk at h ⊢
  simp [World.setCell, Array.getElem?_modify, h]
theorem Blk.far (h : Blk w g t cs) {p : Addr} (hp : g ≠ p.block) (u : Value) : Blk (w.setCell p u) g t cs := (Below.heap_setCell w p u g hp).trans h
theorem Blk.below {B : Nat} (h : Blk w g t cs) (hb : Below B w w') (hg : g < B) : Blk w' g t cs := (hb.block g hg).trans h
end


theorem run_make_rowN {P : Program} (t e : TypeId) (i : TypeInfo) (z : Value) (ht : P.underlying t = some (.slice e)) (hi : P.info? e = some i) (hz : i.zero = some z)
    (kl kc : IntKind) (n c : Nat) (hnc : n ≤ c) (hbytes : i.bytes * c ≤ 281474976710656) (h63 : c ≤ 9223372036854775807) (w : World) :
    (Instr.makeSlice t (.int kl (n : Int)) (.int kc (c : Int))).run P w = .ok (.slice (some ⟨w.heap.size, 0, none⟩) n c) (w.alloc (.cells (madeCells z.cells (c * i.size)) e)) := by
  have hb : (i.bytes : Int) * (c : Int) ≤ 281474976710656 := by
    have h : ((i.bytes * c : Nat) : Int) ≤ 281474976710656 := by omega
    rwa [Int.natCast_mul] at h
  have hr := run_make (P := P) w t e i z ht hi hz kl kc n c (by omega) (by omega) hb (by omega)
  simp only [Int.toNat_natCast] at hr
  exact hr
theorem Blk.setAt {w : World} {g : Nat} {t : TypeId} {cs : Array Value} (h : Blk w g t cs) (i : Nat) (u : Value) : Blk (w.setCell ⟨g, i, none⟩ u) g t (cs.setIfInBounds i u) := h.set_ i u
theorem Blk.drew {w : World} {g : Nat} {t : TypeId} {cs : Array Value} (h : Blk w g t cs) : Blk w.drew g t cs := h
theorem Blk.drewN {w : World} {g : Nat} {t : TypeId} {cs : Array Value} (h : Blk w g t cs) (n : Nat) : Blk (w.drewN n) g t cs := h

/-! ### a region that draws its order, whose callees only lay blocks of their own: one walk -/
structure BW (w : World) where
  w' : World
  h : Below w.heap.size w w'
instance (w : World) : Nonempty (BW w) := ⟨⟨w, Below.refl _ _⟩⟩
theorem wp_region_quiet_bw {P : Program} {id : Nat} {Q : Exit → Act → World → Prop} {a : Act} {w : World} {l : List Oper} (hm : P.follows .mixedOrders = true) (hB : Region.lexB .any l.toArray = true)
    (h : wpQuiet P l.toArray (fun w' => ∃ p : BW w, w' = p.w') (fun a' => ∀ w', (∃ p : BW w, w' = p.w') → Q .normal a' w') l a) : (Code.region id l.toArray true).wp P Q a w :=
  wp_region_quiet (C := fun w' => ∃ p : BW w, w' = p.w') hm hB ⟨⟨w.drew, (Below.refl _ _).drew⟩, rfl⟩ (by simpa using h)
theorem Calls.bw_of {P : Program} {f : FuncId} {args : Array Value} {w : World} {p : BW w} {v : Value}
    (h : Calls P f args p.w' fun e w' => e = .returned v ∧ Below p.w'.heap.size p.w' w') : Calls P f args p.w' fun e w'' => e = .returned v ∧ ∃ q : BW w, w'' = q.w' :=
  h.mono fun _ w' ⟨he, hb⟩ => ⟨he, ⟨w', p.h.trans (hb.mono p.h.size)⟩, rfl⟩
theorem Calls.bw_same {P : Program} {f : FuncId} {args : Array Value} {w : World} {p : BW w} {v : Value}
    (h : Calls P f args p.w' fun e w' => e = .returned v ∧ p.w' = w') : Calls P f args p.w' fun e w'' => e = .returned v ∧ ∃ q : BW w, w'' = q.w' :=
  h.mono fun _ _ ⟨he, hb⟩ => ⟨he, p, hb.symm⟩
theorem BW.cell {w : World} {a : Addr} {v : Value} (h : w.cell? a = some v) (p : BW w) : p.w'.cell? a = some v := (p.h.cell (World.block_lt_of_cell? w a h)).trans h
theorem BW.blk {w : World} {g : Nat} {t : TypeId} {cs : Array Value} (h : Blk w g t cs) (i : Nat) (v : Value) (hv : cs[i]? = some v) (p : BW w) : p.w'.cell? ⟨g, i, none⟩ = some v := BW.cell ((h.cell i).trans hv) p
theorem below_drewN {B : Nat} {a w : World} (h : Below B a w) (n : Nat) : Below B a (w.drewN n) := ⟨h.os, h.tape, h.output, h.size, h.block⟩

end Go.Proofs.YtjbdmaehomhdeaaGreat

namespace Go.Proofs.YtjbdmaehomhdeaaGreat
open Go.RowKit

/-! ### plain data -/
structure Item where
  key : ByteArray
  value : ByteArray
  no : Int
  gone : Bool
structure Kid where
  key : ByteArray
  page : Int
structure Page where
  level : Int
  low : ByteArray
  high : ByteArray
  last : Bool
  side : Int
  items : List Item
  kids : List Kid

def Item.cells (x : Item) : List Value := [.string x.key, .string x.value, .int .i64 x.no, .bool x.gone]
def Kid.cells (x : Kid) : List Value := [.string x.key, .int .i64 x.page]

/-- byte by byte, a beginning ahead of what goes on from it -/
def lt (a b : ByteArray) : Bool := Op.bytesLess a.toList b.toList
def isKey (s : ByteArray) : Bool := decide (1 ≤ s.size ∧ s.size ≤ 16)
def isPage (n : Int) : Bool := decide (1 ≤ n ∧ n ≤ 512)
def Page.covers (p : Page) (k : ByteArray) : Bool := !lt k p.low && (p.last || lt k p.high)
def Item.May (x : Item) : Prop := isKey x.key = true ∧ (x.value.size : Int) ≤ 48 ∧ 1 ≤ x.no ∧ x.no ≤ 1099511627776 ∧ (x.gone = true → x.value.toList.isEmpty = true)
instance (x : Item) : Decidable x.May := by unfold Item.May; infer_instance
/-- the errno of CheckItem -/
def Item.check (x : Item) : Int := if x.May then 0 else 100
def Item.val (x : Item) : Value := .agg #[.string x.key, .string x.value, .int .i64 x.no, .bool x.gone]


theorem Rd.item {w : World} {lo hi : Nat} {A : Option Addr} {l : List Item} (h : Rd Item.cells 4 w lo hi A l) {i : Nat} (hi' : i < l.length) :
    ∃ ad x, A = some ad ∧ Hid (l[i]? = some x) ∧ lo ≤ ad.block ∧ ad.block < hi ∧ w.cell? (ad.add (i * 4)) = some (.string x.key) ∧ w.cell? ⟨(ad.add (i * 4)).block, (ad.add (i * 4)).off + 1, none⟩ = some (.string x.value) ∧
      w.cell? ⟨(ad.add (i * 4)).block, (ad.add (i * 4)).off + 2, none⟩ = some (.int .i64 x.no) ∧ w.cell? ⟨(ad.add (i * 4)).block, (ad.add (i * 4)).off + 3, none⟩ = some (.bool x.gone) := by
  obtain ⟨ad, e, h1, h2, hc⟩ := h.at_ hi'
  refine ⟨ad, l[i], e, Lib.hid (List.getElem?_eq_getElem hi'), h1, h2, hc 0 _ rfl, ?_, ?_, ?_⟩
  · rw [← add_field _ _ 1 (by omega)]; exact hc 1 _ rfl
  · rw [← add_field _ _ 2 (by omega)]; exact hc 2 _ rfl
  · rw [← add_field _ _ 3 (by omega)]; exact hc 3 _ rfl
theorem Rd.kid {w : World} {lo hi : Nat} {A : Option Addr} {l : List Kid} (h : Rd Kid.cells 2 w lo hi A l) {i : Nat} (hi' : i < l.length) :
    ∃ ad x, A = some ad ∧ Hid (l[i]? = some x) ∧ lo ≤ ad.block ∧ ad.block < hi ∧ w.cell? (ad.add (i * 2)) = some (.string x.key) ∧ w.cell? ⟨(ad.add (i * 2)).block, (ad.add (i * 2)).off + 1, none⟩ = some (.int .i64 x.page) := by
  obtain ⟨ad, e, h1, h2, hc⟩ := h.at_ hi'
  refine ⟨ad, l[i], e, Lib.hid (List.getElem?_eq_getElem hi'), h1, h2, hc 0 _ rfl, ?_⟩
  rw [← add_field _ _ 1 (by omega)]; exact hc 1 _ rfl

end Go.Proofs.YtjbdmaehomhdeaaGreat

namespace Go.Proofs.YtjbdmaehomhdeaaGreat
open Go.RowKit

theorem isKey_yes {s : ByteArray} (h1 : (1 : Int) ≤ s.size) : decide ((s.size : Int) ≤ 16) = isKey s := by
  unfold isKey; rw [decide_eq_decide]; omega
theorem isKey_no {s : ByteArray} (h1 : (s.size : Int) < 1) : false = isKey s := by
  unfold isKey; simp; omega
theorem isPage_yes {n : Int} (h1 : 1 ≤ n) : decide (n ≤ 512) = isPage n := by
  unfold isPage; rw [decide_eq_decide]; omega
theorem isPage_no {n : Int} (h1 : n < 1) : false = isPage n := by
  unfold isPage; simp; omega

set_option maxHeartbeats 400000 in
theorem page_isKey (s : ByteArray) (w : World) :
    Calls Tryz.prog 72 #[.string s] w fun e w' => e = .returned (.bool (isKey s)) ∧ w = w' := by
  go_enter Tryz.func72, Tryz.ntmps72
  go_wp2
  all_goals go_ret
  all_goals exact ⟨ret_bool (by first | exact isKey_yes ‹_› | exact isKey_no ‹_›), rfl⟩

set_option maxHeartbeats 400000 in
theorem page_isPage (n : Int) (w : World) :
    Calls Tryz.prog 73 #[.int .i64 n] w fun e w' => e = .returned (.bool (isPage n)) ∧ w = w' := by
  go_enter Tryz.func73, Tryz.ntmps73
  go_wp2
  all_goals go_ret
  all_goals exact ⟨ret_bool (by first | exact isPage_yes ‹_› | exact isPage_no ‹_›), rfl⟩

set_option maxHeartbeats 400000 in
theorem page_Covers (p : Page) (A A' : Option Addr) (n c n' c' : Nat) (k : ByteArray) (w : World)  :
    Calls Tryz.prog 52 #[.agg #[.int .i64 p.level, .string p.low, .string p.high, .bool p.last, .int .i64 p.side, .slice A n c, .slice A' n' c'], .string k] w fun e w' => e = .returned (.bool (p.covers k)) ∧ Below w.heap.size w w' := by
  go_enter Tryz.func52, Tryz.ntmps52
  go_wp2
  all_goals go_ret
  all_goals refine ⟨?_, (Below.refl _ _).alloc (Nat.le_refl _) _⟩
  all_goals simp_all [Page.covers, lt]

set_option maxHeartbeats 400000 in
theorem page_CheckItem (x : Item) (w : World) :
    Calls Tryz.prog 58 #[x.val] w fun e w' => e = .returned (.int .i64 x.check) ∧ Below w.heap.size w w' := by
  unfold Item.val
  go_enter Tryz.func58, Tryz.ntmps58
  go_wp2_with (go_at_call 72; refine (page_isKey _ _).mono ?_; rintro e w' ⟨rfl, rfl⟩)
  all_goals go_ret
  all_goals refine ⟨ret_i64 ?_, (Below.refl _ _).alloc (Nat.le_refl _) _⟩
  all_goals unfold Item.check Item.May
  all_goals grind
end Go.Proofs.YtjbdmaehomhdeaaGreat

namespace Go.Proofs.YtjbdmaehomhdeaaGreat
open Go.RowKit

set_option maxHeartbeats 400000 in
theorem leaf_bad (x : Item) (w : World) :
    Calls Tryz.prog 88 #[x.val] w fun e w' => e = .returned (.bool (x.check != 0)) ∧ Below w.heap.size w w' := by
  unfold Item.val
  go_enter Tryz.func88, Tryz.ntmps88
  go_wp2_with (go_at_call 58; refine (page_CheckItem x _).mono ?_; rintro e w' ⟨rfl, hb⟩)
  go_ret
  exact ⟨rfl, ((Below.refl _ _).alloc (Nat.le_refl _) _).trans (hb.mono (by simp))⟩

/-- where a predicate is first true; -1: nowhere -/
def idx {α : Type} (p : α → Bool) (l : List α) : Int := if (l.findIdx p) < l.length then (l.findIdx p : Int) else -1


theorem idx_hit {α : Type} {p : α → Bool} {l : List α} {k : Nat} {x : α} (hx : l[k]? = some x) (hp : p x = true) (hno : ∀ j y, j < k → l[j]? = some y → p y = false) : idx p l = (k : Int) := by
  have hk : k < l.length := by
    rcases Nat.lt_or_ge k l.length with h | h
    · exact h
    · rw [List.getElem?_eq_none h] at hx; cases hx
  have hk2 : l[k] = x := by rw [List.getElem?_eq_getElem hk] at hx; exact Option.some.inj hx
  have : l.findIdx p = k := by
    rw [List.findIdx_eq hk]
    exact ⟨by rw [hk2]; exact hp, fun j hj => hno j _ hj (List.getElem?_eq_getElem (by omega))⟩
  unfold idx
  rw [this, if_pos hk]
theorem idx_none {α : Type} {p : α → Bool} {l : List α} (hno : ∀ j y, j < l.length → l[j]? = some y → p y = false) : idx p l = -1 := by
  have : l.findIdx p = l.length := by
    rw [List.findIdx_eq_length]
    intro x hx
    obtain ⟨j, hj, e⟩ := List.getElem_of_mem hx
    exact hno j x hj (by rw [List.getElem?_eq_getElem hj, e])
  unfold idx
  rw [this, if_neg (by omega)]

theorem idx_any {α : Type} (p : α → Bool) (l : List α) : decide (idx p l ≥ 0) = l.any p := by
  unfold idx
  split
  · rename_i h
    rw [List.findIdx_lt_length] at h
    obtain ⟨x, hx, hp⟩ := h
    rw [decide_eq_true (by omega)]
    symm; rw [List.any_eq_true]; exact ⟨x, hx, hp⟩
  · rename_i h
    rw [List.findIdx_lt_length] at h
    rw [decide_eq_false (by omega)]
    symm; rw [List.any_eq_false]
    intro x hx hp
    exact h ⟨x, hx, hp⟩

set_option maxHeartbeats 400000 in
theorem indexFunc_leaf (A : Option Addr) (c lo : Nat) (l : List Item) (w : World) (hr : Rd Item.cells 4 w lo w.heap.size A l) (hlen : l.length ≤ 140737488351232) :
    Calls Tryz.prog 83 #[.slice A l.length c, .func (.func 88) #[] #[]] w fun e w' => e = .returned (.int .i64 (idx (fun x => x.check != 0) l)) ∧ Below w.heap.size w w' := by
  have HR := Lib.hid hr
  clear hr
  go_enter Tryz.func83, Tryz.ntmps83
  go_wp2
  go_loopw [8] (fun i wr => ∃ k : Nat, k ≤ l.length ∧ i = .int .i64 k ∧ Hid (Below w.heap.size w wr) ∧ Hid (∀ j y, j < k → l[j]? = some y → (y.check != 0) = false)) (fun i _ => l.length - (intOf i).toNat)
  case atStart => exact ⟨0, Nat.zero_le _, rfl, Lib.hid (Below.refl _ _), Lib.hid (by intro j y h; omega)⟩
  case round =>
    obtain ⟨k, hk, rfl, hb, hno⟩ := hrel
    by_cases hlt : k < l.length
    · obtain ⟨ad, x, rfl, hx, h1, h2, c0, c1, c2, c3⟩ := (HR.out.below hb.out).item hlt
      cases hq : (x.check != 0) with
      | true =>
        have HQ := Lib.hid hq
        go_wp2_with (go_at_call 88; refine (leaf_bad x _).mono ?_; rintro e w1 ⟨rfl, hb1⟩)
        go_ret
        exact ⟨ret_i64 (idx_hit hx.out HQ.out hno.out).symm, hb.out.trans (hb1.mono (hb.out.size))⟩
      | false =>
        have HQ := Lib.hid hq
        go_wp2_with (go_at_call 88; refine (leaf_bad x _).mono ?_; rintro e w1 ⟨rfl, hb1⟩)
        go_roundw
        case rel => exact ⟨k + 1, by omega, by go_num, Lib.hid (hb.out.trans (hb1.mono hb.out.size)), Lib.hid (by
          intro j y hj hy
          rcases Nat.lt_or_ge j k with h | h
          · exact hno.out j y h hy
          · obtain rfl : j = k := by omega
            rw [hx.out] at hy; cases hy; exact HQ.out)⟩
        case measure => simp [intOf]; omega
    · go_wp2
      go_ret
      exact ⟨ret_i64 (idx_none (fun j y hj hy => hno.out j y (by omega) hy)).symm, hb.out⟩

set_option maxHeartbeats 400000 in
theorem contains_leaf (A : Option Addr) (c lo : Nat) (l : List Item) (w : World) (hr : Rd Item.cells 4 w lo w.heap.size A l) (hlen : l.length ≤ 140737488351232) :
    Calls Tryz.prog 89 #[.slice A l.length c, .func (.func 88) #[] #[]] w fun e w' => e = .returned (.bool (l.any (fun x => x.check != 0))) ∧ Below w.heap.size w w' := by
  go_enter Tryz.func89, Tryz.ntmps89
  go_wp2_with (go_at_call 83; refine (indexFunc_leaf A c lo l _ hr hlen).mono ?_; rintro e w1 ⟨rfl, hb1⟩)
  go_ret
  exact ⟨ret_bool (idx_any _ _), hb1⟩
end Go.Proofs.YtjbdmaehomhdeaaGreat

namespace Go.Proofs.YtjbdmaehomhdeaaGreat
open Go.RowKit

theorem lt_irr (a : ByteArray) : lt a a = false := by
  unfold lt
  generalize a.toList = l
  induction l with
  | nil => rfl
  | cons x r ih => simp [Op.bytesLess, ih]

/-- keys rise, and are all of the page's -/
def Rises (p : Page) (ks : List ByteArray) : Prop := ∀ i x, ks[i]? = some x → p.covers x = true ∧ ∀ j y, i = j + 1 → ks[j]? = some y → lt y x = true
open Classical in
noncomputable def rises (p : Page) (ks : List ByteArray) : Bool := decide (Rises p ks)
theorem rises_no {p : Page} {ks : List ByteArray} {i : Nat} {x : ByteArray} (hx : ks[i]? = some x) (h : p.covers x = false ∨ ∃ j y, i = j + 1 ∧ ks[j]? = some y ∧ lt y x = false) : false = rises p ks := by
  unfold rises
  symm
  rw [decide_eq_false_iff_not]
  intro hr
  obtain ⟨h1, h2⟩ := hr i x hx
  rcases h with h | ⟨j, y, e, hy, hl⟩
  · rw [h] at h1; cases h1
  · rw [h2 j y e hy] at hl; cases hl
theorem rises_yes {p : Page} {ks : List ByteArray} (h : Rises p ks) : true = rises p ks := by
  unfold rises
  symm
  simpa using h

def Kid.val (x : Kid) : Value := .agg #[.string x.key, .int .i64 x.page]
def Page.raw (p : Page) (A : Option Addr) (n c : Nat) (A' : Option Addr) (n' c' : Nat) : Value := .agg #[.int .i64 p.level, .string p.low, .string p.high, .bool p.last, .int .i64 p.side, .slice A n c, .slice A' n' c']
def Page.val (p : Page) (A : Option Addr) (c : Nat) (A' : Option Addr) (c' : Nat) : Value := p.raw A p.items.length c A' p.kids.length c'
/-- a page's own block: the boxed parameter -/
abbrev PBlk (w : World) (g : Nat) (p : Page) (A : Option Addr) (n c : Nat) (A' : Option Addr) (n' c' : Nat) : Prop :=
  Blk w g 27 #[.int .i64 p.level, .string p.low, .string p.high, .bool p.last, .int .i64 p.side, .slice A n c, .slice A' n' c']
theorem PBlk.cells {w : World} {g : Nat} {p : Page} {A : Option Addr} {n c : Nat} {A' : Option Addr} {n' c' : Nat} (h : PBlk w g p A n c A' n' c') :
    w.cell? ⟨g, 0, none⟩ = some (.int .i64 p.level) ∧ w.cell? ⟨g, 1, none⟩ = some (.string p.low) ∧ w.cell? ⟨g, 2, none⟩ = some (.string p.high) ∧ w.cell? ⟨g, 3, none⟩ = some (.bool p.last) ∧
    w.cell? ⟨g, 4, none⟩ = some (.int .i64 p.side) ∧ w.cell? ⟨g, 5, none⟩ = some (.slice A n c) ∧ w.cell? ⟨g, 6, none⟩ = some (.slice A' n' c') :=
  ⟨h.cell 0, h.cell 1, h.cell 2, h.cell 3, h.cell 4, h.cell 5, h.cell 6⟩

set_option maxHeartbeats 400000 in
theorem page_itemKey (k v : ByteArray) (n : Int) (g : Bool) (w : World) : Calls Tryz.prog 91 #[.agg #[.string k, .string v, .int .i64 n, .bool g]] w fun e w' => e = .returned (.string k) ∧ Below w.heap.size w w' := by
  go_enter Tryz.func91, Tryz.ntmps91
  go_wp2
  go_ret
  exact ⟨rfl, (Below.refl _ _).alloc (Nat.le_refl _) _⟩

set_option maxHeartbeats 400000 in
theorem page_kidKey (k : ByteArray) (n : Int) (w : World) : Calls Tryz.prog 95 #[.agg #[.string k, .int .i64 n]] w fun e w' => e = .returned (.string k) ∧ Below w.heap.size w w' := by
  go_enter Tryz.func95, Tryz.ntmps95
  go_wp2
  go_ret
  exact ⟨rfl, (Below.refl _ _).alloc (Nat.le_refl _) _⟩
end Go.Proofs.YtjbdmaehomhdeaaGreat

namespace Go.Proofs.YtjbdmaehomhdeaaGreat
open Go.RowKit

set_option maxHeartbeats 1000000 in
theorem rising_item (p : Page) (A1 A2 : Option Addr) (n1 n2 k1 k2 : Nat) (A : Option Addr) (c lo : Nat) (l : List Item) (w : World) (hr : Rd Item.cells 4 w lo w.heap.size A l) (hlen : l.length ≤ 140737488351232) :
    Calls Tryz.prog 90 #[p.raw A1 n1 k1 A2 n2 k2, .slice A l.length c, .func (.func 91) #[] #[]] w fun e w' => e = .returned (.bool (rises p (l.map (·.key)))) ∧ Below w.heap.size w w' := by
  have HR := Lib.hid hr
  clear hr
  unfold Page.raw
  go_enter Tryz.func90, Tryz.ntmps90
  go_wp2
  go_loopw [11] (fun i wr => ∃ k : Nat, k ≤ l.length ∧ i = .int .i64 k ∧ Hid (Below w.heap.size w wr) ∧ Hid (Blk wr w.heap.size 27 #[.int .i64 p.level, .string p.low, .string p.high, .bool p.last, .int .i64 p.side, .slice A1 n1 k1, .slice A2 n2 k2])
    ∧ Hid (∀ i x, i < k → (l.map (·.key))[i]? = some x → p.covers x = true ∧ ∀ j y, i = j + 1 → (l.map (·.key))[j]? = some y → lt y x = true)) (fun i _ => l.length - (intOf i).toNat)
  case atStart => exact ⟨0, Nat.zero_le _, rfl, Lib.hid ((Below.refl _ _).alloc (Nat.le_refl _) _), Lib.hid (Blk.new _ _ _), Lib.hid (fun _ _ h => by omega)⟩
  case round =>
    obtain ⟨k, hk, rfl, hb, hP, hno⟩ := hrel
    by_cases hlt : k < l.length
    · obtain ⟨ad, x, rfl, hx, h1, h2, c0, c1, c2, c3⟩ := (HR.out.below hb.out).item hlt
      go_upto_region 4 with (fail)
      have hg : w.heap.size < wr.heap.size := hP.out.lt
      have hX := Blk.new wr 23 #[Value.string x.key, Value.string x.value, Value.int IntKind.i64 x.no, Value.bool x.gone]
      have hP4 := hP.out.alloc (Obj.cells #[Value.string x.key, Value.string x.value, Value.int IntKind.i64 x.no, Value.bool x.gone] 23)
      have hb4 : Below w.heap.size w (wr.alloc (Obj.cells #[Value.string x.key, Value.string x.value, Value.int IntKind.i64 x.no, Value.bool x.gone] 23)) := hb.out.alloc (Nat.le_of_lt hg) _
      generalize (wr.alloc (Obj.cells #[Value.string x.key, Value.string x.value, Value.int IntKind.i64 x.no, Value.bool x.gone] 23)) = w4 at *
      have HB4 := Lib.hid hb4
      have x0 := BW.blk hX 0 _ rfl
      have x1 := BW.blk hX 1 _ rfl
      have x2 := BW.blk hX 2 _ rfl
      have x3 := BW.blk hX 3 _ rfl
      have p0 := BW.blk hP4 0 _ rfl
      have p1 := BW.blk hP4 1 _ rfl
      have p2 := BW.blk hP4 2 _ rfl
      have p3 := BW.blk hP4 3 _ rfl
      have p4 := BW.blk hP4 4 _ rfl
      have p5 := BW.blk hP4 5 _ rfl
      have p6 := BW.blk hP4 6 _ rfl
      have HP4 := Lib.hid hP4
      clear hX hP4 hP hb4 c0 c1 c2 c3
      have hkx : (l.map (·.key))[k]? = some x.key := by rw [List.getElem?_map, hx.out]; rfl
      have HX := Lib.hid hkx
      clear hkx
      rcases k with _ | k
      · have hgd : decide ((0 : Int) > 0) = false := by decide
        cases hcv : p.covers x.key with
        | true =>
          have HC := Lib.hid hcv
          refine wp_region_quiet_bw (by kernel_rfl) (by kernel_rfl) ?_
          repeat (go_big_quiet_step (first | (go_at_call 91; refine Calls.bw_of (page_itemKey _ _ _ _ _)) | (go_at_call 52; refine Calls.bw_of (page_Covers p _ _ _ _ _ _ _ _))))
          refine wpQuiet_nil ?_
          intro wq hw'
          obtain ⟨⟨_, hbq⟩, hw''⟩ := hw'
          subst hw''
          have HQ : Hid (Below w.heap.size w wq) := Lib.hid (HB4.out.trans (hbq.mono HB4.out.size))
          have HP5 : Hid (Blk wq w.heap.size 27 #[.int .i64 p.level, .string p.low, .string p.high, .bool p.last, .int .i64 p.side, .slice A1 n1 k1, .slice A2 n2 k2]) := Lib.hid (HP4.out.below hbq HP4.out.lt)
          clear hbq x0 x1 x2 x3 p0 p1 p2 p3 p4 p5 p6
          go_wp2
          go_roundw
          case rel => exact ⟨1, by omega, by go_num, HQ, HP5, Lib.hid (fun i z hi hz => by
            obtain rfl : i = 0 := by omega
            rw [HX.out] at hz; cases hz
            exact ⟨HC.out, fun j _ e => by omega⟩)⟩
          case measure => simp [intOf]; omega
        | false =>
          have HC := Lib.hid hcv
          refine wp_region_quiet_bw (by kernel_rfl) (by kernel_rfl) ?_
          repeat (go_big_quiet_step (first | (go_at_call 91; refine Calls.bw_of (page_itemKey _ _ _ _ _)) | (go_at_call 52; refine Calls.bw_of (page_Covers p _ _ _ _ _ _ _ _))))
          refine wpQuiet_nil ?_
          intro wq hw'
          obtain ⟨⟨_, hbq⟩, hw''⟩ := hw'
          subst hw''
          have HQ : Hid (Below w.heap.size w wq) := Lib.hid (HB4.out.trans (hbq.mono HB4.out.size))
          clear hbq x0 x1 x2 x3 p0 p1 p2 p3 p4 p5 p6
          go_wp2
          go_ret
          exact ⟨ret_bool (rises_no HX.out (.inl HC.out)), HQ.out⟩
      · obtain ⟨ad', y, e1, hy, _, h4, y0, y1, y2, y3⟩ := (HR.out.below HB4.out).item (i := k) (by omega)
        cases e1
        have hky : (l.map (·.key))[k]? = some y.key := by rw [List.getElem?_map, hy.out]; rfl
        have HY := Lib.hid hky
        have z0 := BW.cell y0
        have z1 := BW.cell y1
        have z2 := BW.cell y2
        have z3 := BW.cell y3
        clear y0 y1 y2 y3 hky
        have hgd : (0 : Int) < ((k + 1 : Nat) : Int) := by omega
        have hsub : ((k + 1 : Nat) : Int) - 1 = (k : Int) := by omega
        have hlt2 : (k : Int) < (l.length : Int) := by omega
        cases hl : lt y.key x.key with
        | true =>
          have HL := Lib.hid hl
          unfold lt at hl
          cases hcv : p.covers x.key with
          | true =>
            have HC := Lib.hid hcv
            refine wp_region_quiet_bw (by kernel_rfl) (by kernel_rfl) ?_
            repeat (go_big_quiet_step (first | (go_at_call 91; refine Calls.bw_of (page_itemKey _ _ _ _ _)) | (go_at_call 52; refine Calls.bw_of (page_Covers p _ _ _ _ _ _ _ _))))
            refine wpQuiet_nil ?_
            intro wq hw'
            obtain ⟨⟨_, hbq⟩, hw''⟩ := hw'
            subst hw''
            have HQ : Hid (Below w.heap.size w wq) := Lib.hid (HB4.out.trans (hbq.mono HB4.out.size))
            have HP5 : Hid (Blk wq w.heap.size 27 #[.int .i64 p.level, .string p.low, .string p.high, .bool p.last, .int .i64 p.side, .slice A1 n1 k1, .slice A2 n2 k2]) := Lib.hid (HP4.out.below hbq HP4.out.lt)
            clear hbq x0 x1 x2 x3 p0 p1 p2 p3 p4 p5 p6 z0 z1 z2 z3
            go_wp2
            go_roundw
            case rel => exact ⟨k + 1 + 1, by omega, by go_num, HQ, HP5, Lib.hid (fun i z hi hz => by
              rcases Nat.lt_or_ge i (k + 1) with h | h
              · exact hno.out i z h hz
              · obtain rfl : i = k + 1 := by omega
                rw [HX.out] at hz; cases hz
                refine ⟨HC.out, fun j u e hu => ?_⟩
                obtain rfl : j = k := by omega
                rw [HY.out] at hu; cases hu
                exact HL.out)⟩
            case measure => simp [intOf]; omega
          | false =>
            have HC := Lib.hid hcv
            refine wp_region_quiet_bw (by kernel_rfl) (by kernel_rfl) ?_
            repeat (go_big_quiet_step (first | (go_at_call 91; refine Calls.bw_of (page_itemKey _ _ _ _ _)) | (go_at_call 52; refine Calls.bw_of (page_Covers p _ _ _ _ _ _ _ _))))
            refine wpQuiet_nil ?_
            intro wq hw'
            obtain ⟨⟨_, hbq⟩, hw''⟩ := hw'
            subst hw''
            have HQ : Hid (Below w.heap.size w wq) := Lib.hid (HB4.out.trans (hbq.mono HB4.out.size))
            clear hbq x0 x1 x2 x3 p0 p1 p2 p3 p4 p5 p6 z0 z1 z2 z3
            go_wp2
            go_ret
            exact ⟨ret_bool (rises_no HX.out (.inl HC.out)), HQ.out⟩
        | false =>
          have HL := Lib.hid hl
          unfold lt at hl
          refine wp_region_quiet_bw (by kernel_rfl) (by kernel_rfl) ?_
          repeat (go_big_quiet_step (first | (go_at_call 91; refine Calls.bw_of (page_itemKey _ _ _ _ _)) | (go_at_call 52; refine Calls.bw_of (page_Covers p _ _ _ _ _ _ _ _))))
          refine wpQuiet_nil ?_
          intro wq hw'
          obtain ⟨⟨_, hbq⟩, hw''⟩ := hw'
          subst hw''
          have HQ : Hid (Below w.heap.size w wq) := Lib.hid (HB4.out.trans (hbq.mono HB4.out.size))
          clear hbq x0 x1 x2 x3 p0 p1 p2 p3 p4 p5 p6 z0 z1 z2 z3
          go_wp2
          go_ret
          exact ⟨ret_bool (rises_no HX.out (.inr ⟨k, _, rfl, HY.out, HL.out⟩)), HQ.out⟩
    · go_wp2
      go_ret
      exact ⟨ret_bool (rises_yes (fun i x hi => hno.out i x (by have := (List.getElem?_eq_some_iff.1 hi).1; simp at this; omega) hi)), hb.out⟩
end Go.Proofs.YtjbdmaehomhdeaaGreat

namespace Go.Proofs.YtjbdmaehomhdeaaGreat
open Go.RowKit

set_option maxHeartbeats 1000000 in
theorem rising_kid (p : Page) (A1 A2 : Option Addr) (n1 n2 k1 k2 : Nat) (A : Option Addr) (c lo : Nat) (l : List Kid) (w : World) (hr : Rd Kid.cells 2 w lo w.heap.size A l) (hlen : l.length ≤ 140737488351232) :
    Calls Tryz.prog 94 #[p.raw A1 n1 k1 A2 n2 k2, .slice A l.length c, .func (.func 95) #[] #[]] w fun e w' => e = .returned (.bool (rises p (l.map (·.key)))) ∧ Below w.heap.size w w' := by
  have HR := Lib.hid hr
  clear hr
  unfold Page.raw
  go_enter Tryz.func94, Tryz.ntmps94
  go_wp2
  go_loopw [11] (fun i wr => ∃ k : Nat, k ≤ l.length ∧ i = .int .i64 k ∧ Hid (Below w.heap.size w wr) ∧ Hid (Blk wr w.heap.size 27 #[.int .i64 p.level, .string p.low, .string p.high, .bool p.last, .int .i64 p.side, .slice A1 n1 k1, .slice A2 n2 k2])
    ∧ Hid (∀ i x, i < k → (l.map (·.key))[i]? = some x → p.covers x = true ∧ ∀ j y, i = j + 1 → (l.map (·.key))[j]? = some y → lt y x = true)) (fun i _ => l.length - (intOf i).toNat)
  case atStart => exact ⟨0, Nat.zero_le _, rfl, Lib.hid ((Below.refl _ _).alloc (Nat.le_refl _) _), Lib.hid (Blk.new _ _ _), Lib.hid (fun _ _ h => by omega)⟩
  case round =>
    obtain ⟨k, hk, rfl, hb, hP, hno⟩ := hrel
    by_cases hlt : k < l.length
    · obtain ⟨ad, x, rfl, hx, h1, h2, c0, c1⟩ := (HR.out.below hb.out).kid hlt
      go_upto_region 4 with (fail)
      have hg : w.heap.size < wr.heap.size := hP.out.lt
      have hX := Blk.new wr 61 #[Value.string x.key, Value.int IntKind.i64 x.page]
      have hP4 := hP.out.alloc (Obj.cells #[Value.string x.key, Value.int IntKind.i64 x.page] 61)
      have hb4 : Below w.heap.size w (wr.alloc (Obj.cells #[Value.string x.key, Value.int IntKind.i64 x.page] 61)) := hb.out.alloc (Nat.le_of_lt hg) _
      generalize (wr.alloc (Obj.cells #[Value.string x.key, Value.int IntKind.i64 x.page] 61)) = w4 at *
      have HB4 := Lib.hid hb4
      have x0 := BW.blk hX 0 _ rfl
      have x1 := BW.blk hX 1 _ rfl
      have p0 := BW.blk hP4 0 _ rfl
      have p1 := BW.blk hP4 1 _ rfl
      have p2 := BW.blk hP4 2 _ rfl
      have p3 := BW.blk hP4 3 _ rfl
      have p4 := BW.blk hP4 4 _ rfl
      have p5 := BW.blk hP4 5 _ rfl
      have p6 := BW.blk hP4 6 _ rfl
      have HP4 := Lib.hid hP4
      clear hX hP4 hP hb4 c0 c1
      have hkx : (l.map (·.key))[k]? = some x.key := by rw [List.getElem?_map, hx.out]; rfl
      have HX := Lib.hid hkx
      clear hkx
      rcases k with _ | k
      · have hgd : decide ((0 : Int) > 0) = false := by decide
        cases hcv : p.covers x.key with
        | true =>
          have HC := Lib.hid hcv
          refine wp_region_quiet_bw (by kernel_rfl) (by kernel_rfl) ?_
          repeat (go_big_quiet_step (first | (go_at_call 95; refine Calls.bw_of (page_kidKey _ _ _)) | (go_at_call 52; refine Calls.bw_of (page_Covers p _ _ _ _ _ _ _ _))))
          refine wpQuiet_nil ?_
          intro wq hw'
          obtain ⟨⟨_, hbq⟩, hw''⟩ := hw'
          subst hw''
          have HQ : Hid (Below w.heap.size w wq) := Lib.hid (HB4.out.trans (hbq.mono HB4.out.size))
          have HP5 : Hid (Blk wq w.heap.size 27 #[.int .i64 p.level, .string p.low, .string p.high, .bool p.last, .int .i64 p.side, .slice A1 n1 k1, .slice A2 n2 k2]) := Lib.hid (HP4.out.below hbq HP4.out.lt)
          clear hbq x0 x1 p0 p1 p2 p3 p4 p5 p6
          go_wp2
          go_roundw
          case rel => exact ⟨1, by omega, by go_num, HQ, HP5, Lib.hid (fun i z hi hz => by
            obtain rfl : i = 0 := by omega
            rw [HX.out] at hz; cases hz
            exact ⟨HC.out, fun j _ e => by omega⟩)⟩
          case measure => simp [intOf]; omega
        | false =>
          have HC := Lib.hid hcv
          refine wp_region_quiet_bw (by kernel_rfl) (by kernel_rfl) ?_
          repeat (go_big_quiet_step (first | (go_at_call 95; refine Calls.bw_of (page_kidKey _ _ _)) | (go_at_call 52; refine Calls.bw_of (page_Covers p _ _ _ _ _ _ _ _))))
          refine wpQuiet_nil ?_
          intro wq hw'
          obtain ⟨⟨_, hbq⟩, hw''⟩ := hw'
          subst hw''
          have HQ : Hid (Below w.heap.size w wq) := Lib.hid (HB4.out.trans (hbq.mono HB4.out.size))
          clear hbq x0 x1 p0 p1 p2 p3 p4 p5 p6
          go_wp2
          go_ret
          exact ⟨ret_bool (rises_no HX.out (.inl HC.out)), HQ.out⟩
      · obtain ⟨ad', y, e1, hy, _, h4, y0, y1⟩ := (HR.out.below HB4.out).kid (i := k) (by omega)
        cases e1
        have hky : (l.map (·.key))[k]? = some y.key := by rw [List.getElem?_map, hy.out]; rfl
        have HY := Lib.hid hky
        have z0 := BW.cell y0
        have z1 := BW.cell y1
        clear y0 y1 hky
        have hgd : (0 : Int) < ((k + 1 : Nat) : Int) := by omega
        have hsub : ((k + 1 : Nat) : Int) - 1 = (k : Int) := by omega
        have hlt2 : (k : Int) < (l.length : Int) := by omega
        cases hl : lt y.key x.key with
        | true =>
          have HL := Lib.hid hl
          unfold lt at hl
          cases hcv : p.covers x.key with
          | true =>
            have HC := Lib.hid hcv
            refine wp_region_quiet_bw (by kernel_rfl) (by kernel_rfl) ?_
            repeat (go_big_quiet_step (first | (go_at_call 95; refine Calls.bw_of (page_kidKey _ _ _)) | (go_at_call 52; refine Calls.bw_of (page_Covers p _ _ _ _ _ _ _ _))))
            refine wpQuiet_nil ?_
            intro wq hw'
            obtain ⟨⟨_, hbq⟩, hw''⟩ := hw'
            subst hw''
            have HQ : Hid (Below w.heap.size w wq) := Lib.hid (HB4.out.trans (hbq.mono HB4.out.size))
            have HP5 : Hid (Blk wq w.heap.size 27 #[.int .i64 p.level, .string p.low, .string p.high, .bool p.last, .int .i64 p.side, .slice A1 n1 k1, .slice A2 n2 k2]) := Lib.hid (HP4.out.below hbq HP4.out.lt)
            clear hbq x0 x1 p0 p1 p2 p3 p4 p5 p6 z0 z1
            go_wp2
            go_roundw
            case rel => exact ⟨k + 1 + 1, by omega, by go_num, HQ, HP5, Lib.hid (fun i z hi hz => by
              rcases Nat.lt_or_ge i (k + 1) with h | h
              · exact hno.out i z h hz
              · obtain rfl : i = k + 1 := by omega
                rw [HX.out] at hz; cases hz
                refine ⟨HC.out, fun j u e hu => ?_⟩
                obtain rfl : j = k := by omega
                rw [HY.out] at hu; cases hu
                exact HL.out)⟩
            case measure => simp [intOf]; omega
          | false =>
            have HC := Lib.hid hcv
            refine wp_region_quiet_bw (by kernel_rfl) (by kernel_rfl) ?_
            repeat (go_big_quiet_step (first | (go_at_call 95; refine Calls.bw_of (page_kidKey _ _ _)) | (go_at_call 52; refine Calls.bw_of (page_Covers p _ _ _ _ _ _ _ _))))
            refine wpQuiet_nil ?_
            intro wq hw'
            obtain ⟨⟨_, hbq⟩, hw''⟩ := hw'
            subst hw''
            have HQ : Hid (Below w.heap.size w wq) := Lib.hid (HB4.out.trans (hbq.mono HB4.out.size))
            clear hbq x0 x1 p0 p1 p2 p3 p4 p5 p6 z0 z1
            go_wp2
            go_ret
            exact ⟨ret_bool (rises_no HX.out (.inl HC.out)), HQ.out⟩
        | false =>
          have HL := Lib.hid hl
          unfold lt at hl
          refine wp_region_quiet_bw (by kernel_rfl) (by kernel_rfl) ?_
          repeat (go_big_quiet_step (first | (go_at_call 95; refine Calls.bw_of (page_kidKey _ _ _)) | (go_at_call 52; refine Calls.bw_of (page_Covers p _ _ _ _ _ _ _ _))))
          refine wpQuiet_nil ?_
          intro wq hw'
          obtain ⟨⟨_, hbq⟩, hw''⟩ := hw'
          subst hw''
          have HQ : Hid (Below w.heap.size w wq) := Lib.hid (HB4.out.trans (hbq.mono HB4.out.size))
          clear hbq x0 x1 p0 p1 p2 p3 p4 p5 p6 z0 z1
          go_wp2
          go_ret
          exact ⟨ret_bool (rises_no HX.out (.inr ⟨k, _, rfl, HY.out, HL.out⟩)), HQ.out⟩
    · go_wp2
      go_ret
      exact ⟨ret_bool (rises_yes (fun i x hi => hno.out i x (by have := (List.getElem?_eq_some_iff.1 hi).1; simp at this; omega) hi)), hb.out⟩
end Go.Proofs.YtjbdmaehomhdeaaGreat

namespace Go.Proofs.YtjbdmaehomhdeaaGreat
open Go.RowKit

/-- a kid that may not be -/
def Kid.bad (x : Kid) : Bool := !isPage x.page || decide ((x.key.size : Int) > 16)

set_option maxHeartbeats 400000 in
theorem inner_bad (x : Kid) (w : World) :
    Calls Tryz.prog 92 #[x.val] w fun e w' => e = .returned (.bool x.bad) ∧ Below w.heap.size w w' := by
  unfold Kid.val
  go_enter Tryz.func92, Tryz.ntmps92
  go_wp2_with (go_at_call 73; refine (page_isPage _ _).mono ?_; rintro e w' ⟨rfl, rfl⟩)
  all_goals go_ret
  all_goals refine ⟨ret_bool ?_, (Below.refl _ _).alloc (Nat.le_refl _) _⟩
  all_goals unfold Kid.bad
  all_goals simp_all

set_option maxHeartbeats 400000 in
theorem indexFunc_inner (A : Option Addr) (c lo : Nat) (l : List Kid) (w : World) (hr : Rd Kid.cells 2 w lo w.heap.size A l) (hlen : l.length ≤ 140737488351232) :
    Calls Tryz.prog 98 #[.slice A l.length c, .func (.func 92) #[] #[]] w fun e w' => e = .returned (.int .i64 (idx (fun x => x.bad) l)) ∧ Below w.heap.size w w' := by
  have HR := Lib.hid hr
  clear hr
  go_enter Tryz.func98, Tryz.ntmps98
  go_wp2
  go_loopw [8] (fun i wr => ∃ k : Nat, k ≤ l.length ∧ i = .int .i64 k ∧ Hid (Below w.heap.size w wr) ∧ Hid (∀ j y, j < k → l[j]? = some y → (y.bad) = false)) (fun i _ => l.length - (intOf i).toNat)
  case atStart => exact ⟨0, Nat.zero_le _, rfl, Lib.hid (Below.refl _ _), Lib.hid (by intro j y h; omega)⟩
  case round =>
    obtain ⟨k, hk, rfl, hb, hno⟩ := hrel
    by_cases hlt : k < l.length
    · obtain ⟨ad, x, rfl, hx, h1, h2, c0, c1⟩ := (HR.out.below hb.out).kid hlt
      cases hq : (x.bad) with
      | true =>
        have HQ := Lib.hid hq
        go_wp2_with (go_at_call 92; refine (inner_bad x _).mono ?_; rintro e w1 ⟨rfl, hb1⟩)
        go_ret
        exact ⟨ret_i64 (idx_hit hx.out HQ.out hno.out).symm, hb.out.trans (hb1.mono (hb.out.size))⟩
      | false =>
        have HQ := Lib.hid hq
        go_wp2_with (go_at_call 92; refine (inner_bad x _).mono ?_; rintro e w1 ⟨rfl, hb1⟩)
        go_roundw
        case rel => exact ⟨k + 1, by omega, by go_num, Lib.hid (hb.out.trans (hb1.mono hb.out.size)), Lib.hid (by
          intro j y hj hy
          rcases Nat.lt_or_ge j k with h | h
          · exact hno.out j y h hy
          · obtain rfl : j = k := by omega
            rw [hx.out] at hy; cases hy; exact HQ.out)⟩
        case measure => simp [intOf]; omega
    · go_wp2
      go_ret
      exact ⟨ret_i64 (idx_none (fun j y hj hy => hno.out j y (by omega) hy)).symm, hb.out⟩

set_option maxHeartbeats 400000 in
theorem contains_inner (A : Option Addr) (c lo : Nat) (l : List Kid) (w : World) (hr : Rd Kid.cells 2 w lo w.heap.size A l) (hlen : l.length ≤ 140737488351232) :
    Calls Tryz.prog 93 #[.slice A l.length c, .func (.func 92) #[] #[]] w fun e w' => e = .returned (.bool (l.any (fun x => x.bad))) ∧ Below w.heap.size w w' := by
  go_enter Tryz.func93, Tryz.ntmps93
  go_wp2_with (go_at_call 98; refine (indexFunc_inner A c lo l _ hr hlen).mono ?_; rintro e w1 ⟨rfl, hb1⟩)
  go_ret
  exact ⟨ret_bool (idx_any _ _), hb1⟩
end Go.Proofs.YtjbdmaehomhdeaaGreat

namespace Go.Proofs.YtjbdmaehomhdeaaGreat
open Go.RowKit

/-- a page's lists in memory, in blocks from lo on, below hi -/
structure Pg (w : World) (lo hi : Nat) (p : Page) (A A' : Option Addr) (c c' : Nat) : Prop where
  items : Rd Item.cells 4 w lo hi A p.items
  kids : Rd Kid.cells 2 w lo hi A' p.kids
  li : p.items.length ≤ c
  lk : p.kids.length ≤ c'
  bi : p.items.length ≤ 140737488351232
  bk : p.kids.length ≤ 140737488351232
theorem Pg.below {w w' : World} {lo hi : Nat} {p : Page} {A A' : Option Addr} {c c' : Nat} (h : Pg w lo hi p A A' c c') (hb : Below hi w w') : Pg w' lo hi p A A' c c' := ⟨h.items.below hb, h.kids.below hb, h.li, h.lk, h.bi, h.bk⟩
theorem Pg.mono {w : World} {lo lo' hi hi' : Nat} {p : Page} {A A' : Option Addr} {c c' : Nat} (h : Pg w lo hi p A A' c c') (h1 : lo' ≤ lo) (h2 : hi ≤ hi') : Pg w lo' hi' p A A' c c' := ⟨h.items.mono h1 h2, h.kids.mono h1 h2, h.li, h.lk, h.bi, h.bk⟩

noncomputable def Page.leafB (p : Page) : Bool := decide (p.kids.length = 0) && decide (p.items.length ≤ 120) && !(p.items.any (fun x => x.check != 0)) && rises p (p.items.map (·.key))

set_option maxHeartbeats 400000 in
theorem page_leaf (p : Page) (A A' : Option Addr) (c c' lo : Nat) (w : World) (hp : Pg w lo w.heap.size p A A' c c') :
    Calls Tryz.prog 74 #[p.val A c A' c'] w fun e w' => e = .returned (.bool p.leafB) ∧ Below w.heap.size w w' := by
  obtain ⟨h1, h2, h3, h4, h5, h6⟩ := hp
  have H1 := Lib.hid h1
  clear h1 h2 h3 h4
  unfold Page.val Page.raw
  obtain ⟨ni, hni⟩ : ∃ n, n = p.items.length := ⟨_, rfl⟩
  obtain ⟨nk, hnk⟩ : ∃ n, n = p.kids.length := ⟨_, rfl⟩
  rw [← hni, ← hnk]
  have HNI := Lib.hid hni
  have HNK := Lib.hid hnk
  have H5 := Lib.hid h5
  clear hni hnk h5 h6
  go_enter Tryz.func74, Tryz.ntmps74
  go_upto_region 2 with (fail)
  have hP : PBlk (w.alloc (Obj.cells #[Value.int IntKind.i64 p.level, Value.string p.low, Value.string p.high, Value.bool p.last, Value.int IntKind.i64 p.side, Value.slice A ni c, Value.slice A' nk c'] 27)) w.heap.size p A ni c A' nk c' := Blk.new _ _ _
  have hB : Below w.heap.size w (w.alloc (Obj.cells #[Value.int IntKind.i64 p.level, Value.string p.low, Value.string p.high, Value.bool p.last, Value.int IntKind.i64 p.side, Value.slice A ni c, Value.slice A' nk c'] 27)) := (Below.refl _ _).alloc (Nat.le_refl _) _
  generalize (w.alloc (Obj.cells #[Value.int IntKind.i64 p.level, Value.string p.low, Value.string p.high, Value.bool p.last, Value.int IntKind.i64 p.side, Value.slice A ni c, Value.slice A' nk c'] 27)) = w0 at *
  have HP := Lib.hid hP
  have HB := Lib.hid hB
  clear hP hB
  obtain ⟨q0, q1, q2, q3, q4, q5, q6⟩ := HP.out.cells
  have hR0 : Rd Item.cells 4 w0 lo w0.heap.size A p.items := (H1.out.below HB.out).mono (Nat.le_refl _) HB.out.size
  have HR0 := Lib.hid hR0
  clear hR0
  by_cases hk : nk = 0
  · by_cases hi : ni ≤ 120
    · have hk' : (nk : Int) = 0 := by omega
      have hi' : (ni : Int) ≤ 120 := by omega
      have HK : Hid (p.kids.length = 0) := Lib.hid (by rw [← HNK.out]; exact hk)
      have HI : Hid (p.items.length ≤ 120) := Lib.hid (by rw [← HNI.out]; exact hi)
      cases hc : (p.items.any (fun x => x.check != 0)) with
      | true =>
        have HC := Lib.hid hc
        clear hc
        go_wp2_with (go_at_call 89; rw [HNI.out]; refine (contains_leaf A c lo p.items _ HR0.out H5.out).mono ?_; rw [HC.out]; rintro e w1 ⟨rfl, hb1⟩)
        go_ret
        exact ⟨ret_bool (by unfold Page.leafB; rw [HC.out]; simp), HB.out.trans (hb1.mono HB.out.size)⟩
      | false =>
        have HC := Lib.hid hc
        clear hc
        go_wp2_with (first | (go_at_call 89; rw [HNI.out]; refine (contains_leaf A c lo p.items _ HR0.out H5.out).mono ?_; rw [HC.out]; rintro e w1 ⟨rfl, hb1⟩; obtain ⟨r0, r1, r2, r3, r4, r5, r6⟩ := PBlk.cells (HP.out.below hb1 HP.out.lt); rw [HNI.out] at r5) | (go_at_call 90; refine (rising_item p A A' _ _ c c' A c lo p.items _ ((HR0.out.below hb1).mono (Nat.le_refl _) hb1.size) H5.out).mono ?_; rintro e w2 ⟨rfl, hb2⟩))
        go_ret
        exact ⟨ret_bool (by unfold Page.leafB; rw [HC.out, HK.out]; simp [HI.out]), HB.out.trans ((hb1.trans (hb2.mono hb1.size)).mono HB.out.size)⟩
    · have hk' : (nk : Int) = 0 := by omega
      have hi' : ¬ (ni : Int) ≤ 120 := by omega
      have HI : Hid (¬ p.items.length ≤ 120) := Lib.hid (by rw [← HNI.out]; exact hi)
      go_wp2
      go_ret
      exact ⟨ret_bool (by unfold Page.leafB; simp [HI.out]), HB.out⟩
  · have hk' : ¬ (nk : Int) = 0 := by omega
    have HK : Hid (¬ p.kids.length = 0) := Lib.hid (by rw [← HNK.out]; exact hk)
    go_wp2
    all_goals go_ret
    all_goals exact ⟨ret_bool (by unfold Page.leafB; simp [HK.out]), HB.out⟩

/-- the same text -/
def same (a b : ByteArray) : Bool := a.toList == b.toList
noncomputable def Page.innerB (p : Page) : Bool := decide (p.items.length = 0) && decide (1 ≤ p.kids.length) && decide (p.kids.length ≤ 120) && p.kids.head?.any (fun x => same x.key p.low) && !(p.kids.any (fun x => x.bad)) && rises p (p.kids.map (·.key))

set_option maxHeartbeats 400000 in
theorem page_inner (p : Page) (A A' : Option Addr) (c c' lo : Nat) (w : World) (hp : Pg w lo w.heap.size p A A' c c') :
    Calls Tryz.prog 75 #[p.val A c A' c'] w fun e w' => e = .returned (.bool p.innerB) ∧ Below w.heap.size w w' := by
  obtain ⟨h1, h2, h3, h4, h5, h6⟩ := hp
  have H1 := Lib.hid h2
  clear h1 h2 h3 h4
  unfold Page.val Page.raw
  obtain ⟨ni, hni⟩ : ∃ n, n = p.items.length := ⟨_, rfl⟩
  obtain ⟨nk, hnk⟩ : ∃ n, n = p.kids.length := ⟨_, rfl⟩
  rw [← hni, ← hnk]
  have HNI := Lib.hid hni
  have HNK := Lib.hid hnk
  have H6 := Lib.hid h6
  clear hni hnk h5 h6
  go_enter Tryz.func75, Tryz.ntmps75
  go_upto_region 1 with (fail)
  have hP : PBlk (w.alloc (Obj.cells #[Value.int IntKind.i64 p.level, Value.string p.low, Value.string p.high, Value.bool p.last, Value.int IntKind.i64 p.side, Value.slice A ni c, Value.slice A' nk c'] 27)) w.heap.size p A ni c A' nk c' := Blk.new _ _ _
  have hB : Below w.heap.size w (w.alloc (Obj.cells #[Value.int IntKind.i64 p.level, Value.string p.low, Value.string p.high, Value.bool p.last, Value.int IntKind.i64 p.side, Value.slice A ni c, Value.slice A' nk c'] 27)) := (Below.refl _ _).alloc (Nat.le_refl _) _
  generalize (w.alloc (Obj.cells #[Value.int IntKind.i64 p.level, Value.string p.low, Value.string p.high, Value.bool p.last, Value.int IntKind.i64 p.side, Value.slice A ni c, Value.slice A' nk c'] 27)) = w0 at *
  have HP := Lib.hid hP
  have HB := Lib.hid hB
  clear hP hB
  obtain ⟨q0, q1, q2, q3, q4, q5, q6⟩ := HP.out.cells
  have hR0 : Rd Kid.cells 2 w0 lo w0.heap.size A' p.kids := (H1.out.below HB.out).mono (Nat.le_refl _) HB.out.size
  have HR0 := Lib.hid hR0
  clear hR0
  by_cases hi : ni = 0
  · by_cases hk1 : 1 ≤ nk
    · by_cases hk : nk ≤ 120
      · have g1 : ¬ ((ni : Int) > 0) := by omega
        have g2 : ¬ ((nk : Int) < 1) := by omega
        have g3 : ¬ ((nk : Int) > 120) := by omega
        have g4 : (0 : Int) < (nk : Int) := by omega
        have HI : Hid (p.items.length = 0) := Lib.hid (by rw [← HNI.out]; exact hi)
        have HK1 : Hid (1 ≤ p.kids.length) := Lib.hid (by rw [← HNK.out]; exact hk1)
        have HK : Hid (p.kids.length ≤ 120) := Lib.hid (by rw [← HNK.out]; exact hk)
        obtain ⟨ad, x, rfl, hx, _, _, c0, c1⟩ := HR0.out.kid (i := 0) (by rw [← HNK.out]; omega)
        have ha0 : ad.add (0 * 2) = ad := rfl
        rw [ha0] at c0 c1
        have HH : Hid (p.kids.head?.any (fun x => same x.key p.low) = same x.key p.low) := Lib.hid (by rw [List.head?_eq_getElem?, hx.out]; rfl)
        cases hkey : (x.key.toList == p.low.toList) with
        | true =>
          have HE : Hid (same x.key p.low = true) := Lib.hid hkey
          go_quiet (fail)
          obtain ⟨wq, hwq⟩ : ∃ w', w' = w0.drewN nq := ⟨_, rfl⟩
          have HQ : Hid (Below w0.heap.size w0 wq) := Lib.hid (by rw [hwq]; exact below_drewN (Below.refl _ _) nq)
          rw [← hwq]
          clear hwq
          have HRq : Hid (Rd Kid.cells 2 wq lo wq.heap.size (some ad) p.kids) := Lib.hid ((HR0.out.below HQ.out).mono (Nat.le_refl _) HQ.out.size)
          clear q0 q1 q2 q3 q4 q5 q6
          obtain ⟨q0, q1, q2, q3, q4, q5, q6⟩ := PBlk.cells (HP.out.below HQ.out HP.out.lt)
          cases hc : (p.kids.any (fun x => x.bad)) with
          | true =>
            have HC := Lib.hid hc
            clear hc
            go_wp2_with (go_at_call 93; rw [HNK.out]; refine (contains_inner (some ad) c' lo p.kids _ HRq.out H6.out).mono ?_; rw [HC.out]; rintro e w1 ⟨rfl, hb1⟩)
            go_ret
            exact ⟨ret_bool (by unfold Page.innerB; rw [HC.out]; simp), HB.out.trans ((HQ.out.trans (hb1.mono HQ.out.size)).mono HB.out.size)⟩
          | false =>
            have HC := Lib.hid hc
            clear hc
            go_wp2_with (first | (go_at_call 93; rw [HNK.out]; refine (contains_inner (some ad) c' lo p.kids _ HRq.out H6.out).mono ?_; rw [HC.out]; rintro e w1 ⟨rfl, hb1⟩; obtain ⟨r0, r1, r2, r3, r4, r5, r6⟩ := PBlk.cells ((HP.out.below HQ.out HP.out.lt).below hb1 (Nat.lt_of_lt_of_le HP.out.lt HQ.out.size)); rw [HNK.out] at r6) | (go_at_call 94; refine (rising_kid p A (some ad) _ _ c c' (some ad) c' lo p.kids _ ((HRq.out.below hb1).mono (Nat.le_refl _) hb1.size) H6.out).mono ?_; rintro e w2 ⟨rfl, hb2⟩))
            go_ret
            exact ⟨ret_bool (by unfold Page.innerB; rw [HC.out, HI.out, HH.out, HE.out]; simp [HK.out, HK1.out]), HB.out.trans ((HQ.out.trans ((hb1.trans (hb2.mono hb1.size)).mono HQ.out.size)).mono HB.out.size)⟩
        | false =>
          have HE : Hid (same x.key p.low = false) := Lib.hid hkey
          go_quiet (fail)
          go_wp2
          go_ret
          exact ⟨ret_bool (by unfold Page.innerB; rw [HH.out, HE.out]; simp), HB.out.trans ((below_drewN (Below.refl _ _) nq).mono HB.out.size)⟩
      · have g1 : ¬ ((ni : Int) > 0) := by omega
        have g2 : ¬ ((nk : Int) < 1) := by omega
        have g3 : ((nk : Int) > 120) := by omega
        have HK : Hid (¬ p.kids.length ≤ 120) := Lib.hid (by rw [← HNK.out]; exact hk)
        go_quiet (fail)
        go_wp2
        go_ret
        exact ⟨ret_bool (by unfold Page.innerB; simp [HK.out]), HB.out.trans ((below_drewN (Below.refl _ _) nq).mono HB.out.size)⟩
    · have g1 : ¬ ((ni : Int) > 0) := by omega
      have g2 : ((nk : Int) < 1) := by omega
      have HK : Hid (¬ 1 ≤ p.kids.length) := Lib.hid (by rw [← HNK.out]; exact hk1)
      go_quiet (fail)
      go_wp2
      go_ret
      exact ⟨ret_bool (by unfold Page.innerB; rw [decide_eq_false HK.out]; simp), HB.out.trans ((below_drewN (Below.refl _ _) nq).mono HB.out.size)⟩
  · have g1 : ((ni : Int) > 0) := by omega
    have g1' : 0 < ni := by omega
    have HI : Hid (¬ p.items.length = 0) := Lib.hid (by rw [← HNI.out]; exact hi)
    go_quiet (fail)
    go_wp2
    go_ret
    exact ⟨ret_bool (by unfold Page.innerB; rw [decide_eq_false HI.out]; simp), HB.out.trans ((below_drewN (Below.refl _ _) nq).mono HB.out.size)⟩
end Go.Proofs.YtjbdmaehomhdeaaGreat

namespace Go.Proofs.YtjbdmaehomhdeaaGreat
open Go.RowKit

def Page.bounds1 (p : Page) : Bool := decide ((p.low.size : Int) ≤ 16) && decide (p.level ≥ 0) && decide (p.level ≤ 7)
def Page.bounds2 (p : Page) (b : Bool) : Bool := cond b (p.high.toList.isEmpty && p.side == 0) (isKey p.high && lt p.low p.high && isPage p.side)
def Page.boundsB (p : Page) : Bool := p.bounds1 && p.bounds2 p.last
theorem bounds_level {p : Page} (h : p.boundsB = true) : 0 ≤ p.level := by
  unfold Page.boundsB Page.bounds1 at h
  simp only [Bool.and_eq_true, decide_eq_true_eq] at h
  exact h.1.1.2
noncomputable def Page.ok (p : Page) : Bool := p.boundsB && (!(p.level == 0) || p.leafB) && (!decide (p.level > 0) || p.innerB)
/-- the errno of Check -/
noncomputable def Page.check (p : Page) : Int := cond p.ok 0 101

theorem Blk.cells7 {w : World} {g : Nat} {t : TypeId} {a b c d e f h : Value} (k : Blk w g t #[a, b, c, d, e, f, h]) :
    w.cell? ⟨g, 0, none⟩ = some a ∧ w.cell? ⟨g, 1, none⟩ = some b ∧ w.cell? ⟨g, 2, none⟩ = some c ∧ w.cell? ⟨g, 3, none⟩ = some d ∧ w.cell? ⟨g, 4, none⟩ = some e ∧ w.cell? ⟨g, 5, none⟩ = some f ∧ w.cell? ⟨g, 6, none⟩ = some h :=
  ⟨k.cell 0, k.cell 1, k.cell 2, k.cell 3, k.cell 4, k.cell 5, k.cell 6⟩

set_option maxHeartbeats 1000000 in
theorem page_Check (p : Page) (A A' : Option Addr) (c c' lo : Nat) (w : World) (hp : Pg w lo w.heap.size p A A' c c') :
    Calls Tryz.prog 40 #[p.val A c A' c'] w fun e w' => e = .returned (.int .i64 p.check) ∧ Below w.heap.size w w' := by
  have H1 := Lib.hid hp
  clear hp
  have HLEAF := Lib.hid (fun w1 h => page_leaf p A A' c c' lo w1 h)
  have HINN := Lib.hid (fun w1 h => page_inner p A A' c c' lo w1 h)
  unfold Page.val Page.raw at HLEAF HINN
  unfold Page.val Page.raw
  obtain ⟨ni, hni⟩ : ∃ n, n = p.items.length := ⟨_, rfl⟩
  obtain ⟨nk, hnk⟩ : ∃ n, n = p.kids.length := ⟨_, rfl⟩
  obtain ⟨bl, hbl⟩ : ∃ n, n = p.last := ⟨_, rfl⟩
  obtain ⟨lv, hlv⟩ : ∃ n, n = p.level := ⟨_, rfl⟩
  rw [← hni, ← hnk, ← hbl, ← hlv]
  rw [← hni, ← hnk, ← hbl, ← hlv] at HLEAF HINN
  have HLV := Lib.hid hlv
  have HBB : Hid (p.boundsB = (p.bounds1 && p.bounds2 bl)) := Lib.hid (by unfold Page.boundsB; rw [hbl])
  clear hni hnk hbl hlv
  obtain ⟨b1, hb1⟩ : ∃ b, b = p.bounds1 := ⟨_, rfl⟩
  rw [← hb1] at HBB
  have HB1 := Lib.hid hb1
  clear hb1
  cases bl with
  | false =>
    go_enter Tryz.func40, Tryz.ntmps40
    go_upto_region 1 with (fail)
    have hP : Blk (w.alloc (Obj.cells #[Value.int IntKind.i64 lv, Value.string p.low, Value.string p.high, Value.bool false, Value.int IntKind.i64 p.side, Value.slice A ni c, Value.slice A' nk c'] 27)) w.heap.size 27 #[Value.int IntKind.i64 lv, Value.string p.low, Value.string p.high, Value.bool false, Value.int IntKind.i64 p.side, Value.slice A ni c, Value.slice A' nk c'] := Blk.new _ _ _
    have hB : Below w.heap.size w (w.alloc (Obj.cells #[Value.int IntKind.i64 lv, Value.string p.low, Value.string p.high, Value.bool false, Value.int IntKind.i64 p.side, Value.slice A ni c, Value.slice A' nk c'] 27)) := (Below.refl _ _).alloc (Nat.le_refl _) _
    generalize (w.alloc (Obj.cells #[Value.int IntKind.i64 lv, Value.string p.low, Value.string p.high, Value.bool false, Value.int IntKind.i64 p.side, Value.slice A ni c, Value.slice A' nk c'] 27)) = w0 at *
    have HP := Lib.hid hP
    have HB := Lib.hid hB
    clear hP hB
    obtain ⟨q0, q1, q2, q3, q4, q5, q6⟩ := Blk.cells7 HP.out
    have hR0 : Pg w0 lo w0.heap.size p A A' c c' := (H1.out.below HB.out).mono (Nat.le_refl _) HB.out.size
    have HR0 := Lib.hid hR0
    clear hR0
    go_cut [3] (fun v wc => v = .bool b1 ∧ w0 = wc)
    case first =>
      go_wp2
      all_goals go_meet
      all_goals exact ⟨by rw [HB1.out]; unfold Page.bounds1; rw [← HLV.out]; congr 1; grind, rfl⟩
    case rest =>
      obtain ⟨rfl, rfl⟩ := hcut
      go_upto_if 19 with (fail)
      go_cut [3] (fun v wc => v = .bool p.boundsB ∧ w0 = wc)
      case first =>
        cases b1
        all_goals go_wp2_with (first | (go_at_call 72; refine (page_isKey _ _).mono ?_; rintro e w' ⟨rfl, rfl⟩) | (go_at_call 73; refine (page_isPage _ _).mono ?_; rintro e w' ⟨rfl, rfl⟩))
        all_goals go_meet
        all_goals (refine ⟨?_, rfl⟩; rw [HBB.out]; unfold Page.bounds2; simp_all [lt])
      case rest =>
        obtain ⟨rfl, rfl⟩ := hcut
        cases hbd : p.boundsB with
        | false =>
          have HBD := Lib.hid hbd
          clear hbd
          go_wp2
          go_ret
          exact ⟨ret_i64 (by unfold Page.check Page.ok; rw [HBD.out, Bool.false_and, Bool.false_and, cond_false]), HB.out⟩
        | true =>
          have HBD := Lib.hid hbd
          clear hbd
          by_cases h0 : lv = 0
          · subst h0
            have e1 : (p.level == 0) = true := by rw [← HLV.out]; rfl
            have e2 : decide (p.level > 0) = false := by rw [← HLV.out]; rfl
            have HE1 := Lib.hid e1
            have HE2 := Lib.hid e2
            clear e1 e2
            cases hlf : p.leafB
            all_goals
              have HLF := Lib.hid hlf
              clear hlf
              go_wp2_with (go_at_call 74; refine (HLEAF.out w0 HR0.out).mono ?_; rw [HLF.out]; rintro e w1 ⟨rfl, hb1⟩; obtain ⟨r0, r1, r2, r3, r4, r5, r6⟩ := Blk.cells7 (HP.out.below hb1 HP.out.lt))
              go_ret
              exact ⟨ret_i64 (by unfold Page.check Page.ok; rw [HBD.out, HE1.out, HE2.out, HLF.out]; simp), HB.out.trans (hb1.mono HB.out.size)⟩
          · have e1 : (p.level == 0) = false := by rw [← HLV.out]; simpa using h0
            have HE1 := Lib.hid e1
            clear e1
            have h1 : lv > 0 := by
              have h2 := bounds_level HBD.out
              rw [← HLV.out] at h2
              omega
            have e2 : decide (p.level > 0) = true := by rw [← HLV.out]; simpa using h1
            have HE2 := Lib.hid e2
            clear e2
            cases hlf : p.innerB
            all_goals
              have HLF := Lib.hid hlf
              clear hlf
              go_wp2_with (go_at_call 75; refine (HINN.out w0 HR0.out).mono ?_; rw [HLF.out]; rintro e w1 ⟨rfl, hb1⟩)
              go_ret
              exact ⟨ret_i64 (by unfold Page.check Page.ok; rw [HBD.out, HE1.out, HE2.out, HLF.out]; simp), HB.out.trans (hb1.mono HB.out.size)⟩
  | true =>
    go_enter Tryz.func40, Tryz.ntmps40
    go_upto_region 1 with (fail)
    have hP : Blk (w.alloc (Obj.cells #[Value.int IntKind.i64 lv, Value.string p.low, Value.string p.high, Value.bool true, Value.int IntKind.i64 p.side, Value.slice A ni c, Value.slice A' nk c'] 27)) w.heap.size 27 #[Value.int IntKind.i64 lv, Value.string p.low, Value.string p.high, Value.bool true, Value.int IntKind.i64 p.side, Value.slice A ni c, Value.slice A' nk c'] := Blk.new _ _ _
    have hB : Below w.heap.size w (w.alloc (Obj.cells #[Value.int IntKind.i64 lv, Value.string p.low, Value.string p.high, Value.bool true, Value.int IntKind.i64 p.side, Value.slice A ni c, Value.slice A' nk c'] 27)) := (Below.refl _ _).alloc (Nat.le_refl _) _
    generalize (w.alloc (Obj.cells #[Value.int IntKind.i64 lv, Value.string p.low, Value.string p.high, Value.bool true, Value.int IntKind.i64 p.side, Value.slice A ni c, Value.slice A' nk c'] 27)) = w0 at *
    have HP := Lib.hid hP
    have HB := Lib.hid hB
    clear hP hB
    obtain ⟨q0, q1, q2, q3, q4, q5, q6⟩ := Blk.cells7 HP.out
    have hR0 : Pg w0 lo w0.heap.size p A A' c c' := (H1.out.below HB.out).mono (Nat.le_refl _) HB.out.size
    have HR0 := Lib.hid hR0
    clear hR0
    go_cut [3] (fun v wc => v = .bool b1 ∧ w0 = wc)
    case first =>
      go_wp2
      all_goals go_meet
      all_goals exact ⟨by rw [HB1.out]; unfold Page.bounds1; rw [← HLV.out]; congr 1; grind, rfl⟩
    case rest =>
      obtain ⟨rfl, rfl⟩ := hcut
      go_upto_if 19 with (fail)
      go_cut [3] (fun v wc => v = .bool p.boundsB ∧ w0 = wc)
      case first =>
        cases b1
        all_goals go_wp2_with (first | (go_at_call 72; refine (page_isKey _ _).mono ?_; rintro e w' ⟨rfl, rfl⟩) | (go_at_call 73; refine (page_isPage _ _).mono ?_; rintro e w' ⟨rfl, rfl⟩))
        all_goals go_meet
        all_goals (refine ⟨?_, rfl⟩; rw [HBB.out]; unfold Page.bounds2; simp_all [lt])
      case rest =>
        obtain ⟨rfl, rfl⟩ := hcut
        cases hbd : p.boundsB with
        | false =>
          have HBD := Lib.hid hbd
          clear hbd
          go_wp2
          go_ret
          exact ⟨ret_i64 (by unfold Page.check Page.ok; rw [HBD.out, Bool.false_and, Bool.false_and, cond_false]), HB.out⟩
        | true =>
          have HBD := Lib.hid hbd
          clear hbd
          by_cases h0 : lv = 0
          · subst h0
            have e1 : (p.level == 0) = true := by rw [← HLV.out]; rfl
            have e2 : decide (p.level > 0) = false := by rw [← HLV.out]; rfl
            have HE1 := Lib.hid e1
            have HE2 := Lib.hid e2
            clear e1 e2
            cases hlf : p.leafB
            all_goals
              have HLF := Lib.hid hlf
              clear hlf
              go_wp2_with (go_at_call 74; refine (HLEAF.out w0 HR0.out).mono ?_; rw [HLF.out]; rintro e w1 ⟨rfl, hb1⟩; obtain ⟨r0, r1, r2, r3, r4, r5, r6⟩ := Blk.cells7 (HP.out.below hb1 HP.out.lt))
              go_ret
              exact ⟨ret_i64 (by unfold Page.check Page.ok; rw [HBD.out, HE1.out, HE2.out, HLF.out]; simp), HB.out.trans (hb1.mono HB.out.size)⟩
          · have e1 : (p.level == 0) = false := by rw [← HLV.out]; simpa using h0
            have HE1 := Lib.hid e1
            clear e1
            have h1 : lv > 0 := by
              have h2 := bounds_level HBD.out
              rw [← HLV.out] at h2
              omega
            have e2 : decide (p.level > 0) = true := by rw [← HLV.out]; simpa using h1
            have HE2 := Lib.hid e2
            clear e2
            cases hlf : p.innerB
            all_goals
              have HLF := Lib.hid hlf
              clear hlf
              go_wp2_with (go_at_call 75; refine (HINN.out w0 HR0.out).mono ?_; rw [HLF.out]; rintro e w1 ⟨rfl, hb1⟩)
              go_ret
              exact ⟨ret_i64 (by unfold Page.check Page.ok; rw [HBD.out, HE1.out, HE2.out, HLF.out]; simp), HB.out.trans (hb1.mono HB.out.size)⟩
end Go.Proofs.YtjbdmaehomhdeaaGreat
