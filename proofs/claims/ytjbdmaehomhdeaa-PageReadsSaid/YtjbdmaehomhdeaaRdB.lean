/- Words for memory: how a slice reads as a list, a block that is known whole. -/
import Derived.WalkKit
import Derived.WalkSpells
import Derived.WalkLawsBesides
import Derived.Deep.QuietTactic
import Derived.BigQuiet
import Derived.Deep.DeepFit
import Derived.Lib.Hide
import Derived.Deep.DeepCutAuto
import Derived.Deep.CutBlock
import Derived.Deep.RegionHeld3
import Derived.Deep.LoopGhost
import Derived.Deep.AppendLies
import Derived.Maps.AppendAt
import Derived.Laws.OwnMore
import Derived.Laws.MakeOwn
import Derived.Laws.Rows
namespace Go.Proofs.Ytjbdmaehomhdeaa
open Go.RowKit

theorem ret_bool {a b : Bool} (h : a = b) : Ending.returned (.bool a) = .returned (.bool b) := by rw [h]
theorem ret_i64 {a b : Int} (h : a = b) : Ending.returned (.int .i64 a) = .returned (.int .i64 b) := by rw [h]

/-! ### how a slice reads -/
theorem block_of_add (a : Addr) (n : Nat) : (a.add n).block = a.block := by unfold Addr.add; split <;> rfl
theorem add_of_add (a : Addr) (i j : Nat) : (a.add i).add j = a.add (i + j) := by
  unfold Addr.add
  by_cases hi : i = 0 <;> by_cases hj : j = 0 <;> simp [hi, hj, Nat.add_assoc]
theorem add_field (a : Addr) (i j : Nat) (hj : 0 < j) : a.add (i + j) = ⟨(a.add i).block, (a.add i).off + j, none⟩ := by
  rw [← add_of_add]; unfold Addr.add; rw [if_neg (by omega)]

/-- the slice at address A reads as the list l, k cells (f x) an element, in blocks from lo on, below hi -/
def Rd {α : Type} (f : α → List Value) (k : Nat) (w : World) (lo hi : Nat) (A : Option Addr) (l : List α) : Prop :=
  l ≠ [] → ∃ ad, A = some ad ∧ lo ≤ ad.block ∧ ad.block < hi ∧ ∀ i x, l[i]? = some x → ∀ j u, (f x)[j]? = some u → w.cell? (ad.add (i * k + j)) = some u

section
variable {α : Type} {f : α → List Value} {k : Nat} {w w' : World} {lo hi lo' hi' : Nat} {A : Option Addr} {l : List α}
theorem Rd.nil : Rd f k w lo hi A [] := fun h => absurd rfl h
theorem Rd.keep (h : Rd f k w lo hi A l) (hk : ∀ p : Addr, lo ≤ p.block → p.block < hi → w'.cell? p = w.cell? p) : Rd f k w' lo hi A l := fun hn => by
  obtain ⟨ad, e, h1, h2, hc⟩ := h hn
  exact ⟨ad, e, h1, h2, fun i x hx j u hu => (hk _ (by rw [block_of_add]; exact h1) (by rw [block_of_add]; exact h2)).trans (hc i x hx j u hu)⟩
theorem Rd.mono (h : Rd f k w lo hi A l) (h1 : lo' ≤ lo) (h2 : hi ≤ hi') : Rd f k w lo' hi' A l := fun hn => by
  obtain ⟨ad, e, a, b, hc⟩ := h hn
  exact ⟨ad, e, Nat.le_trans h1 a, Nat.lt_of_lt_of_le b h2, hc⟩
theorem Rd.below (h : Rd f k w lo hi A l) (hb : Below hi w w') : Rd f k w' lo hi A l := h.keep fun _ _ hp => hb.cell hp
theorem Rd.at_ (h : Rd f k w lo hi A l) {i : Nat} (hi' : i < l.length) : ∃ ad, A = some ad ∧ lo ≤ ad.block ∧ ad.block < hi ∧ ∀ j u, (f l[i])[j]? = some u → w.cell? (ad.add (i * k + j)) = some u := by
  obtain ⟨ad, e, h1, h2, hc⟩ := h (by intro e; subst e; simp at hi')
  exact ⟨ad, e, h1, h2, hc i _ (List.getElem?_eq_getElem hi')⟩
theorem Rd.tail {n c : Nat} (h : Rd f k w lo hi A l) (hl : l.length ≤ c) (hn : n ≤ l.length) : Rd f k w lo hi (if c = n then A else A.map (·.add (n * k))) (l.drop n) := fun hne => by
  have hlt : n < l.length := by
    rcases Nat.lt_or_ge n l.length with h | h
    · exact h
    · exact absurd (List.drop_eq_nil_of_le h) hne
  obtain ⟨ad, rfl, h1, h2, hc⟩ := h (by intro e; subst e; simp at hlt)
  rw [if_neg (by omega)]
  refine ⟨ad.add (n * k), rfl, by rw [block_of_add]; exact h1, by rw [block_of_add]; exact h2, fun i x hx j u hu => ?_⟩
  rw [add_of_add, show n * k + (i * k + j) = (n + i) * k + j by rw [Nat.add_mul]; omega]
  exact hc (n + i) x (by rw [← hx, List.getElem?_drop]) j u hu
theorem Rd.take {n : Nat} (h : Rd f k w lo hi A l) : Rd f k w lo hi A (l.take n) := fun hne => by
  obtain ⟨ad, e, h1, h2, hc⟩ := h (by intro e; subst e; simp at hne)
  refine ⟨ad, e, h1, h2, fun i x hx j u hu => hc i x ?_ j u hu⟩
  rw [List.getElem?_take] at hx
  split at hx
  · exact hx
  · cases hx
end

/-- block g is just these cells, of element type t, none frozen -/
def Blk (w : World) (g : Nat) (t : TypeId) (cs : Array Value) : Prop := w.heap[g]? = some (.cells cs t (0, 0))
section
variable {w w' : World} {g : Nat} {t : TypeId} {cs : Array Value}
theorem Blk.lt (h : Blk w g t cs) : g < w.heap.size := by
  rcases Nat.lt_or_ge g w.heap.size with hlt | hge
  · exact hlt
  · unfold Blk at h; rw [Array.getElem?_eq_none hge] at h; cases h
theorem Blk.cell (h : Blk w g t cs) (i : Nat) : w.cell? ⟨g, i, none⟩ = cs[i]? := cell_of_row w g i cs t (0, 0) h
theorem Blk.frozen (h : Blk w g t cs) (i : Nat) : w.frozen? ⟨g, i, none⟩ = false := by
  unfold Blk at h
  simp [World.frozen?, h]
theorem Blk.new (w : World) (t : TypeId) (cs : Array Value) : Blk (w.alloc (.cells cs t)) w.heap.size t cs := heap_alloc_new w _
theorem Blk.alloc (h : Blk w g t cs) (o : Obj) : Blk (w.alloc o) g t cs := (Below.heap_alloc w o g h.lt).trans h
theorem Blk.set_ (h : Blk w g t cs) (i : Nat) (u : Value) : Blk (w.setCell ⟨g, i, none⟩ u) g t (cs.setIfInBounds i u) := by
  unfold Blk at h ⊢
  simp [World.setCell, Array.getElem?_modify, h]
theorem Blk.far (h : Blk w g t cs) {p : Addr} (hp : g ≠ p.block) (u : Value) : Blk (w.setCell p u) g t cs := (Below.heap_setCell w p u g hp).trans h
theorem Blk.below {B : Nat} (h : Blk w g t cs) (hb : Below B w w') (hg : g < B) : Blk w' g t cs := (hb.block g hg).trans h
end


theorem run_make_rowN {P : Program} (t e : TypeId) (i : TypeInfo) (z : Value) (ht : P.underlying t = some (.slice e)) (hi : P.info? e = some i) (hz : i.zero = some z)
    (kl kc : IntKind) (n c : Nat) (hnc : n ≤ c) (hbytes : i.bytes * c ≤ 281474976710656) (h63 : c ≤ 9223372036854775807) (w : World) :
    (Instr.makeSlice t (.int kl (n : Int)) (.int kc (c : Int))).run P w = .ok (.slice (some ⟨w.heap.size, 0, none⟩) n c) (w.alloc (.cells (madeCells z.cells (c * i.size)) e)) := by
  have hb : (i.bytes : Int) * (c : Int) ≤ 281474976710656 := by
    have h : ((i.bytes * c : Nat) : Int) ≤ 281474976710656 := by omega
    rwa [Int.natCast_mul] at h
  have hr := run_make (P := P) w t e i z ht hi hz kl kc n c (by omega) (by omega) hb (by omega)
  simp only [Int.toNat_natCast] at hr
  exact hr
theorem Blk.setAt {w : World} {g : Nat} {t : TypeId} {cs : Array Value} (h : Blk w g t cs) (i : Nat) (u : Value) : Blk (w.setCell ⟨g, i, none⟩ u) g t (cs.setIfInBounds i u) := h.set_ i u
theorem Blk.drew {w : World} {g : Nat} {t : TypeId} {cs : Array Value} (h : Blk w g t cs) : Blk w.drew g t cs := h
theorem Blk.drewN {w : World} {g : Nat} {t : TypeId} {cs : Array Value} (h : Blk w g t cs) (n : Nat) : Blk (w.drewN n) g t cs := h

/-! ### a region that draws its order, whose callees only lay blocks of their own: one walk -/
structure BW (w : World) where
  w' : World
  h : Below w.heap.size w w'
instance (w : World) : Nonempty (BW w) := ⟨⟨w, Below.refl _ _⟩⟩
theorem wp_region_quiet_bw {P : Program} {id : Nat} {Q : Exit → Act → World → Prop} {a : Act} {w : World} {l : List Oper} (hm : P.follows .mixedOrders = true) (hB : Region.lexB .any l.toArray = true)
    (h : wpQuiet P l.toArray (fun w' => ∃ p : BW w, w' = p.w') (fun a' => ∀ w', (∃ p : BW w, w' = p.w') → Q .normal a' w') l a) : (Code.region id l.toArray true).wp P Q a w :=
  wp_region_quiet (C := fun w' => ∃ p : BW w, w' = p.w') hm hB ⟨⟨w.drew, (Below.refl _ _).drew⟩, rfl⟩ (by simpa using h)
theorem Calls.bw_of {P : Program} {f : FuncId} {args : Array Value} {w : World} {p : BW w} {v : Value}
    (h : Calls P f args p.w' fun e w' => e = .returned v ∧ Below p.w'.heap.size p.w' w') : Calls P f args p.w' fun e w'' => e = .returned v ∧ ∃ q : BW w, w'' = q.w' :=
  h.mono fun _ w' ⟨he, hb⟩ => ⟨he, ⟨w', p.h.trans (hb.mono p.h.size)⟩, rfl⟩
theorem Calls.bw_same {P : Program} {f : FuncId} {args : Array Value} {w : World} {p : BW w} {v : Value}
    (h : Calls P f args p.w' fun e w' => e = .returned v ∧ p.w' = w') : Calls P f args p.w' fun e w'' => e = .returned v ∧ ∃ q : BW w, w'' = q.w' :=
  h.mono fun _ _ ⟨he, hb⟩ => ⟨he, p, hb.symm⟩
theorem BW.cell {w : World} {a : Addr} {v : Value} (h : w.cell? a = some v) (p : BW w) : p.w'.cell? a = some v := (p.h.cell (World.block_lt_of_cell? w a h)).trans h
theorem BW.blk {w : World} {g : Nat} {t : TypeId} {cs : Array Value} (h : Blk w g t cs) (i : Nat) (v : Value) (hv : cs[i]? = some v) (p : BW w) : p.w'.cell? ⟨g, i, none⟩ = some v := BW.cell ((h.cell i).trans hv) p
theorem below_drewN {B : Nat} {a w : World} (h : Below B a w) (n : Nat) : Below B a (w.drewN n) := ⟨h.os, h.tape, h.output, h.size, h.block⟩

end Go.Proofs.Ytjbdmaehomhdeaa
