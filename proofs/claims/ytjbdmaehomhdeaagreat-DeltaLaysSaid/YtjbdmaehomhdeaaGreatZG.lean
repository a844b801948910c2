/- A call's own first blocks. -/
import Derived.Test.YtjbdmaehomhdeaaGreatG0
import Derived.Deep.RegionLaw
set_option linter.unusedSimpArgs false
set_option linter.unusedVariables false
namespace Go.Proofs.YtjbdmaehomhdeaaGreat
open Go.RowKit

/-- in world wc of a call that began in w: the blocks that it has laid first, and nothing older turned -/
structure Fr (w wc : World) (bs : List (TypeId × Array Value)) : Prop where
  be : Below w.heap.size w wc
  sz : w.heap.size + bs.length ≤ wc.heap.size
  bl : ∀ k t cs, bs[k]? = some (t, cs) → Blk wc (w.heap.size + k) t cs
section
variable {w wc w' : World} {bs : List (TypeId × Array Value)} {a b c d : TypeId × Array Value} {t : TypeId} {cs cs' : Array Value}
theorem Fr.nil : Fr w w [] := ⟨Below.refl _ _, by simp, fun k t cs h => by simp at h⟩
theorem Fr.alloc (h : Fr w wc bs) (hs : wc.heap.size = w.heap.size + bs.length) (t : TypeId) (cs : Array Value) : Fr w (wc.alloc (.cells cs t)) (bs ++ [(t, cs)]) := by
  refine ⟨h.be.alloc h.be.size _, by simp [hs]; omega, fun k t' cs' hk => ?_⟩
  rcases Nat.lt_or_ge k bs.length with hl | hl
  · rw [List.getElem?_append_left hl] at hk
    exact (h.bl k t' cs' hk).alloc _
  · rw [List.getElem?_append_right hl] at hk
    have h0 : k - bs.length = 0 := by
      rcases Nat.eq_zero_or_pos (k - bs.length) with h0 | h0
      · exact h0
      · rw [List.getElem?_eq_none (by simp; omega)] at hk; cases hk
    rw [h0] at hk
    simp at hk
    obtain ⟨rfl, rfl⟩ := hk
    rw [show w.heap.size + k = wc.heap.size by omega]
    exact Blk.new _ _ _
theorem Fr.one (w : World) (t : TypeId) (cs : Array Value) : Fr w (w.alloc (.cells cs t)) [(t, cs)] := Fr.nil.alloc (by simp) t cs
theorem Fr.two (w : World) (t t2 : TypeId) (cs cs2 : Array Value) : Fr w ((w.alloc (.cells cs t)).alloc (.cells cs2 t2)) [(t, cs), (t2, cs2)] := (Fr.one w t cs).alloc (by simp) t2 cs2
theorem Fr.three (w : World) (t t2 t3 : TypeId) (cs cs2 cs3 : Array Value) : Fr w (((w.alloc (.cells cs t)).alloc (.cells cs2 t2)).alloc (.cells cs3 t3)) [(t, cs), (t2, cs2), (t3, cs3)] := (Fr.two w t t2 cs cs2).alloc (by simp) t3 cs3
theorem Fr.b0 (h : Fr w wc ((t, cs) :: bs)) : Blk wc w.heap.size t cs := h.bl 0 t cs rfl
theorem Fr.b1 (h : Fr w wc (a :: (t, cs) :: bs)) : Blk wc (w.heap.size + 1) t cs := h.bl 1 t cs rfl
theorem Fr.b2 (h : Fr w wc (a :: b :: (t, cs) :: bs)) : Blk wc (w.heap.size + 2) t cs := h.bl 2 t cs rfl
theorem Fr.b3 (h : Fr w wc (a :: b :: c :: (t, cs) :: bs)) : Blk wc (w.heap.size + 3) t cs := h.bl 3 t cs rfl
theorem Fr.on' {B : Nat} (h : Fr w wc bs) (hb : Below B wc w') (h1 : w.heap.size + bs.length ≤ B) (h2 : B ≤ wc.heap.size) : Fr w w' bs :=
  ⟨h.be.trans (hb.mono (by omega)), Nat.le_trans h.sz hb.size, fun k t cs hk => (h.bl k t cs hk).below hb (by have : k < bs.length := (List.getElem?_eq_some_iff.1 hk).1; omega)⟩
theorem Fr.on (h : Fr w wc bs) (hb : Below wc.heap.size wc w') : Fr w w' bs := h.on' hb h.sz (Nat.le_refl _)
theorem Fr.drew (h : Fr w wc bs) (n : Nat) : Fr w (wc.drewN n) bs := ⟨below_drewN h.be n, h.sz, h.bl⟩
theorem Fr.grown {o : Option Nat} (h : Fr w wc bs) (hg : wc.grownBy w' o) (ho : ∀ k, o = some k → w.heap.size + bs.length ≤ k) : Fr w w' bs :=
  h.on' (Below.grown (Below.refl (w.heap.size + bs.length) wc) hg h.sz ho) (Nat.le_refl _) h.sz
theorem Fr.turn {k : Nat} (h : Fr w wc bs) (hT : Turned wc w' (w.heap.size + k)) (hB : Blk w' (w.heap.size + k) t cs') (hk : k < bs.length) : Fr w w' (bs.set k (t, cs')) := by
  refine ⟨hT.below h.be (by omega) h.be.size, by rw [hT.sz, List.length_set]; exact h.sz, fun j t2 cs2 hj => ?_⟩
  rcases Nat.decEq j k with hne | heq
  · rw [List.getElem?_set_ne (Ne.symm hne)] at hj
    exact hT.blk (h.bl j t2 cs2 hj) (by omega)
  · subst heq
    rw [List.getElem?_set_self hk] at hj
    cases hj
    exact hB
theorem Fr.t0 (h : Fr w wc ((t, cs) :: bs)) (hT : Turned wc w' w.heap.size) (hB : Blk w' w.heap.size t cs') : Fr w w' ((t, cs') :: bs) := h.turn (k := 0) hT hB (by simp)
theorem Fr.t1 (h : Fr w wc (a :: (t, cs) :: bs)) (hT : Turned wc w' (w.heap.size + 1)) (hB : Blk w' (w.heap.size + 1) t cs') : Fr w w' (a :: (t, cs') :: bs) := h.turn (k := 1) hT hB (by simp)
theorem Fr.t2 (h : Fr w wc (a :: b :: (t, cs) :: bs)) (hT : Turned wc w' (w.heap.size + 2)) (hB : Blk w' (w.heap.size + 2) t cs') : Fr w w' (a :: b :: (t, cs') :: bs) := h.turn (k := 2) hT hB (by simp)
theorem Fr.set {k : Nat} (h : Fr w wc bs) (i : Nat) (u : Value) (hk : bs[k]? = some (t, cs)) (hc : cs.setIfInBounds i u = cs') : Fr w (wc.setCell ⟨w.heap.size + k, i, none⟩ u) (bs.set k (t, cs')) := by
  have hl : k < bs.length := (List.getElem?_eq_some_iff.1 hk).1
  have hB := (h.bl k t cs hk).set_ i u
  rw [hc] at hB
  refine h.turn ⟨⟨rfl, rfl, rfl, by simp, fun j _ hj => Below.heap_setCell wc ⟨w.heap.size + k, i, none⟩ u j (by simpa using hj)⟩, by simp⟩ hB hl
theorem Fr.set0 (h : Fr w wc ((t, cs) :: bs)) (i : Nat) (u : Value) (hc : cs.setIfInBounds i u = cs') : Fr w (wc.setCell ⟨w.heap.size, i, none⟩ u) ((t, cs') :: bs) := h.set (k := 0) i u rfl hc
theorem Fr.set1 (h : Fr w wc (a :: (t, cs) :: bs)) (i : Nat) (u : Value) (hc : cs.setIfInBounds i u = cs') : Fr w (wc.setCell ⟨w.heap.size + 1, i, none⟩ u) (a :: (t, cs') :: bs) := h.set (k := 1) i u rfl hc
theorem Fr.set2 (h : Fr w wc (a :: b :: (t, cs) :: bs)) (i : Nat) (u : Value) (hc : cs.setIfInBounds i u = cs') : Fr w (wc.setCell ⟨w.heap.size + 2, i, none⟩ u) (a :: b :: (t, cs') :: bs) := h.set (k := 2) i u rfl hc
end

theorem run_storeVar_part {P : Program} (w : World) (g o : Nat) (ty t : TypeId) (cs : List Value) (cur : Array Value) (hg : Blk w g t cur) (hfit : o + cs.length ≤ cur.size) (hi : (P.info? ty).map (·.size) = some cs.length) (h1 : ∀ v ∈ cs, v.oneCell' = true) :
    (storeVar ty ⟨g, o, none⟩ (.agg cs.toArray)).run P w = .ok () (w.setRow g (rowPut cur o cs)) := by
  have h := run_storeCells_at P g o t cs 0 cur w hg (by simpa using hfit) h1
  cases hq : P.info? ty with
  | none => simp [hq] at hi
  | some i =>
    have hz : i.size = cs.length := by simpa [hq] using hi
    simp [storeVar, Sem.run_bind, sizeOf, typeInfo, hq, hz, Value.cells, h, rowPut]
theorem wpList_store_part {P : Program} {ops : Array Oper} {rest : List Oper} {o : Oper} {a : Act} {w : World} {Q : Exit → Act → World → Prop} (hgd : o.guard = none) (ty : TypeId) (p x : Operand) (ho : o.op = .store ty p x) (hd : o.dst = none)
    (g i : Nat) (hp : a.eval p = .pointer (some ⟨g, i, none⟩)) (t : TypeId) (cs : List Value) (cur : Array Value) (hx : a.eval x = .agg cs.toArray) (hg : Blk w g t cur) (hs : i + cs.length ≤ cur.size) (hi : (P.info? ty).map (·.size) = some cs.length) (h1 : ∀ v ∈ cs, v.oneCell' = true)
    (h : ∀ w', Turned w w' g → Blk w' g t (rowPut cur i cs) → wpList P ops Q rest a w') : wpList P ops Q (o :: rest) a w := by
  refine wpList_plain hgd fun K hK => ?_
  unfold Oper.wp execOp
  simp only [ho, hp, hx, Instr.storeAt, Instr.sureAddr, Sem.run_bind, Sem.run_pure, Result.andThen_ok, run_storeVar_part w g i ty t cs cur hg hs hi h1]
  have := hK a (w.setRow g (rowPut cur i cs)) (h _ (turned_row hg).1 (turned_row hg).2)
  simpa [hd, Act.put, Oper.upon] using this

theorem OwnItem.turned {w w' : World} {b g : Nat} {v : Value} {l : List Item} (h : OwnItem w b v l) (hT : Turned w w' g) (hg : g < b) : OwnItem w' b v l :=
  h.keep fun k hk => hT.other (by have := (h.block k hk).1; omega)
theorem OwnItem.grown {w w' : World} {b : Nat} {o : Option Nat} {v : Value} {l : List Item} (h : OwnItem w b v l) (hG : w.grownBy w' o) (hne : ∀ k, v.ownBlock = some k → o ≠ some k) : OwnItem w' b v l :=
  h.keep fun k hk => hG.block k (h.block k hk).2 (fun e => hne k hk e.symm)
/-- an element of an owned list is written over -/
theorem OwnItem.put {w' : World} {base g n cap k : Nat} {l : List Item} {cur : Array Value} (x : Item) (hg : base ≤ g) (hl : n = l.length) (hn : n ≤ cap) (hm : cap ≤ maxLen) (hs : cur.size = cap * 4) (ht : cur.toList.take (n * 4) = l.flatMap Item.cells) (hk : k < l.length)
    (hb : Blk w' g 23 (rowPut cur (k * 4) x.cells)) : OwnItem w' base (.slice (some ⟨g, 0, none⟩) n cap) (l.set k x) := by
  have hx : x.cells.length = 4 := rfl
  have hsp : l.flatMap Item.cells = (l.take k).flatMap Item.cells ++ (l[k].cells ++ (l.drop (k + 1)).flatMap Item.cells) := by
    conv => lhs; rw [← List.take_append_drop k l, List.drop_eq_getElem_cons hk]
    rw [List.flatMap_append, List.flatMap_cons]
  have hst : (l.set k x).flatMap Item.cells = (l.take k).flatMap Item.cells ++ (x.cells ++ (l.drop (k + 1)).flatMap Item.cells) := by
    rw [List.set_eq_take_append_cons_drop, if_pos hk, List.flatMap_append, List.flatMap_cons]
  have hT : ((l.take k).flatMap Item.cells).length = k * 4 := by rw [Item.cells_length, List.length_take, Nat.min_eq_left (by omega)]
  have hC : ((l.drop (k + 1)).flatMap Item.cells).length = (n - (k + 1)) * 4 := by rw [Item.cells_length, List.length_drop, ← hl]
  have hfit : k * 4 + x.cells.length ≤ cur.size := by rw [hx, hs]; omega
  refine ⟨by rw [Item.cells_length], .inr ⟨g, cap, _, by rw [List.length_set, hl], hg, hb, by rw [List.length_set, ← hl]; exact hn, hm, by rw [rowPut_size hfit, hs], ?_⟩⟩
  rw [List.length_set, ← hl, hst, rowPut_list, hx]
  generalize hTe : (l.take k).flatMap Item.cells = T at hT hsp ⊢
  generalize hCe : (l.drop (k + 1)).flatMap Item.cells = C at hC hsp ⊢
  have h0 : (l[k].cells).length = 4 := rfl
  rw [hsp] at ht
  have h1 : cur.toList.take (k * 4) = T := by
    have := congrArg (List.take (k * 4)) ht
    rw [List.take_take, Nat.min_eq_left (by omega)] at this
    rw [this, ← hT, List.take_left]
  have h2 : (cur.toList.drop (k * 4 + 4)).take ((n - (k + 1)) * 4) = C := by
    have := congrArg (List.drop (k * 4 + 4)) ht
    rw [List.drop_take] at this
    rw [show n * 4 - (k * 4 + 4) = (n - (k + 1)) * 4 by omega] at this
    rw [this, ← List.append_assoc, List.drop_left' (by rw [List.length_append, hT, h0])]
  rw [h1]
  rw [List.append_assoc, show n * 4 = T.length + (x.cells.length + (n - (k + 1)) * 4) by rw [hT, hx]; omega, List.take_length_add_append, List.take_length_add_append, h2]
theorem OwnKid.turned {w w' : World} {b g : Nat} {v : Value} {l : List Kid} (h : OwnKid w b v l) (hT : Turned w w' g) (hg : g < b) : OwnKid w' b v l :=
  h.keep fun k hk => hT.other (by have := (h.block k hk).1; omega)
theorem OwnKid.grown {w w' : World} {b : Nat} {o : Option Nat} {v : Value} {l : List Kid} (h : OwnKid w b v l) (hG : w.grownBy w' o) (hne : ∀ k, v.ownBlock = some k → o ≠ some k) : OwnKid w' b v l :=
  h.keep fun k hk => hG.block k (h.block k hk).2 (fun e => hne k hk e.symm)
/-- an element of an owned list is written over -/
theorem OwnKid.put {w' : World} {base g n cap k : Nat} {l : List Kid} {cur : Array Value} (x : Kid) (hg : base ≤ g) (hl : n = l.length) (hn : n ≤ cap) (hm : cap ≤ maxLen) (hs : cur.size = cap * 2) (ht : cur.toList.take (n * 2) = l.flatMap Kid.cells) (hk : k < l.length)
    (hb : Blk w' g 61 (rowPut cur (k * 2) x.cells)) : OwnKid w' base (.slice (some ⟨g, 0, none⟩) n cap) (l.set k x) := by
  have hx : x.cells.length = 2 := rfl
  have hsp : l.flatMap Kid.cells = (l.take k).flatMap Kid.cells ++ (l[k].cells ++ (l.drop (k + 1)).flatMap Kid.cells) := by
    conv => lhs; rw [← List.take_append_drop k l, List.drop_eq_getElem_cons hk]
    rw [List.flatMap_append, List.flatMap_cons]
  have hst : (l.set k x).flatMap Kid.cells = (l.take k).flatMap Kid.cells ++ (x.cells ++ (l.drop (k + 1)).flatMap Kid.cells) := by
    rw [List.set_eq_take_append_cons_drop, if_pos hk, List.flatMap_append, List.flatMap_cons]
  have hT : ((l.take k).flatMap Kid.cells).length = k * 2 := by rw [Kid.cells_length, List.length_take, Nat.min_eq_left (by omega)]
  have hC : ((l.drop (k + 1)).flatMap Kid.cells).length = (n - (k + 1)) * 2 := by rw [Kid.cells_length, List.length_drop, ← hl]
  have hfit : k * 2 + x.cells.length ≤ cur.size := by rw [hx, hs]; omega
  refine ⟨by rw [Kid.cells_length], .inr ⟨g, cap, _, by rw [List.length_set, hl], hg, hb, by rw [List.length_set, ← hl]; exact hn, hm, by rw [rowPut_size hfit, hs], ?_⟩⟩
  rw [List.length_set, ← hl, hst, rowPut_list, hx]
  generalize hTe : (l.take k).flatMap Kid.cells = T at hT hsp ⊢
  generalize hCe : (l.drop (k + 1)).flatMap Kid.cells = C at hC hsp ⊢
  have h0 : (l[k].cells).length = 2 := rfl
  rw [hsp] at ht
  have h1 : cur.toList.take (k * 2) = T := by
    have := congrArg (List.take (k * 2)) ht
    rw [List.take_take, Nat.min_eq_left (by omega)] at this
    rw [this, ← hT, List.take_left]
  have h2 : (cur.toList.drop (k * 2 + 2)).take ((n - (k + 1)) * 2) = C := by
    have := congrArg (List.drop (k * 2 + 2)) ht
    rw [List.drop_take] at this
    rw [show n * 2 - (k * 2 + 2) = (n - (k + 1)) * 2 by omega] at this
    rw [this, ← List.append_assoc, List.drop_left' (by rw [List.length_append, hT, h0])]
  rw [h1]
  rw [List.append_assoc, show n * 2 = T.length + (x.cells.length + (n - (k + 1)) * 2) by rw [hT, hx]; omega, List.take_length_add_append, List.take_length_add_append, h2]
end Go.Proofs.YtjbdmaehomhdeaaGreat

namespace Go.Proofs.YtjbdmaehomhdeaaGreat
open Go.RowKit

theorem Fr.later {w wc : World} {bs : List (TypeId × Array Value)} (h : Fr w wc bs) (o : Obj) : Fr w (wc.alloc o) bs := h.on ((Below.refl _ _).alloc (Nat.le_refl _) o)
theorem Fr.drew1 {w wc : World} {bs : List (TypeId × Array Value)} (h : Fr w wc bs) : Fr w wc.drew bs := h.drew 1
theorem Fr.far {w wc : World} {bs : List (TypeId × Array Value)} (h : Fr w wc bs) {g i : Nat} (u : Value) (hg : w.heap.size + bs.length ≤ g) : Fr w (wc.setCell ⟨g, i, none⟩ u) bs :=
  h.on' (B := w.heap.size + bs.length) ((Below.refl _ _).setCell (p := ⟨g, i, none⟩) hg u) (Nat.le_refl _) h.sz
theorem OwnItem.later {w : World} {b : Nat} {v : Value} {l : List Item} (h : OwnItem w b v l) (o : Obj) : OwnItem (w.alloc o) b v l := h.below ((Below.refl w.heap.size w).alloc (Nat.le_refl _) o) (Nat.le_refl _)
theorem OwnItem.drew1 {w : World} {b : Nat} {v : Value} {l : List Item} (h : OwnItem w b v l) : OwnItem w.drew b v l := h
theorem OwnItem.on {w w' : World} {b : Nat} {v : Value} {l : List Item} (h : OwnItem w b v l) (hb : Below w.heap.size w w') : OwnItem w' b v l := h.below hb (Nat.le_refl _)
theorem OwnKid.later {w : World} {b : Nat} {v : Value} {l : List Kid} (h : OwnKid w b v l) (o : Obj) : OwnKid (w.alloc o) b v l := h.below ((Below.refl w.heap.size w).alloc (Nat.le_refl _) o) (Nat.le_refl _)
theorem OwnKid.drew1 {w : World} {b : Nat} {v : Value} {l : List Kid} (h : OwnKid w b v l) : OwnKid w.drew b v l := h
theorem OwnKid.on {w w' : World} {b : Nat} {v : Value} {l : List Kid} (h : OwnKid w b v l) (hb : Below w.heap.size w w') : OwnKid w' b v l := h.below hb (Nat.le_refl _)
theorem Blk.newAt {w : World} {g : Nat} {t : TypeId} {cs : Array Value} (h : g = w.heap.size) : Blk (w.alloc (.cells cs t)) g t cs := by rw [h]; exact Blk.new _ _ _
end Go.Proofs.YtjbdmaehomhdeaaGreat

namespace Go.Proofs.YtjbdmaehomhdeaaGreat
open Go.RowKit

/-- slots S turned to X -/
def over (a : Act) (S : List Nat) (X : Nat → Value) : Act := S.foldl (fun b s => b.put (some s) (X s)) a
theorem over_size (S : List Nat) (X : Nat → Value) : ∀ a : Act, (over a S X).tmps.size = a.tmps.size := by
  induction S with
  | nil => intro a; rfl
  | cons s S ih => intro a; rw [show over a (s :: S) X = over (a.put (some s) (X s)) S X from rfl, ih]; simp [Act.put]
theorem over_defers (S : List Nat) (X : Nat → Value) : ∀ a : Act, (over a S X).defers = a.defers := by
  induction S with
  | nil => intro a; rfl
  | cons s S ih => intro a; rw [show over a (s :: S) X = over (a.put (some s) (X s)) S X from rfl, ih]; simp [Act.put]
theorem over_tmps (S : List Nat) (X : Nat → Value) : ∀ (a : Act) (j : Nat), (over a S X).tmps[j]? = if j ∈ S ∧ j < a.tmps.size then some (X j) else a.tmps[j]? := by
  induction S with
  | nil => intro a j; simp [over]
  | cons s S ih =>
    intro a j
    rw [show over a (s :: S) X = over (a.put (some s) (X s)) S X from rfl, ih]
    have hz : (a.put (some s) (X s)).tmps.size = a.tmps.size := by simp [Act.put]
    rw [hz]
    by_cases h1 : j ∈ S ∧ j < a.tmps.size
    · rw [if_pos h1, if_pos ⟨List.mem_cons_of_mem _ h1.1, h1.2⟩]
    · rw [if_neg h1]
      by_cases h2 : j = s
      · subst h2
        by_cases h3 : j < a.tmps.size
        · rw [if_pos ⟨List.mem_cons_self, h3⟩]; simp [Act.put, h3]
        · rw [if_neg (fun h => h3 h.2), Array.getElem?_eq_none (by rw [hz]; omega), Array.getElem?_eq_none (by omega)]
      · rw [if_neg (fun h => h1 ⟨by rcases List.mem_cons.1 h.1 with h | h; exact absurd h h2; exact h, h.2⟩)]
        simp [Act.put, Array.getElem?_setIfInBounds_ne (Ne.symm h2)]
theorem over_in {a : Act} {S : List Nat} {X : Nat → Value} {s : Nat} (h : s ∈ S) (hs : s < a.tmps.size) : (over a S X).eval (.tmp s) = X s := by
  simp only [Act.eval, Array.getD_eq_getD_getElem?, over_tmps, if_pos (And.intro h hs), Option.getD_some]
theorem over_out {a : Act} {S : List Nat} {X : Nat → Value} {s : Nat} (h : s ∉ S) : (over a S X).eval (.tmp s) = a.eval (.tmp s) := by
  simp only [Act.eval, Array.getD_eq_getD_getElem?, over_tmps, if_neg (fun hc : s ∈ S ∧ s < a.tmps.size => h hc.1)]
theorem over_put {a : Act} {S : List Nat} {X : Nat → Value} {s : Nat} (h : s ∈ S) (v : Value) : (over a S X).put (some s) v = over a S (fun t => if t = s then v else X t) := by
  have e1 : ((over a S X).put (some s) v).tmps = (over a S (fun t => if t = s then v else X t)).tmps := by
    refine Array.ext_getElem? fun j => ?_
    rw [over_tmps]
    show ((over a S X).tmps.setIfInBounds s v)[j]? = _
    by_cases h2 : j = s
    · subst h2
      by_cases h3 : j < a.tmps.size
      · rw [if_pos ⟨h, h3⟩]; simp [h3, over_size]
      · rw [if_neg (fun hc => h3 hc.2)]
        rw [Array.getElem?_eq_none (by simp [over_size]; omega), Array.getElem?_eq_none (by omega)]
    · rw [Array.getElem?_setIfInBounds_ne (Ne.symm h2), over_tmps]
      simp only [if_neg h2]
  have e2 : ((over a S X).put (some s) v).defers = (over a S (fun t => if t = s then v else X t)).defers := by
    rw [over_defers]; exact over_defers S X a
  cases hA : (over a S X).put (some s) v
  cases hB : over a S (fun t => if t = s then v else X t)
  rw [hA, hB] at e1 e2
  simp only at e1 e2
  rw [e1, e2]
theorem over_id {a : Act} {S : List Nat} : over a S (fun s => a.eval (.tmp s)) = a := by
  have e1 : (over a S (fun s => a.eval (.tmp s))).tmps = a.tmps := by
    refine Array.ext_getElem? fun j => ?_
    rw [over_tmps]
    split
    · rename_i h
      simp [Act.eval, Array.getD_eq_getD_getElem?, Array.getElem?_eq_getElem h.2]
    · rfl
  have e2 := over_defers S (fun s => a.eval (.tmp s)) a
  cases hA : over a S (fun s => a.eval (.tmp s))
  rw [hA] at e1 e2
  cases a
  simp only at e1 e2
  rw [e1, e2]

section
variable {P : Program} {ops : Array Oper} {Q : Exit → Act → World → Prop}
theorem wpAny_inv {a : Act} {S : List Nat} (J : (Nat → Bool) → (Nat → Value) → World → Prop)
    (hg : ∀ (i : Nat) (o : Oper), ops[i]? = some o → o.guard = none ∧ ∀ e ∈ o.after.toList, Region.binds .any e = true → e.on < i)
    (hstep : ∀ (i : Nat) (o : Oper), ops[i]? = some o → ∀ D X w, J D X w → D i = false → (∀ e ∈ o.after.toList, Region.binds .any e = true → D e.on = true) → o.wp P (over a S X) w (fun a2 w2 => ∃ X2, a2 = over a S X2 ∧ J (fun j => D j || j == i) X2 w2) Q)
    (hend : ∀ D X w, J D X w → (∀ i, i < ops.size → D i = true) → Q .normal (over a S X) w) :
    ∀ (fuel : Nat) (listed : Array Bool) (X : Nat → Value) (w : World), listed.size = ops.size → (List.range ops.size).countP (fun i => !listed.getD i false) ≤ fuel → J (fun j => listed.getD j false) X w → wpAny P .any ops Q fuel listed (over a S X) w := by
  have hfin : ∀ (listed : Array Bool), listed.size = ops.size → Region.ready .any ops listed = [] → ∀ i, i < ops.size → listed.getD i false = true := by
    intro listed hsz hr i
    induction i using Nat.strongRecOn with
    | ind i ih =>
      intro hi
      rw [Region.ready, List.filter_eq_nil_iff] at hr
      have h1 := hr i (List.mem_range.2 hi)
      cases hD : listed.getD i false with
      | true => rfl
      | false =>
        exfalso
        apply h1
        have hlt : i < listed.size := by omega
        have hT : listed.getD i true = false := by
          simp only [Array.getD_eq_getD_getElem?, Array.getElem?_eq_getElem hlt, Option.getD_some] at hD ⊢; exact hD
        obtain ⟨o, ho⟩ : ∃ o, ops[i]? = some o := ⟨_, Array.getElem?_eq_getElem hi⟩
        rw [hT, ho]
        simp only [Bool.not_false, Bool.true_and, Option.map_some, Option.getD_some]
        rw [← Array.all_toList, List.all_eq_true]
        intro e he
        cases hb : Region.binds .any e with
        | false => rfl
        | true =>
          have hlt2 := (hg i o ho).2 e he hb
          rw [ih e.on hlt2 (by omega), Bool.or_true]
  intro fuel
  induction fuel with
  | zero =>
    intro listed X w hsz hc hJ
    have hall : ∀ i, i < ops.size → listed.getD i false = true := by
      intro i hi
      have h0 := Nat.le_zero.1 hc
      rw [List.countP_eq_zero] at h0
      simpa using h0 i (List.mem_range.2 hi)
    refine ⟨?_, hend _ X w hJ hall⟩
    rw [Region.ready, List.filter_eq_nil_iff]
    intro i hi
    have h2 := hall i (List.mem_range.1 hi)
    have hlt : i < listed.size := by have := List.mem_range.1 hi; omega
    simp only [Array.getD_eq_getD_getElem?, Array.getElem?_eq_getElem hlt, Option.getD_some] at h2 ⊢
    simp [h2]
  | succ fuel ih =>
    intro listed X w hsz hc hJ
    refine ⟨fun hr => hend _ X w hJ (hfin listed hsz hr), fun i hi => ?_⟩
    rw [Region.ready, List.mem_filter] at hi
    obtain ⟨hi1, hi2⟩ := hi
    have hlt : i < ops.size := List.mem_range.1 hi1
    have hlt2 : i < listed.size := by omega
    obtain ⟨o, ho⟩ : ∃ o, ops[i]? = some o := ⟨_, Array.getElem?_eq_getElem hlt⟩
    rw [ho] at hi2
    simp only [Option.map_some, Option.getD_some, Bool.and_eq_true] at hi2
    have hDi : listed.getD i false = false := by
      have := hi2.1
      simp only [Array.getD_eq_getD_getElem?, Array.getElem?_eq_getElem hlt2, Option.getD_some] at this ⊢
      simpa using this
    have hdep : ∀ e ∈ o.after.toList, Region.binds .any e = true → listed.getD e.on false = true := by
      intro e he hb
      have h2 := hi2.2
      rw [← Array.all_toList, List.all_eq_true] at h2
      have := h2 e he
      rw [hb] at this
      simpa using this
    unfold wpOp
    rw [ho]
    simp only []
    rw [if_pos (by simp [Region.wanted, (hg i o ho).1])]
    refine Or.inl (Oper.wp_mono ?_ (hstep i o ho _ X w hJ hDi hdep))
    rintro a2 w2 ⟨X2, rfl, hJ2⟩
    refine ih _ X2 w2 (by simpa using hsz) ?_ ?_
    · have hpt : ∀ j, j < ops.size → (listed.setIfInBounds i true).getD j false = (listed.getD j false || j == i) := by
        intro j hj
        by_cases hji : j = i
        · subst hji; simp [Array.getD_eq_getD_getElem?, hlt2]
        · have : (j == i) = false := by simpa using hji
          rw [this, Bool.or_false]
          simp [Array.getD_eq_getD_getElem?, Array.getElem?_setIfInBounds_ne (Ne.symm hji)]
      have hlt3 : (List.range ops.size).countP (fun j => !(listed.setIfInBounds i true).getD j false) + 1 ≤ (List.range ops.size).countP (fun j => !listed.getD j false) := by
        obtain ⟨l1, l2, hl⟩ := List.append_of_mem (List.mem_range.2 hlt)
        have hm1 : ∀ j ∈ List.range ops.size, j < ops.size := fun j hj => List.mem_range.1 hj
        rw [hl] at hm1 ⊢
        have hle : ∀ l : List Nat, (∀ j ∈ l, j < ops.size) → l.countP (fun j => !(listed.setIfInBounds i true).getD j false) ≤ l.countP (fun j => !listed.getD j false) := by
          intro l hl2
          refine List.countP_mono_left fun j hj h => ?_
          rw [hpt j (hl2 j hj)] at h
          cases hq : listed.getD j false with
          | false => rfl
          | true => rw [hq] at h; simp at h
        rw [List.countP_append, List.countP_append, List.countP_cons, List.countP_cons]
        have h1 := hle l1 (fun j hj => hm1 j (by simp [hj]))
        have h2 := hle l2 (fun j hj => hm1 j (by simp [hj]))
        rw [hpt i hlt, hDi]
        simp only [beq_self_eq_true, Bool.or_true, Bool.not_true, Bool.not_false, if_true, Bool.false_eq_true, if_false]
        omega
      omega
    · have hJe : (fun j => (listed.setIfInBounds i true).getD j false) = (fun j => listed.getD j false || j == i) := by
        funext j
        by_cases hji : j = i
        · subst hji; simp [Array.getD_eq_getD_getElem?, hlt2]
        · have : (j == i) = false := by simpa using hji
          rw [this, Bool.or_false]
          simp [Array.getD_eq_getD_getElem?, Array.getElem?_setIfInBounds_ne (Ne.symm hji)]
      rw [hJe]
      exact hJ2
def gOrd (ops : Array Oper) : Bool := (List.range ops.size).all fun i => match ops[i]? with
  | some o => o.guard.isNone && o.after.toList.all (fun e => !Region.binds .any e || decide (e.on < i))
  | none => true
theorem gOrd_ok (h : gOrd ops = true) : ∀ (i : Nat) (o : Oper), ops[i]? = some o → o.guard = none ∧ ∀ e ∈ o.after.toList, Region.binds .any e = true → e.on < i := by
  intro i o ho
  unfold gOrd at h
  rw [List.all_eq_true] at h
  have h1 := h i (List.mem_range.2 (Array.getElem?_eq_some_iff.1 ho).1)
  rw [ho] at h1
  simp only [Bool.and_eq_true, List.all_eq_true, Option.isNone_iff_eq_none] at h1
  refine ⟨h1.1, fun e he hb => ?_⟩
  have h2 := h1.2 e he
  rw [hb] at h2
  simpa using h2
theorem wp_region_inv {id : Nat} {a : Act} {w : World} (hm : P.follows .mixedOrders = true) (S : List Nat) (J : (Nat → Bool) → (Nat → Value) → World → Prop)
    (hg : ∀ (i : Nat) (o : Oper), ops[i]? = some o → o.guard = none ∧ ∀ e ∈ o.after.toList, Region.binds .any e = true → e.on < i)
    (h0 : J (fun _ => false) (fun s => a.eval (.tmp s)) w.drew)
    (hstep : ∀ (i : Nat) (o : Oper), ops[i]? = some o → ∀ D X w, J D X w → D i = false → (∀ e ∈ o.after.toList, Region.binds .any e = true → D e.on = true) → o.wp P (over a S X) w (fun a2 w2 => ∃ X2, a2 = over a S X2 ∧ J (fun j => D j || j == i) X2 w2) Q)
    (hend : ∀ D X w, J D X w → (∀ i, i < ops.size → D i = true) → Q .normal (over a S X) w) : (Code.region id ops true).wp P Q a w := by
  refine wp_region_any hm ?_
  have h := wpAny_inv (P := P) (ops := ops) (Q := Q) (a := a) (S := S) J hg hstep hend ops.size (Array.replicate ops.size false) (fun s => a.eval (.tmp s)) w.drew (by simp) (by
    refine Nat.le_trans List.countP_le_length ?_
    simp) (by
    have e : (fun j => (Array.replicate ops.size false).getD j false) = fun _ => false := by
      funext j
      simp only [Array.getD_eq_getD_getElem?]
      rcases Nat.lt_or_ge j ops.size with hj | hj
      · simp [hj]
      · rw [Array.getElem?_eq_none (by simpa using hj)]; rfl
    rw [e]; exact h0)
  rw [over_id] at h
  exact h
end
end Go.Proofs.YtjbdmaehomhdeaaGreat

namespace Go.Proofs.YtjbdmaehomhdeaaGreat
open Go.RowKit
theorem add_zero_map (A : Option Addr) (k : Nat) : A.map (fun a => a.add (0 * k)) = A := by
  cases A with
  | none => rfl
  | some a => cases a; simp [Addr.add]
theorem run_slice_take {P : Program} (W : World) (t e : TypeId) (k : Nat) (hu : P.underlying t = some (.slice e)) (hs : (P.info? e).map (·.size) = some k) (A : Option Addr) (n c i : Nat) (hi : i ≤ c) :
    (Instr.slice t (.slice A n c) none (some (.int .i64 (i : Int))) (some (.int .i64 (i : Int)))).run P W = .ok (.slice A i i) W := by
  have h1 : (0 : Int) ≤ (i : Int) ∧ (i : Int) ≤ (c : Int) := ⟨by omega, by omega⟩
  have h2 : (0 : Int) ≤ (i : Int) ∧ (i : Int) ≤ (i : Int) := ⟨by omega, by omega⟩
  cases hq : P.info? e with
  | none => simp [hq] at hs
  | some d =>
    have hz : d.size = k := by simpa [hq] using hs
    simp [Instr.slice, Instr.sliceBounds, Instr.sliceBound, asIntOf, underlying, sizeOf, typeInfo, Sem.run_bind, hu, hq, hi, Result.andThen]
    intro _
    have := add_zero_map A d.size
    simpa using this
theorem run_slice_drop {P : Program} (W : World) (t e : TypeId) (k : Nat) (hu : P.underlying t = some (.slice e)) (hs : (P.info? e).map (·.size) = some k) (A : Option Addr) (n c i : Nat) (hi : i ≤ n) :
    (Instr.slice t (.slice A n c) (some (.int .i64 (i : Int))) none none).run P W = .ok (.slice (if c = i then A else A.map (fun a => a.add (i * k))) (n - i) (c - i)) W := by
  cases hq : P.info? e with
  | none => simp [hq] at hs
  | some d =>
    have hz : d.size = k := by simpa [hq] using hs
    simp [Instr.slice, Instr.sliceBounds, Instr.sliceBound, asIntOf, underlying, sizeOf, typeInfo, Sem.run_bind, hu, hq, hi, hz, Result.andThen]
end Go.Proofs.YtjbdmaehomhdeaaGreat
