/- The reference's told. -/
import Derived.Test.YtjbdmaehomhdeaaGreatR9
import Derived.Test.YtjbdmaehomhdeaaGreatZC
set_option linter.unusedSimpArgs false
set_option linter.unusedVariables false
namespace Go.Proofs.YtjbdmaehomhdeaaGreat
open Go.RowKit

/-- within told: three blocks of its own behind w: the result, the taker, the page -/
structure Tol (w wc : World) (lo : Nat) (bs r : List Nat) (rs cs : Array Value) : Prop where
  tk : TkR wc (w.heap.size + 1) lo w.heap.size bs r
  be : Below w.heap.size w wc
  res : Blk wc w.heap.size 27 rs
  own : Blk wc (w.heap.size + 2) 27 cs
section
variable {w wc w' : World} {lo : Nat} {bs r r' : List Nat} {rs cs cs' : Array Value}
theorem below_grown {w wc w' : World} {k : Nat} (hb : Below w.heap.size w wc) (h2 : wc.grownBy w' (some k)) (hk : w.heap.size ≤ k) : Below w.heap.size w w' :=
  hb.grown h2 hb.size (fun j hj => by cases hj; exact hk)
theorem Tol.call (h : Tol w wc lo bs r rs cs) (h1 : TkR w' (w.heap.size + 1) lo w.heap.size bs r') (h2 : wc.grownBy w' (some (w.heap.size + 1))) : Tol w w' lo bs r' rs cs :=
  ⟨h1, below_grown h.be h2 (by omega), (h2.block _ h.res.lt (by simp)).trans h.res, (h2.block _ h.own.lt (by simp)).trans h.own⟩
theorem Tol.set (h : Tol w wc lo bs r rs cs) (i : Nat) (u : Value) (hc : cs.setIfInBounds i u = cs') : Tol w (wc.setCell ⟨w.heap.size + 2, i, none⟩ u) lo bs r rs cs' :=
  ⟨h.tk.far fun k hk => Below.heap_setCell wc _ u k (by simp; omega), h.be.setCell (p := ⟨w.heap.size + 2, i, none⟩) (by simp) u, h.res.far (by simp) u, by rw [← hc]; exact h.own.set_ i u⟩
theorem Tol.setR (h : Tol w wc lo bs r rs cs) (i : Nat) (u : Value) : Tol w (wc.setCell ⟨w.heap.size, i, none⟩ u) lo bs r (rs.setIfInBounds i u) cs :=
  ⟨h.tk.far fun k hk => Below.heap_setCell wc _ u k (by simp; omega), h.be.setCell (p := ⟨w.heap.size, i, none⟩) (Nat.le_refl _) u, h.res.set_ i u, h.own.far (by simp) u⟩
theorem Tol.start {A : Option Addr} {c n : Nat} (hr : Rd byteCell 1 w lo w.heap.size A bs) (hc : bs.length ≤ c) (hb : ∀ b ∈ bs, b < 256) (hn : n = bs.length) :
    Tol w (((w.alloc (.cells rs 27)).alloc (.cells #[.slice A n c, .int .i64 0] 118)).alloc (.cells cs 27)) lo bs bs rs cs := by
  subst hn
  have h1 : Below w.heap.size w (((w.alloc (.cells rs 27)).alloc (.cells #[.slice A bs.length c, .int .i64 0] 118)).alloc (.cells cs 27)) := (((Below.refl _ _).alloc (Nat.le_refl _) _).alloc (by simp) _).alloc (by simp; omega) _
  have h2 : Blk ((w.alloc (.cells rs 27)).alloc (.cells #[.slice A bs.length c, .int .i64 0] 118)) (w.heap.size + 1) 118 #[.slice A bs.length c, .int .i64 0] := by
    have := Blk.new (w.alloc (.cells rs 27)) 118 #[.slice A bs.length c, .int .i64 0]
    simpa using this
  refine ⟨⟨⟨A, c, 0, h2.alloc _, hc, hr.below h1, Nat.zero_le _, rfl⟩, .inr (by omega), hb⟩, h1, ((Blk.new _ _ _).alloc _).alloc _, ?_⟩
  have := Blk.new ((w.alloc (.cells rs 27)).alloc (.cells #[.slice A bs.length c, .int .i64 0] 118)) 27 cs
  simpa using this
end
/-- append(v, x): one more -/
theorem plainItem {ops : Array Oper} {rest : List Oper} {o : Oper} {a : Act} {Q : Exit → Act → World → Prop} (w : World) (hgd : o.guard = none) (s x : Operand)
    (ho : o.op = .call { callee := .builtin .append, args := #[s, x], argTypes := #[24, 24] })
    (base g0 : Nat) (v : Value) (l : List Item) (y : Item) (hs : a.eval s = v) (hown : OwnItem w base v l) (hx : a.eval x = .slice (some ⟨g0, 0, none⟩) 1 1) (hblk : Blk w g0 23 y.cells.toArray)
    (hlen : l.length ≤ 1000000) (hbase : base ≤ w.heap.size)
    (h : ∀ g cap w', OwnItem w' base (.slice (some ⟨g, 0, none⟩) (l.length + 1) cap) (l ++ [y]) → w.grownBy w' v.ownBlock → (v.ownBlock = some g ∨ w.heap.size ≤ g) → g < w'.heap.size → wpList Tryz.prog ops Q rest (a.put o.dst (.slice (some ⟨g, 0, none⟩) (l.length + 1) cap)) w') :
    wpList Tryz.prog ops Q (o :: rest) a w := by
  obtain ⟨i0, hi0, hz0, hz1, hz2⟩ := info_parts info_item
  refine wpList_append_lies _ hgd s x _ ho base 23 i0 _ 4 (12 * 4) Tryz.underlying24 hi0 hz0 hz1 hz2 rfl (by omega) v l.length (l.flatMap Item.cells) hs hown ⟨g0, 0, none⟩ 1 1 y.cells hx rfl
    (World.news_of_block (cs := y.cells.toArray) (t := 23) (fr := (0, 0)) hblk) (by intro u hu; simp [Item.cells] at hu; rcases hu with rfl | rfl | rfl | rfl <;> rfl) (by omega) (by simp only [maxLen]; omega) (by omega) hbase w.heap.size rfl ?_
  intro g cap w' h2 h3 h4 h5
  refine h g cap w' ?_ h3 (h4.imp id (fun e => by omega)) h5
  unfold OwnItem
  rw [List.length_append, List.flatMap_append]
  simpa using h2
/-- append(v, x): one more -/
theorem plainKid {ops : Array Oper} {rest : List Oper} {o : Oper} {a : Act} {Q : Exit → Act → World → Prop} (w : World) (hgd : o.guard = none) (s x : Operand)
    (ho : o.op = .call { callee := .builtin .append, args := #[s, x], argTypes := #[25, 25] })
    (base g0 : Nat) (v : Value) (l : List Kid) (y : Kid) (hs : a.eval s = v) (hown : OwnKid w base v l) (hx : a.eval x = .slice (some ⟨g0, 0, none⟩) 1 1) (hblk : Blk w g0 61 y.cells.toArray)
    (hlen : l.length ≤ 1000000) (hbase : base ≤ w.heap.size)
    (h : ∀ g cap w', OwnKid w' base (.slice (some ⟨g, 0, none⟩) (l.length + 1) cap) (l ++ [y]) → w.grownBy w' v.ownBlock → (v.ownBlock = some g ∨ w.heap.size ≤ g) → g < w'.heap.size → wpList Tryz.prog ops Q rest (a.put o.dst (.slice (some ⟨g, 0, none⟩) (l.length + 1) cap)) w') :
    wpList Tryz.prog ops Q (o :: rest) a w := by
  obtain ⟨i0, hi0, hz0, hz1, hz2⟩ := info_parts info_kid
  refine wpList_append_lies _ hgd s x _ ho base 61 i0 _ 2 (12 * 2) Tryz.underlying25 hi0 hz0 hz1 hz2 rfl (by omega) v l.length (l.flatMap Kid.cells) hs hown ⟨g0, 0, none⟩ 1 1 y.cells hx rfl
    (World.news_of_block (cs := y.cells.toArray) (t := 61) (fr := (0, 0)) hblk) (by intro u hu; simp [Kid.cells] at hu; rcases hu with rfl | rfl | rfl | rfl <;> rfl) (by omega) (by simp only [maxLen]; omega) (by omega) hbase w.heap.size rfl ?_
  intro g cap w' h2 h3 h4 h5
  refine h g cap w' ?_ h3 (h4.imp id (fun e => by omega)) h5
  unfold OwnKid
  rw [List.length_append, List.flatMap_append]
  simpa using h2
theorem Tol.drew {w wc : World} {lo : Nat} {bs r : List Nat} {rs cs : Array Value} (h : Tol w wc lo bs r rs cs) : Tol w wc.drew lo bs r rs cs := ⟨h.tk.drewN 1, h.be.drew, h.res, h.own⟩
theorem Tol.far {w wc w' : World} {lo : Nat} {bs r : List Nat} {rs cs : Array Value} (h : Tol w wc lo bs r rs cs) (hb : Below (w.heap.size + 3) wc w') : Tol w w' lo bs r rs cs :=
  ⟨h.tk.far fun k hk => hb.block k (by omega), h.be.trans (hb.mono (by omega)), h.res.below hb (by omega), h.own.below hb (by omega)⟩
/-- a slice of its own grows -/
theorem Tol.append {w wc w7 : World} {lo : Nat} {bs r : List Nat} {rs cs : Array Value} {o : Obj} {v : Value} (h : Tol w wc lo bs r rs cs) (hv : ∀ k, v.ownBlock = some k → w.heap.size + 3 ≤ k) (h7 : (wc.alloc o).grownBy w7 v.ownBlock) : Tol w w7 lo bs r rs cs := by
  have hl := h.own.lt
  refine h.far (Below.grown ((Below.refl _ _).alloc (by omega) o) h7 (by simp; omega) hv)
theorem OwnItem.setFar {w : World} {base g cap n i : Nat} {l : List Item} (h : OwnItem w base (.slice (some ⟨g, 0, none⟩) n cap) l) {p : Nat} (hp : g ≠ p) (u : Value) : OwnItem (w.setCell ⟨p, i, none⟩ u) base (.slice (some ⟨g, 0, none⟩) n cap) l :=
  h.keep fun k hk => Below.heap_setCell w ⟨p, i, none⟩ u k (fun e => by simp [Value.ownBlock] at hk; subst hk; exact hp e)
theorem OwnKid.setFar {w : World} {base g cap n i : Nat} {l : List Kid} (h : OwnKid w base (.slice (some ⟨g, 0, none⟩) n cap) l) {p : Nat} (hp : g ≠ p) (u : Value) : OwnKid (w.setCell ⟨p, i, none⟩ u) base (.slice (some ⟨g, 0, none⟩) n cap) l :=
  h.keep fun k hk => Below.heap_setCell w ⟨p, i, none⟩ u k (fun e => by simp [Value.ownBlock] at hk; subst hk; exact hp e)
/-- a round of told's loop over kids: the kid in a block of its own -/
structure KR (w wr wc : World) (lo : Nat) (bs r : List Nat) (rs cs ks : Array Value) (v : Value) (l : List Kid) : Prop where
  tol : Tol w wc lo bs r rs cs
  kb : Blk wc wr.heap.size 61 ks
  ow : OwnKid wc (w.heap.size + 3) v l
  hv : ∀ k, v.ownBlock = some k → w.heap.size + 3 ≤ k ∧ k < wr.heap.size
  hs : w.heap.size + 3 ≤ wr.heap.size
section
variable {w wr wc w' : World} {lo : Nat} {bs r r' : List Nat} {rs cs ks : Array Value} {v : Value} {l : List Kid}
theorem KR.start (h : Tol w wr lo bs r rs cs) (ho : OwnKid wr (w.heap.size + 3) v l) : KR w wr (wr.alloc (.cells ks 61)) lo bs r rs cs ks v l := by
  have hl := h.own.lt
  exact ⟨h.far ((Below.refl _ _).alloc (by omega) _), Blk.new _ _ _, ho.keep fun k hk => Below.heap_alloc wr _ k (ho.block k hk).2, ho.block, by omega⟩
theorem KR.call (h : KR w wr wc lo bs r rs cs ks v l) (h1 : TkR w' (w.heap.size + 1) lo w.heap.size bs r') (h2 : wc.grownBy w' (some (w.heap.size + 1))) : KR w wr w' lo bs r' rs cs ks v l := by
  have hs := h.hs
  have hl := h.kb.lt
  exact ⟨h.tol.call h1 h2, (h2.block _ hl (by simp; omega)).trans h.kb, h.ow.keep fun k hk => h2.block k (by have := h.hv k hk; omega) (by have := h.hv k hk; simp; omega), h.hv, h.hs⟩
theorem KR.set (h : KR w wr wc lo bs r rs cs ks v l) (i : Nat) (u : Value) : KR w wr (wc.setCell ⟨wr.heap.size, i, none⟩ u) lo bs r rs cs (ks.setIfInBounds i u) v l := by
  have hs := h.hs
  exact ⟨h.tol.far ((Below.refl _ _).setCell (p := ⟨wr.heap.size, i, none⟩) hs u), h.kb.set_ i u, h.ow.keep fun k hk => Below.heap_setCell wc _ u k (by have := h.hv k hk; simp; omega), h.hv, h.hs⟩
end
theorem ref_TItem' (g lo hi : Nat) (bs r : List Nat) (w : World) (y : Item) (hy : y = (itemAt r).1) (ht : TkR w g lo hi bs r) (hl : bs.length ≤ 140737488351232) (hh : hi ≤ w.heap.size) :
    Calls Tryz.prog 70 #[.pointer (some ⟨g, 0, none⟩)] w (PostTR w g lo hi bs (itemAt r).2 (.agg #[.string y.key, .string y.value, .int .i64 y.no, .bool y.gone])) := by
  subst hy; exact ref_TItem g lo hi bs r w ht hl hh
theorem rest5_mem {bs : List Nat} {b : Nat} (h : b ∈ rest5 bs) : b ∈ bs := by
  unfold rest5 rest4 rest3 rest2 rest1 at h
  exact List.mem_of_mem_drop (List.mem_of_mem_drop (List.mem_of_mem_drop (List.mem_of_mem_drop (List.mem_of_mem_drop h))))
def PostTo (w : World) (p : Page) (e : Ending) (w' : World) : Prop := ∃ A A' c c', e = .returned (p.val A c A' c') ∧ Pg w' w.heap.size w'.heap.size p A A' c c' ∧ Below w.heap.size w w'

set_option maxRecDepth 100000 in
set_option maxHeartbeats 20000000 in
theorem ref_told (lo c : Nat) (A : Option Addr) (bs : List Nat) (w : World) (hr : Rd byteCell 1 w lo w.heap.size A bs) (hc : bs.length ≤ c) (hb : ∀ b ∈ bs, b < 256) (hl : bs.length ≤ 140737488351232) :
    Calls Tryz.prog 85 #[.slice A bs.length c] w (PostTo w (told bs)) := by
  obtain ⟨nb, hnb⟩ : ∃ n, n = bs.length := ⟨_, rfl⟩
  have T0 := Lib.hid (Tol.start (rs := #[Value.int IntKind.i64 0, Value.string { data := #[] }, Value.string { data := #[] }, Value.bool false, Value.int IntKind.i64 0, Value.slice none 0 0, Value.slice none 0 0]) (cs := #[Value.int IntKind.i64 0, Value.string { data := #[] }, Value.string { data := #[] }, Value.bool false, Value.int IntKind.i64 0, Value.slice none 0 0, Value.slice none 0 0]) hr hc hb hnb)
  have HL := Lib.hid hl
  rw [← hnb]
  clear hr hc hb hl hnb
  go_enter Tryz.func85, Tryz.ntmps85
  go_wp2_with fail
  generalize (((w.alloc (.cells #[Value.int IntKind.i64 0, Value.string { data := #[] }, Value.string { data := #[] }, Value.bool false, Value.int IntKind.i64 0, Value.slice none 0 0, Value.slice none 0 0] 27)).alloc (.cells #[.slice A nb c, .int .i64 0] 118)).alloc (.cells #[Value.int IntKind.i64 0, Value.string { data := #[] }, Value.string { data := #[] }, Value.bool false, Value.int IntKind.i64 0, Value.slice none 0 0, Value.slice none 0 0] 27)) = w1 at *
  refine (ref_Num (w.heap.size + 1) lo w.heap.size 1 (by omega) bs (bs) _ T0.out.tk HL.out).mono ?_
  rintro e w2 ⟨rfl, hT, hg⟩
  obtain ⟨lv, hlv⟩ : ∃ x, x = leN (bs.take 1) := ⟨_, rfl⟩
  rw [show leN (bs.take 1) = lv from hlv.symm]
  have HLV := Lib.hid hlv
  have C1 : Tol w w2 lo bs (rest1 bs) #[Value.int IntKind.i64 0, Value.string { data := #[] }, Value.string { data := #[] }, Value.bool false, Value.int IntKind.i64 0, Value.slice none 0 0, Value.slice none 0 0] #[Value.int IntKind.i64 0, Value.string { data := #[] }, Value.string { data := #[] }, Value.bool false, Value.int IntKind.i64 0, Value.slice none 0 0, Value.slice none 0 0] := T0.out.call hT hg
  have hc := C1.own.cell 0
  have hf := C1.own.frozen 0
  have T1 : Hid (Tol w (w2.setCell ⟨w.heap.size + 2, 0, none⟩ (Value.int IntKind.i64 (lv : Int))) lo bs (rest1 bs) #[Value.int IntKind.i64 0, Value.string { data := #[] }, Value.string { data := #[] }, Value.bool false, Value.int IntKind.i64 0, Value.slice none 0 0, Value.slice none 0 0] #[Value.int IntKind.i64 (lv : Int), Value.string { data := #[] }, Value.string { data := #[] }, Value.bool false, Value.int IntKind.i64 0, Value.slice none 0 0, Value.slice none 0 0]) := Lib.hid (C1.set 0 (Value.int IntKind.i64 (lv : Int)) rfl)
  clear hT hg C1 hlv T0
  go_wp2_with fail
  clear hc hf
  generalize w2.setCell ⟨w.heap.size + 2, 0, none⟩ (Value.int IntKind.i64 (lv : Int)) = w3 at *
  refine (ref_Num (w.heap.size + 1) lo w.heap.size 1 (by omega) bs (rest1 bs) _ T1.out.tk HL.out).mono ?_
  rintro e w4 ⟨rfl, hT, hg⟩
  obtain ⟨nl, hnl⟩ : ∃ x, x = leN ((rest1 bs).take 1) := ⟨_, rfl⟩
  rw [show leN ((rest1 bs).take 1) = nl from hnl.symm]
  have HNL := Lib.hid hnl
  have C2 : Tol w w4 lo bs (rest2 bs) #[Value.int IntKind.i64 0, Value.string { data := #[] }, Value.string { data := #[] }, Value.bool false, Value.int IntKind.i64 0, Value.slice none 0 0, Value.slice none 0 0] #[Value.int IntKind.i64 (lv : Int), Value.string { data := #[] }, Value.string { data := #[] }, Value.bool false, Value.int IntKind.i64 0, Value.slice none 0 0, Value.slice none 0 0] := T1.out.call hT hg
  have hc := C2.own.cell 3
  have hf := C2.own.frozen 3
  have T2 : Hid (Tol w (w4.setCell ⟨w.heap.size + 2, 3, none⟩ (Value.bool ((nl : Int) == 1))) lo bs (rest2 bs) #[Value.int IntKind.i64 0, Value.string { data := #[] }, Value.string { data := #[] }, Value.bool false, Value.int IntKind.i64 0, Value.slice none 0 0, Value.slice none 0 0] #[Value.int IntKind.i64 (lv : Int), Value.string { data := #[] }, Value.string { data := #[] }, Value.bool ((nl : Int) == 1), Value.int IntKind.i64 0, Value.slice none 0 0, Value.slice none 0 0]) := Lib.hid (C2.set 3 (Value.bool ((nl : Int) == 1)) rfl)
  clear hT hg C2 hnl T1
  go_wp2_with fail
  clear hc hf
  generalize w4.setCell ⟨w.heap.size + 2, 3, none⟩ (Value.bool ((nl : Int) == 1)) = w5 at *
  refine (ref_Text (w.heap.size + 1) lo w.heap.size bs (rest2 bs) _ T2.out.tk HL.out).mono ?_
  rintro e w6 ⟨rfl, hT, hg⟩
  obtain ⟨tl, htl⟩ : ∃ x, x = textOf (rest2 bs) := ⟨_, rfl⟩
  rw [show textOf (rest2 bs) = tl from htl.symm]
  have HTL := Lib.hid htl
  have C3 : Tol w w6 lo bs (rest3 bs) #[Value.int IntKind.i64 0, Value.string { data := #[] }, Value.string { data := #[] }, Value.bool false, Value.int IntKind.i64 0, Value.slice none 0 0, Value.slice none 0 0] #[Value.int IntKind.i64 (lv : Int), Value.string { data := #[] }, Value.string { data := #[] }, Value.bool ((nl : Int) == 1), Value.int IntKind.i64 0, Value.slice none 0 0, Value.slice none 0 0] := T2.out.call hT hg
  have hc := C3.own.cell 1
  have hf := C3.own.frozen 1
  have T3 : Hid (Tol w (w6.setCell ⟨w.heap.size + 2, 1, none⟩ (Value.string tl)) lo bs (rest3 bs) #[Value.int IntKind.i64 0, Value.string { data := #[] }, Value.string { data := #[] }, Value.bool false, Value.int IntKind.i64 0, Value.slice none 0 0, Value.slice none 0 0] #[Value.int IntKind.i64 (lv : Int), Value.string tl, Value.string { data := #[] }, Value.bool ((nl : Int) == 1), Value.int IntKind.i64 0, Value.slice none 0 0, Value.slice none 0 0]) := Lib.hid (C3.set 1 (Value.string tl) rfl)
  clear hT hg C3 htl T2
  go_wp2_with fail
  clear hc hf
  generalize w6.setCell ⟨w.heap.size + 2, 1, none⟩ (Value.string tl) = w7 at *
  refine (ref_Text (w.heap.size + 1) lo w.heap.size bs (rest3 bs) _ T3.out.tk HL.out).mono ?_
  rintro e w8 ⟨rfl, hT, hg⟩
  obtain ⟨th, hth⟩ : ∃ x, x = textOf (rest3 bs) := ⟨_, rfl⟩
  rw [show textOf (rest3 bs) = th from hth.symm]
  have HTH := Lib.hid hth
  have C4 : Tol w w8 lo bs (rest4 bs) #[Value.int IntKind.i64 0, Value.string { data := #[] }, Value.string { data := #[] }, Value.bool false, Value.int IntKind.i64 0, Value.slice none 0 0, Value.slice none 0 0] #[Value.int IntKind.i64 (lv : Int), Value.string tl, Value.string { data := #[] }, Value.bool ((nl : Int) == 1), Value.int IntKind.i64 0, Value.slice none 0 0, Value.slice none 0 0] := T3.out.call hT hg
  have hc := C4.own.cell 2
  have hf := C4.own.frozen 2
  have T4 : Hid (Tol w (w8.setCell ⟨w.heap.size + 2, 2, none⟩ (Value.string th)) lo bs (rest4 bs) #[Value.int IntKind.i64 0, Value.string { data := #[] }, Value.string { data := #[] }, Value.bool false, Value.int IntKind.i64 0, Value.slice none 0 0, Value.slice none 0 0] #[Value.int IntKind.i64 (lv : Int), Value.string tl, Value.string th, Value.bool ((nl : Int) == 1), Value.int IntKind.i64 0, Value.slice none 0 0, Value.slice none 0 0]) := Lib.hid (C4.set 2 (Value.string th) rfl)
  clear hT hg C4 hth T3
  go_wp2_with fail
  clear hc hf
  generalize w8.setCell ⟨w.heap.size + 2, 2, none⟩ (Value.string th) = w9 at *
  refine (ref_Num (w.heap.size + 1) lo w.heap.size 2 (by omega) bs (rest4 bs) _ T4.out.tk HL.out).mono ?_
  rintro e w10 ⟨rfl, hT, hg⟩
  obtain ⟨ts, hts⟩ : ∃ x, x = leN ((rest4 bs).take 2) := ⟨_, rfl⟩
  rw [show leN ((rest4 bs).take 2) = ts from hts.symm]
  have HTS := Lib.hid hts
  have C5 : Tol w w10 lo bs (rest5 bs) #[Value.int IntKind.i64 0, Value.string { data := #[] }, Value.string { data := #[] }, Value.bool false, Value.int IntKind.i64 0, Value.slice none 0 0, Value.slice none 0 0] #[Value.int IntKind.i64 (lv : Int), Value.string tl, Value.string th, Value.bool ((nl : Int) == 1), Value.int IntKind.i64 0, Value.slice none 0 0, Value.slice none 0 0] := T4.out.call hT hg
  have hc := C5.own.cell 4
  have hf := C5.own.frozen 4
  have T5 : Hid (Tol w (w10.setCell ⟨w.heap.size + 2, 4, none⟩ (Value.int IntKind.i64 (ts : Int))) lo bs (rest5 bs) #[Value.int IntKind.i64 0, Value.string { data := #[] }, Value.string { data := #[] }, Value.bool false, Value.int IntKind.i64 0, Value.slice none 0 0, Value.slice none 0 0] #[Value.int IntKind.i64 (lv : Int), Value.string tl, Value.string th, Value.bool ((nl : Int) == 1), Value.int IntKind.i64 (ts : Int), Value.slice none 0 0, Value.slice none 0 0]) := Lib.hid (C5.set 4 (Value.int IntKind.i64 (ts : Int)) rfl)
  clear hT hg C5 hts T4
  go_wp2_with fail
  clear hc hf
  generalize w10.setCell ⟨w.heap.size + 2, 4, none⟩ (Value.int IntKind.i64 (ts : Int)) = w11 at *
  refine (ref_Num (w.heap.size + 1) lo w.heap.size 1 (by omega) bs (rest5 bs) _ T5.out.tk HL.out).mono ?_
  rintro e w12 ⟨rfl, hT, hg⟩
  obtain ⟨cN, hcN⟩ : ∃ x, x = countN bs := ⟨_, rfl⟩
  rw [show leN ((rest5 bs).take 1) = cN from hcN.symm]
  have HCN := Lib.hid hcN
  have C6 : Tol w w12 lo bs (rest6 bs) #[Value.int IntKind.i64 0, Value.string { data := #[] }, Value.string { data := #[] }, Value.bool false, Value.int IntKind.i64 0, Value.slice none 0 0, Value.slice none 0 0] #[Value.int IntKind.i64 (lv : Int), Value.string tl, Value.string th, Value.bool ((nl : Int) == 1), Value.int IntKind.i64 (ts : Int), Value.slice none 0 0, Value.slice none 0 0] := T5.out.call hT hg
  have T6 := Lib.hid C6
  clear hT hg C6 hcN T5
  have HCB : Hid (cN ≤ 255) := Lib.hid (by
    rw [HCN.out]
    have := leN_lt ((rest5 bs).take 1) (fun b hb => T6.out.tk.small b (rest5_mem (List.mem_of_mem_take hb)))
    have h2 : ((rest5 bs).take 1).length ≤ 1 := by rw [List.length_take]; omega
    have h3 : 256 ^ ((rest5 bs).take 1).length ≤ 256 ^ 1 := Nat.pow_le_pow_right (by omega) h2
    unfold countN
    omega)
  go_wp2
  obtain ⟨tb, htb⟩ : ∃ b, b = ((nl : Int) == 1) := ⟨_, rfl⟩
  rw [← htb] at T6
  have HTB := Lib.hid htb
  clear htb
  have HTO : Hid (∀ its kds, (if lv = 0 then (takeItems cN (rest6 bs)).1 else []) = its → (if lv = 0 then [] else (takeKids cN (rest6 bs)).1) = kds → told bs = ⟨lv, tl, th, tb, ts, its, kds⟩) := Lib.hid (fun its kds h1 h2 => by
    unfold told
    rw [← HLV.out, ← HNL.out, ← HTL.out, ← HTH.out, ← HTS.out, ← HCN.out, ← HTB.out, h1, h2])
  by_cases hlv0 : lv = 0
  · have HLV0 := Lib.hid hlv0
    have hlvB : ((lv : Int) == 0) = true := by rw [hlv0]; rfl
    clear hlv0
    go_loopw [7] (fun i wr => ∃ j : Nat, j ≤ cN ∧ i = .int .i64 j ∧ Hid (∃ vI, Tol w wr lo bs (takeItems j (rest6 bs)).2 #[Value.int IntKind.i64 0, Value.string { data := #[] }, Value.string { data := #[] }, Value.bool false, Value.int IntKind.i64 0, Value.slice none 0 0, Value.slice none 0 0] #[.int .i64 (lv : Int), .string tl, .string th, .bool tb, .int .i64 (ts : Int), vI, .slice none 0 0] ∧ OwnItem wr (w.heap.size + 3) vI (takeItems j (rest6 bs)).1)) (fun i _ => cN - (intOf i).toNat)
    case atStart => exact ⟨0, Nat.zero_le _, rfl, Lib.hid ⟨_, T6.out, OwnItem.nil _ _⟩⟩
    case round =>
      obtain ⟨j, hj, rfl, ⟨vI, hT, hO⟩⟩ := hrel
      have hcb := HCB.out
      have TR := Lib.hid hT
      have HO := Lib.hid hO
      clear hT hO
      by_cases hlt : j < cN
      · obtain ⟨r0, hr0⟩ : ∃ r, r = (takeItems j (rest6 bs)).2 := ⟨_, rfl⟩
        rw [← hr0] at TR
        have HR0 := Lib.hid hr0
        obtain ⟨y, hy⟩ : ∃ y, y = (itemAt r0).1 := ⟨_, rfl⟩
        have HY := Lib.hid hy
        have hPlt := TR.out.own.lt
        have hsz := TR.out.be.size
        clear hr0 hy
        have p0 : wr.cell? ⟨w.heap.size + 1 + 1, 0, none⟩ = some (.int .i64 lv) := TR.out.own.cell 0
        have p5 : wr.cell? ⟨w.heap.size + 1 + 1, 5, none⟩ = some vI := TR.out.own.cell 5
        have HLJ : Hid ((takeItems j (rest6 bs)).1.length ≤ 1000000) := Lib.hid (by rw [takeItems_length]; omega)
        have HVB := Lib.hid HO.out.block
        go_upto_region 14 with (fail)
        have HTd : Hid (TkR wr.drew (w.heap.size + 1) lo w.heap.size bs r0) := Lib.hid (TR.out.tk.drewN 1)
        have TRd := Lib.hid TR.out.drew
        have hs3 : w.heap.size + 3 ≤ wr.heap.size := by omega
        have HOW : Hid (∀ W (o : Obj), wr.drew.grownBy W (some (w.heap.size + 1)) → OwnItem (W.alloc o) (w.heap.size + 3) vI (takeItems j (rest6 bs)).1 ∧ w.heap.size + 3 ≤ (W.alloc o).heap.size) := Lib.hid fun W o h => ⟨HO.out.keep fun k hk => (Below.heap_alloc W o k (by have := (HVB.out k hk).2; have := h.size; exact Nat.lt_of_lt_of_le (HVB.out k hk).2 h.size)).trans (h.block k (HVB.out k hk).2 (by have := (HVB.out k hk).1; simp; omega)), by have := h.size; have : wr.drew.heap.size = wr.heap.size := rfl; simp; omega⟩
        go_region_law (first
          | (refine stepItem _ rfl (.tmp 41) (.tmp 44) rfl (w.heap.size + 3) _ vI _ y rfl (HOW.out _ _ HG6.out).1 rfl (Blk.new _ _ _) HLJ.out (HOW.out _ _ HG6.out).2 ?_; intro g7 cap7 w7 hO7 hg7 hn7 hl7; have T7 := TR6.out.append (fun k hk => (HVB.out k hk).1) hg7; have p7 : w7.cell? ⟨w.heap.size + 1 + 1, 5, none⟩ = some vI := T7.own.cell 5; have f7 : w7.frozen? ⟨w.heap.size + 1 + 1, 5, none⟩ = false := T7.own.frozen 5; have HO7 := Lib.hid hO7; have HN7 := Lib.hid hn7; have TR7 := Lib.hid T7; clear hO7 hg7 hn7 T7)
          | (go_simp; go_at_call 70; refine (ref_TItem' (w.heap.size + 1) lo w.heap.size bs r0 _ y HY.out HTd.out HL.out hsz).mono ?_; rintro e w6 ⟨rfl, hT6, hg6⟩; have TR6 := Lib.hid (TRd.out.call hT6 hg6); have HG6 := Lib.hid hg6; have p5' : w6.cell? ⟨w.heap.size + 1 + 1, 5, none⟩ = some vI := TR6.out.own.cell 5; clear hT6 hg6 HTd; have hal6 : ∀ o, (w6.alloc o).cell? ⟨w.heap.size + 1 + 1, 5, none⟩ = some vI := fun o => (World.cell?_alloc_lt w6 o _ (World.block_lt_of_cell? w6 _ p5')).trans p5'))
        all_goals
          go_wp2
          go_roundw
        case rel | rel | rel =>
          have hne : g7 ≠ w.heap.size + 2 := by
            rcases HN7.out with h | h
            · have := (HVB.out g7 h).1; omega
            · simp at h; have := TR6.out.own.lt; omega
          refine ⟨j + 1, by omega, by go_num, Lib.hid ⟨.slice (some ⟨g7, 0, none⟩) ((takeItems j (rest6 bs)).1.length + 1) cap7, ?_, ?_⟩⟩
          · show Tol _ _ _ _ (itemAt (takeItems j (rest6 bs)).2).2 _ _
            rw [← HR0.out]
            exact TR7.out.set 5 _ rfl
          · show OwnItem _ _ _ ((takeItems j (rest6 bs)).1 ++ [(itemAt (takeItems j (rest6 bs)).2).1])
            rw [← HR0.out, ← HY.out]
            exact HO7.out.setFar hne _
        case measure | measure | measure => simp [intOf]; omega
      · obtain rfl : j = cN := by omega
        obtain ⟨AI, cI, rfl, hcI, hRI⟩ := HO.out.form
        obtain ⟨its, hits⟩ : ∃ l, l = (takeItems j (rest6 bs)).1 := ⟨_, rfl⟩
        rw [← hits] at TR HO hcI hRI
        have hlen : its.length = j := by rw [hits, takeItems_length]
        have HT : Hid (told bs = ⟨lv, tl, th, tb, ts, its, []⟩) := Lib.hid (HTO.out _ _ (by rw [if_pos HLV0.out]; exact hits.symm) (by rw [if_pos HLV0.out]))
        have HPG : Hid (Pg wr (w.heap.size + 1) wr.heap.size ⟨lv, tl, th, tb, ts, its, []⟩ AI none cI 0) := Lib.hid ⟨hRI.mono (by omega) (Nat.le_refl _), Rd.nil, hcI, Nat.le_refl _, by show its.length ≤ _; omega, Nat.zero_le _⟩
        obtain ⟨ni, hni⟩ : ∃ n, n = its.length := ⟨_, rfl⟩
        rw [← hni] at TR
        have HNI := Lib.hid hni
        obtain ⟨q0, q1, q2, q3, q4, q5, q6⟩ := Blk.cells7 TR.out.own
        obtain ⟨z0, z1, z2, z3, z4, z5, z6⟩ := Blk.cells7 TR.out.res
        have hfz : ∀ i, wr.frozen? ⟨w.heap.size, i, none⟩ = false := TR.out.res.frozen
        clear hits hlen hcI hRI hni
        have HE : Hid (Blk (((((((wr.setCell ⟨w.heap.size, 0, none⟩ (.int .i64 (lv : Int))).setCell ⟨w.heap.size, 1, none⟩ (.string tl)).setCell ⟨w.heap.size, 2, none⟩ (.string th)).setCell ⟨w.heap.size, 3, none⟩ (.bool tb)).setCell ⟨w.heap.size, 4, none⟩ (.int .i64 (ts : Int))).setCell ⟨w.heap.size, 5, none⟩ (.slice AI ni cI)).setCell ⟨w.heap.size, 6, none⟩ (.slice none 0 0)) w.heap.size 27 #[.int .i64 (lv : Int), .string tl, .string th, .bool tb, .int .i64 (ts : Int), .slice AI ni cI, .slice none 0 0]) := Lib.hid (((((((TR.out.res.set_ 0 (.int .i64 (lv : Int))).set_ 1 (.string tl)).set_ 2 (.string th)).set_ 3 (.bool tb)).set_ 4 (.int .i64 (ts : Int))).set_ 5 (.slice AI ni cI)).set_ 6 (.slice none 0 0))
        have HB : Hid (Below w.heap.size w (((((((wr.setCell ⟨w.heap.size, 0, none⟩ (.int .i64 (lv : Int))).setCell ⟨w.heap.size, 1, none⟩ (.string tl)).setCell ⟨w.heap.size, 2, none⟩ (.string th)).setCell ⟨w.heap.size, 3, none⟩ (.bool tb)).setCell ⟨w.heap.size, 4, none⟩ (.int .i64 (ts : Int))).setCell ⟨w.heap.size, 5, none⟩ (.slice AI ni cI)).setCell ⟨w.heap.size, 6, none⟩ (.slice none 0 0))) := Lib.hid (((((((TR.out.be.setCell (p := ⟨w.heap.size, 0, none⟩) (Nat.le_refl _) (.int .i64 (lv : Int))).setCell (p := ⟨w.heap.size, 1, none⟩) (Nat.le_refl _) (.string tl)).setCell (p := ⟨w.heap.size, 2, none⟩) (Nat.le_refl _) (.string th)).setCell (p := ⟨w.heap.size, 3, none⟩) (Nat.le_refl _) (.bool tb)).setCell (p := ⟨w.heap.size, 4, none⟩) (Nat.le_refl _) (.int .i64 (ts : Int))).setCell (p := ⟨w.heap.size, 5, none⟩) (Nat.le_refl _) (.slice AI ni cI)).setCell (p := ⟨w.heap.size, 6, none⟩) (Nat.le_refl _) (.slice none 0 0))
        have HP : Hid (Pg (((((((wr.setCell ⟨w.heap.size, 0, none⟩ (.int .i64 (lv : Int))).setCell ⟨w.heap.size, 1, none⟩ (.string tl)).setCell ⟨w.heap.size, 2, none⟩ (.string th)).setCell ⟨w.heap.size, 3, none⟩ (.bool tb)).setCell ⟨w.heap.size, 4, none⟩ (.int .i64 (ts : Int))).setCell ⟨w.heap.size, 5, none⟩ (.slice AI ni cI)).setCell ⟨w.heap.size, 6, none⟩ (.slice none 0 0)) w.heap.size (((((((wr.setCell ⟨w.heap.size, 0, none⟩ (.int .i64 (lv : Int))).setCell ⟨w.heap.size, 1, none⟩ (.string tl)).setCell ⟨w.heap.size, 2, none⟩ (.string th)).setCell ⟨w.heap.size, 3, none⟩ (.bool tb)).setCell ⟨w.heap.size, 4, none⟩ (.int .i64 (ts : Int))).setCell ⟨w.heap.size, 5, none⟩ (.slice AI ni cI)).setCell ⟨w.heap.size, 6, none⟩ (.slice none 0 0)).heap.size ⟨lv, tl, th, tb, ts, its, []⟩ AI none cI 0) := Lib.hid (pg_kept HPG.out (Below.refl _ _) (fun p hp => set7 wr w.heap.size p hp _ _ _ _ _ _ _) (by simp))
        go_wp2
        generalize (((((((wr.setCell ⟨w.heap.size, 0, none⟩ (.int .i64 (lv : Int))).setCell ⟨w.heap.size, 1, none⟩ (.string tl)).setCell ⟨w.heap.size, 2, none⟩ (.string th)).setCell ⟨w.heap.size, 3, none⟩ (.bool tb)).setCell ⟨w.heap.size, 4, none⟩ (.int .i64 (ts : Int))).setCell ⟨w.heap.size, 5, none⟩ (.slice AI ni cI)).setCell ⟨w.heap.size, 6, none⟩ (.slice none 0 0)) = wE at *
        obtain ⟨e0, e1, e2, e3, e4, e5, e6⟩ := Blk.cells7 HE.out
        exact bodyPost_ret (v := .agg #[.int .i64 (lv : Int), .string tl, .string th, .bool tb, .int .i64 (ts : Int), .slice AI ni cI, .slice none 0 0]) (by simp [results, Tryz.results85, go_sem, e0, e1, e2, e3, e4, e5, e6]) rfl ⟨AI, none, cI, 0, by rw [HT.out, HNI.out]; rfl, by rw [HT.out]; exact HP.out, HB.out⟩
  · have HLV0 := Lib.hid hlv0
    have hlvB : ((lv : Int) == 0) = false := by rw [beq_eq_false_iff_ne]; omega
    clear hlv0
    go_loopw [7] (fun i wr => ∃ j : Nat, j ≤ cN ∧ i = .int .i64 j ∧ Hid (∃ vI, Tol w wr lo bs (takeKids j (rest6 bs)).2 #[Value.int IntKind.i64 0, Value.string { data := #[] }, Value.string { data := #[] }, Value.bool false, Value.int IntKind.i64 0, Value.slice none 0 0, Value.slice none 0 0] #[.int .i64 (lv : Int), .string tl, .string th, .bool tb, .int .i64 (ts : Int), .slice none 0 0, vI] ∧ OwnKid wr (w.heap.size + 3) vI (takeKids j (rest6 bs)).1)) (fun i _ => cN - (intOf i).toNat)
    case atStart => exact ⟨0, Nat.zero_le _, rfl, Lib.hid ⟨_, T6.out, OwnKid.nil _ _⟩⟩
    case round =>
      obtain ⟨j, hj, rfl, ⟨vI, hT, hO⟩⟩ := hrel
      have hcb := HCB.out
      have TR := Lib.hid hT
      have HO := Lib.hid hO
      clear hT hO
      by_cases hlt : j < cN
      · obtain ⟨r0, hr0⟩ : ∃ r, r = (takeKids j (rest6 bs)).2 := ⟨_, rfl⟩
        rw [← hr0] at TR
        have HR0 := Lib.hid hr0
        obtain ⟨y, hy⟩ : ∃ y, y = (kidAt r0).1 := ⟨_, rfl⟩
        have HY := Lib.hid hy
        have hPlt := TR.out.own.lt
        have hsz := TR.out.be.size
        clear hr0 hy
        have p0 : wr.cell? ⟨w.heap.size + 1 + 1, 0, none⟩ = some (.int .i64 lv) := TR.out.own.cell 0
        have p5 : wr.cell? ⟨w.heap.size + 1 + 1, 6, none⟩ = some vI := TR.out.own.cell 6
        have HLJ : Hid ((takeKids j (rest6 bs)).1.length ≤ 1000000) := Lib.hid (by rw [takeKids_length]; omega)
        have HVB := Lib.hid HO.out.block
        go_wp2_with fail
        have K0 := Lib.hid (KR.start (ks := #[.string { data := #[] }, .int .i64 0]) TR.out HO.out)
        generalize wr.alloc (.cells #[.string { data := #[] }, .int .i64 0] 61) = w20 at *
        refine (ref_Text (w.heap.size + 1) lo w.heap.size bs r0 _ K0.out.tol.tk HL.out).mono ?_
        rintro e w21 ⟨rfl, hT, hg⟩
        have K1 := K0.out.call hT hg
        obtain ⟨s1, hs1⟩ : ∃ x, x = textOf r0 := ⟨_, rfl⟩
        obtain ⟨r1, hr1⟩ : ∃ x, x = r0.drop (1 + textN r0) := ⟨_, rfl⟩
        rw [← hr1] at K1
        rw [← hs1]
        have HS1 := Lib.hid hs1
        have HR1 := Lib.hid hr1
        have hc := K1.kb.cell 0
        have hf := K1.kb.frozen 0
        have K2 : Hid (KR w wr (w21.setCell ⟨wr.heap.size, 0, none⟩ (.string s1)) lo bs r1 #[Value.int IntKind.i64 0, Value.string { data := #[] }, Value.string { data := #[] }, Value.bool false, Value.int IntKind.i64 0, Value.slice none 0 0, Value.slice none 0 0] #[.int .i64 (lv : Int), .string tl, .string th, .bool tb, .int .i64 (ts : Int), .slice none 0 0, vI] #[.string s1, .int .i64 0] vI (takeKids j (rest6 bs)).1) := Lib.hid (K1.set 0 (.string s1))
        clear hT hg K1 K0 hs1 hr1 p0 p5
        go_wp2_with fail
        clear hc hf
        generalize w21.setCell ⟨wr.heap.size, 0, none⟩ (.string s1) = w22 at *
        refine (ref_Num (w.heap.size + 1) lo w.heap.size 2 (by omega) bs r1 _ K2.out.tol.tk HL.out).mono ?_
        rintro e w23 ⟨rfl, hT, hg⟩
        have K3 := K2.out.call hT hg
        obtain ⟨n1, hn1⟩ : ∃ x, x = leN (r1.take 2) := ⟨_, rfl⟩
        rw [← hn1]
        have HN1 := Lib.hid hn1
        have K4 : Hid (KR w wr (w23.setCell ⟨wr.heap.size, 1, none⟩ (.int .i64 (n1 : Int))) lo bs (r1.drop 2) #[Value.int IntKind.i64 0, Value.string { data := #[] }, Value.string { data := #[] }, Value.bool false, Value.int IntKind.i64 0, Value.slice none 0 0, Value.slice none 0 0] #[.int .i64 (lv : Int), .string tl, .string th, .bool tb, .int .i64 (ts : Int), .slice none 0 0, vI] #[.string s1, .int .i64 (n1 : Int)] vI (takeKids j (rest6 bs)).1) := Lib.hid (K3.set 1 (.int .i64 (n1 : Int)))
        have hc0 : w23.cell? ⟨wr.heap.size, 0, none⟩ = some (.string s1) := K3.kb.cell 0
        have hc1 := K3.kb.cell 1
        have hf := K3.kb.frozen 1
        have p6 : w23.cell? ⟨w.heap.size + 1 + 1, 6, none⟩ = some vI := K3.tol.own.cell 6
        have hwl := K2.out.hs
        clear hT hg K3 hn1
        have HOW : Hid (∀ o : Obj, OwnKid ((w23.setCell ⟨wr.heap.size, 1, none⟩ (.int .i64 (n1 : Int))).alloc o) (w.heap.size + 3) vI (takeKids j (rest6 bs)).1 ∧ w.heap.size + 3 ≤ ((w23.setCell ⟨wr.heap.size, 1, none⟩ (.int .i64 (n1 : Int))).alloc o).heap.size) := Lib.hid fun o => ⟨K4.out.ow.keep fun k hk => Below.heap_alloc _ o k (by have := (HVB.out k hk).2; have := K4.out.kb.lt; omega), by have := K4.out.kb.lt; simp at this ⊢; omega⟩
        have HKB : Hid (Blk ((w23.setCell ⟨wr.heap.size, 1, none⟩ (.int .i64 (n1 : Int))).alloc (.cells #[.string s1, .int .i64 (n1 : Int)] 61)) w23.heap.size 61 #[.string s1, .int .i64 (n1 : Int)]) := Lib.hid (by have := Blk.new (w23.setCell ⟨wr.heap.size, 1, none⟩ (.int .i64 (n1 : Int))) 61 #[.string s1, .int .i64 (n1 : Int)]; simpa using this)
        go_wp2_with (at_builtin; refine plainKid _ rfl (.tmp 55) (.tmp 57) rfl (w.heap.size + 3) w23.heap.size vI _ ⟨s1, n1⟩ rfl (HOW.out _).1 rfl HKB.out HLJ.out (HOW.out _).2 ?_; intro g7 cap7 w7 hO7 hg7 hn7 hl7; have T7 := K4.out.tol.append (fun k hk => (HVB.out k hk).1) hg7; have p7 : w7.cell? ⟨w.heap.size + 1 + 1, 6, none⟩ = some vI := T7.own.cell 6; have f7 : w7.frozen? ⟨w.heap.size + 1 + 1, 6, none⟩ = false := T7.own.frozen 6; have HO7 := Lib.hid hO7; have HN7 := Lib.hid hn7; have TR7 := Lib.hid T7; clear hO7 hg7 hn7 T7)
        go_roundw
        case rel =>
          have hne : g7 ≠ w.heap.size + 2 := by
            rcases HN7.out with h | h
            · have := (HVB.out g7 h).1; omega
            · simp at h; have := K4.out.tol.own.lt; simp at this; omega
          refine ⟨j + 1, by omega, by go_num, Lib.hid ⟨.slice (some ⟨g7, 0, none⟩) ((takeKids j (rest6 bs)).1.length + 1) cap7, ?_, ?_⟩⟩
          · show Tol _ _ _ _ (kidAt (takeKids j (rest6 bs)).2).2 _ _
            rw [← HR0.out]
            have := TR7.out.set 6 (.slice (some ⟨g7, 0, none⟩) ((takeKids j (rest6 bs)).1.length + 1) cap7) rfl
            simp only [kidAt]
            rw [← HR1.out]
            exact this
          · show OwnKid _ _ _ ((takeKids j (rest6 bs)).1 ++ [(kidAt (takeKids j (rest6 bs)).2).1])
            rw [← HR0.out]
            simp only [kidAt]
            rw [← HR1.out, ← HS1.out, ← HN1.out]
            exact HO7.out.setFar hne _
        case measure => simp [intOf]; omega
      · obtain rfl : j = cN := by omega
        obtain ⟨AI, cI, rfl, hcI, hRI⟩ := HO.out.form
        obtain ⟨its, hits⟩ : ∃ l, l = (takeKids j (rest6 bs)).1 := ⟨_, rfl⟩
        rw [← hits] at TR HO hcI hRI
        have hlen : its.length = j := by rw [hits, takeKids_length]
        have HT : Hid (told bs = ⟨lv, tl, th, tb, ts, [], its⟩) := Lib.hid (HTO.out _ _ (by rw [if_neg HLV0.out]) (by rw [if_neg HLV0.out]; exact hits.symm))
        have HPG : Hid (Pg wr (w.heap.size + 1) wr.heap.size ⟨lv, tl, th, tb, ts, [], its⟩ none AI 0 cI) := Lib.hid ⟨Rd.nil, hRI.mono (by omega) (Nat.le_refl _), Nat.le_refl _, hcI, Nat.zero_le _, by show its.length ≤ _; omega⟩
        obtain ⟨ni, hni⟩ : ∃ n, n = its.length := ⟨_, rfl⟩
        rw [← hni] at TR
        have HNI := Lib.hid hni
        obtain ⟨q0, q1, q2, q3, q4, q5, q6⟩ := Blk.cells7 TR.out.own
        obtain ⟨z0, z1, z2, z3, z4, z5, z6⟩ := Blk.cells7 TR.out.res
        have hfz : ∀ i, wr.frozen? ⟨w.heap.size, i, none⟩ = false := TR.out.res.frozen
        clear hits hlen hcI hRI hni
        have HE : Hid (Blk (((((((wr.setCell ⟨w.heap.size, 0, none⟩ (.int .i64 (lv : Int))).setCell ⟨w.heap.size, 1, none⟩ (.string tl)).setCell ⟨w.heap.size, 2, none⟩ (.string th)).setCell ⟨w.heap.size, 3, none⟩ (.bool tb)).setCell ⟨w.heap.size, 4, none⟩ (.int .i64 (ts : Int))).setCell ⟨w.heap.size, 5, none⟩ (.slice none 0 0)).setCell ⟨w.heap.size, 6, none⟩ (.slice AI ni cI)) w.heap.size 27 #[.int .i64 (lv : Int), .string tl, .string th, .bool tb, .int .i64 (ts : Int), .slice none 0 0, .slice AI ni cI]) := Lib.hid (((((((TR.out.res.set_ 0 (.int .i64 (lv : Int))).set_ 1 (.string tl)).set_ 2 (.string th)).set_ 3 (.bool tb)).set_ 4 (.int .i64 (ts : Int))).set_ 5 (.slice none 0 0)).set_ 6 (.slice AI ni cI))
        have HB : Hid (Below w.heap.size w (((((((wr.setCell ⟨w.heap.size, 0, none⟩ (.int .i64 (lv : Int))).setCell ⟨w.heap.size, 1, none⟩ (.string tl)).setCell ⟨w.heap.size, 2, none⟩ (.string th)).setCell ⟨w.heap.size, 3, none⟩ (.bool tb)).setCell ⟨w.heap.size, 4, none⟩ (.int .i64 (ts : Int))).setCell ⟨w.heap.size, 5, none⟩ (.slice none 0 0)).setCell ⟨w.heap.size, 6, none⟩ (.slice AI ni cI))) := Lib.hid (((((((TR.out.be.setCell (p := ⟨w.heap.size, 0, none⟩) (Nat.le_refl _) (.int .i64 (lv : Int))).setCell (p := ⟨w.heap.size, 1, none⟩) (Nat.le_refl _) (.string tl)).setCell (p := ⟨w.heap.size, 2, none⟩) (Nat.le_refl _) (.string th)).setCell (p := ⟨w.heap.size, 3, none⟩) (Nat.le_refl _) (.bool tb)).setCell (p := ⟨w.heap.size, 4, none⟩) (Nat.le_refl _) (.int .i64 (ts : Int))).setCell (p := ⟨w.heap.size, 5, none⟩) (Nat.le_refl _) (.slice none 0 0)).setCell (p := ⟨w.heap.size, 6, none⟩) (Nat.le_refl _) (.slice AI ni cI))
        have HP : Hid (Pg (((((((wr.setCell ⟨w.heap.size, 0, none⟩ (.int .i64 (lv : Int))).setCell ⟨w.heap.size, 1, none⟩ (.string tl)).setCell ⟨w.heap.size, 2, none⟩ (.string th)).setCell ⟨w.heap.size, 3, none⟩ (.bool tb)).setCell ⟨w.heap.size, 4, none⟩ (.int .i64 (ts : Int))).setCell ⟨w.heap.size, 5, none⟩ (.slice none 0 0)).setCell ⟨w.heap.size, 6, none⟩ (.slice AI ni cI)) w.heap.size (((((((wr.setCell ⟨w.heap.size, 0, none⟩ (.int .i64 (lv : Int))).setCell ⟨w.heap.size, 1, none⟩ (.string tl)).setCell ⟨w.heap.size, 2, none⟩ (.string th)).setCell ⟨w.heap.size, 3, none⟩ (.bool tb)).setCell ⟨w.heap.size, 4, none⟩ (.int .i64 (ts : Int))).setCell ⟨w.heap.size, 5, none⟩ (.slice none 0 0)).setCell ⟨w.heap.size, 6, none⟩ (.slice AI ni cI)).heap.size ⟨lv, tl, th, tb, ts, [], its⟩ none AI 0 cI) := Lib.hid (pg_kept HPG.out (Below.refl _ _) (fun p hp => set7 wr w.heap.size p hp _ _ _ _ _ _ _) (by simp))
        go_wp2
        generalize (((((((wr.setCell ⟨w.heap.size, 0, none⟩ (.int .i64 (lv : Int))).setCell ⟨w.heap.size, 1, none⟩ (.string tl)).setCell ⟨w.heap.size, 2, none⟩ (.string th)).setCell ⟨w.heap.size, 3, none⟩ (.bool tb)).setCell ⟨w.heap.size, 4, none⟩ (.int .i64 (ts : Int))).setCell ⟨w.heap.size, 5, none⟩ (.slice none 0 0)).setCell ⟨w.heap.size, 6, none⟩ (.slice AI ni cI)) = wE at *
        obtain ⟨e0, e1, e2, e3, e4, e5, e6⟩ := Blk.cells7 HE.out
        exact bodyPost_ret (v := .agg #[.int .i64 (lv : Int), .string tl, .string th, .bool tb, .int .i64 (ts : Int), .slice none 0 0, .slice AI ni cI]) (by simp [results, Tryz.results85, go_sem, e0, e1, e2, e3, e4, e5, e6]) rfl ⟨none, AI, 0, cI, by rw [HT.out, HNI.out]; rfl, by rw [HT.out]; exact HP.out, HB.out⟩
end Go.Proofs.YtjbdmaehomhdeaaGreat
