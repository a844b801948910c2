/- delta.told. -/
import Derived.Test.YtjbdmaehomhdeaaGreatF5
import Derived.Test.YtjbdmaehomhdeaaGreatF6
import Derived.Test.YtjbdmaehomhdeaaGreatRowS
import Derived.Laws.Rows
set_option linter.unusedSimpArgs false
set_option linter.unusedVariables false
namespace Go.Proofs.YtjbdmaehomhdeaaGreat
open Go.RowKit

/-- the change that bytes say, right or not -/
noncomputable def toldD (bs : List Nat) : Delta :=
  let n := leN (bs.take 1)
  let r := bs.drop 1
  { kind := n, item := if n = 1 then (itemAt r).1 else Item.none, key := if n = 2 ∨ n = 3 ∨ n = 4 then textOf r else ⟨#[]⟩,
    page := if n = 2 ∨ n = 3 then (leN ((r.drop (1 + textN r)).take 2) : Int) else if n = 5 then (leN (r.take 2) : Int) else 0, right := if n = 6 then decoded r else Page.zero }
def PostTD (w : World) (d : Delta) (e : Ending) (w' : World) : Prop := ∃ A A' c c', e = .returned (d.val A c A' c') ∧ Pg w' w.heap.size w'.heap.size d.right A A' c c' ∧ Below w.heap.size w w'

/-- within told: the result, the taker, the change in blocks of their own -/
structure DtW (w wc : World) (lo g : Nat) (bs : List Nat) (cs : Array Value) : Prop where
  tk : Tk wc (w.heap.size + 1) lo w.heap.size 113 bs
  be : Below w.heap.size w wc
  rb : Blk wc w.heap.size 29 #[Value.int IntKind.i64 0, Value.string { data := #[] }, Value.string { data := #[] }, Value.int IntKind.i64 0, Value.bool false, Value.string { data := #[] }, Value.int IntKind.i64 0, Value.int IntKind.i64 0, Value.string { data := #[] }, Value.string { data := #[] }, Value.bool false, Value.int IntKind.i64 0, Value.slice none 0 0, Value.slice none 0 0]
  db : Blk wc g 29 cs
  gd : w.heap.size + 1 < g
theorem Pg.set {w : World} {lo hi g : Nat} {p : Page} {A A' : Option Addr} {c c' : Nat} (h : Pg w lo hi p A A' c c') (hg : g < lo) (i : Nat) (u : Value) : Pg (w.setCell ⟨g, i, none⟩ u) lo hi p A A' c c' := by
  have key : ∀ q : Addr, lo ≤ q.block → q.block < hi → (w.setCell ⟨g, i, none⟩ u).cell? q = w.cell? q := fun q h1 h2 => World.cell?_of_block (Below.heap_setCell w ⟨g, i, none⟩ u q.block (by show q.block ≠ g; omega))
  exact ⟨h.items.keep key, h.kids.keep key, h.li, h.lk, h.bi, h.bk⟩
theorem Turned.pg {w w' : World} {lo hi g : Nat} {p : Page} {A A' : Option Addr} {c c' : Nat} (h : Turned w w' g) (hp : Pg w lo hi p A A' c c') (hg : g < lo) : Pg w' lo hi p A A' c c' := by
  have key : ∀ q : Addr, lo ≤ q.block → q.block < hi → w'.cell? q = w.cell? q := fun q h1 h2 => h.cell (by omega)
  exact ⟨hp.items.keep key, hp.kids.keep key, hp.li, hp.lk, hp.bi, hp.bk⟩
section
variable {w wc w' : World} {lo g : Nat} {bs bs' : List Nat} {cs cs' : Array Value}
theorem DtW.call (h : DtW w wc lo g bs cs) (h1 : Tk w' (w.heap.size + 1) lo w.heap.size 113 bs') (h2 : wc.grownBy w' (some (w.heap.size + 1))) : DtW w w' lo g bs' cs :=
  ⟨h1, h.be.grown h2 h.be.size (fun k hk => by cases hk; omega), (h2.block _ h.rb.lt (by simp)).trans h.rb, (h2.block _ h.db.lt (by have := h.gd; simp; omega)).trans h.db, h.gd⟩
theorem DtW.set (h : DtW w wc lo g bs cs) (i : Nat) (u : Value) (hc : cs.setIfInBounds i u = cs') : DtW w (wc.setCell ⟨g, i, none⟩ u) lo g bs cs' := by
  have hg := h.gd
  exact ⟨h.tk.far fun k hk => Below.heap_setCell wc _ u k (by simp; omega), h.be.setCell (p := ⟨g, i, none⟩) (by show _ ≤ g; omega) u, h.rb.far (by simp; omega) u, by rw [← hc]; exact h.db.set_ i u, h.gd⟩
theorem DtW.on (h : DtW w wc lo g bs cs) (hb : Below wc.heap.size wc w') : DtW w w' lo g bs cs := by
  have hs := h.be.size
  have hl := h.db.lt
  have hg := h.gd
  exact ⟨h.tk.far fun k hk => hb.block k (by omega), h.be.trans (hb.mono hs), h.rb.below hb (by omega), h.db.below hb hl, h.gd⟩
end

set_option maxRecDepth 100000 in
set_option maxHeartbeats 4000000 in
theorem delta_told0 (lo c : Nat) (A : Option Addr) (bs : List Nat) (w : World) (hkn : ¬ (leN (bs.take 1) = 1 ∨ leN (bs.take 1) = 2 ∨ leN (bs.take 1) = 3 ∨ leN (bs.take 1) = 4 ∨ leN (bs.take 1) = 5 ∨ leN (bs.take 1) = 6)) (hr : Rd byteCell 1 w lo w.heap.size A bs) (hc : bs.length ≤ c) (hb : ∀ b ∈ bs, b < 256) (hl : bs.length ≤ 140737488351232) :
    Calls Tryz.prog 37 #[.slice A bs.length c] w (PostTD w (toldD bs)) := by
  have HKN := Lib.hid hkn
  have hl1 : (bs.drop 1).length ≤ 140737488351232 := by rw [List.length_drop]; omega
  have hb1 : ∀ b ∈ bs.drop 1, b < 256 := fun b h => hb b (List.mem_of_mem_drop h)
  obtain ⟨nb, hnb⟩ : ∃ n, n = bs.length := ⟨_, rfl⟩
  rw [← hnb]
  have hB0 : Below w.heap.size w ((w.alloc (.cells #[Value.int IntKind.i64 0, Value.string { data := #[] }, Value.string { data := #[] }, Value.int IntKind.i64 0, Value.bool false, Value.string { data := #[] }, Value.int IntKind.i64 0, Value.int IntKind.i64 0, Value.string { data := #[] }, Value.string { data := #[] }, Value.bool false, Value.int IntKind.i64 0, Value.slice none 0 0, Value.slice none 0 0] 29)).alloc (.cells #[.slice A nb c] 113)) := ((Below.refl _ _).alloc (Nat.le_refl _) _).alloc (by simp) _
  have hR0 : Blk ((w.alloc (.cells #[Value.int IntKind.i64 0, Value.string { data := #[] }, Value.string { data := #[] }, Value.int IntKind.i64 0, Value.bool false, Value.string { data := #[] }, Value.int IntKind.i64 0, Value.int IntKind.i64 0, Value.string { data := #[] }, Value.string { data := #[] }, Value.bool false, Value.int IntKind.i64 0, Value.slice none 0 0, Value.slice none 0 0] 29)).alloc (.cells #[.slice A nb c] 113)) w.heap.size 29 #[Value.int IntKind.i64 0, Value.string { data := #[] }, Value.string { data := #[] }, Value.int IntKind.i64 0, Value.bool false, Value.string { data := #[] }, Value.int IntKind.i64 0, Value.int IntKind.i64 0, Value.string { data := #[] }, Value.string { data := #[] }, Value.bool false, Value.int IntKind.i64 0, Value.slice none 0 0, Value.slice none 0 0] := (Blk.new _ _ _).alloc _
  have hG0 : Blk ((w.alloc (.cells #[Value.int IntKind.i64 0, Value.string { data := #[] }, Value.string { data := #[] }, Value.int IntKind.i64 0, Value.bool false, Value.string { data := #[] }, Value.int IntKind.i64 0, Value.int IntKind.i64 0, Value.string { data := #[] }, Value.string { data := #[] }, Value.bool false, Value.int IntKind.i64 0, Value.slice none 0 0, Value.slice none 0 0] 29)).alloc (.cells #[.slice A nb c] 113)) (w.heap.size + 1) 113 #[.slice A nb c] := by
    have := Blk.new (w.alloc (.cells #[Value.int IntKind.i64 0, Value.string { data := #[] }, Value.string { data := #[] }, Value.int IntKind.i64 0, Value.bool false, Value.string { data := #[] }, Value.int IntKind.i64 0, Value.int IntKind.i64 0, Value.string { data := #[] }, Value.string { data := #[] }, Value.bool false, Value.int IntKind.i64 0, Value.slice none 0 0, Value.slice none 0 0] 29)) 113 #[.slice A nb c]
    simpa using this
  have hT0 : Tk ((w.alloc (.cells #[Value.int IntKind.i64 0, Value.string { data := #[] }, Value.string { data := #[] }, Value.int IntKind.i64 0, Value.bool false, Value.string { data := #[] }, Value.int IntKind.i64 0, Value.int IntKind.i64 0, Value.string { data := #[] }, Value.string { data := #[] }, Value.bool false, Value.int IntKind.i64 0, Value.slice none 0 0, Value.slice none 0 0] 29)).alloc (.cells #[.slice A nb c] 113)) (w.heap.size + 1) lo w.heap.size 113 bs := ⟨⟨A, c, by rw [← hnb]; exact hG0, hc, hr.below hB0⟩, .inr (by omega), hb⟩
  have HL1 := Lib.hid hl1
  have HB1 := Lib.hid hb1
  clear hkn hl1 hb1 hr hc hb hl hnb
  go_enter Tryz.func37, Tryz.ntmps37
  go_wp2_with fail
  generalize (w.alloc (.cells #[Value.int IntKind.i64 0, Value.string { data := #[] }, Value.string { data := #[] }, Value.int IntKind.i64 0, Value.bool false, Value.string { data := #[] }, Value.int IntKind.i64 0, Value.int IntKind.i64 0, Value.string { data := #[] }, Value.string { data := #[] }, Value.bool false, Value.int IntKind.i64 0, Value.slice none 0 0, Value.slice none 0 0] 29)).alloc (.cells #[.slice A nb c] 113) = w0 at *
  refine (dt_num (w.heap.size + 1) lo w.heap.size 1 (by omega) bs _ hT0).mono ?_
  rintro e w1 ⟨rfl, hT1, hg1⟩
  obtain ⟨kn, hkn2⟩ : ∃ n, n = leN (bs.take 1) := ⟨_, rfl⟩
  rw [← hkn2]
  have HKN2 := Lib.hid hkn2
  obtain ⟨n1, n2, n3, n4, n5, n6⟩ : ((kn : Int) == 1) = false ∧ ((kn : Int) == 2) = false ∧ ((kn : Int) == 3) = false ∧ ((kn : Int) == 4) = false ∧ ((kn : Int) == 5) = false ∧ ((kn : Int) == 6) = false := by
    have := HKN.out
    rw [← hkn2] at this
    simp only [beq_eq_false_iff_ne, ne_eq]
    omega
  clear hkn2
  obtain ⟨r1, hr1⟩ : ∃ l, l = bs.drop 1 := ⟨_, rfl⟩
  rw [← hr1] at hT1 HL1 HB1
  have HR1 := Lib.hid hr1
  have hbe1 : Below w.heap.size w w1 := hB0.grown hg1 hB0.size (fun k hk => by cases hk; omega)
  have hgd1 : w.heap.size + 1 < w1.heap.size := Nat.lt_of_lt_of_le hG0.lt hg1.size
  have hR1 : Blk w1 w.heap.size 29 #[Value.int IntKind.i64 0, Value.string { data := #[] }, Value.string { data := #[] }, Value.int IntKind.i64 0, Value.bool false, Value.string { data := #[] }, Value.int IntKind.i64 0, Value.int IntKind.i64 0, Value.string { data := #[] }, Value.string { data := #[] }, Value.bool false, Value.int IntKind.i64 0, Value.slice none 0 0, Value.slice none 0 0] := (hg1.block _ hR0.lt (by simp)).trans hR0
  have D0 : DtW w (w1.alloc (.cells #[Value.int IntKind.i64 (kn : Int), Value.string { data := #[] }, Value.string { data := #[] }, Value.int IntKind.i64 0, Value.bool false, Value.string { data := #[] }, Value.int IntKind.i64 0, Value.int IntKind.i64 0, Value.string { data := #[] }, Value.string { data := #[] }, Value.bool false, Value.int IntKind.i64 0, Value.slice none 0 0, Value.slice none 0 0] 29)) lo w1.heap.size r1 #[Value.int IntKind.i64 (kn : Int), Value.string { data := #[] }, Value.string { data := #[] }, Value.int IntKind.i64 0, Value.bool false, Value.string { data := #[] }, Value.int IntKind.i64 0, Value.int IntKind.i64 0, Value.string { data := #[] }, Value.string { data := #[] }, Value.bool false, Value.int IntKind.i64 0, Value.slice none 0 0, Value.slice none 0 0] :=
    ⟨hT1.later ((Below.refl _ _).alloc (Nat.le_refl _) _) (by omega), hbe1.alloc hbe1.size _, hR1.alloc _, Blk.new _ _ _, hgd1⟩
  obtain ⟨g, hg⟩ : ∃ g, g = w1.heap.size := ⟨_, rfl⟩
  rw [← hg] at D0
  have HD0 := Lib.hid D0
  obtain ⟨q0, q1, q2, q3, q4, q5, q6, q7, q8, q9, q10, q11, q12, q13⟩ := Blk.cells14 D0.db
  have hgd := D0.gd
  clear hT0 hR0 hR1 hG0 hB0 hT1 hg1 hr1 hbe1 hgd1 D0
  go_upto_region 3 with (fail)
  rw [← hg]
  generalize w1.alloc (.cells #[Value.int IntKind.i64 (kn : Int), Value.string { data := #[] }, Value.string { data := #[] }, Value.int IntKind.i64 0, Value.bool false, Value.string { data := #[] }, Value.int IntKind.i64 0, Value.int IntKind.i64 0, Value.string { data := #[] }, Value.string { data := #[] }, Value.bool false, Value.int IntKind.i64 0, Value.slice none 0 0, Value.slice none 0 0] 29) = w2 at *
  clear hg
  go_upto_region 15 with (fail)
  clear q0 q1 q2 q3 q4 q5 q6 q7 q8 q9 q10 q11 q12 q13
  have M : Hid (¬ leN (bs.take 1) = 1 ∧ ¬ leN (bs.take 1) = 2 ∧ ¬ leN (bs.take 1) = 3 ∧ ¬ leN (bs.take 1) = 4 ∧ ¬ leN (bs.take 1) = 5 ∧ ¬ leN (bs.take 1) = 6) := Lib.hid (by have := HKN.out; omega)
  have HB := Lib.hid HD0.out.db
  have HRB := Lib.hid HD0.out.rb
  go_wp2_with (first
    | (refine wpList_load_row rfl 29 _ rfl g rfl 29 _ (0, 0) _ HB.out Tryz.underlying29 rfl (by kernel_rfl) ?_)
    | (refine wpList_store_row rfl 29 _ _ rfl rfl w.heap.size rfl _ _ _ rfl HRB.out rfl (by kernel_rfl) (List.all_eq_true.1 rfl) ?_; rintro wE hTE hE))
  exact bodyPost_ret (v := .agg #[Value.int IntKind.i64 (kn : Int), Value.string { data := #[] }, Value.string { data := #[] }, Value.int IntKind.i64 0, Value.bool false, Value.string { data := #[] }, Value.int IntKind.i64 0, Value.int IntKind.i64 0, Value.string { data := #[] }, Value.string { data := #[] }, Value.bool false, Value.int IntKind.i64 0, Value.slice none 0 0, Value.slice none 0 0]) (results_cell_row rfl _ _ w.heap.size _ _ _ _ rfl hE Tryz.underlying29 rfl (by kernel_rfl)) rfl ⟨none, none, 0, 0, by obtain ⟨m1, m2, m3, m4, m5, m6⟩ := M.out; unfold toldD Delta.val; simp only [m1, m2, m3, m4, m5, m6, or_self, ite_false, HKN2.out]; rfl, (by rw [show (toldD bs).right = Page.zero by unfold toldD; simp only [M.out.2.2.2.2.2, ite_false]]; exact ⟨Rd.nil, Rd.nil, Nat.le_refl _, Nat.le_refl _, Nat.zero_le _, Nat.zero_le _⟩), hTE.below HD0.out.be (Nat.le_refl _) HD0.out.be.size⟩

set_option maxRecDepth 100000 in
set_option maxHeartbeats 4000000 in
theorem delta_told1 (lo c : Nat) (A : Option Addr) (bs : List Nat) (w : World) (hkn : leN (bs.take 1) = 1) (hr : Rd byteCell 1 w lo w.heap.size A bs) (hc : bs.length ≤ c) (hb : ∀ b ∈ bs, b < 256) (hl : bs.length ≤ 140737488351232) :
    Calls Tryz.prog 37 #[.slice A bs.length c] w (PostTD w (toldD bs)) := by
  have HKN := Lib.hid hkn
  have hl1 : (bs.drop 1).length ≤ 140737488351232 := by rw [List.length_drop]; omega
  have hb1 : ∀ b ∈ bs.drop 1, b < 256 := fun b h => hb b (List.mem_of_mem_drop h)
  obtain ⟨nb, hnb⟩ : ∃ n, n = bs.length := ⟨_, rfl⟩
  rw [← hnb]
  have hB0 : Below w.heap.size w ((w.alloc (.cells #[Value.int IntKind.i64 0, Value.string { data := #[] }, Value.string { data := #[] }, Value.int IntKind.i64 0, Value.bool false, Value.string { data := #[] }, Value.int IntKind.i64 0, Value.int IntKind.i64 0, Value.string { data := #[] }, Value.string { data := #[] }, Value.bool false, Value.int IntKind.i64 0, Value.slice none 0 0, Value.slice none 0 0] 29)).alloc (.cells #[.slice A nb c] 113)) := ((Below.refl _ _).alloc (Nat.le_refl _) _).alloc (by simp) _
  have hR0 : Blk ((w.alloc (.cells #[Value.int IntKind.i64 0, Value.string { data := #[] }, Value.string { data := #[] }, Value.int IntKind.i64 0, Value.bool false, Value.string { data := #[] }, Value.int IntKind.i64 0, Value.int IntKind.i64 0, Value.string { data := #[] }, Value.string { data := #[] }, Value.bool false, Value.int IntKind.i64 0, Value.slice none 0 0, Value.slice none 0 0] 29)).alloc (.cells #[.slice A nb c] 113)) w.heap.size 29 #[Value.int IntKind.i64 0, Value.string { data := #[] }, Value.string { data := #[] }, Value.int IntKind.i64 0, Value.bool false, Value.string { data := #[] }, Value.int IntKind.i64 0, Value.int IntKind.i64 0, Value.string { data := #[] }, Value.string { data := #[] }, Value.bool false, Value.int IntKind.i64 0, Value.slice none 0 0, Value.slice none 0 0] := (Blk.new _ _ _).alloc _
  have hG0 : Blk ((w.alloc (.cells #[Value.int IntKind.i64 0, Value.string { data := #[] }, Value.string { data := #[] }, Value.int IntKind.i64 0, Value.bool false, Value.string { data := #[] }, Value.int IntKind.i64 0, Value.int IntKind.i64 0, Value.string { data := #[] }, Value.string { data := #[] }, Value.bool false, Value.int IntKind.i64 0, Value.slice none 0 0, Value.slice none 0 0] 29)).alloc (.cells #[.slice A nb c] 113)) (w.heap.size + 1) 113 #[.slice A nb c] := by
    have := Blk.new (w.alloc (.cells #[Value.int IntKind.i64 0, Value.string { data := #[] }, Value.string { data := #[] }, Value.int IntKind.i64 0, Value.bool false, Value.string { data := #[] }, Value.int IntKind.i64 0, Value.int IntKind.i64 0, Value.string { data := #[] }, Value.string { data := #[] }, Value.bool false, Value.int IntKind.i64 0, Value.slice none 0 0, Value.slice none 0 0] 29)) 113 #[.slice A nb c]
    simpa using this
  have hT0 : Tk ((w.alloc (.cells #[Value.int IntKind.i64 0, Value.string { data := #[] }, Value.string { data := #[] }, Value.int IntKind.i64 0, Value.bool false, Value.string { data := #[] }, Value.int IntKind.i64 0, Value.int IntKind.i64 0, Value.string { data := #[] }, Value.string { data := #[] }, Value.bool false, Value.int IntKind.i64 0, Value.slice none 0 0, Value.slice none 0 0] 29)).alloc (.cells #[.slice A nb c] 113)) (w.heap.size + 1) lo w.heap.size 113 bs := ⟨⟨A, c, by rw [← hnb]; exact hG0, hc, hr.below hB0⟩, .inr (by omega), hb⟩
  have HL1 := Lib.hid hl1
  have HB1 := Lib.hid hb1
  clear hkn hl1 hb1 hr hc hb hl hnb
  go_enter Tryz.func37, Tryz.ntmps37
  go_wp2_with fail
  generalize (w.alloc (.cells #[Value.int IntKind.i64 0, Value.string { data := #[] }, Value.string { data := #[] }, Value.int IntKind.i64 0, Value.bool false, Value.string { data := #[] }, Value.int IntKind.i64 0, Value.int IntKind.i64 0, Value.string { data := #[] }, Value.string { data := #[] }, Value.bool false, Value.int IntKind.i64 0, Value.slice none 0 0, Value.slice none 0 0] 29)).alloc (.cells #[.slice A nb c] 113) = w0 at *
  refine (dt_num (w.heap.size + 1) lo w.heap.size 1 (by omega) bs _ hT0).mono ?_
  rintro e w1 ⟨rfl, hT1, hg1⟩
  rw [HKN.out]
  obtain ⟨r1, hr1⟩ : ∃ l, l = bs.drop 1 := ⟨_, rfl⟩
  rw [← hr1] at hT1 HL1 HB1
  have HR1 := Lib.hid hr1
  have hbe1 : Below w.heap.size w w1 := hB0.grown hg1 hB0.size (fun k hk => by cases hk; omega)
  have hgd1 : w.heap.size + 1 < w1.heap.size := Nat.lt_of_lt_of_le hG0.lt hg1.size
  have hR1 : Blk w1 w.heap.size 29 #[Value.int IntKind.i64 0, Value.string { data := #[] }, Value.string { data := #[] }, Value.int IntKind.i64 0, Value.bool false, Value.string { data := #[] }, Value.int IntKind.i64 0, Value.int IntKind.i64 0, Value.string { data := #[] }, Value.string { data := #[] }, Value.bool false, Value.int IntKind.i64 0, Value.slice none 0 0, Value.slice none 0 0] := (hg1.block _ hR0.lt (by simp)).trans hR0
  have D0 : DtW w (w1.alloc (.cells #[Value.int IntKind.i64 1, Value.string { data := #[] }, Value.string { data := #[] }, Value.int IntKind.i64 0, Value.bool false, Value.string { data := #[] }, Value.int IntKind.i64 0, Value.int IntKind.i64 0, Value.string { data := #[] }, Value.string { data := #[] }, Value.bool false, Value.int IntKind.i64 0, Value.slice none 0 0, Value.slice none 0 0] 29)) lo w1.heap.size r1 #[Value.int IntKind.i64 1, Value.string { data := #[] }, Value.string { data := #[] }, Value.int IntKind.i64 0, Value.bool false, Value.string { data := #[] }, Value.int IntKind.i64 0, Value.int IntKind.i64 0, Value.string { data := #[] }, Value.string { data := #[] }, Value.bool false, Value.int IntKind.i64 0, Value.slice none 0 0, Value.slice none 0 0] :=
    ⟨hT1.later ((Below.refl _ _).alloc (Nat.le_refl _) _) (by omega), hbe1.alloc hbe1.size _, hR1.alloc _, Blk.new _ _ _, hgd1⟩
  obtain ⟨g, hg⟩ : ∃ g, g = w1.heap.size := ⟨_, rfl⟩
  rw [← hg] at D0
  have HD0 := Lib.hid D0
  obtain ⟨q0, q1, q2, q3, q4, q5, q6, q7, q8, q9, q10, q11, q12, q13⟩ := Blk.cells14 D0.db
  have hgd := D0.gd
  clear hT0 hR0 hR1 hG0 hB0 hT1 hg1 hr1 hbe1 hgd1 D0
  go_upto_region 3 with (fail)
  rw [← hg]
  generalize w1.alloc (.cells #[Value.int IntKind.i64 1, Value.string { data := #[] }, Value.string { data := #[] }, Value.int IntKind.i64 0, Value.bool false, Value.string { data := #[] }, Value.int IntKind.i64 0, Value.int IntKind.i64 0, Value.string { data := #[] }, Value.string { data := #[] }, Value.bool false, Value.int IntKind.i64 0, Value.slice none 0 0, Value.slice none 0 0] 29) = w2 at *
  clear hg
  go_wp2_with fail
  refine (dt_text (w.heap.size + 1) lo w.heap.size r1 _ HD0.out.tk HL1.out).mono ?_
  rintro e w3 ⟨rfl, hT3, hg3⟩
  have D3 := Lib.hid (HD0.out.call hT3 hg3)
  clear hT3 hg3
  obtain ⟨s3, hs3⟩ : ∃ s, s = textOf r1 := ⟨_, rfl⟩
  rw [← hs3]
  have HS3 := Lib.hid hs3
  clear hs3
  obtain ⟨r3, hr3⟩ : ∃ r, r = (r1.drop (1 + textN r1)) := ⟨_, rfl⟩
  rw [← hr3] at D3
  have HR3 := Lib.hid hr3
  have HL3 : Hid (r3.length ≤ 140737488351232) := Lib.hid (by have := HL1.out; rw [hr3]; simp only [List.length_drop]; omega)
  clear hr3
  go_wp2_with fail
  refine (dt_num (w.heap.size + 1) lo w.heap.size 6 (by omega) r3 _ D3.out.tk).mono ?_
  rintro e w4 ⟨rfl, hT4, hg4⟩
  have D4 := Lib.hid (D3.out.call hT4 hg4)
  clear hT4 hg4
  obtain ⟨s4, hs4⟩ : ∃ s, s = leN (r3.take 6) := ⟨_, rfl⟩
  rw [← hs4]
  have HS4 := Lib.hid hs4
  clear hs4
  obtain ⟨r4, hr4⟩ : ∃ r, r = (r3.drop 6) := ⟨_, rfl⟩
  rw [← hr4] at D4
  have HR4 := Lib.hid hr4
  have HL4 : Hid (r4.length ≤ 140737488351232) := Lib.hid (by have := HL3.out; rw [hr4]; simp only [List.length_drop]; omega)
  clear hr4
  go_wp2_with fail
  refine (dt_num (w.heap.size + 1) lo w.heap.size 1 (by omega) r4 _ D4.out.tk).mono ?_
  rintro e w5 ⟨rfl, hT5, hg5⟩
  have D5 := Lib.hid (D4.out.call hT5 hg5)
  clear hT5 hg5
  obtain ⟨s5, hs5⟩ : ∃ s, s = leN (r4.take 1) := ⟨_, rfl⟩
  rw [← hs5]
  have HS5 := Lib.hid hs5
  clear hs5
  obtain ⟨r5, hr5⟩ : ∃ r, r = (r4.drop 1) := ⟨_, rfl⟩
  rw [← hr5] at D5
  have HR5 := Lib.hid hr5
  have HL5 : Hid (r5.length ≤ 140737488351232) := Lib.hid (by have := HL4.out; rw [hr5]; simp only [List.length_drop]; omega)
  clear hr5
  go_wp2_with fail
  refine (dt_text (w.heap.size + 1) lo w.heap.size r5 _ D5.out.tk HL5.out).mono ?_
  rintro e w6 ⟨rfl, hT6, hg6⟩
  have D6 := Lib.hid (D5.out.call hT6 hg6)
  clear hT6 hg6
  obtain ⟨s6, hs6⟩ : ∃ s, s = textOf r5 := ⟨_, rfl⟩
  rw [← hs6]
  have HS6 := Lib.hid hs6
  clear hs6
  obtain ⟨r6, hr6⟩ : ∃ r, r = (r5.drop (1 + textN r5)) := ⟨_, rfl⟩
  rw [← hr6] at D6
  have HR6 := Lib.hid hr6
  have HL6 : Hid (r6.length ≤ 140737488351232) := Lib.hid (by have := HL5.out; rw [hr6]; simp only [List.length_drop]; omega)
  clear hr6
  clear q0 q1 q2 q3 q4 q5 q6 q7 q8 q9 q10 q11 q12 q13
  have D7 : Hid (DtW w ((((w6.setCell ⟨g, 1, none⟩ (.string s3)).setCell ⟨g, 2, none⟩ (.string s6)).setCell ⟨g, 3, none⟩ (.int .i64 (s4 : Int))).setCell ⟨g, 4, none⟩ (.bool ((s5 : Int) == 1))) lo g r6 #[Value.int IntKind.i64 1, .string s3, .string s6, .int .i64 (s4 : Int), .bool ((s5 : Int) == 1), Value.string { data := #[] }, Value.int IntKind.i64 0, Value.int IntKind.i64 0, Value.string { data := #[] }, Value.string { data := #[] }, Value.bool false, Value.int IntKind.i64 0, Value.slice none 0 0, Value.slice none 0 0]) := Lib.hid ((((D6.out.set 1 (.string s3) rfl).set 2 (.string s6) rfl).set 3 (.int .i64 (s4 : Int)) rfl).set 4 (.bool ((s5 : Int) == 1)) rfl)
  have k1 := D6.out.db.cell 1
  have f1 := D6.out.db.frozen 1
  have k2 := D6.out.db.cell 2
  have f2 := D6.out.db.frozen 2
  have k3 := D6.out.db.cell 3
  have f3 := D6.out.db.frozen 3
  have k4 := D6.out.db.cell 4
  have f4 := D6.out.db.frozen 4
  go_upto_region 15 with (fail)
  clear k1 f1 k2 f2 k3 f3 k4 f4
  generalize ((((w6.setCell ⟨g, 1, none⟩ (.string s3)).setCell ⟨g, 2, none⟩ (.string s6)).setCell ⟨g, 3, none⟩ (.int .i64 (s4 : Int))).setCell ⟨g, 4, none⟩ (.bool ((s5 : Int) == 1))) = w7 at *
  have HB := Lib.hid D7.out.db
  have HRB := Lib.hid D7.out.rb
  go_wp2_with (first
    | (refine wpList_load_row rfl 29 _ rfl g rfl 29 _ (0, 0) _ HB.out Tryz.underlying29 rfl (by kernel_rfl) ?_)
    | (refine wpList_store_row rfl 29 _ _ rfl rfl w.heap.size rfl _ _ _ rfl HRB.out rfl (by kernel_rfl) (List.all_eq_true.1 rfl) ?_; rintro wE hTE hE))
  exact bodyPost_ret (v := .agg #[Value.int IntKind.i64 1, .string s3, .string s6, .int .i64 (s4 : Int), .bool ((s5 : Int) == 1), Value.string { data := #[] }, Value.int IntKind.i64 0, Value.int IntKind.i64 0, Value.string { data := #[] }, Value.string { data := #[] }, Value.bool false, Value.int IntKind.i64 0, Value.slice none 0 0, Value.slice none 0 0]) (results_cell_row rfl _ _ w.heap.size _ _ _ _ rfl hE Tryz.underlying29 rfl (by kernel_rfl)) rfl ⟨none, none, 0, 0, by unfold toldD itemAt; simp only [HKN.out, ← HR1.out, ← HS3.out, ← HR3.out, ← HS4.out, ← HR4.out, ← HS5.out, ← HR5.out, ← HS6.out, ← HR6.out]; rfl, (by rw [show (toldD bs).right = Page.zero by unfold toldD; simp only [HKN.out]; rfl]; exact ⟨Rd.nil, Rd.nil, Nat.le_refl _, Nat.le_refl _, Nat.zero_le _, Nat.zero_le _⟩), hTE.below D7.out.be (Nat.le_refl _) D7.out.be.size⟩

set_option maxRecDepth 100000 in
set_option maxHeartbeats 4000000 in
theorem delta_told2 (lo c : Nat) (A : Option Addr) (bs : List Nat) (w : World) (hkn : leN (bs.take 1) = 2) (hr : Rd byteCell 1 w lo w.heap.size A bs) (hc : bs.length ≤ c) (hb : ∀ b ∈ bs, b < 256) (hl : bs.length ≤ 140737488351232) :
    Calls Tryz.prog 37 #[.slice A bs.length c] w (PostTD w (toldD bs)) := by
  have HKN := Lib.hid hkn
  have hl1 : (bs.drop 1).length ≤ 140737488351232 := by rw [List.length_drop]; omega
  have hb1 : ∀ b ∈ bs.drop 1, b < 256 := fun b h => hb b (List.mem_of_mem_drop h)
  obtain ⟨nb, hnb⟩ : ∃ n, n = bs.length := ⟨_, rfl⟩
  rw [← hnb]
  have hB0 : Below w.heap.size w ((w.alloc (.cells #[Value.int IntKind.i64 0, Value.string { data := #[] }, Value.string { data := #[] }, Value.int IntKind.i64 0, Value.bool false, Value.string { data := #[] }, Value.int IntKind.i64 0, Value.int IntKind.i64 0, Value.string { data := #[] }, Value.string { data := #[] }, Value.bool false, Value.int IntKind.i64 0, Value.slice none 0 0, Value.slice none 0 0] 29)).alloc (.cells #[.slice A nb c] 113)) := ((Below.refl _ _).alloc (Nat.le_refl _) _).alloc (by simp) _
  have hR0 : Blk ((w.alloc (.cells #[Value.int IntKind.i64 0, Value.string { data := #[] }, Value.string { data := #[] }, Value.int IntKind.i64 0, Value.bool false, Value.string { data := #[] }, Value.int IntKind.i64 0, Value.int IntKind.i64 0, Value.string { data := #[] }, Value.string { data := #[] }, Value.bool false, Value.int IntKind.i64 0, Value.slice none 0 0, Value.slice none 0 0] 29)).alloc (.cells #[.slice A nb c] 113)) w.heap.size 29 #[Value.int IntKind.i64 0, Value.string { data := #[] }, Value.string { data := #[] }, Value.int IntKind.i64 0, Value.bool false, Value.string { data := #[] }, Value.int IntKind.i64 0, Value.int IntKind.i64 0, Value.string { data := #[] }, Value.string { data := #[] }, Value.bool false, Value.int IntKind.i64 0, Value.slice none 0 0, Value.slice none 0 0] := (Blk.new _ _ _).alloc _
  have hG0 : Blk ((w.alloc (.cells #[Value.int IntKind.i64 0, Value.string { data := #[] }, Value.string { data := #[] }, Value.int IntKind.i64 0, Value.bool false, Value.string { data := #[] }, Value.int IntKind.i64 0, Value.int IntKind.i64 0, Value.string { data := #[] }, Value.string { data := #[] }, Value.bool false, Value.int IntKind.i64 0, Value.slice none 0 0, Value.slice none 0 0] 29)).alloc (.cells #[.slice A nb c] 113)) (w.heap.size + 1) 113 #[.slice A nb c] := by
    have := Blk.new (w.alloc (.cells #[Value.int IntKind.i64 0, Value.string { data := #[] }, Value.string { data := #[] }, Value.int IntKind.i64 0, Value.bool false, Value.string { data := #[] }, Value.int IntKind.i64 0, Value.int IntKind.i64 0, Value.string { data := #[] }, Value.string { data := #[] }, Value.bool false, Value.int IntKind.i64 0, Value.slice none 0 0, Value.slice none 0 0] 29)) 113 #[.slice A nb c]
    simpa using this
  have hT0 : Tk ((w.alloc (.cells #[Value.int IntKind.i64 0, Value.string { data := #[] }, Value.string { data := #[] }, Value.int IntKind.i64 0, Value.bool false, Value.string { data := #[] }, Value.int IntKind.i64 0, Value.int IntKind.i64 0, Value.string { data := #[] }, Value.string { data := #[] }, Value.bool false, Value.int IntKind.i64 0, Value.slice none 0 0, Value.slice none 0 0] 29)).alloc (.cells #[.slice A nb c] 113)) (w.heap.size + 1) lo w.heap.size 113 bs := ⟨⟨A, c, by rw [← hnb]; exact hG0, hc, hr.below hB0⟩, .inr (by omega), hb⟩
  have HL1 := Lib.hid hl1
  have HB1 := Lib.hid hb1
  clear hkn hl1 hb1 hr hc hb hl hnb
  go_enter Tryz.func37, Tryz.ntmps37
  go_wp2_with fail
  generalize (w.alloc (.cells #[Value.int IntKind.i64 0, Value.string { data := #[] }, Value.string { data := #[] }, Value.int IntKind.i64 0, Value.bool false, Value.string { data := #[] }, Value.int IntKind.i64 0, Value.int IntKind.i64 0, Value.string { data := #[] }, Value.string { data := #[] }, Value.bool false, Value.int IntKind.i64 0, Value.slice none 0 0, Value.slice none 0 0] 29)).alloc (.cells #[.slice A nb c] 113) = w0 at *
  refine (dt_num (w.heap.size + 1) lo w.heap.size 1 (by omega) bs _ hT0).mono ?_
  rintro e w1 ⟨rfl, hT1, hg1⟩
  rw [HKN.out]
  obtain ⟨r1, hr1⟩ : ∃ l, l = bs.drop 1 := ⟨_, rfl⟩
  rw [← hr1] at hT1 HL1 HB1
  have HR1 := Lib.hid hr1
  have hbe1 : Below w.heap.size w w1 := hB0.grown hg1 hB0.size (fun k hk => by cases hk; omega)
  have hgd1 : w.heap.size + 1 < w1.heap.size := Nat.lt_of_lt_of_le hG0.lt hg1.size
  have hR1 : Blk w1 w.heap.size 29 #[Value.int IntKind.i64 0, Value.string { data := #[] }, Value.string { data := #[] }, Value.int IntKind.i64 0, Value.bool false, Value.string { data := #[] }, Value.int IntKind.i64 0, Value.int IntKind.i64 0, Value.string { data := #[] }, Value.string { data := #[] }, Value.bool false, Value.int IntKind.i64 0, Value.slice none 0 0, Value.slice none 0 0] := (hg1.block _ hR0.lt (by simp)).trans hR0
  have D0 : DtW w (w1.alloc (.cells #[Value.int IntKind.i64 2, Value.string { data := #[] }, Value.string { data := #[] }, Value.int IntKind.i64 0, Value.bool false, Value.string { data := #[] }, Value.int IntKind.i64 0, Value.int IntKind.i64 0, Value.string { data := #[] }, Value.string { data := #[] }, Value.bool false, Value.int IntKind.i64 0, Value.slice none 0 0, Value.slice none 0 0] 29)) lo w1.heap.size r1 #[Value.int IntKind.i64 2, Value.string { data := #[] }, Value.string { data := #[] }, Value.int IntKind.i64 0, Value.bool false, Value.string { data := #[] }, Value.int IntKind.i64 0, Value.int IntKind.i64 0, Value.string { data := #[] }, Value.string { data := #[] }, Value.bool false, Value.int IntKind.i64 0, Value.slice none 0 0, Value.slice none 0 0] :=
    ⟨hT1.later ((Below.refl _ _).alloc (Nat.le_refl _) _) (by omega), hbe1.alloc hbe1.size _, hR1.alloc _, Blk.new _ _ _, hgd1⟩
  obtain ⟨g, hg⟩ : ∃ g, g = w1.heap.size := ⟨_, rfl⟩
  rw [← hg] at D0
  have HD0 := Lib.hid D0
  obtain ⟨q0, q1, q2, q3, q4, q5, q6, q7, q8, q9, q10, q11, q12, q13⟩ := Blk.cells14 D0.db
  have hgd := D0.gd
  clear hT0 hR0 hR1 hG0 hB0 hT1 hg1 hr1 hbe1 hgd1 D0
  go_upto_region 3 with (fail)
  rw [← hg]
  generalize w1.alloc (.cells #[Value.int IntKind.i64 2, Value.string { data := #[] }, Value.string { data := #[] }, Value.int IntKind.i64 0, Value.bool false, Value.string { data := #[] }, Value.int IntKind.i64 0, Value.int IntKind.i64 0, Value.string { data := #[] }, Value.string { data := #[] }, Value.bool false, Value.int IntKind.i64 0, Value.slice none 0 0, Value.slice none 0 0] 29) = w2 at *
  clear hg
  go_wp2_with fail
  refine (dt_text (w.heap.size + 1) lo w.heap.size r1 _ HD0.out.tk HL1.out).mono ?_
  rintro e w3 ⟨rfl, hT3, hg3⟩
  have D3 := Lib.hid (HD0.out.call hT3 hg3)
  clear hT3 hg3
  obtain ⟨s3, hs3⟩ : ∃ s, s = textOf r1 := ⟨_, rfl⟩
  rw [← hs3]
  have HS3 := Lib.hid hs3
  clear hs3
  obtain ⟨r3, hr3⟩ : ∃ r, r = (r1.drop (1 + textN r1)) := ⟨_, rfl⟩
  rw [← hr3] at D3
  have HR3 := Lib.hid hr3
  have HL3 : Hid (r3.length ≤ 140737488351232) := Lib.hid (by have := HL1.out; rw [hr3]; simp only [List.length_drop]; omega)
  clear hr3
  go_wp2_with fail
  refine (dt_num (w.heap.size + 1) lo w.heap.size 2 (by omega) r3 _ D3.out.tk).mono ?_
  rintro e w4 ⟨rfl, hT4, hg4⟩
  have D4 := Lib.hid (D3.out.call hT4 hg4)
  clear hT4 hg4
  obtain ⟨s4, hs4⟩ : ∃ s, s = leN (r3.take 2) := ⟨_, rfl⟩
  rw [← hs4]
  have HS4 := Lib.hid hs4
  clear hs4
  obtain ⟨r4, hr4⟩ : ∃ r, r = (r3.drop 2) := ⟨_, rfl⟩
  rw [← hr4] at D4
  have HR4 := Lib.hid hr4
  have HL4 : Hid (r4.length ≤ 140737488351232) := Lib.hid (by have := HL3.out; rw [hr4]; simp only [List.length_drop]; omega)
  clear hr4
  clear q0 q1 q2 q3 q4 q5 q6 q7 q8 q9 q10 q11 q12 q13
  have D5 : Hid (DtW w ((w4.setCell ⟨g, 5, none⟩ (.string s3)).setCell ⟨g, 6, none⟩ (.int .i64 (s4 : Int))) lo g r4 #[Value.int IntKind.i64 2, Value.string { data := #[] }, Value.string { data := #[] }, Value.int IntKind.i64 0, Value.bool false, .string s3, .int .i64 (s4 : Int), Value.int IntKind.i64 0, Value.string { data := #[] }, Value.string { data := #[] }, Value.bool false, Value.int IntKind.i64 0, Value.slice none 0 0, Value.slice none 0 0]) := Lib.hid ((D4.out.set 5 (.string s3) rfl).set 6 (.int .i64 (s4 : Int)) rfl)
  have k5 := D4.out.db.cell 5
  have f5 := D4.out.db.frozen 5
  have k6 := D4.out.db.cell 6
  have f6 := D4.out.db.frozen 6
  go_upto_region 15 with (fail)
  clear k5 f5 k6 f6
  generalize ((w4.setCell ⟨g, 5, none⟩ (.string s3)).setCell ⟨g, 6, none⟩ (.int .i64 (s4 : Int))) = w5 at *
  have HB := Lib.hid D5.out.db
  have HRB := Lib.hid D5.out.rb
  go_wp2_with (first
    | (refine wpList_load_row rfl 29 _ rfl g rfl 29 _ (0, 0) _ HB.out Tryz.underlying29 rfl (by kernel_rfl) ?_)
    | (refine wpList_store_row rfl 29 _ _ rfl rfl w.heap.size rfl _ _ _ rfl HRB.out rfl (by kernel_rfl) (List.all_eq_true.1 rfl) ?_; rintro wE hTE hE))
  exact bodyPost_ret (v := .agg #[Value.int IntKind.i64 2, Value.string { data := #[] }, Value.string { data := #[] }, Value.int IntKind.i64 0, Value.bool false, .string s3, .int .i64 (s4 : Int), Value.int IntKind.i64 0, Value.string { data := #[] }, Value.string { data := #[] }, Value.bool false, Value.int IntKind.i64 0, Value.slice none 0 0, Value.slice none 0 0]) (results_cell_row rfl _ _ w.heap.size _ _ _ _ rfl hE Tryz.underlying29 rfl (by kernel_rfl)) rfl ⟨none, none, 0, 0, by unfold toldD; simp only [HKN.out, ← HR1.out, ← HS3.out, ← HR3.out, ← HS4.out, ← HR4.out]; rfl, (by rw [show (toldD bs).right = Page.zero by unfold toldD; simp only [HKN.out]; rfl]; exact ⟨Rd.nil, Rd.nil, Nat.le_refl _, Nat.le_refl _, Nat.zero_le _, Nat.zero_le _⟩), hTE.below D5.out.be (Nat.le_refl _) D5.out.be.size⟩

set_option maxRecDepth 100000 in
set_option maxHeartbeats 4000000 in
theorem delta_told3 (lo c : Nat) (A : Option Addr) (bs : List Nat) (w : World) (hkn : leN (bs.take 1) = 3) (hr : Rd byteCell 1 w lo w.heap.size A bs) (hc : bs.length ≤ c) (hb : ∀ b ∈ bs, b < 256) (hl : bs.length ≤ 140737488351232) :
    Calls Tryz.prog 37 #[.slice A bs.length c] w (PostTD w (toldD bs)) := by
  have HKN := Lib.hid hkn
  have hl1 : (bs.drop 1).length ≤ 140737488351232 := by rw [List.length_drop]; omega
  have hb1 : ∀ b ∈ bs.drop 1, b < 256 := fun b h => hb b (List.mem_of_mem_drop h)
  obtain ⟨nb, hnb⟩ : ∃ n, n = bs.length := ⟨_, rfl⟩
  rw [← hnb]
  have hB0 : Below w.heap.size w ((w.alloc (.cells #[Value.int IntKind.i64 0, Value.string { data := #[] }, Value.string { data := #[] }, Value.int IntKind.i64 0, Value.bool false, Value.string { data := #[] }, Value.int IntKind.i64 0, Value.int IntKind.i64 0, Value.string { data := #[] }, Value.string { data := #[] }, Value.bool false, Value.int IntKind.i64 0, Value.slice none 0 0, Value.slice none 0 0] 29)).alloc (.cells #[.slice A nb c] 113)) := ((Below.refl _ _).alloc (Nat.le_refl _) _).alloc (by simp) _
  have hR0 : Blk ((w.alloc (.cells #[Value.int IntKind.i64 0, Value.string { data := #[] }, Value.string { data := #[] }, Value.int IntKind.i64 0, Value.bool false, Value.string { data := #[] }, Value.int IntKind.i64 0, Value.int IntKind.i64 0, Value.string { data := #[] }, Value.string { data := #[] }, Value.bool false, Value.int IntKind.i64 0, Value.slice none 0 0, Value.slice none 0 0] 29)).alloc (.cells #[.slice A nb c] 113)) w.heap.size 29 #[Value.int IntKind.i64 0, Value.string { data := #[] }, Value.string { data := #[] }, Value.int IntKind.i64 0, Value.bool false, Value.string { data := #[] }, Value.int IntKind.i64 0, Value.int IntKind.i64 0, Value.string { data := #[] }, Value.string { data := #[] }, Value.bool false, Value.int IntKind.i64 0, Value.slice none 0 0, Value.slice none 0 0] := (Blk.new _ _ _).alloc _
  have hG0 : Blk ((w.alloc (.cells #[Value.int IntKind.i64 0, Value.string { data := #[] }, Value.string { data := #[] }, Value.int IntKind.i64 0, Value.bool false, Value.string { data := #[] }, Value.int IntKind.i64 0, Value.int IntKind.i64 0, Value.string { data := #[] }, Value.string { data := #[] }, Value.bool false, Value.int IntKind.i64 0, Value.slice none 0 0, Value.slice none 0 0] 29)).alloc (.cells #[.slice A nb c] 113)) (w.heap.size + 1) 113 #[.slice A nb c] := by
    have := Blk.new (w.alloc (.cells #[Value.int IntKind.i64 0, Value.string { data := #[] }, Value.string { data := #[] }, Value.int IntKind.i64 0, Value.bool false, Value.string { data := #[] }, Value.int IntKind.i64 0, Value.int IntKind.i64 0, Value.string { data := #[] }, Value.string { data := #[] }, Value.bool false, Value.int IntKind.i64 0, Value.slice none 0 0, Value.slice none 0 0] 29)) 113 #[.slice A nb c]
    simpa using this
  have hT0 : Tk ((w.alloc (.cells #[Value.int IntKind.i64 0, Value.string { data := #[] }, Value.string { data := #[] }, Value.int IntKind.i64 0, Value.bool false, Value.string { data := #[] }, Value.int IntKind.i64 0, Value.int IntKind.i64 0, Value.string { data := #[] }, Value.string { data := #[] }, Value.bool false, Value.int IntKind.i64 0, Value.slice none 0 0, Value.slice none 0 0] 29)).alloc (.cells #[.slice A nb c] 113)) (w.heap.size + 1) lo w.heap.size 113 bs := ⟨⟨A, c, by rw [← hnb]; exact hG0, hc, hr.below hB0⟩, .inr (by omega), hb⟩
  have HL1 := Lib.hid hl1
  have HB1 := Lib.hid hb1
  clear hkn hl1 hb1 hr hc hb hl hnb
  go_enter Tryz.func37, Tryz.ntmps37
  go_wp2_with fail
  generalize (w.alloc (.cells #[Value.int IntKind.i64 0, Value.string { data := #[] }, Value.string { data := #[] }, Value.int IntKind.i64 0, Value.bool false, Value.string { data := #[] }, Value.int IntKind.i64 0, Value.int IntKind.i64 0, Value.string { data := #[] }, Value.string { data := #[] }, Value.bool false, Value.int IntKind.i64 0, Value.slice none 0 0, Value.slice none 0 0] 29)).alloc (.cells #[.slice A nb c] 113) = w0 at *
  refine (dt_num (w.heap.size + 1) lo w.heap.size 1 (by omega) bs _ hT0).mono ?_
  rintro e w1 ⟨rfl, hT1, hg1⟩
  rw [HKN.out]
  obtain ⟨r1, hr1⟩ : ∃ l, l = bs.drop 1 := ⟨_, rfl⟩
  rw [← hr1] at hT1 HL1 HB1
  have HR1 := Lib.hid hr1
  have hbe1 : Below w.heap.size w w1 := hB0.grown hg1 hB0.size (fun k hk => by cases hk; omega)
  have hgd1 : w.heap.size + 1 < w1.heap.size := Nat.lt_of_lt_of_le hG0.lt hg1.size
  have hR1 : Blk w1 w.heap.size 29 #[Value.int IntKind.i64 0, Value.string { data := #[] }, Value.string { data := #[] }, Value.int IntKind.i64 0, Value.bool false, Value.string { data := #[] }, Value.int IntKind.i64 0, Value.int IntKind.i64 0, Value.string { data := #[] }, Value.string { data := #[] }, Value.bool false, Value.int IntKind.i64 0, Value.slice none 0 0, Value.slice none 0 0] := (hg1.block _ hR0.lt (by simp)).trans hR0
  have D0 : DtW w (w1.alloc (.cells #[Value.int IntKind.i64 3, Value.string { data := #[] }, Value.string { data := #[] }, Value.int IntKind.i64 0, Value.bool false, Value.string { data := #[] }, Value.int IntKind.i64 0, Value.int IntKind.i64 0, Value.string { data := #[] }, Value.string { data := #[] }, Value.bool false, Value.int IntKind.i64 0, Value.slice none 0 0, Value.slice none 0 0] 29)) lo w1.heap.size r1 #[Value.int IntKind.i64 3, Value.string { data := #[] }, Value.string { data := #[] }, Value.int IntKind.i64 0, Value.bool false, Value.string { data := #[] }, Value.int IntKind.i64 0, Value.int IntKind.i64 0, Value.string { data := #[] }, Value.string { data := #[] }, Value.bool false, Value.int IntKind.i64 0, Value.slice none 0 0, Value.slice none 0 0] :=
    ⟨hT1.later ((Below.refl _ _).alloc (Nat.le_refl _) _) (by omega), hbe1.alloc hbe1.size _, hR1.alloc _, Blk.new _ _ _, hgd1⟩
  obtain ⟨g, hg⟩ : ∃ g, g = w1.heap.size := ⟨_, rfl⟩
  rw [← hg] at D0
  have HD0 := Lib.hid D0
  obtain ⟨q0, q1, q2, q3, q4, q5, q6, q7, q8, q9, q10, q11, q12, q13⟩ := Blk.cells14 D0.db
  have hgd := D0.gd
  clear hT0 hR0 hR1 hG0 hB0 hT1 hg1 hr1 hbe1 hgd1 D0
  go_upto_region 3 with (fail)
  rw [← hg]
  generalize w1.alloc (.cells #[Value.int IntKind.i64 3, Value.string { data := #[] }, Value.string { data := #[] }, Value.int IntKind.i64 0, Value.bool false, Value.string { data := #[] }, Value.int IntKind.i64 0, Value.int IntKind.i64 0, Value.string { data := #[] }, Value.string { data := #[] }, Value.bool false, Value.int IntKind.i64 0, Value.slice none 0 0, Value.slice none 0 0] 29) = w2 at *
  clear hg
  go_wp2_with fail
  refine (dt_text (w.heap.size + 1) lo w.heap.size r1 _ HD0.out.tk HL1.out).mono ?_
  rintro e w3 ⟨rfl, hT3, hg3⟩
  have D3 := Lib.hid (HD0.out.call hT3 hg3)
  clear hT3 hg3
  obtain ⟨s3, hs3⟩ : ∃ s, s = textOf r1 := ⟨_, rfl⟩
  rw [← hs3]
  have HS3 := Lib.hid hs3
  clear hs3
  obtain ⟨r3, hr3⟩ : ∃ r, r = (r1.drop (1 + textN r1)) := ⟨_, rfl⟩
  rw [← hr3] at D3
  have HR3 := Lib.hid hr3
  have HL3 : Hid (r3.length ≤ 140737488351232) := Lib.hid (by have := HL1.out; rw [hr3]; simp only [List.length_drop]; omega)
  clear hr3
  go_wp2_with fail
  refine (dt_num (w.heap.size + 1) lo w.heap.size 2 (by omega) r3 _ D3.out.tk).mono ?_
  rintro e w4 ⟨rfl, hT4, hg4⟩
  have D4 := Lib.hid (D3.out.call hT4 hg4)
  clear hT4 hg4
  obtain ⟨s4, hs4⟩ : ∃ s, s = leN (r3.take 2) := ⟨_, rfl⟩
  rw [← hs4]
  have HS4 := Lib.hid hs4
  clear hs4
  obtain ⟨r4, hr4⟩ : ∃ r, r = (r3.drop 2) := ⟨_, rfl⟩
  rw [← hr4] at D4
  have HR4 := Lib.hid hr4
  have HL4 : Hid (r4.length ≤ 140737488351232) := Lib.hid (by have := HL3.out; rw [hr4]; simp only [List.length_drop]; omega)
  clear hr4
  clear q0 q1 q2 q3 q4 q5 q6 q7 q8 q9 q10 q11 q12 q13
  have D5 : Hid (DtW w ((w4.setCell ⟨g, 5, none⟩ (.string s3)).setCell ⟨g, 6, none⟩ (.int .i64 (s4 : Int))) lo g r4 #[Value.int IntKind.i64 3, Value.string { data := #[] }, Value.string { data := #[] }, Value.int IntKind.i64 0, Value.bool false, .string s3, .int .i64 (s4 : Int), Value.int IntKind.i64 0, Value.string { data := #[] }, Value.string { data := #[] }, Value.bool false, Value.int IntKind.i64 0, Value.slice none 0 0, Value.slice none 0 0]) := Lib.hid ((D4.out.set 5 (.string s3) rfl).set 6 (.int .i64 (s4 : Int)) rfl)
  have k5 := D4.out.db.cell 5
  have f5 := D4.out.db.frozen 5
  have k6 := D4.out.db.cell 6
  have f6 := D4.out.db.frozen 6
  go_upto_region 15 with (fail)
  clear k5 f5 k6 f6
  generalize ((w4.setCell ⟨g, 5, none⟩ (.string s3)).setCell ⟨g, 6, none⟩ (.int .i64 (s4 : Int))) = w5 at *
  have HB := Lib.hid D5.out.db
  have HRB := Lib.hid D5.out.rb
  go_wp2_with (first
    | (refine wpList_load_row rfl 29 _ rfl g rfl 29 _ (0, 0) _ HB.out Tryz.underlying29 rfl (by kernel_rfl) ?_)
    | (refine wpList_store_row rfl 29 _ _ rfl rfl w.heap.size rfl _ _ _ rfl HRB.out rfl (by kernel_rfl) (List.all_eq_true.1 rfl) ?_; rintro wE hTE hE))
  exact bodyPost_ret (v := .agg #[Value.int IntKind.i64 3, Value.string { data := #[] }, Value.string { data := #[] }, Value.int IntKind.i64 0, Value.bool false, .string s3, .int .i64 (s4 : Int), Value.int IntKind.i64 0, Value.string { data := #[] }, Value.string { data := #[] }, Value.bool false, Value.int IntKind.i64 0, Value.slice none 0 0, Value.slice none 0 0]) (results_cell_row rfl _ _ w.heap.size _ _ _ _ rfl hE Tryz.underlying29 rfl (by kernel_rfl)) rfl ⟨none, none, 0, 0, by unfold toldD; simp only [HKN.out, ← HR1.out, ← HS3.out, ← HR3.out, ← HS4.out, ← HR4.out]; rfl, (by rw [show (toldD bs).right = Page.zero by unfold toldD; simp only [HKN.out]; rfl]; exact ⟨Rd.nil, Rd.nil, Nat.le_refl _, Nat.le_refl _, Nat.zero_le _, Nat.zero_le _⟩), hTE.below D5.out.be (Nat.le_refl _) D5.out.be.size⟩

set_option maxRecDepth 100000 in
set_option maxHeartbeats 4000000 in
theorem delta_told4 (lo c : Nat) (A : Option Addr) (bs : List Nat) (w : World) (hkn : leN (bs.take 1) = 4) (hr : Rd byteCell 1 w lo w.heap.size A bs) (hc : bs.length ≤ c) (hb : ∀ b ∈ bs, b < 256) (hl : bs.length ≤ 140737488351232) :
    Calls Tryz.prog 37 #[.slice A bs.length c] w (PostTD w (toldD bs)) := by
  have HKN := Lib.hid hkn
  have hl1 : (bs.drop 1).length ≤ 140737488351232 := by rw [List.length_drop]; omega
  have hb1 : ∀ b ∈ bs.drop 1, b < 256 := fun b h => hb b (List.mem_of_mem_drop h)
  obtain ⟨nb, hnb⟩ : ∃ n, n = bs.length := ⟨_, rfl⟩
  rw [← hnb]
  have hB0 : Below w.heap.size w ((w.alloc (.cells #[Value.int IntKind.i64 0, Value.string { data := #[] }, Value.string { data := #[] }, Value.int IntKind.i64 0, Value.bool false, Value.string { data := #[] }, Value.int IntKind.i64 0, Value.int IntKind.i64 0, Value.string { data := #[] }, Value.string { data := #[] }, Value.bool false, Value.int IntKind.i64 0, Value.slice none 0 0, Value.slice none 0 0] 29)).alloc (.cells #[.slice A nb c] 113)) := ((Below.refl _ _).alloc (Nat.le_refl _) _).alloc (by simp) _
  have hR0 : Blk ((w.alloc (.cells #[Value.int IntKind.i64 0, Value.string { data := #[] }, Value.string { data := #[] }, Value.int IntKind.i64 0, Value.bool false, Value.string { data := #[] }, Value.int IntKind.i64 0, Value.int IntKind.i64 0, Value.string { data := #[] }, Value.string { data := #[] }, Value.bool false, Value.int IntKind.i64 0, Value.slice none 0 0, Value.slice none 0 0] 29)).alloc (.cells #[.slice A nb c] 113)) w.heap.size 29 #[Value.int IntKind.i64 0, Value.string { data := #[] }, Value.string { data := #[] }, Value.int IntKind.i64 0, Value.bool false, Value.string { data := #[] }, Value.int IntKind.i64 0, Value.int IntKind.i64 0, Value.string { data := #[] }, Value.string { data := #[] }, Value.bool false, Value.int IntKind.i64 0, Value.slice none 0 0, Value.slice none 0 0] := (Blk.new _ _ _).alloc _
  have hG0 : Blk ((w.alloc (.cells #[Value.int IntKind.i64 0, Value.string { data := #[] }, Value.string { data := #[] }, Value.int IntKind.i64 0, Value.bool false, Value.string { data := #[] }, Value.int IntKind.i64 0, Value.int IntKind.i64 0, Value.string { data := #[] }, Value.string { data := #[] }, Value.bool false, Value.int IntKind.i64 0, Value.slice none 0 0, Value.slice none 0 0] 29)).alloc (.cells #[.slice A nb c] 113)) (w.heap.size + 1) 113 #[.slice A nb c] := by
    have := Blk.new (w.alloc (.cells #[Value.int IntKind.i64 0, Value.string { data := #[] }, Value.string { data := #[] }, Value.int IntKind.i64 0, Value.bool false, Value.string { data := #[] }, Value.int IntKind.i64 0, Value.int IntKind.i64 0, Value.string { data := #[] }, Value.string { data := #[] }, Value.bool false, Value.int IntKind.i64 0, Value.slice none 0 0, Value.slice none 0 0] 29)) 113 #[.slice A nb c]
    simpa using this
  have hT0 : Tk ((w.alloc (.cells #[Value.int IntKind.i64 0, Value.string { data := #[] }, Value.string { data := #[] }, Value.int IntKind.i64 0, Value.bool false, Value.string { data := #[] }, Value.int IntKind.i64 0, Value.int IntKind.i64 0, Value.string { data := #[] }, Value.string { data := #[] }, Value.bool false, Value.int IntKind.i64 0, Value.slice none 0 0, Value.slice none 0 0] 29)).alloc (.cells #[.slice A nb c] 113)) (w.heap.size + 1) lo w.heap.size 113 bs := ⟨⟨A, c, by rw [← hnb]; exact hG0, hc, hr.below hB0⟩, .inr (by omega), hb⟩
  have HL1 := Lib.hid hl1
  have HB1 := Lib.hid hb1
  clear hkn hl1 hb1 hr hc hb hl hnb
  go_enter Tryz.func37, Tryz.ntmps37
  go_wp2_with fail
  generalize (w.alloc (.cells #[Value.int IntKind.i64 0, Value.string { data := #[] }, Value.string { data := #[] }, Value.int IntKind.i64 0, Value.bool false, Value.string { data := #[] }, Value.int IntKind.i64 0, Value.int IntKind.i64 0, Value.string { data := #[] }, Value.string { data := #[] }, Value.bool false, Value.int IntKind.i64 0, Value.slice none 0 0, Value.slice none 0 0] 29)).alloc (.cells #[.slice A nb c] 113) = w0 at *
  refine (dt_num (w.heap.size + 1) lo w.heap.size 1 (by omega) bs _ hT0).mono ?_
  rintro e w1 ⟨rfl, hT1, hg1⟩
  rw [HKN.out]
  obtain ⟨r1, hr1⟩ : ∃ l, l = bs.drop 1 := ⟨_, rfl⟩
  rw [← hr1] at hT1 HL1 HB1
  have HR1 := Lib.hid hr1
  have hbe1 : Below w.heap.size w w1 := hB0.grown hg1 hB0.size (fun k hk => by cases hk; omega)
  have hgd1 : w.heap.size + 1 < w1.heap.size := Nat.lt_of_lt_of_le hG0.lt hg1.size
  have hR1 : Blk w1 w.heap.size 29 #[Value.int IntKind.i64 0, Value.string { data := #[] }, Value.string { data := #[] }, Value.int IntKind.i64 0, Value.bool false, Value.string { data := #[] }, Value.int IntKind.i64 0, Value.int IntKind.i64 0, Value.string { data := #[] }, Value.string { data := #[] }, Value.bool false, Value.int IntKind.i64 0, Value.slice none 0 0, Value.slice none 0 0] := (hg1.block _ hR0.lt (by simp)).trans hR0
  have D0 : DtW w (w1.alloc (.cells #[Value.int IntKind.i64 4, Value.string { data := #[] }, Value.string { data := #[] }, Value.int IntKind.i64 0, Value.bool false, Value.string { data := #[] }, Value.int IntKind.i64 0, Value.int IntKind.i64 0, Value.string { data := #[] }, Value.string { data := #[] }, Value.bool false, Value.int IntKind.i64 0, Value.slice none 0 0, Value.slice none 0 0] 29)) lo w1.heap.size r1 #[Value.int IntKind.i64 4, Value.string { data := #[] }, Value.string { data := #[] }, Value.int IntKind.i64 0, Value.bool false, Value.string { data := #[] }, Value.int IntKind.i64 0, Value.int IntKind.i64 0, Value.string { data := #[] }, Value.string { data := #[] }, Value.bool false, Value.int IntKind.i64 0, Value.slice none 0 0, Value.slice none 0 0] :=
    ⟨hT1.later ((Below.refl _ _).alloc (Nat.le_refl _) _) (by omega), hbe1.alloc hbe1.size _, hR1.alloc _, Blk.new _ _ _, hgd1⟩
  obtain ⟨g, hg⟩ : ∃ g, g = w1.heap.size := ⟨_, rfl⟩
  rw [← hg] at D0
  have HD0 := Lib.hid D0
  obtain ⟨q0, q1, q2, q3, q4, q5, q6, q7, q8, q9, q10, q11, q12, q13⟩ := Blk.cells14 D0.db
  have hgd := D0.gd
  clear hT0 hR0 hR1 hG0 hB0 hT1 hg1 hr1 hbe1 hgd1 D0
  go_upto_region 3 with (fail)
  rw [← hg]
  generalize w1.alloc (.cells #[Value.int IntKind.i64 4, Value.string { data := #[] }, Value.string { data := #[] }, Value.int IntKind.i64 0, Value.bool false, Value.string { data := #[] }, Value.int IntKind.i64 0, Value.int IntKind.i64 0, Value.string { data := #[] }, Value.string { data := #[] }, Value.bool false, Value.int IntKind.i64 0, Value.slice none 0 0, Value.slice none 0 0] 29) = w2 at *
  clear hg
  go_wp2_with fail
  refine (dt_text (w.heap.size + 1) lo w.heap.size r1 _ HD0.out.tk HL1.out).mono ?_
  rintro e w3 ⟨rfl, hT3, hg3⟩
  have D3 := Lib.hid (HD0.out.call hT3 hg3)
  clear hT3 hg3
  obtain ⟨s3, hs3⟩ : ∃ s, s = textOf r1 := ⟨_, rfl⟩
  rw [← hs3]
  have HS3 := Lib.hid hs3
  clear hs3
  obtain ⟨r3, hr3⟩ : ∃ r, r = (r1.drop (1 + textN r1)) := ⟨_, rfl⟩
  rw [← hr3] at D3
  have HR3 := Lib.hid hr3
  have HL3 : Hid (r3.length ≤ 140737488351232) := Lib.hid (by have := HL1.out; rw [hr3]; simp only [List.length_drop]; omega)
  clear hr3
  clear q0 q1 q2 q3 q4 q5 q6 q7 q8 q9 q10 q11 q12 q13
  have D4 : Hid (DtW w (w3.setCell ⟨g, 5, none⟩ (.string s3)) lo g r3 #[Value.int IntKind.i64 4, Value.string { data := #[] }, Value.string { data := #[] }, Value.int IntKind.i64 0, Value.bool false, .string s3, Value.int IntKind.i64 0, Value.int IntKind.i64 0, Value.string { data := #[] }, Value.string { data := #[] }, Value.bool false, Value.int IntKind.i64 0, Value.slice none 0 0, Value.slice none 0 0]) := Lib.hid (D3.out.set 5 (.string s3) rfl)
  have k5 := D3.out.db.cell 5
  have f5 := D3.out.db.frozen 5
  go_upto_region 15 with (fail)
  clear k5 f5
  generalize (w3.setCell ⟨g, 5, none⟩ (.string s3)) = w4 at *
  have HB := Lib.hid D4.out.db
  have HRB := Lib.hid D4.out.rb
  go_wp2_with (first
    | (refine wpList_load_row rfl 29 _ rfl g rfl 29 _ (0, 0) _ HB.out Tryz.underlying29 rfl (by kernel_rfl) ?_)
    | (refine wpList_store_row rfl 29 _ _ rfl rfl w.heap.size rfl _ _ _ rfl HRB.out rfl (by kernel_rfl) (List.all_eq_true.1 rfl) ?_; rintro wE hTE hE))
  exact bodyPost_ret (v := .agg #[Value.int IntKind.i64 4, Value.string { data := #[] }, Value.string { data := #[] }, Value.int IntKind.i64 0, Value.bool false, .string s3, Value.int IntKind.i64 0, Value.int IntKind.i64 0, Value.string { data := #[] }, Value.string { data := #[] }, Value.bool false, Value.int IntKind.i64 0, Value.slice none 0 0, Value.slice none 0 0]) (results_cell_row rfl _ _ w.heap.size _ _ _ _ rfl hE Tryz.underlying29 rfl (by kernel_rfl)) rfl ⟨none, none, 0, 0, by unfold toldD; simp only [HKN.out, ← HR1.out, ← HS3.out, ← HR3.out]; rfl, (by rw [show (toldD bs).right = Page.zero by unfold toldD; simp only [HKN.out]; rfl]; exact ⟨Rd.nil, Rd.nil, Nat.le_refl _, Nat.le_refl _, Nat.zero_le _, Nat.zero_le _⟩), hTE.below D4.out.be (Nat.le_refl _) D4.out.be.size⟩

set_option maxRecDepth 100000 in
set_option maxHeartbeats 4000000 in
theorem delta_told5 (lo c : Nat) (A : Option Addr) (bs : List Nat) (w : World) (hkn : leN (bs.take 1) = 5) (hr : Rd byteCell 1 w lo w.heap.size A bs) (hc : bs.length ≤ c) (hb : ∀ b ∈ bs, b < 256) (hl : bs.length ≤ 140737488351232) :
    Calls Tryz.prog 37 #[.slice A bs.length c] w (PostTD w (toldD bs)) := by
  have HKN := Lib.hid hkn
  have hl1 : (bs.drop 1).length ≤ 140737488351232 := by rw [List.length_drop]; omega
  have hb1 : ∀ b ∈ bs.drop 1, b < 256 := fun b h => hb b (List.mem_of_mem_drop h)
  obtain ⟨nb, hnb⟩ : ∃ n, n = bs.length := ⟨_, rfl⟩
  rw [← hnb]
  have hB0 : Below w.heap.size w ((w.alloc (.cells #[Value.int IntKind.i64 0, Value.string { data := #[] }, Value.string { data := #[] }, Value.int IntKind.i64 0, Value.bool false, Value.string { data := #[] }, Value.int IntKind.i64 0, Value.int IntKind.i64 0, Value.string { data := #[] }, Value.string { data := #[] }, Value.bool false, Value.int IntKind.i64 0, Value.slice none 0 0, Value.slice none 0 0] 29)).alloc (.cells #[.slice A nb c] 113)) := ((Below.refl _ _).alloc (Nat.le_refl _) _).alloc (by simp) _
  have hR0 : Blk ((w.alloc (.cells #[Value.int IntKind.i64 0, Value.string { data := #[] }, Value.string { data := #[] }, Value.int IntKind.i64 0, Value.bool false, Value.string { data := #[] }, Value.int IntKind.i64 0, Value.int IntKind.i64 0, Value.string { data := #[] }, Value.string { data := #[] }, Value.bool false, Value.int IntKind.i64 0, Value.slice none 0 0, Value.slice none 0 0] 29)).alloc (.cells #[.slice A nb c] 113)) w.heap.size 29 #[Value.int IntKind.i64 0, Value.string { data := #[] }, Value.string { data := #[] }, Value.int IntKind.i64 0, Value.bool false, Value.string { data := #[] }, Value.int IntKind.i64 0, Value.int IntKind.i64 0, Value.string { data := #[] }, Value.string { data := #[] }, Value.bool false, Value.int IntKind.i64 0, Value.slice none 0 0, Value.slice none 0 0] := (Blk.new _ _ _).alloc _
  have hG0 : Blk ((w.alloc (.cells #[Value.int IntKind.i64 0, Value.string { data := #[] }, Value.string { data := #[] }, Value.int IntKind.i64 0, Value.bool false, Value.string { data := #[] }, Value.int IntKind.i64 0, Value.int IntKind.i64 0, Value.string { data := #[] }, Value.string { data := #[] }, Value.bool false, Value.int IntKind.i64 0, Value.slice none 0 0, Value.slice none 0 0] 29)).alloc (.cells #[.slice A nb c] 113)) (w.heap.size + 1) 113 #[.slice A nb c] := by
    have := Blk.new (w.alloc (.cells #[Value.int IntKind.i64 0, Value.string { data := #[] }, Value.string { data := #[] }, Value.int IntKind.i64 0, Value.bool false, Value.string { data := #[] }, Value.int IntKind.i64 0, Value.int IntKind.i64 0, Value.string { data := #[] }, Value.string { data := #[] }, Value.bool false, Value.int IntKind.i64 0, Value.slice none 0 0, Value.slice none 0 0] 29)) 113 #[.slice A nb c]
    simpa using this
  have hT0 : Tk ((w.alloc (.cells #[Value.int IntKind.i64 0, Value.string { data := #[] }, Value.string { data := #[] }, Value.int IntKind.i64 0, Value.bool false, Value.string { data := #[] }, Value.int IntKind.i64 0, Value.int IntKind.i64 0, Value.string { data := #[] }, Value.string { data := #[] }, Value.bool false, Value.int IntKind.i64 0, Value.slice none 0 0, Value.slice none 0 0] 29)).alloc (.cells #[.slice A nb c] 113)) (w.heap.size + 1) lo w.heap.size 113 bs := ⟨⟨A, c, by rw [← hnb]; exact hG0, hc, hr.below hB0⟩, .inr (by omega), hb⟩
  have HL1 := Lib.hid hl1
  have HB1 := Lib.hid hb1
  clear hkn hl1 hb1 hr hc hb hl hnb
  go_enter Tryz.func37, Tryz.ntmps37
  go_wp2_with fail
  generalize (w.alloc (.cells #[Value.int IntKind.i64 0, Value.string { data := #[] }, Value.string { data := #[] }, Value.int IntKind.i64 0, Value.bool false, Value.string { data := #[] }, Value.int IntKind.i64 0, Value.int IntKind.i64 0, Value.string { data := #[] }, Value.string { data := #[] }, Value.bool false, Value.int IntKind.i64 0, Value.slice none 0 0, Value.slice none 0 0] 29)).alloc (.cells #[.slice A nb c] 113) = w0 at *
  refine (dt_num (w.heap.size + 1) lo w.heap.size 1 (by omega) bs _ hT0).mono ?_
  rintro e w1 ⟨rfl, hT1, hg1⟩
  rw [HKN.out]
  obtain ⟨r1, hr1⟩ : ∃ l, l = bs.drop 1 := ⟨_, rfl⟩
  rw [← hr1] at hT1 HL1 HB1
  have HR1 := Lib.hid hr1
  have hbe1 : Below w.heap.size w w1 := hB0.grown hg1 hB0.size (fun k hk => by cases hk; omega)
  have hgd1 : w.heap.size + 1 < w1.heap.size := Nat.lt_of_lt_of_le hG0.lt hg1.size
  have hR1 : Blk w1 w.heap.size 29 #[Value.int IntKind.i64 0, Value.string { data := #[] }, Value.string { data := #[] }, Value.int IntKind.i64 0, Value.bool false, Value.string { data := #[] }, Value.int IntKind.i64 0, Value.int IntKind.i64 0, Value.string { data := #[] }, Value.string { data := #[] }, Value.bool false, Value.int IntKind.i64 0, Value.slice none 0 0, Value.slice none 0 0] := (hg1.block _ hR0.lt (by simp)).trans hR0
  have D0 : DtW w (w1.alloc (.cells #[Value.int IntKind.i64 5, Value.string { data := #[] }, Value.string { data := #[] }, Value.int IntKind.i64 0, Value.bool false, Value.string { data := #[] }, Value.int IntKind.i64 0, Value.int IntKind.i64 0, Value.string { data := #[] }, Value.string { data := #[] }, Value.bool false, Value.int IntKind.i64 0, Value.slice none 0 0, Value.slice none 0 0] 29)) lo w1.heap.size r1 #[Value.int IntKind.i64 5, Value.string { data := #[] }, Value.string { data := #[] }, Value.int IntKind.i64 0, Value.bool false, Value.string { data := #[] }, Value.int IntKind.i64 0, Value.int IntKind.i64 0, Value.string { data := #[] }, Value.string { data := #[] }, Value.bool false, Value.int IntKind.i64 0, Value.slice none 0 0, Value.slice none 0 0] :=
    ⟨hT1.later ((Below.refl _ _).alloc (Nat.le_refl _) _) (by omega), hbe1.alloc hbe1.size _, hR1.alloc _, Blk.new _ _ _, hgd1⟩
  obtain ⟨g, hg⟩ : ∃ g, g = w1.heap.size := ⟨_, rfl⟩
  rw [← hg] at D0
  have HD0 := Lib.hid D0
  obtain ⟨q0, q1, q2, q3, q4, q5, q6, q7, q8, q9, q10, q11, q12, q13⟩ := Blk.cells14 D0.db
  have hgd := D0.gd
  clear hT0 hR0 hR1 hG0 hB0 hT1 hg1 hr1 hbe1 hgd1 D0
  go_upto_region 3 with (fail)
  rw [← hg]
  generalize w1.alloc (.cells #[Value.int IntKind.i64 5, Value.string { data := #[] }, Value.string { data := #[] }, Value.int IntKind.i64 0, Value.bool false, Value.string { data := #[] }, Value.int IntKind.i64 0, Value.int IntKind.i64 0, Value.string { data := #[] }, Value.string { data := #[] }, Value.bool false, Value.int IntKind.i64 0, Value.slice none 0 0, Value.slice none 0 0] 29) = w2 at *
  clear hg
  go_wp2_with fail
  refine (dt_num (w.heap.size + 1) lo w.heap.size 2 (by omega) r1 _ HD0.out.tk).mono ?_
  rintro e w3 ⟨rfl, hT3, hg3⟩
  have D3 := Lib.hid (HD0.out.call hT3 hg3)
  clear hT3 hg3
  obtain ⟨s3, hs3⟩ : ∃ s, s = leN (r1.take 2) := ⟨_, rfl⟩
  rw [← hs3]
  have HS3 := Lib.hid hs3
  clear hs3
  obtain ⟨r3, hr3⟩ : ∃ r, r = (r1.drop 2) := ⟨_, rfl⟩
  rw [← hr3] at D3
  have HR3 := Lib.hid hr3
  have HL3 : Hid (r3.length ≤ 140737488351232) := Lib.hid (by have := HL1.out; rw [hr3]; simp only [List.length_drop]; omega)
  clear hr3
  clear q0 q1 q2 q3 q4 q5 q6 q7 q8 q9 q10 q11 q12 q13
  have D4 : Hid (DtW w (w3.setCell ⟨g, 6, none⟩ (.int .i64 (s3 : Int))) lo g r3 #[Value.int IntKind.i64 5, Value.string { data := #[] }, Value.string { data := #[] }, Value.int IntKind.i64 0, Value.bool false, Value.string { data := #[] }, .int .i64 (s3 : Int), Value.int IntKind.i64 0, Value.string { data := #[] }, Value.string { data := #[] }, Value.bool false, Value.int IntKind.i64 0, Value.slice none 0 0, Value.slice none 0 0]) := Lib.hid (D3.out.set 6 (.int .i64 (s3 : Int)) rfl)
  have k6 := D3.out.db.cell 6
  have f6 := D3.out.db.frozen 6
  go_upto_region 15 with (fail)
  clear k6 f6
  generalize (w3.setCell ⟨g, 6, none⟩ (.int .i64 (s3 : Int))) = w4 at *
  have HB := Lib.hid D4.out.db
  have HRB := Lib.hid D4.out.rb
  go_wp2_with (first
    | (refine wpList_load_row rfl 29 _ rfl g rfl 29 _ (0, 0) _ HB.out Tryz.underlying29 rfl (by kernel_rfl) ?_)
    | (refine wpList_store_row rfl 29 _ _ rfl rfl w.heap.size rfl _ _ _ rfl HRB.out rfl (by kernel_rfl) (List.all_eq_true.1 rfl) ?_; rintro wE hTE hE))
  exact bodyPost_ret (v := .agg #[Value.int IntKind.i64 5, Value.string { data := #[] }, Value.string { data := #[] }, Value.int IntKind.i64 0, Value.bool false, Value.string { data := #[] }, .int .i64 (s3 : Int), Value.int IntKind.i64 0, Value.string { data := #[] }, Value.string { data := #[] }, Value.bool false, Value.int IntKind.i64 0, Value.slice none 0 0, Value.slice none 0 0]) (results_cell_row rfl _ _ w.heap.size _ _ _ _ rfl hE Tryz.underlying29 rfl (by kernel_rfl)) rfl ⟨none, none, 0, 0, by unfold toldD; simp only [HKN.out, ← HR1.out, ← HS3.out, ← HR3.out]; rfl, (by rw [show (toldD bs).right = Page.zero by unfold toldD; simp only [HKN.out]; rfl]; exact ⟨Rd.nil, Rd.nil, Nat.le_refl _, Nat.le_refl _, Nat.zero_le _, Nat.zero_le _⟩), hTE.below D4.out.be (Nat.le_refl _) D4.out.be.size⟩

set_option maxRecDepth 100000 in
set_option maxHeartbeats 4000000 in
theorem delta_told6 (lo c : Nat) (A : Option Addr) (bs : List Nat) (w : World) (hkn : leN (bs.take 1) = 6) (hr : Rd byteCell 1 w lo w.heap.size A bs) (hc : bs.length ≤ c) (hb : ∀ b ∈ bs, b < 256) (hl : bs.length ≤ 140737488351232) :
    Calls Tryz.prog 37 #[.slice A bs.length c] w (PostTD w (toldD bs)) := by
  have HKN := Lib.hid hkn
  have hl1 : (bs.drop 1).length ≤ 140737488351232 := by rw [List.length_drop]; omega
  have hb1 : ∀ b ∈ bs.drop 1, b < 256 := fun b h => hb b (List.mem_of_mem_drop h)
  obtain ⟨nb, hnb⟩ : ∃ n, n = bs.length := ⟨_, rfl⟩
  rw [← hnb]
  have hB0 : Below w.heap.size w ((w.alloc (.cells #[Value.int IntKind.i64 0, Value.string { data := #[] }, Value.string { data := #[] }, Value.int IntKind.i64 0, Value.bool false, Value.string { data := #[] }, Value.int IntKind.i64 0, Value.int IntKind.i64 0, Value.string { data := #[] }, Value.string { data := #[] }, Value.bool false, Value.int IntKind.i64 0, Value.slice none 0 0, Value.slice none 0 0] 29)).alloc (.cells #[.slice A nb c] 113)) := ((Below.refl _ _).alloc (Nat.le_refl _) _).alloc (by simp) _
  have hR0 : Blk ((w.alloc (.cells #[Value.int IntKind.i64 0, Value.string { data := #[] }, Value.string { data := #[] }, Value.int IntKind.i64 0, Value.bool false, Value.string { data := #[] }, Value.int IntKind.i64 0, Value.int IntKind.i64 0, Value.string { data := #[] }, Value.string { data := #[] }, Value.bool false, Value.int IntKind.i64 0, Value.slice none 0 0, Value.slice none 0 0] 29)).alloc (.cells #[.slice A nb c] 113)) w.heap.size 29 #[Value.int IntKind.i64 0, Value.string { data := #[] }, Value.string { data := #[] }, Value.int IntKind.i64 0, Value.bool false, Value.string { data := #[] }, Value.int IntKind.i64 0, Value.int IntKind.i64 0, Value.string { data := #[] }, Value.string { data := #[] }, Value.bool false, Value.int IntKind.i64 0, Value.slice none 0 0, Value.slice none 0 0] := (Blk.new _ _ _).alloc _
  have hG0 : Blk ((w.alloc (.cells #[Value.int IntKind.i64 0, Value.string { data := #[] }, Value.string { data := #[] }, Value.int IntKind.i64 0, Value.bool false, Value.string { data := #[] }, Value.int IntKind.i64 0, Value.int IntKind.i64 0, Value.string { data := #[] }, Value.string { data := #[] }, Value.bool false, Value.int IntKind.i64 0, Value.slice none 0 0, Value.slice none 0 0] 29)).alloc (.cells #[.slice A nb c] 113)) (w.heap.size + 1) 113 #[.slice A nb c] := by
    have := Blk.new (w.alloc (.cells #[Value.int IntKind.i64 0, Value.string { data := #[] }, Value.string { data := #[] }, Value.int IntKind.i64 0, Value.bool false, Value.string { data := #[] }, Value.int IntKind.i64 0, Value.int IntKind.i64 0, Value.string { data := #[] }, Value.string { data := #[] }, Value.bool false, Value.int IntKind.i64 0, Value.slice none 0 0, Value.slice none 0 0] 29)) 113 #[.slice A nb c]
    simpa using this
  have hT0 : Tk ((w.alloc (.cells #[Value.int IntKind.i64 0, Value.string { data := #[] }, Value.string { data := #[] }, Value.int IntKind.i64 0, Value.bool false, Value.string { data := #[] }, Value.int IntKind.i64 0, Value.int IntKind.i64 0, Value.string { data := #[] }, Value.string { data := #[] }, Value.bool false, Value.int IntKind.i64 0, Value.slice none 0 0, Value.slice none 0 0] 29)).alloc (.cells #[.slice A nb c] 113)) (w.heap.size + 1) lo w.heap.size 113 bs := ⟨⟨A, c, by rw [← hnb]; exact hG0, hc, hr.below hB0⟩, .inr (by omega), hb⟩
  have HL1 := Lib.hid hl1
  have HB1 := Lib.hid hb1
  clear hkn hl1 hb1 hr hc hb hl hnb
  go_enter Tryz.func37, Tryz.ntmps37
  go_wp2_with fail
  generalize (w.alloc (.cells #[Value.int IntKind.i64 0, Value.string { data := #[] }, Value.string { data := #[] }, Value.int IntKind.i64 0, Value.bool false, Value.string { data := #[] }, Value.int IntKind.i64 0, Value.int IntKind.i64 0, Value.string { data := #[] }, Value.string { data := #[] }, Value.bool false, Value.int IntKind.i64 0, Value.slice none 0 0, Value.slice none 0 0] 29)).alloc (.cells #[.slice A nb c] 113) = w0 at *
  refine (dt_num (w.heap.size + 1) lo w.heap.size 1 (by omega) bs _ hT0).mono ?_
  rintro e w1 ⟨rfl, hT1, hg1⟩
  rw [HKN.out]
  obtain ⟨r1, hr1⟩ : ∃ l, l = bs.drop 1 := ⟨_, rfl⟩
  rw [← hr1] at hT1 HL1 HB1
  have HR1 := Lib.hid hr1
  have hbe1 : Below w.heap.size w w1 := hB0.grown hg1 hB0.size (fun k hk => by cases hk; omega)
  have hgd1 : w.heap.size + 1 < w1.heap.size := Nat.lt_of_lt_of_le hG0.lt hg1.size
  have hR1 : Blk w1 w.heap.size 29 #[Value.int IntKind.i64 0, Value.string { data := #[] }, Value.string { data := #[] }, Value.int IntKind.i64 0, Value.bool false, Value.string { data := #[] }, Value.int IntKind.i64 0, Value.int IntKind.i64 0, Value.string { data := #[] }, Value.string { data := #[] }, Value.bool false, Value.int IntKind.i64 0, Value.slice none 0 0, Value.slice none 0 0] := (hg1.block _ hR0.lt (by simp)).trans hR0
  have D0 : DtW w (w1.alloc (.cells #[Value.int IntKind.i64 6, Value.string { data := #[] }, Value.string { data := #[] }, Value.int IntKind.i64 0, Value.bool false, Value.string { data := #[] }, Value.int IntKind.i64 0, Value.int IntKind.i64 0, Value.string { data := #[] }, Value.string { data := #[] }, Value.bool false, Value.int IntKind.i64 0, Value.slice none 0 0, Value.slice none 0 0] 29)) lo w1.heap.size r1 #[Value.int IntKind.i64 6, Value.string { data := #[] }, Value.string { data := #[] }, Value.int IntKind.i64 0, Value.bool false, Value.string { data := #[] }, Value.int IntKind.i64 0, Value.int IntKind.i64 0, Value.string { data := #[] }, Value.string { data := #[] }, Value.bool false, Value.int IntKind.i64 0, Value.slice none 0 0, Value.slice none 0 0] :=
    ⟨hT1.later ((Below.refl _ _).alloc (Nat.le_refl _) _) (by omega), hbe1.alloc hbe1.size _, hR1.alloc _, Blk.new _ _ _, hgd1⟩
  obtain ⟨g, hg⟩ : ∃ g, g = w1.heap.size := ⟨_, rfl⟩
  rw [← hg] at D0
  have HD0 := Lib.hid D0
  obtain ⟨q0, q1, q2, q3, q4, q5, q6, q7, q8, q9, q10, q11, q12, q13⟩ := Blk.cells14 D0.db
  have hgd := D0.gd
  clear hT0 hR0 hR1 hG0 hB0 hT1 hg1 hr1 hbe1 hgd1 D0
  go_upto_region 3 with (fail)
  rw [← hg]
  generalize w1.alloc (.cells #[Value.int IntKind.i64 6, Value.string { data := #[] }, Value.string { data := #[] }, Value.int IntKind.i64 0, Value.bool false, Value.string { data := #[] }, Value.int IntKind.i64 0, Value.int IntKind.i64 0, Value.string { data := #[] }, Value.string { data := #[] }, Value.bool false, Value.int IntKind.i64 0, Value.slice none 0 0, Value.slice none 0 0] 29) = w2 at *
  clear hg
  obtain ⟨A1, c1, hb1, hc1, hr1⟩ := HD0.out.tk.ex
  have t0 : w2.cell? ⟨w.heap.size + 1, 0, none⟩ = some (.slice A1 r1.length c1) := hb1.cell 0
  have hs2 : w.heap.size ≤ w2.heap.size := HD0.out.be.size
  have HC1 := Lib.hid hc1
  have HRd1 := Lib.hid hr1
  have HTB := Lib.hid hb1
  obtain ⟨n1, hn1⟩ : ∃ n, n = r1.length := ⟨_, rfl⟩
  rw [← hn1] at t0
  have HN1 := Lib.hid hn1
  clear hc1 hr1 hb1 hn1
  go_wp2_with fail
  rw [HN1.out]
  refine (page_Decode lo c1 A1 r1 _ (HRd1.out.mono (Nat.le_refl _) hs2) HC1.out HB1.out HL1.out).mono ?_
  rintro e w3 ⟨P, P', d, d', rfl, hP, hB3⟩
  have D3 := Lib.hid (HD0.out.on hB3)
  have HP := Lib.hid hP
  have hg2 : g < w2.heap.size := HD0.out.db.lt
  have HB3 := Lib.hid hB3
  obtain ⟨dp, hdp⟩ : ∃ p, p = decoded r1 := ⟨_, rfl⟩
  rw [← hdp] at HP
  rw [← hdp]
  have HDP := Lib.hid hdp
  obtain ⟨de, hde⟩ : ∃ e, e = decodeE r1 := ⟨_, rfl⟩
  rw [← hde]
  clear hP hB3 hdp hde t0
  unfold Page.val Page.raw
  obtain ⟨ni, hni⟩ : ∃ n, n = dp.items.length := ⟨_, rfl⟩
  obtain ⟨nk, hnk⟩ : ∃ n, n = dp.kids.length := ⟨_, rfl⟩
  rw [← hni, ← hnk]
  have HNI := Lib.hid hni
  have HNK := Lib.hid hnk
  clear hni hnk
  clear q0 q1 q2 q3 q4 q5 q6 q7 q8 q9 q10 q11 q12 q13
  have D4 : Hid (DtW w (((((((w3.setCell ⟨g, 7, none⟩ (.int .i64 dp.level)).setCell ⟨g, 8, none⟩ (.string dp.low)).setCell ⟨g, 9, none⟩ (.string dp.high)).setCell ⟨g, 10, none⟩ (.bool dp.last)).setCell ⟨g, 11, none⟩ (.int .i64 dp.side)).setCell ⟨g, 12, none⟩ (.slice P ni d)).setCell ⟨g, 13, none⟩ (Value.slice P' nk d')) lo g r1 #[Value.int IntKind.i64 6, Value.string { data := #[] }, Value.string { data := #[] }, Value.int IntKind.i64 0, Value.bool false, Value.string { data := #[] }, Value.int IntKind.i64 0, .int .i64 dp.level, .string dp.low, .string dp.high, .bool dp.last, .int .i64 dp.side, .slice P ni d, Value.slice P' nk d']) := Lib.hid (((((((D3.out.set 7 (.int .i64 dp.level) rfl).set 8 (.string dp.low) rfl).set 9 (.string dp.high) rfl).set 10 (.bool dp.last) rfl).set 11 (.int .i64 dp.side) rfl).set 12 (.slice P ni d) rfl).set 13 (Value.slice P' nk d') rfl)
  have HP4 : Hid (Pg (((((((w3.setCell ⟨g, 7, none⟩ (.int .i64 dp.level)).setCell ⟨g, 8, none⟩ (.string dp.low)).setCell ⟨g, 9, none⟩ (.string dp.high)).setCell ⟨g, 10, none⟩ (.bool dp.last)).setCell ⟨g, 11, none⟩ (.int .i64 dp.side)).setCell ⟨g, 12, none⟩ (.slice P ni d)).setCell ⟨g, 13, none⟩ (Value.slice P' nk d')) w2.heap.size w3.heap.size dp P P' d d') := Lib.hid (((((((HP.out.set hg2 7 (.int .i64 dp.level)).set hg2 8 (.string dp.low)).set hg2 9 (.string dp.high)).set hg2 10 (.bool dp.last)).set hg2 11 (.int .i64 dp.side)).set hg2 12 (.slice P ni d)).set hg2 13 (Value.slice P' nk d'))
  have hz3 : w3.heap.size = ((((((((w3.setCell ⟨g, 7, none⟩ (.int .i64 dp.level)).setCell ⟨g, 8, none⟩ (.string dp.low)).setCell ⟨g, 9, none⟩ (.string dp.high)).setCell ⟨g, 10, none⟩ (.bool dp.last)).setCell ⟨g, 11, none⟩ (.int .i64 dp.side)).setCell ⟨g, 12, none⟩ (.slice P ni d)).setCell ⟨g, 13, none⟩ (Value.slice P' nk d'))).heap.size := by simp
  have k7 := D3.out.db.cell 7
  have f7 := D3.out.db.frozen 7
  have k8 := D3.out.db.cell 8
  have f8 := D3.out.db.frozen 8
  have k9 := D3.out.db.cell 9
  have f9 := D3.out.db.frozen 9
  have k10 := D3.out.db.cell 10
  have f10 := D3.out.db.frozen 10
  have k11 := D3.out.db.cell 11
  have f11 := D3.out.db.frozen 11
  have k12 := D3.out.db.cell 12
  have f12 := D3.out.db.frozen 12
  have k13 := D3.out.db.cell 13
  have f13 := D3.out.db.frozen 13
  go_upto_region 15 with (fail)
  clear k7 f7 k8 f8 k9 f9 k10 f10 k11 f11 k12 f12 k13 f13
  generalize (((((((w3.setCell ⟨g, 7, none⟩ (.int .i64 dp.level)).setCell ⟨g, 8, none⟩ (.string dp.low)).setCell ⟨g, 9, none⟩ (.string dp.high)).setCell ⟨g, 10, none⟩ (.bool dp.last)).setCell ⟨g, 11, none⟩ (.int .i64 dp.side)).setCell ⟨g, 12, none⟩ (.slice P ni d)).setCell ⟨g, 13, none⟩ (Value.slice P' nk d')) = w4 at *
  have HB := Lib.hid D4.out.db
  have HRB := Lib.hid D4.out.rb
  go_wp2_with (first
    | (refine wpList_load_row rfl 29 _ rfl g rfl 29 _ (0, 0) _ HB.out Tryz.underlying29 rfl (by kernel_rfl) ?_)
    | (refine wpList_store_row rfl 29 _ _ rfl rfl w.heap.size rfl _ _ _ rfl HRB.out rfl (by kernel_rfl) (List.all_eq_true.1 rfl) ?_; rintro wE hTE hE))
  exact bodyPost_ret (v := .agg #[Value.int IntKind.i64 6, Value.string { data := #[] }, Value.string { data := #[] }, Value.int IntKind.i64 0, Value.bool false, Value.string { data := #[] }, Value.int IntKind.i64 0, .int .i64 dp.level, .string dp.low, .string dp.high, .bool dp.last, .int .i64 dp.side, .slice P ni d, Value.slice P' nk d']) (results_cell_row rfl _ _ w.heap.size _ _ _ _ rfl hE Tryz.underlying29 rfl (by kernel_rfl)) rfl ⟨P, P', d, d', by unfold toldD Delta.val; simp only [HKN.out, ← HR1.out, ← HDP.out, HNI.out, HNK.out]; rfl, (by rw [show (toldD bs).right = dp by unfold toldD; simp only [HKN.out, ← HR1.out, ← HDP.out]; rfl]; exact (hTE.pg HP4.out (Nat.lt_of_lt_of_le (by omega) (Nat.le_of_lt hg2))).mono hs2 (by rw [hTE.sz, ← hz3]; exact Nat.le_refl _)), hTE.below D4.out.be (Nat.le_refl _) D4.out.be.size⟩

theorem delta_told (lo c : Nat) (A : Option Addr) (bs : List Nat) (w : World) (hr : Rd byteCell 1 w lo w.heap.size A bs) (hc : bs.length ≤ c) (hb : ∀ b ∈ bs, b < 256) (hl : bs.length ≤ 140737488351232) :
    Calls Tryz.prog 37 #[.slice A bs.length c] w (PostTD w (toldD bs)) := by
  by_cases h : (leN (bs.take 1) = 1 ∨ leN (bs.take 1) = 2 ∨ leN (bs.take 1) = 3 ∨ leN (bs.take 1) = 4 ∨ leN (bs.take 1) = 5 ∨ leN (bs.take 1) = 6)
  · rcases h with h | h | h | h | h | h
    · exact delta_told1 lo c A bs w h hr hc hb hl
    · exact delta_told2 lo c A bs w h hr hc hb hl
    · exact delta_told3 lo c A bs w h hr hc hb hl
    · exact delta_told4 lo c A bs w h hr hc hb hl
    · exact delta_told5 lo c A bs w h hr hc hb hl
    · exact delta_told6 lo c A bs w h hr hc hb hl
  · exact delta_told0 lo c A bs w h hr hc hb hl
end Go.Proofs.YtjbdmaehomhdeaaGreat
