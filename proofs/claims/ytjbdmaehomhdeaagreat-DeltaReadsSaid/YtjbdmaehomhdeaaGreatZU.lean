/- The reference's told of a change. -/
import Derived.Test.YtjbdmaehomhdeaaGreatZV
import Derived.Test.YtjbdmaehomhdeaaGreatR11
import Derived.Test.YtjbdmaehomhdeaaGreatF7
import Derived.Test.YtjbdmaehomhdeaaGreatZG
import Derived.Test.YtjbdmaehomhdeaaGreatF8
import Derived.Test.YtjbdmaehomhdeaaGreatOb
import Derived.Test.YtjbdmaehomhdeaaGreatF1
import Derived.Test.YtjbdmaehomhdeaaGreatZS
import Derived.Test.YtjbdmaehomhdeaaGreatZB
import Derived.Test.YtjbdmaehomhdeaaGreatF2
import Derived.Test.YtjbdmaehomhdeaaGreatZF
import Derived.Test.YtjbdmaehomhdeaaGreatNx
import Derived.Test.YtjbdmaehomhdeaaGreatAw
set_option linter.unusedSimpArgs false
set_option linter.unusedVariables false
namespace Go.Proofs.YtjbdmaehomhdeaaGreat
open Go.RowKit

structure ToD (w wc : World) (lo : Nat) (bs r : List Nat) (rs cs : Array Value) : Prop where
  tk : TkR wc (w.heap.size + 1) lo w.heap.size bs r
  be : Below w.heap.size w wc
  res : Blk wc w.heap.size 29 rs
  own : Blk wc (w.heap.size + 2) 29 cs
section
variable {w wc w' : World} {lo : Nat} {bs r r' : List Nat} {rs cs cs' : Array Value}
theorem below_grownD {w wc w' : World} {k : Nat} (hb : Below w.heap.size w wc) (h2 : wc.grownBy w' (some k)) (hk : w.heap.size ≤ k) : Below w.heap.size w w' :=
  hb.grown h2 hb.size (fun j hj => by cases hj; exact hk)
theorem ToD.call (h : ToD w wc lo bs r rs cs) (h1 : TkR w' (w.heap.size + 1) lo w.heap.size bs r') (h2 : wc.grownBy w' (some (w.heap.size + 1))) : ToD w w' lo bs r' rs cs :=
  ⟨h1, below_grownD h.be h2 (by omega), (h2.block _ h.res.lt (by simp)).trans h.res, (h2.block _ h.own.lt (by simp)).trans h.own⟩
theorem ToD.set (h : ToD w wc lo bs r rs cs) (i : Nat) (u : Value) (hc : cs.setIfInBounds i u = cs') : ToD w (wc.setCell ⟨w.heap.size + 2, i, none⟩ u) lo bs r rs cs' :=
  ⟨h.tk.far fun k hk => Below.heap_setCell wc _ u k (by simp; omega), h.be.setCell (p := ⟨w.heap.size + 2, i, none⟩) (by simp) u, h.res.far (by simp) u, by rw [← hc]; exact h.own.set_ i u⟩
theorem ToD.setR (h : ToD w wc lo bs r rs cs) (i : Nat) (u : Value) : ToD w (wc.setCell ⟨w.heap.size, i, none⟩ u) lo bs r (rs.setIfInBounds i u) cs :=
  ⟨h.tk.far fun k hk => Below.heap_setCell wc _ u k (by simp; omega), h.be.setCell (p := ⟨w.heap.size, i, none⟩) (Nat.le_refl _) u, h.res.set_ i u, h.own.far (by simp) u⟩
theorem ToD.start {A : Option Addr} {c n : Nat} (hr : Rd byteCell 1 w lo w.heap.size A bs) (hc : bs.length ≤ c) (hb : ∀ b ∈ bs, b < 256) (hn : n = bs.length) :
    ToD w (((w.alloc (.cells rs 29)).alloc (.cells #[.slice A n c, .int .i64 0] 118)).alloc (.cells cs 29)) lo bs bs rs cs := by
  subst hn
  have h1 : Below w.heap.size w (((w.alloc (.cells rs 29)).alloc (.cells #[.slice A bs.length c, .int .i64 0] 118)).alloc (.cells cs 29)) := (((Below.refl _ _).alloc (Nat.le_refl _) _).alloc (by simp) _).alloc (by simp; omega) _
  have h2 : Blk ((w.alloc (.cells rs 29)).alloc (.cells #[.slice A bs.length c, .int .i64 0] 118)) (w.heap.size + 1) 118 #[.slice A bs.length c, .int .i64 0] := by
    have := Blk.new (w.alloc (.cells rs 29)) 118 #[.slice A bs.length c, .int .i64 0]
    simpa using this
  refine ⟨⟨⟨A, c, 0, h2.alloc _, hc, hr.below h1, Nat.zero_le _, rfl⟩, .inr (by omega), hb⟩, h1, ((Blk.new _ _ _).alloc _).alloc _, ?_⟩
  have := Blk.new ((w.alloc (.cells rs 29)).alloc (.cells #[.slice A bs.length c, .int .i64 0] 118)) 29 cs
  simpa using this
end

theorem ToD.turn {w wc w' : World} {lo : Nat} {bs r : List Nat} {rs cs cs' : Array Value} (h : ToD w wc lo bs r rs cs) (hT : Turned wc w' (w.heap.size + 2)) (hB : Blk w' (w.heap.size + 2) 29 cs') : ToD w w' lo bs r rs cs' :=
  ⟨h.tk.far fun k hk => hT.other (by omega), hT.below h.be (by omega) h.be.size, hT.blk h.res (by omega), hB⟩
theorem ToD.on {w wc w' : World} {lo : Nat} {bs r : List Nat} {rs cs : Array Value} (h : ToD w wc lo bs r rs cs) (hb : Below wc.heap.size wc w') : ToD w w' lo bs r rs cs :=
  ⟨h.tk.far fun k hk => hb.block k (by have := h.tk.lt; have := h.be.size; omega), h.be.trans (hb.mono h.be.size), h.res.below hb h.res.lt, h.own.below hb h.own.lt⟩
set_option maxRecDepth 100000 in
set_option maxHeartbeats 20000000 in
theorem ref_toldD (lo c : Nat) (A : Option Addr) (bs : List Nat) (w : World) (hr : Rd byteCell 1 w lo w.heap.size A bs) (hc : bs.length ≤ c) (hb : ∀ b ∈ bs, b < 256) (hl : bs.length ≤ 140737488351232) :
    Calls Tryz.prog 39 #[.slice A bs.length c] w (PostTD w (toldD bs)) := by
  have hST : ∀ n, n = bs.length → ToD w (((w.alloc (.cells #[Value.int IntKind.i64 0, Value.string { data := #[] }, Value.string { data := #[] }, Value.int IntKind.i64 0, Value.bool false, Value.string { data := #[] }, Value.int IntKind.i64 0, Value.int IntKind.i64 0, Value.string { data := #[] }, Value.string { data := #[] }, Value.bool false, Value.int IntKind.i64 0, Value.slice none 0 0, Value.slice none 0 0] 29)).alloc (.cells #[.slice A n c, .int .i64 0] 118)).alloc (.cells #[Value.int IntKind.i64 0, Value.string { data := #[] }, Value.string { data := #[] }, Value.int IntKind.i64 0, Value.bool false, Value.string { data := #[] }, Value.int IntKind.i64 0, Value.int IntKind.i64 0, Value.string { data := #[] }, Value.string { data := #[] }, Value.bool false, Value.int IntKind.i64 0, Value.slice none 0 0, Value.slice none 0 0] 29)) lo bs bs #[Value.int IntKind.i64 0, Value.string { data := #[] }, Value.string { data := #[] }, Value.int IntKind.i64 0, Value.bool false, Value.string { data := #[] }, Value.int IntKind.i64 0, Value.int IntKind.i64 0, Value.string { data := #[] }, Value.string { data := #[] }, Value.bool false, Value.int IntKind.i64 0, Value.slice none 0 0, Value.slice none 0 0] #[Value.int IntKind.i64 0, Value.string { data := #[] }, Value.string { data := #[] }, Value.int IntKind.i64 0, Value.bool false, Value.string { data := #[] }, Value.int IntKind.i64 0, Value.int IntKind.i64 0, Value.string { data := #[] }, Value.string { data := #[] }, Value.bool false, Value.int IntKind.i64 0, Value.slice none 0 0, Value.slice none 0 0] := fun n hn => ToD.start hr hc hb hn
  have HR := Lib.hid hr
  have HC := Lib.hid hc
  have HSM := Lib.hid hb
  have HL := Lib.hid hl
  clear hr hc hb hl
  obtain ⟨bn, hbn⟩ : ∃ n, n = bs.length := ⟨_, rfl⟩
  rw [← hbn]
  have HST := Lib.hid (hST bn hbn)
  have HBN := Lib.hid hbn
  clear hST hbn
  go_enter Tryz.func39, Tryz.ntmps39
  go_upto_region 3 with (refine wpList_store_row rfl 29 _ _ rfl rfl (w.heap.size + 2) rfl _ _ _ rfl HST.out.own rfl (by kernel_rfl) (List.all_eq_true.1 rfl) ?_; rintro w0 hT0 hB0; have T0 := Lib.hid (HST.out.turn hT0 hB0); clear hT0 hB0)
  obtain ⟨r1, hr1⟩ : ∃ l, l = bs.drop 1 := ⟨_, rfl⟩
  obtain ⟨kn, hkn⟩ : ∃ n, n = leN (bs.take 1) := ⟨_, rfl⟩
  go_wp2_with fail
  refine (ref_Num (w.heap.size + 1) lo w.heap.size 1 (by omega) bs bs _ T0.out.tk HL.out).mono ?_
  rintro e w1 ⟨rfl, hT1, hg1⟩
  rw [← hkn]
  rw [← hr1] at hT1
  have T1 := Lib.hid (T0.out.call hT1 hg1)
  have HR1 := Lib.hid hr1
  have HKN := Lib.hid hkn.symm
  clear hT1 hg1 hr1 hkn
  have k0 := T1.out.own.cell 0
  have f0 := T1.out.own.frozen 0
  have T2 : Hid (ToD w (w1.setCell ⟨w.heap.size + 2, 0, none⟩ (.int .i64 (kn : Int))) lo bs r1 #[Value.int IntKind.i64 0, Value.string { data := #[] }, Value.string { data := #[] }, Value.int IntKind.i64 0, Value.bool false, Value.string { data := #[] }, Value.int IntKind.i64 0, Value.int IntKind.i64 0, Value.string { data := #[] }, Value.string { data := #[] }, Value.bool false, Value.int IntKind.i64 0, Value.slice none 0 0, Value.slice none 0 0] #[Value.int IntKind.i64 (kn : Int), Value.string { data := #[] }, Value.string { data := #[] }, Value.int IntKind.i64 0, Value.bool false, Value.string { data := #[] }, Value.int IntKind.i64 0, Value.int IntKind.i64 0, Value.string { data := #[] }, Value.string { data := #[] }, Value.bool false, Value.int IntKind.i64 0, Value.slice none 0 0, Value.slice none 0 0]) := Lib.hid (T1.out.set 0 _ rfl)
  have hcases : kn = 1 ∨ kn = 2 ∨ kn = 3 ∨ kn = 4 ∨ kn = 5 ∨ kn = 6 ∨ ¬ (kn = 1 ∨ kn = 2 ∨ kn = 3 ∨ kn = 4 ∨ kn = 5 ∨ kn = 6) := by omega
  go_upto_region 4 with (fail)
  generalize w1.setCell ⟨w.heap.size + 2, 0, none⟩ (.int .i64 (kn : Int)) = w2 at *
  clear k0 f0
  have k0 := T2.out.own.cell 0
  simp only [List.getElem?_toArray, List.getElem?_cons_zero] at k0
  rcases hcases with rfl | rfl | rfl | rfl | rfl | rfl | hno
  · obtain ⟨y, hy⟩ : ∃ y, y = (itemAt r1).1 := ⟨_, rfl⟩
    have HY := Lib.hid hy
    clear hy
    have hs2 := T2.out.be.size
    go_upto_region 17 with (first
      | (refine wpList_store_part rfl 23 _ _ rfl rfl (w.heap.size + 2) 1 rfl 29 y.cells #[Value.int IntKind.i64 1, Value.string { data := #[] }, Value.string { data := #[] }, Value.int IntKind.i64 0, Value.bool false, Value.string { data := #[] }, Value.int IntKind.i64 0, Value.int IntKind.i64 0, Value.string { data := #[] }, Value.string { data := #[] }, Value.bool false, Value.int IntKind.i64 0, Value.slice none 0 0, Value.slice none 0 0] rfl T3.out.own (show 5 ≤ 14 by omega) (by kernel_rfl) (Item.one y) ?_; rintro w4 hT4 hB4; have T4 : Hid (ToD w w4 lo bs _ #[Value.int IntKind.i64 0, Value.string { data := #[] }, Value.string { data := #[] }, Value.int IntKind.i64 0, Value.bool false, Value.string { data := #[] }, Value.int IntKind.i64 0, Value.int IntKind.i64 0, Value.string { data := #[] }, Value.string { data := #[] }, Value.bool false, Value.int IntKind.i64 0, Value.slice none 0 0, Value.slice none 0 0] #[Value.int IntKind.i64 1, Value.string y.key, Value.string y.value, Value.int IntKind.i64 y.no, Value.bool y.gone, Value.string { data := #[] }, Value.int IntKind.i64 0, Value.int IntKind.i64 0, Value.string { data := #[] }, Value.string { data := #[] }, Value.bool false, Value.int IntKind.i64 0, Value.slice none 0 0, Value.slice none 0 0]) := Lib.hid (T3.out.turn hT4 hB4); clear hT4 hB4)
      | (go_at_call 70; refine (ref_TItem' (w.heap.size + 1) lo w.heap.size bs r1 _ y HY.out T2.out.tk HL.out hs2).mono ?_; rintro e w3 ⟨rfl, hT, hg⟩; have T3 := Lib.hid (T2.out.call hT hg); clear hT hg))
    go_wp2_with (first
        | (refine wpList_store_row rfl 29 _ _ rfl rfl (w.heap.size) rfl _ _ _ rfl T4.out.res rfl (by kernel_rfl) (List.all_eq_true.1 rfl) ?_; rintro wE hTE hE)
        | (refine wpList_load_row rfl 29 _ rfl (w.heap.size + 2) rfl 29 _ (0, 0) _ T4.out.own Tryz.underlying29 rfl (by kernel_rfl) ?_))
    exact bodyPost_ret (v := .agg #[Value.int IntKind.i64 1, Value.string y.key, Value.string y.value, Value.int IntKind.i64 y.no, Value.bool y.gone, Value.string { data := #[] }, Value.int IntKind.i64 0, Value.int IntKind.i64 0, Value.string { data := #[] }, Value.string { data := #[] }, Value.bool false, Value.int IntKind.i64 0, Value.slice none 0 0, Value.slice none 0 0]) (results_cell_row rfl _ _ w.heap.size _ _ _ _ rfl hE Tryz.underlying29 rfl (by kernel_rfl)) rfl ⟨none, none, 0, 0, by unfold toldD; simp only [HKN.out, ← HR1.out, ← HY.out]; rfl, (by rw [show (toldD bs).right = Page.zero by unfold toldD; simp only [HKN.out]; rfl]; exact Pg.none _ _ _ _ rfl rfl), hTE.below T4.out.be (Nat.le_refl _) T4.out.be.size⟩
  · obtain ⟨s, hs⟩ : ∃ y, y = textOf r1 := ⟨_, rfl⟩
    obtain ⟨r2, hr2⟩ : ∃ y, y = r1.drop (1 + textN r1) := ⟨_, rfl⟩
    obtain ⟨n, hn⟩ : ∃ y, y = leN (r2.take 2) := ⟨_, rfl⟩
    have HS := Lib.hid hs
    have HR2 := Lib.hid hr2
    have HN := Lib.hid hn
    clear hs hr2 hn
    go_upto_region 10 with (go_at_call 71; refine (ref_Text (w.heap.size + 1) lo w.heap.size bs r1 _ T2.out.tk HL.out).mono ?_; rintro e w3 ⟨rfl, hT, hg⟩; have T3 := Lib.hid (T2.out.call hT hg); clear hT hg; rw [← HS.out]; have k5 := T3.out.own.cell 5; have f5 := T3.out.own.frozen 5)
    have T4 : Hid (ToD w (w3.setCell ⟨w.heap.size + 2, 5, none⟩ (.string s)) lo bs r2 #[Value.int IntKind.i64 0, Value.string { data := #[] }, Value.string { data := #[] }, Value.int IntKind.i64 0, Value.bool false, Value.string { data := #[] }, Value.int IntKind.i64 0, Value.int IntKind.i64 0, Value.string { data := #[] }, Value.string { data := #[] }, Value.bool false, Value.int IntKind.i64 0, Value.slice none 0 0, Value.slice none 0 0] #[Value.int IntKind.i64 2, Value.string { data := #[] }, Value.string { data := #[] }, Value.int IntKind.i64 0, Value.bool false, Value.string s, Value.int IntKind.i64 0, Value.int IntKind.i64 0, Value.string { data := #[] }, Value.string { data := #[] }, Value.bool false, Value.int IntKind.i64 0, Value.slice none 0 0, Value.slice none 0 0]) := Lib.hid (by rw [HR2.out]; exact T3.out.set 5 _ rfl)
    generalize w3.setCell ⟨w.heap.size + 2, 5, none⟩ (.string s) = w4 at *
    go_upto_region 17 with (go_at_call 69; refine (ref_Num (w.heap.size + 1) lo w.heap.size 2 (by omega) bs r2 _ T4.out.tk HL.out).mono ?_; rintro e w5 ⟨rfl, hT, hg⟩; have T5 := Lib.hid (T4.out.call hT hg); clear hT hg; rw [← HN.out]; have k6 := T5.out.own.cell 6; have f6 := T5.out.own.frozen 6)
    have T6 : Hid (ToD w (w5.setCell ⟨w.heap.size + 2, 6, none⟩ (.int .i64 (n : Int))) lo bs _ #[Value.int IntKind.i64 0, Value.string { data := #[] }, Value.string { data := #[] }, Value.int IntKind.i64 0, Value.bool false, Value.string { data := #[] }, Value.int IntKind.i64 0, Value.int IntKind.i64 0, Value.string { data := #[] }, Value.string { data := #[] }, Value.bool false, Value.int IntKind.i64 0, Value.slice none 0 0, Value.slice none 0 0] #[Value.int IntKind.i64 2, Value.string { data := #[] }, Value.string { data := #[] }, Value.int IntKind.i64 0, Value.bool false, Value.string s, Value.int IntKind.i64 (n : Int), Value.int IntKind.i64 0, Value.string { data := #[] }, Value.string { data := #[] }, Value.bool false, Value.int IntKind.i64 0, Value.slice none 0 0, Value.slice none 0 0]) := Lib.hid (T5.out.set 6 _ rfl)
    generalize w5.setCell ⟨w.heap.size + 2, 6, none⟩ (.int .i64 (n : Int)) = w6 at *
    clear k0 k5 f5 k6 f6
    go_wp2_with (first
        | (refine wpList_store_row rfl 29 _ _ rfl rfl (w.heap.size) rfl _ _ _ rfl T6.out.res rfl (by kernel_rfl) (List.all_eq_true.1 rfl) ?_; rintro wE hTE hE)
        | (refine wpList_load_row rfl 29 _ rfl (w.heap.size + 2) rfl 29 _ (0, 0) _ T6.out.own Tryz.underlying29 rfl (by kernel_rfl) ?_))
    exact bodyPost_ret (v := .agg #[Value.int IntKind.i64 2, Value.string { data := #[] }, Value.string { data := #[] }, Value.int IntKind.i64 0, Value.bool false, Value.string s, Value.int IntKind.i64 (n : Int), Value.int IntKind.i64 0, Value.string { data := #[] }, Value.string { data := #[] }, Value.bool false, Value.int IntKind.i64 0, Value.slice none 0 0, Value.slice none 0 0]) (results_cell_row rfl _ _ w.heap.size _ _ _ _ rfl hE Tryz.underlying29 rfl (by kernel_rfl)) rfl ⟨none, none, 0, 0, by unfold toldD; simp only [HKN.out, ← HR1.out, ← HS.out, ← HR2.out, ← HN.out]; rfl, (by rw [show (toldD bs).right = Page.zero by unfold toldD; simp only [HKN.out]; rfl]; exact Pg.none _ _ _ _ rfl rfl), hTE.below T6.out.be (Nat.le_refl _) T6.out.be.size⟩
  · obtain ⟨s, hs⟩ : ∃ y, y = textOf r1 := ⟨_, rfl⟩
    obtain ⟨r2, hr2⟩ : ∃ y, y = r1.drop (1 + textN r1) := ⟨_, rfl⟩
    obtain ⟨n, hn⟩ : ∃ y, y = leN (r2.take 2) := ⟨_, rfl⟩
    have HS := Lib.hid hs
    have HR2 := Lib.hid hr2
    have HN := Lib.hid hn
    clear hs hr2 hn
    go_upto_region 10 with (go_at_call 71; refine (ref_Text (w.heap.size + 1) lo w.heap.size bs r1 _ T2.out.tk HL.out).mono ?_; rintro e w3 ⟨rfl, hT, hg⟩; have T3 := Lib.hid (T2.out.call hT hg); clear hT hg; rw [← HS.out]; have k5 := T3.out.own.cell 5; have f5 := T3.out.own.frozen 5)
    have T4 : Hid (ToD w (w3.setCell ⟨w.heap.size + 2, 5, none⟩ (.string s)) lo bs r2 #[Value.int IntKind.i64 0, Value.string { data := #[] }, Value.string { data := #[] }, Value.int IntKind.i64 0, Value.bool false, Value.string { data := #[] }, Value.int IntKind.i64 0, Value.int IntKind.i64 0, Value.string { data := #[] }, Value.string { data := #[] }, Value.bool false, Value.int IntKind.i64 0, Value.slice none 0 0, Value.slice none 0 0] #[Value.int IntKind.i64 3, Value.string { data := #[] }, Value.string { data := #[] }, Value.int IntKind.i64 0, Value.bool false, Value.string s, Value.int IntKind.i64 0, Value.int IntKind.i64 0, Value.string { data := #[] }, Value.string { data := #[] }, Value.bool false, Value.int IntKind.i64 0, Value.slice none 0 0, Value.slice none 0 0]) := Lib.hid (by rw [HR2.out]; exact T3.out.set 5 _ rfl)
    generalize w3.setCell ⟨w.heap.size + 2, 5, none⟩ (.string s) = w4 at *
    go_upto_region 17 with (go_at_call 69; refine (ref_Num (w.heap.size + 1) lo w.heap.size 2 (by omega) bs r2 _ T4.out.tk HL.out).mono ?_; rintro e w5 ⟨rfl, hT, hg⟩; have T5 := Lib.hid (T4.out.call hT hg); clear hT hg; rw [← HN.out]; have k6 := T5.out.own.cell 6; have f6 := T5.out.own.frozen 6)
    have T6 : Hid (ToD w (w5.setCell ⟨w.heap.size + 2, 6, none⟩ (.int .i64 (n : Int))) lo bs _ #[Value.int IntKind.i64 0, Value.string { data := #[] }, Value.string { data := #[] }, Value.int IntKind.i64 0, Value.bool false, Value.string { data := #[] }, Value.int IntKind.i64 0, Value.int IntKind.i64 0, Value.string { data := #[] }, Value.string { data := #[] }, Value.bool false, Value.int IntKind.i64 0, Value.slice none 0 0, Value.slice none 0 0] #[Value.int IntKind.i64 3, Value.string { data := #[] }, Value.string { data := #[] }, Value.int IntKind.i64 0, Value.bool false, Value.string s, Value.int IntKind.i64 (n : Int), Value.int IntKind.i64 0, Value.string { data := #[] }, Value.string { data := #[] }, Value.bool false, Value.int IntKind.i64 0, Value.slice none 0 0, Value.slice none 0 0]) := Lib.hid (T5.out.set 6 _ rfl)
    generalize w5.setCell ⟨w.heap.size + 2, 6, none⟩ (.int .i64 (n : Int)) = w6 at *
    clear k0 k5 f5 k6 f6
    go_wp2_with (first
        | (refine wpList_store_row rfl 29 _ _ rfl rfl (w.heap.size) rfl _ _ _ rfl T6.out.res rfl (by kernel_rfl) (List.all_eq_true.1 rfl) ?_; rintro wE hTE hE)
        | (refine wpList_load_row rfl 29 _ rfl (w.heap.size + 2) rfl 29 _ (0, 0) _ T6.out.own Tryz.underlying29 rfl (by kernel_rfl) ?_))
    exact bodyPost_ret (v := .agg #[Value.int IntKind.i64 3, Value.string { data := #[] }, Value.string { data := #[] }, Value.int IntKind.i64 0, Value.bool false, Value.string s, Value.int IntKind.i64 (n : Int), Value.int IntKind.i64 0, Value.string { data := #[] }, Value.string { data := #[] }, Value.bool false, Value.int IntKind.i64 0, Value.slice none 0 0, Value.slice none 0 0]) (results_cell_row rfl _ _ w.heap.size _ _ _ _ rfl hE Tryz.underlying29 rfl (by kernel_rfl)) rfl ⟨none, none, 0, 0, by unfold toldD; simp only [HKN.out, ← HR1.out, ← HS.out, ← HR2.out, ← HN.out]; rfl, (by rw [show (toldD bs).right = Page.zero by unfold toldD; simp only [HKN.out]; rfl]; exact Pg.none _ _ _ _ rfl rfl), hTE.below T6.out.be (Nat.le_refl _) T6.out.be.size⟩
  · obtain ⟨s, hs⟩ : ∃ y, y = textOf r1 := ⟨_, rfl⟩
    have HS := Lib.hid hs
    clear hs
    go_upto_region 17 with (go_at_call 71; refine (ref_Text (w.heap.size + 1) lo w.heap.size bs r1 _ T2.out.tk HL.out).mono ?_; rintro e w3 ⟨rfl, hT, hg⟩; have T3 := Lib.hid (T2.out.call hT hg); clear hT hg; rw [← HS.out]; have k5 := T3.out.own.cell 5; have f5 := T3.out.own.frozen 5)
    have T4 : Hid (ToD w (w3.setCell ⟨w.heap.size + 2, 5, none⟩ (.string s)) lo bs _ #[Value.int IntKind.i64 0, Value.string { data := #[] }, Value.string { data := #[] }, Value.int IntKind.i64 0, Value.bool false, Value.string { data := #[] }, Value.int IntKind.i64 0, Value.int IntKind.i64 0, Value.string { data := #[] }, Value.string { data := #[] }, Value.bool false, Value.int IntKind.i64 0, Value.slice none 0 0, Value.slice none 0 0] #[Value.int IntKind.i64 4, Value.string { data := #[] }, Value.string { data := #[] }, Value.int IntKind.i64 0, Value.bool false, Value.string s, Value.int IntKind.i64 0, Value.int IntKind.i64 0, Value.string { data := #[] }, Value.string { data := #[] }, Value.bool false, Value.int IntKind.i64 0, Value.slice none 0 0, Value.slice none 0 0]) := Lib.hid (T3.out.set 5 _ rfl)
    generalize w3.setCell ⟨w.heap.size + 2, 5, none⟩ (.string s) = w4 at *
    clear k0 k5 f5
    go_wp2_with (first
        | (refine wpList_store_row rfl 29 _ _ rfl rfl (w.heap.size) rfl _ _ _ rfl T4.out.res rfl (by kernel_rfl) (List.all_eq_true.1 rfl) ?_; rintro wE hTE hE)
        | (refine wpList_load_row rfl 29 _ rfl (w.heap.size + 2) rfl 29 _ (0, 0) _ T4.out.own Tryz.underlying29 rfl (by kernel_rfl) ?_))
    exact bodyPost_ret (v := .agg #[Value.int IntKind.i64 4, Value.string { data := #[] }, Value.string { data := #[] }, Value.int IntKind.i64 0, Value.bool false, Value.string s, Value.int IntKind.i64 0, Value.int IntKind.i64 0, Value.string { data := #[] }, Value.string { data := #[] }, Value.bool false, Value.int IntKind.i64 0, Value.slice none 0 0, Value.slice none 0 0]) (results_cell_row rfl _ _ w.heap.size _ _ _ _ rfl hE Tryz.underlying29 rfl (by kernel_rfl)) rfl ⟨none, none, 0, 0, by unfold toldD; simp only [HKN.out, ← HR1.out, ← HS.out]; rfl, (by rw [show (toldD bs).right = Page.zero by unfold toldD; simp only [HKN.out]; rfl]; exact Pg.none _ _ _ _ rfl rfl), hTE.below T4.out.be (Nat.le_refl _) T4.out.be.size⟩
  · obtain ⟨n, hn⟩ : ∃ y, y = leN (r1.take 2) := ⟨_, rfl⟩
    have HN := Lib.hid hn
    clear hn
    go_upto_region 17 with (go_at_call 69; refine (ref_Num (w.heap.size + 1) lo w.heap.size 2 (by omega) bs r1 _ T2.out.tk HL.out).mono ?_; rintro e w3 ⟨rfl, hT, hg⟩; have T3 := Lib.hid (T2.out.call hT hg); clear hT hg; rw [← HN.out]; have k6 := T3.out.own.cell 6; have f6 := T3.out.own.frozen 6)
    have T4 : Hid (ToD w (w3.setCell ⟨w.heap.size + 2, 6, none⟩ (.int .i64 (n : Int))) lo bs _ #[Value.int IntKind.i64 0, Value.string { data := #[] }, Value.string { data := #[] }, Value.int IntKind.i64 0, Value.bool false, Value.string { data := #[] }, Value.int IntKind.i64 0, Value.int IntKind.i64 0, Value.string { data := #[] }, Value.string { data := #[] }, Value.bool false, Value.int IntKind.i64 0, Value.slice none 0 0, Value.slice none 0 0] #[Value.int IntKind.i64 5, Value.string { data := #[] }, Value.string { data := #[] }, Value.int IntKind.i64 0, Value.bool false, Value.string { data := #[] }, Value.int IntKind.i64 (n : Int), Value.int IntKind.i64 0, Value.string { data := #[] }, Value.string { data := #[] }, Value.bool false, Value.int IntKind.i64 0, Value.slice none 0 0, Value.slice none 0 0]) := Lib.hid (T3.out.set 6 _ rfl)
    generalize w3.setCell ⟨w.heap.size + 2, 6, none⟩ (.int .i64 (n : Int)) = w4 at *
    clear k0 k6 f6
    go_wp2_with (first
        | (refine wpList_store_row rfl 29 _ _ rfl rfl (w.heap.size) rfl _ _ _ rfl T4.out.res rfl (by kernel_rfl) (List.all_eq_true.1 rfl) ?_; rintro wE hTE hE)
        | (refine wpList_load_row rfl 29 _ rfl (w.heap.size + 2) rfl 29 _ (0, 0) _ T4.out.own Tryz.underlying29 rfl (by kernel_rfl) ?_))
    exact bodyPost_ret (v := .agg #[Value.int IntKind.i64 5, Value.string { data := #[] }, Value.string { data := #[] }, Value.int IntKind.i64 0, Value.bool false, Value.string { data := #[] }, Value.int IntKind.i64 (n : Int), Value.int IntKind.i64 0, Value.string { data := #[] }, Value.string { data := #[] }, Value.bool false, Value.int IntKind.i64 0, Value.slice none 0 0, Value.slice none 0 0]) (results_cell_row rfl _ _ w.heap.size _ _ _ _ rfl hE Tryz.underlying29 rfl (by kernel_rfl)) rfl ⟨none, none, 0, 0, by unfold toldD; simp only [HKN.out, ← HR1.out, ← HN.out]; rfl, (by rw [show (toldD bs).right = Page.zero by unfold toldD; simp only [HKN.out]; rfl]; exact Pg.none _ _ _ _ rfl rfl), hTE.below T4.out.be (Nat.le_refl _) T4.out.be.size⟩
  · have hne : 1 ≤ bs.length := by
      cases hb : bs with
      | nil => have h := HKN.out; rw [hb] at h; cases h
      | cons _ _ => simp
    have hsl : ∀ W, (Instr.slice 32 (.slice A bn c) (some (.int .i64 1)) none none).run Tryz.prog W = .ok (.slice (if c = 1 then A else A.map (fun a => a.add 1)) (bn - 1) (c - 1)) W := fun W => by
      have := run_slice_drop (P := Tryz.prog) W 32 5 1 Tryz.underlying32 (by kernel_rfl) A bn c 1 (by rw [HBN.out]; exact hne)
      simpa using this
    obtain ⟨AS, hAS⟩ : ∃ B, B = if c = 1 then A else A.map (fun a => a.add 1) := ⟨_, rfl⟩
    rw [← hAS] at hsl
    have hRS : Hid (Rd byteCell 1 w lo w.heap.size AS r1) := Lib.hid (by
      rw [HR1.out, hAS]
      by_cases h1 : c = 1
      · have hz : bs.drop 1 = [] := List.drop_eq_nil_of_le (by have := HC.out; omega)
        rw [hz]; exact Rd.nil
      · rw [if_neg h1]
        intro hn
        obtain ⟨ad, rfl, h2, h3, h4⟩ := HR.out (by intro e; rw [e] at hne; simp at hne)
        refine ⟨ad.add 1, rfl, by rw [block_of_add]; exact h2, by rw [block_of_add]; exact h3, fun i x hx j u hu => ?_⟩
        have := h4 (1 + i) x (by rw [List.getElem?_drop] at hx; exact hx) j u hu
        rw [add_of_add, Nat.mul_one]
        rw [Nat.mul_one] at this
        rw [show 1 + (i + j) = 1 + i + j by omega]
        exact this)
    have HLN : Hid (r1.length = bn - 1 ∧ r1.length ≤ c - 1 ∧ (∀ b ∈ r1, b < 256) ∧ r1.length ≤ 140737488351232) := Lib.hid (by
      have h1 := HC.out
      have h2 := HL.out
      have h3 := HBN.out
      rw [HR1.out]
      refine ⟨by rw [List.length_drop]; omega, by rw [List.length_drop]; omega, fun b hb => HSM.out b (List.mem_of_mem_drop hb), by rw [List.length_drop]; omega⟩)
    clear hAS
    go_wp2_with fail
    rw [← HLN.out.1]
    refine (ref_Decode lo (c - 1) AS r1 w2 ((hRS.out.below T2.out.be).mono (Nat.le_refl _) T2.out.be.size) HLN.out.2.1 HLN.out.2.2.1 HLN.out.2.2.2).mono ?_
    rintro e w3 ⟨P, P', d, d', rfl, hP, hB3⟩
    have T3 := Lib.hid (T2.out.on hB3)
    have HP := Lib.hid hP
    have hg2 : w.heap.size + 2 < w2.heap.size := T2.out.own.lt
    obtain ⟨dp, hdp⟩ : ∃ p, p = decoded r1 := ⟨_, rfl⟩
    rw [← hdp] at HP
    rw [← hdp]
    have HDP := Lib.hid hdp
    obtain ⟨de, hde⟩ : ∃ e, e = decodeE r1 := ⟨_, rfl⟩
    rw [← hde]
    clear hP hB3 hdp hde k0
    unfold Page.val Page.raw
    obtain ⟨ni, hni⟩ : ∃ n, n = dp.items.length := ⟨_, rfl⟩
    obtain ⟨nk, hnk⟩ : ∃ n, n = dp.kids.length := ⟨_, rfl⟩
    rw [← hni, ← hnk]
    have HNI := Lib.hid hni
    have HNK := Lib.hid hnk
    clear hni hnk
    go_upto_region 17 with (refine wpList_store_part rfl 27 _ _ rfl rfl (w.heap.size + 2) 7 rfl 29 [Value.int IntKind.i64 dp.level, Value.string dp.low, Value.string dp.high, Value.bool dp.last, Value.int IntKind.i64 dp.side, Value.slice P ni d, Value.slice P' nk d'] #[Value.int IntKind.i64 6, Value.string { data := #[] }, Value.string { data := #[] }, Value.int IntKind.i64 0, Value.bool false, Value.string { data := #[] }, Value.int IntKind.i64 0, Value.int IntKind.i64 0, Value.string { data := #[] }, Value.string { data := #[] }, Value.bool false, Value.int IntKind.i64 0, Value.slice none 0 0, Value.slice none 0 0] rfl T3.out.own (show 14 ≤ 14 by omega) (by kernel_rfl) (List.all_eq_true.1 rfl) ?_; rintro w4 hT4 hB4; have T4 : Hid (ToD w w4 lo bs _ #[Value.int IntKind.i64 0, Value.string { data := #[] }, Value.string { data := #[] }, Value.int IntKind.i64 0, Value.bool false, Value.string { data := #[] }, Value.int IntKind.i64 0, Value.int IntKind.i64 0, Value.string { data := #[] }, Value.string { data := #[] }, Value.bool false, Value.int IntKind.i64 0, Value.slice none 0 0, Value.slice none 0 0] #[Value.int IntKind.i64 6, Value.string { data := #[] }, Value.string { data := #[] }, Value.int IntKind.i64 0, Value.bool false, Value.string { data := #[] }, Value.int IntKind.i64 0, Value.int IntKind.i64 dp.level, Value.string dp.low, Value.string dp.high, Value.bool dp.last, Value.int IntKind.i64 dp.side, Value.slice P ni d, Value.slice P' nk d']) := Lib.hid (T3.out.turn hT4 hB4); have HP4 := Lib.hid (hT4.pg HP.out hg2); have hz4 := hT4.sz; clear hT4 hB4)
    go_wp2_with (first
        | (refine wpList_store_row rfl 29 _ _ rfl rfl (w.heap.size) rfl _ _ _ rfl T4.out.res rfl (by kernel_rfl) (List.all_eq_true.1 rfl) ?_; rintro wE hTE hE)
        | (refine wpList_load_row rfl 29 _ rfl (w.heap.size + 2) rfl 29 _ (0, 0) _ T4.out.own Tryz.underlying29 rfl (by kernel_rfl) ?_))
    exact bodyPost_ret (v := .agg #[Value.int IntKind.i64 6, Value.string { data := #[] }, Value.string { data := #[] }, Value.int IntKind.i64 0, Value.bool false, Value.string { data := #[] }, Value.int IntKind.i64 0, Value.int IntKind.i64 dp.level, Value.string dp.low, Value.string dp.high, Value.bool dp.last, Value.int IntKind.i64 dp.side, Value.slice P ni d, Value.slice P' nk d']) (results_cell_row rfl _ _ w.heap.size _ _ _ _ rfl hE Tryz.underlying29 rfl (by kernel_rfl)) rfl ⟨P, P', d, d', by unfold toldD; simp only [HKN.out, ← HR1.out, ← HDP.out]; unfold Delta.val; rw [HNI.out, HNK.out]; rfl, (by rw [show (toldD bs).right = dp by unfold toldD; simp only [HKN.out, ← HR1.out, ← HDP.out]; rfl]; exact (hTE.pg HP4.out (by omega)).mono (by omega) (by rw [hTE.sz, hz4]; exact Nat.le_refl _)), hTE.below T4.out.be (Nat.le_refl _) T4.out.be.size⟩
  · have m1 : ((kn : Int) == 1) = false := by simp; omega
    have m2 : ((kn : Int) == 2) = false := by simp; omega
    have m3 : ((kn : Int) == 3) = false := by simp; omega
    have m4 : ((kn : Int) == 4) = false := by simp; omega
    have m5 : ((kn : Int) == 5) = false := by simp; omega
    have m6 : ((kn : Int) == 6) = false := by simp; omega
    have M : Hid (¬ kn = 1 ∧ ¬ (kn = 2 ∨ kn = 3 ∨ kn = 4) ∧ ¬ (kn = 2 ∨ kn = 3) ∧ ¬ kn = 5 ∧ ¬ kn = 6) := Lib.hid (by omega)
    go_wp2_with (first
        | (refine wpList_store_row rfl 29 _ _ rfl rfl (w.heap.size) rfl _ _ _ rfl T2.out.res rfl (by kernel_rfl) (List.all_eq_true.1 rfl) ?_; rintro wE hTE hE)
        | (refine wpList_load_row rfl 29 _ rfl (w.heap.size + 2) rfl 29 _ (0, 0) _ T2.out.own Tryz.underlying29 rfl (by kernel_rfl) ?_))
    exact bodyPost_ret (v := .agg #[Value.int IntKind.i64 (kn : Int), Value.string { data := #[] }, Value.string { data := #[] }, Value.int IntKind.i64 0, Value.bool false, Value.string { data := #[] }, Value.int IntKind.i64 0, Value.int IntKind.i64 0, Value.string { data := #[] }, Value.string { data := #[] }, Value.bool false, Value.int IntKind.i64 0, Value.slice none 0 0, Value.slice none 0 0]) (results_cell_row rfl _ _ w.heap.size _ _ _ _ rfl hE Tryz.underlying29 rfl (by kernel_rfl)) rfl ⟨none, none, 0, 0, by obtain ⟨m1, m2, m3, m5, m6⟩ := M.out; unfold toldD; simp only [HKN.out, if_neg m1, if_neg m2, if_neg m3, if_neg m5, if_neg m6]; rfl, (by obtain ⟨m1, m2, m3, m5, m6⟩ := M.out; rw [show (toldD bs).right = Page.zero by unfold toldD; simp only [HKN.out, if_neg m6]]; exact Pg.none _ _ _ _ rfl rfl), hTE.below T2.out.be (Nat.le_refl _) T2.out.be.size⟩
end Go.Proofs.YtjbdmaehomhdeaaGreat

namespace Go.Proofs.YtjbdmaehomhdeaaGreat
open Go.RowKit

theorem Delta.bytes_small' {d : Delta} (h : d.mayB = true) : ∀ b ∈ d.bytes d.kind, b < 256 := by
  unfold Delta.mayB Delta.may at h
  simp only [Bool.and_eq_true, decide_eq_true_eq] at h
  obtain ⟨hk, _⟩ := h
  intro b hb
  unfold Delta.bytes at hb
  rcases List.mem_append.1 hb with h | h
  · simp at h; omega
  · split at h
    · exact Item.bytes_small _ b h
    · split at h
      · rcases List.mem_append.1 h with h | h
        · exact textB_small _ b h
        · exact numB_small _ _ b h
      · split at h
        · exact textB_small _ b h
        · split at h
          · exact numB_small _ _ b h
          · exact Page.bytes_small _ b h
set_option maxRecDepth 100000 in
set_option maxHeartbeats 20000000 in
theorem ref_DecodeD (lo c : Nat) (base : Bool) (A : Option Addr) (bs : List Nat) (w : World) (hr : Rd byteCell 1 w lo w.heap.size A bs) (hc : bs.length ≤ c) (hb : ∀ b ∈ bs, b < 256) (hl : bs.length ≤ 140737488351232) :
    Calls Tryz.prog 18 #[.agg #[.bool base, .slice A bs.length c]] w (PostDD w base bs) := by
  have HR := Lib.hid hr
  have HC := Lib.hid hc
  have HS := Lib.hid hb
  have HL := Lib.hid hl
  clear hr hc hb hl
  obtain ⟨nb, hnb⟩ : ∃ n, n = bs.length := ⟨_, rfl⟩
  rw [← hnb]
  have HNB := Lib.hid hnb
  have D0 : DeW w ((w.alloc (.cells #[.bool base, .slice A nb c] 34)).alloc (.cells #[Value.int IntKind.i64 0, Value.string { data := #[] }, Value.string { data := #[] }, Value.int IntKind.i64 0, Value.bool false, Value.string { data := #[] }, Value.int IntKind.i64 0, Value.int IntKind.i64 0, Value.string { data := #[] }, Value.string { data := #[] }, Value.bool false, Value.int IntKind.i64 0, Value.slice none 0 0, Value.slice none 0 0] 29)) base A nb c := ⟨((Below.refl _ _).alloc (Nat.le_refl _) _).alloc (by simp) _, (Blk.new _ _ _).alloc _, by simpa using Blk.new (w.alloc (.cells #[.bool base, .slice A nb c] 34)) 29 #[Value.int IntKind.i64 0, Value.string { data := #[] }, Value.string { data := #[] }, Value.int IntKind.i64 0, Value.bool false, Value.string { data := #[] }, Value.int IntKind.i64 0, Value.int IntKind.i64 0, Value.string { data := #[] }, Value.string { data := #[] }, Value.bool false, Value.int IntKind.i64 0, Value.slice none 0 0, Value.slice none 0 0]⟩
  clear hnb
  go_enter Tryz.func18, Tryz.ntmps18
  go_upto_region 1 with (fail)
  generalize (w.alloc (.cells #[.bool base, .slice A nb c] 34)).alloc (.cells #[Value.int IntKind.i64 0, Value.string { data := #[] }, Value.string { data := #[] }, Value.int IntKind.i64 0, Value.bool false, Value.string { data := #[] }, Value.int IntKind.i64 0, Value.int IntKind.i64 0, Value.string { data := #[] }, Value.string { data := #[] }, Value.bool false, Value.int IntKind.i64 0, Value.slice none 0 0, Value.slice none 0 0] 29) = w0 at *
  have HD0 := Lib.hid D0
  obtain ⟨n0, n1⟩ := Blk.cells2' D0.nb
  clear D0
  go_wp2_with fail
  rw [HNB.out]
  refine (ref_toldD lo c A bs _ ((HR.out.below HD0.out.be).mono (Nat.le_refl _) HD0.out.be.size) HC.out HS.out HL.out).mono ?_
  rintro e w1 ⟨A1, A1', c1, c1', rfl, hP1, hb1⟩
  rw [← HNB.out]
  have HD1 := Lib.hid (HD0.out.on hb1)
  obtain ⟨d, hd⟩ : ∃ d, d = toldD bs := ⟨_, rfl⟩
  rw [← hd] at hP1
  rw [← hd]
  have HDD := Lib.hid hd
  have hP1' : Pg w1 w0.heap.size w1.heap.size d.right A1 A1' c1 c1' := hP1
  have HEN := Lib.hid (fun W h => ref_EncodeD d A1 A1' c1 c1' w0.heap.size W h)
  unfold Delta.val at HEN
  unfold Delta.val
  obtain ⟨ni, hni⟩ : ∃ n, n = d.right.items.length := ⟨_, rfl⟩
  obtain ⟨nk, hnk⟩ : ∃ n, n = d.right.kids.length := ⟨_, rfl⟩
  rw [← hni, ← hnk]
  rw [← hni, ← hnk] at HEN
  have HNI := Lib.hid hni
  have HNK := Lib.hid hnk
  have HP1 := Lib.hid hP1
  have HB1 := Lib.hid hb1
  clear hd hP1 hP1' hni hnk hb1 n0 n1
  go_upto_region 2 with (fail)
  have HB := Lib.hid (Blk.new w1 29 #[Value.int IntKind.i64 d.kind, Value.string d.item.key, Value.string d.item.value, Value.int IntKind.i64 d.item.no, Value.bool d.item.gone, Value.string d.key, Value.int IntKind.i64 d.page, Value.int IntKind.i64 d.right.level, Value.string d.right.low, Value.string d.right.high, Value.bool d.right.last, Value.int IntKind.i64 d.right.side, Value.slice A1 ni c1, Value.slice A1' nk c1'])
  have HD2 := Lib.hid (HD1.out.on ((Below.refl w1.heap.size w1).alloc (Nat.le_refl _) (.cells #[Value.int IntKind.i64 d.kind, Value.string d.item.key, Value.string d.item.value, Value.int IntKind.i64 d.item.no, Value.bool d.item.gone, Value.string d.key, Value.int IntKind.i64 d.page, Value.int IntKind.i64 d.right.level, Value.string d.right.low, Value.string d.right.high, Value.bool d.right.last, Value.int IntKind.i64 d.right.side, Value.slice A1 ni c1, Value.slice A1' nk c1'] 29)))
  have HP2 : Hid (Pg (w1.alloc (.cells #[Value.int IntKind.i64 d.kind, Value.string d.item.key, Value.string d.item.value, Value.int IntKind.i64 d.item.no, Value.bool d.item.gone, Value.string d.key, Value.int IntKind.i64 d.page, Value.int IntKind.i64 d.right.level, Value.string d.right.low, Value.string d.right.high, Value.bool d.right.last, Value.int IntKind.i64 d.right.side, Value.slice A1 ni c1, Value.slice A1' nk c1'] 29)) w0.heap.size (w1.alloc (.cells #[Value.int IntKind.i64 d.kind, Value.string d.item.key, Value.string d.item.value, Value.int IntKind.i64 d.item.no, Value.bool d.item.gone, Value.string d.key, Value.int IntKind.i64 d.page, Value.int IntKind.i64 d.right.level, Value.string d.right.low, Value.string d.right.high, Value.bool d.right.last, Value.int IntKind.i64 d.right.side, Value.slice A1 ni c1, Value.slice A1' nk c1'] 29)).heap.size d.right A1 A1' c1 c1') := Lib.hid ((HP1.out.below ((Below.refl w1.heap.size w1).alloc (Nat.le_refl _) _)).mono (Nat.le_refl _) (by simp))
  obtain ⟨gd, hgd⟩ : ∃ g, g = w1.heap.size := ⟨_, rfl⟩
  rw [← hgd] at HB
  rw [← hgd]
  have hgl : w.heap.size + 1 < gd := by have := HD1.out.rb.lt; omega
  generalize w1.alloc (.cells #[Value.int IntKind.i64 d.kind, Value.string d.item.key, Value.string d.item.value, Value.int IntKind.i64 d.item.no, Value.bool d.item.gone, Value.string d.key, Value.int IntKind.i64 d.page, Value.int IntKind.i64 d.right.level, Value.string d.right.low, Value.string d.right.high, Value.bool d.right.last, Value.int IntKind.i64 d.right.side, Value.slice A1 ni c1, Value.slice A1' nk c1'] 29) = w2 at *
  clear hgd HD1
  go_wp2_with (refine wpList_load_row rfl 29 _ rfl gd rfl 29 _ (0, 0) _ HB.out Tryz.underlying29 rfl (by kernel_rfl) ?_)
  refine (HEN.out w2 HP2.out).mono ?_
  rintro e w3 ⟨v3, rfl, hO3, hb3⟩
  have HD3 := Lib.hid (HD2.out.on hb3)
  have HB3 := Lib.hid (HB.out.below hb3 HB.out.lt)
  have HP3 := Lib.hid ((HP2.out.below hb3).mono (Nat.le_refl _) hb3.size)
  obtain ⟨bl, hbl⟩ : ∃ n, (cond d.mayB (d.bytes d.kind) []).length = n := ⟨_, rfl⟩
  obtain ⟨A9, c9, rfl, _, hR9, _⟩ := OwnB.form hO3 hbl
  have HBL := Lib.hid hbl
  have HR9 := Lib.hid hR9
  have hb23 := hb3
  have HB23 := Lib.hid hb23
  clear hO3 hb3 hbl hR9 hb23 HB HD2 HP2 HEN
  go_upto_region 3 with (fail)
  have HD4 := Lib.hid (HD3.out.on ((Below.refl w3.heap.size w3).alloc (Nat.le_refl _) (.cells #[.bool false, .slice A9 bl c9] 34)))
  have HB4 := Lib.hid (HB3.out.alloc (.cells #[.bool false, .slice A9 bl c9] 34))
  have HP4 : Hid (Pg (w3.alloc (.cells #[.bool false, .slice A9 bl c9] 34)) w0.heap.size (w3.alloc (.cells #[.bool false, .slice A9 bl c9] 34)).heap.size d.right A1 A1' c1 c1') := Lib.hid ((HP3.out.below ((Below.refl w3.heap.size w3).alloc (Nat.le_refl _) _)).mono (Nat.le_refl _) (by simp))
  have HR4 := Lib.hid (HR9.out.below ((Below.refl w3.heap.size w3).alloc (Nat.le_refl _) (.cells #[.bool false, .slice A9 bl c9] 34)))
  have HM4 := Lib.hid (Blk.new w3 34 #[.bool false, .slice A9 bl c9])
  have HRb4 : Hid (Rd byteCell 1 (w3.alloc (.cells #[.bool false, .slice A9 bl c9] 34)) lo w.heap.size A bs) := Lib.hid (HR.out.below HD4.out.be)
  obtain ⟨gm, hgm⟩ : ∃ g, g = w3.heap.size := ⟨_, rfl⟩
  rw [← hgm] at HM4
  rw [← hgm]
  generalize w3.alloc (.cells #[.bool false, .slice A9 bl c9] 34) = w4 at *
  clear hgm HD3 HB3 HP3
  obtain ⟨m0, m1⟩ := Blk.cells2' HM4.out
  obtain ⟨n0, n1⟩ := Blk.cells2' HD4.out.nb
  have hW := HD4.out.be.size
  cases base with
  | true =>
    have HF : Hid (formD true bs = false) := Lib.hid rfl
    go_wp2_with (refine wpList_store_row rfl 29 _ _ rfl rfl (w.heap.size + 1) rfl _ _ _ rfl HD4.out.rb rfl (by kernel_rfl) (List.all_eq_true.1 rfl) ?_; rintro wE hTE hE)
    exact bodyPost_ret (v := .tuple #[.agg #[Value.int IntKind.i64 0, Value.string { data := #[] }, Value.string { data := #[] }, Value.int IntKind.i64 0, Value.bool false, Value.string { data := #[] }, Value.int IntKind.i64 0, Value.int IntKind.i64 0, Value.string { data := #[] }, Value.string { data := #[] }, Value.bool false, Value.int IntKind.i64 0, Value.slice none 0 0, Value.slice none 0 0], .int .i64 111]) (results_row2 rfl _ _ (w.heap.size + 1) _ _ _ _ rfl hE Tryz.underlying29 rfl (by kernel_rfl) rfl) rfl (PostDD.bad HF.out (hTE.below HD4.out.be (by omega) HD4.out.be.size))
  | false =>
    cases hmb : d.mayB with
    | false =>
      have HF : Hid (formD false bs = false) := Lib.hid (by unfold formD; rw [← HDD.out, hmb]; rfl)
      clear hmb
      simp only [cond_false]
      go_wp2_with (refine wpList_store_row rfl 29 _ _ rfl rfl (w.heap.size + 1) rfl _ _ _ rfl HD4.out.rb rfl (by kernel_rfl) (List.all_eq_true.1 rfl) ?_; rintro wE hTE hE)
      exact bodyPost_ret (v := .tuple #[.agg #[Value.int IntKind.i64 0, Value.string { data := #[] }, Value.string { data := #[] }, Value.int IntKind.i64 0, Value.bool false, Value.string { data := #[] }, Value.int IntKind.i64 0, Value.int IntKind.i64 0, Value.string { data := #[] }, Value.string { data := #[] }, Value.bool false, Value.int IntKind.i64 0, Value.slice none 0 0, Value.slice none 0 0], .int .i64 111]) (results_row2 rfl _ _ (w.heap.size + 1) _ _ _ _ rfl hE Tryz.underlying29 rfl (by kernel_rfl) rfl) rfl (PostDD.bad HF.out (hTE.below HD4.out.be (by omega) HD4.out.be.size))
    | true =>
      have HMB := Lib.hid hmb
      rw [HMB.out] at HBL HR4
      simp only [cond_true] at HBL HR4
      clear hmb
      simp only [cond_true]
      have hcv1 : (convert 32 9 (.slice A9 bl c9)).run Tryz.prog w4 = .ok (.string (strOf (d.bytes d.kind))) w4 := conv_str HR4.out HBL.out (Delta.bytes_small' HMB.out)
      have hcv2 : (convert 32 9 (.slice A nb c)).run Tryz.prog w4 = .ok (.string (strOf bs)) w4 := conv_str HRb4.out HNB.out.symm HS.out
      have hnq := neqB_eq (Delta.bytes_small' HMB.out) HS.out
      unfold neqB at hnq
      obtain ⟨s1, hs1⟩ : ∃ s, s = strOf (d.bytes d.kind) := ⟨_, rfl⟩
      obtain ⟨s2, hs2⟩ : ∃ s, s = strOf bs := ⟨_, rfl⟩
      rw [← hs1] at hcv1 hnq
      rw [← hs2] at hcv2 hnq
      clear hs1 hs2
      by_cases hq : d.bytes d.kind = bs
      · have HQ : Hid (decide (d.bytes d.kind = bs) = true) := Lib.hid (by simpa using hq)
        have HF : Hid (formD false bs = true) := Lib.hid (by unfold formD; rw [← HDD.out, HMB.out, HQ.out]; rfl)
        rw [HQ.out] at hnq
        clear hq
        have hnq2 : (s1.toList == s2.toList) = true := by simpa using hnq
        have hnq3 : (s1.toList != s2.toList) = false := by simpa using hnq
        clear hnq
        go_wp2_with (first
          | (refine wpList_load_row rfl 29 _ rfl gd rfl 29 _ (0, 0) _ HB4.out Tryz.underlying29 rfl (by kernel_rfl) ?_)
          | (refine wpList_store_row rfl 29 _ _ rfl rfl (w.heap.size + 1) rfl _ _ _ rfl HD4.out.rb rfl (by kernel_rfl) (List.all_eq_true.1 rfl) ?_; rintro wE hTE hE))
        exact bodyPost_ret (v := .tuple #[.agg #[Value.int IntKind.i64 d.kind, Value.string d.item.key, Value.string d.item.value, Value.int IntKind.i64 d.item.no, Value.bool d.item.gone, Value.string d.key, Value.int IntKind.i64 d.page, Value.int IntKind.i64 d.right.level, Value.string d.right.low, Value.string d.right.high, Value.bool d.right.last, Value.int IntKind.i64 d.right.side, Value.slice A1 ni c1, Value.slice A1' nk c1'], .int .i64 0]) (results_row2 rfl _ _ (w.heap.size + 1) _ _ _ _ rfl hE Tryz.underlying29 rfl (by kernel_rfl) rfl) rfl (by
          have := PostDD.good (w := w) (W' := wE) (A := A1) (A' := A1') (c := c1) (c' := c1') HF.out (by rw [← HDD.out]; exact (hTE.pg HP4.out (by have := HD0.out.rb.lt; omega)).mono HD0.out.be.size (by rw [hTE.sz]; exact Nat.le_refl _)) (hTE.below HD4.out.be (by omega) HD4.out.be.size)
          rw [← HDD.out] at this
          unfold Delta.val at this
          rw [← HNI.out, ← HNK.out] at this
          exact this)
      · have HQ : Hid (decide (d.bytes d.kind = bs) = false) := Lib.hid (by simpa using hq)
        have HF : Hid (formD false bs = false) := Lib.hid (by unfold formD; rw [← HDD.out, HMB.out, HQ.out]; rfl)
        rw [HQ.out] at hnq
        clear hq
        have hnq2 : (s1.toList == s2.toList) = false := by simpa using hnq
        have hnq3 : (s1.toList != s2.toList) = true := by simpa using hnq
        clear hnq
        go_wp2_with (first
          | (refine wpList_store_row rfl 29 _ _ rfl rfl (w.heap.size + 1) rfl _ _ _ rfl HD4.out.rb rfl (by kernel_rfl) (List.all_eq_true.1 rfl) ?_; rintro wE hTE hE))
        exact bodyPost_ret (v := .tuple #[.agg #[Value.int IntKind.i64 0, Value.string { data := #[] }, Value.string { data := #[] }, Value.int IntKind.i64 0, Value.bool false, Value.string { data := #[] }, Value.int IntKind.i64 0, Value.int IntKind.i64 0, Value.string { data := #[] }, Value.string { data := #[] }, Value.bool false, Value.int IntKind.i64 0, Value.slice none 0 0, Value.slice none 0 0], .int .i64 111]) (results_row2 rfl _ _ (w.heap.size + 1) _ _ _ _ rfl hE Tryz.underlying29 rfl (by kernel_rfl) rfl) rfl (PostDD.bad HF.out (hTE.below HD4.out.be (by omega) HD4.out.be.size))
end Go.Proofs.YtjbdmaehomhdeaaGreat

namespace Go.Proofs.YtjbdmaehomhdeaaGreat
open Go.RowKit

set_option maxRecDepth 100000 in
set_option maxHeartbeats 20000000 in
/-- alike changes -/
theorem ref_SameD (d : Delta) (A1 A2 B1 B2 : Option Addr) (c1 c2 d1 d2 lo lo' : Nat) (w : World) (hp : Pg w lo w.heap.size d.right A1 A2 c1 c2) (hq : Pg w lo' w.heap.size d.right B1 B2 d1 d2) :
    Calls Tryz.prog 10 #[d.val A1 c1 A2 c2, d.val B1 d1 B2 d2] w fun e w' => e = .returned (.bool true) ∧ Below w.heap.size w w' := by
  have HSM := Lib.hid (fun (W : World) (h : Below w.heap.size w W) => ref_Same d.right d.right A1 A2 B1 B2 c1 c2 d1 d2 lo lo' W ((hp.below h).mono (Nat.le_refl _) h.size) ((hq.below h).mono (Nat.le_refl _) h.size))
  have HSS : Hid (d.right.same d.right = true) := Lib.hid (Page.same_yes rfl).symm
  rw [HSS.out] at HSM
  clear hp hq
  unfold Page.val Page.raw at HSM
  unfold Delta.val
  obtain ⟨ni, hni⟩ : ∃ n, n = d.right.items.length := ⟨_, rfl⟩
  obtain ⟨nk, hnk⟩ : ∃ n, n = d.right.kids.length := ⟨_, rfl⟩
  rw [← hni, ← hnk]
  rw [← hni, ← hnk] at HSM
  clear hni hnk
  have hF := Fr.two w 29 29 #[Value.int IntKind.i64 d.kind, Value.string d.item.key, Value.string d.item.value, Value.int IntKind.i64 d.item.no, Value.bool d.item.gone, Value.string d.key, Value.int IntKind.i64 d.page, Value.int IntKind.i64 d.right.level, Value.string d.right.low, Value.string d.right.high, Value.bool d.right.last, Value.int IntKind.i64 d.right.side, Value.slice A1 ni c1, Value.slice A2 nk c2] #[Value.int IntKind.i64 d.kind, Value.string d.item.key, Value.string d.item.value, Value.int IntKind.i64 d.item.no, Value.bool d.item.gone, Value.string d.key, Value.int IntKind.i64 d.page, Value.int IntKind.i64 d.right.level, Value.string d.right.low, Value.string d.right.high, Value.bool d.right.last, Value.int IntKind.i64 d.right.side, Value.slice B1 ni d1, Value.slice B2 nk d2]
  go_enter Tryz.func10, Tryz.ntmps10
  go_upto_region 1 with (fail)
  generalize ((w.alloc (.cells #[Value.int IntKind.i64 d.kind, Value.string d.item.key, Value.string d.item.value, Value.int IntKind.i64 d.item.no, Value.bool d.item.gone, Value.string d.key, Value.int IntKind.i64 d.page, Value.int IntKind.i64 d.right.level, Value.string d.right.low, Value.string d.right.high, Value.bool d.right.last, Value.int IntKind.i64 d.right.side, Value.slice A1 ni c1, Value.slice A2 nk c2] 29)).alloc (.cells #[Value.int IntKind.i64 d.kind, Value.string d.item.key, Value.string d.item.value, Value.int IntKind.i64 d.item.no, Value.bool d.item.gone, Value.string d.key, Value.int IntKind.i64 d.page, Value.int IntKind.i64 d.right.level, Value.string d.right.low, Value.string d.right.high, Value.bool d.right.last, Value.int IntKind.i64 d.right.side, Value.slice B1 ni d1, Value.slice B2 nk d2] 29)) = w0 at *
  have HF0 := Lib.hid hF
  clear hF
  obtain ⟨a0, a1, a2, a3, a4, a5, a6, a7, a8, a9, a10, a11, a12, a13⟩ := Blk.cells14 HF0.out.b0
  obtain ⟨b0, b1, b2, b3, b4, b5, b6, b7, b8, b9, b10, b11, b12, b13⟩ := Blk.cells14 HF0.out.b1
  go_wp2_with fail
  refine (HSM.out w0 HF0.out.be).mono ?_
  rintro e w1 ⟨rfl, hb1⟩
  have HF1 := Lib.hid (HF0.out.on hb1)
  clear hb1 a0 a1 a2 a3 a4 a5 a6 a7 a8 a9 a10 a11 a12 a13 b0 b1 b2 b3 b4 b5 b6 b7 b8 b9 b10 b11 b12 b13
  obtain ⟨a0, a1, a2, a3, a4, a5, a6, a7, a8, a9, a10, a11, a12, a13⟩ := Blk.cells14 HF1.out.b0
  obtain ⟨b0, b1, b2, b3, b4, b5, b6, b7, b8, b9, b10, b11, b12, b13⟩ := Blk.cells14 HF1.out.b1
  have heq : ∀ W, (binOp .eql 23 (.agg #[Value.string d.item.key, Value.string d.item.value, Value.int IntKind.i64 d.item.no, Value.bool d.item.gone]) (.agg #[Value.string d.item.key, Value.string d.item.value, Value.int IntKind.i64 d.item.no, Value.bool d.item.gone])).run Tryz.prog W = .ok (.bool true) W := fun W => by rw [eql_item, Item.same_self]
  go_wp2
  go_ret
  exact ⟨rfl, HF1.out.be⟩
set_option maxRecDepth 100000 in
set_option maxHeartbeats 20000000 in
/-- alike nodes -/
theorem ref_SameN (b : Bool) (bs : List Nat) (n : Nat) (hn : bs.length = n) (A B : Option Addr) (c d lo hi lo' hi' : Nat) (w : World) (hA : Rd byteCell 1 w lo hi A bs) (hh : hi ≤ w.heap.size) (hB : Rd byteCell 1 w lo' hi' B bs) (hh' : hi' ≤ w.heap.size) (hb : ∀ x ∈ bs, x < 256) :
    Calls Tryz.prog 13 #[.agg #[Value.bool b, Value.slice A n c], .agg #[Value.bool b, Value.slice B n d]] w fun e w' => e = .returned (.bool true) ∧ Below w.heap.size w w' := by
  have hF := Fr.two w 34 34 #[Value.bool b, Value.slice A n c] #[Value.bool b, Value.slice B n d]
  have HA := Lib.hid (hA.below (hF.be.mono hh))
  have HB := Lib.hid (hB.below (hF.be.mono hh'))
  have HS := Lib.hid hb
  have HN := Lib.hid hn
  clear hA hB hb hh hh' hn
  go_enter Tryz.func13, Tryz.ntmps13
  go_upto_region 1 with (fail)
  generalize (w.alloc (.cells #[Value.bool b, Value.slice A n c] 34)).alloc (.cells #[Value.bool b, Value.slice B n d] 34) = w0 at *
  have HF0 := Lib.hid hF
  clear hF
  obtain ⟨a0, a1⟩ := Blk.cells2' HF0.out.b0
  obtain ⟨b0, b1⟩ := Blk.cells2' HF0.out.b1
  have hcv1 : (convert 32 9 (.slice A n c)).run Tryz.prog w0 = .ok (.string (strOf bs)) w0 := conv_str HA.out HN.out HS.out
  have hcv2 : (convert 32 9 (.slice B n d)).run Tryz.prog w0 = .ok (.string (strOf bs)) w0 := conv_str HB.out HN.out HS.out
  generalize strOf bs = s8 at hcv1 hcv2
  go_wp2
  go_ret
  exact ⟨rfl, HF0.out.be⟩
set_option maxRecDepth 100000 in
set_option maxHeartbeats 20000000 in
/-- a node whose bytes are one's own -/
theorem law_own (b : Bool) (bs : List Nat) (n : Nat) (hn : bs.length = n) (A : Option Addr) (c lo hi : Nat) (w : World) (hA : Rd byteCell 1 w lo hi A bs) (hh : hi ≤ w.heap.size) (hl : bs.length ≤ 140737488351232) :
    Calls Tryz.prog 16 #[.agg #[Value.bool b, Value.slice A n c]] w fun e w' => (∃ v, e = .returned (.agg #[.bool b, v]) ∧ OwnB w' w.heap.size v bs) ∧ Below w.heap.size w w' := by
  have hF := Fr.two w 34 34 #[Value.bool b, Value.slice A n c] #[Value.bool false, Value.slice none 0 0]
  have HA := Lib.hid (hA.below (hF.be.mono hh))
  have HH := Lib.hid hh
  have HL := Lib.hid hl
  have HN := Lib.hid hn
  clear hA hl hh hn
  go_enter Tryz.func16, Tryz.ntmps16
  go_upto_region 1 with (fail)
  generalize (w.alloc (.cells #[Value.bool b, Value.slice A n c] 34)).alloc (.cells #[Value.bool false, Value.slice none 0 0] 34) = w0 at *
  have HF0 := Lib.hid hF
  clear hF
  obtain ⟨a0, a1⟩ := Blk.cells2' HF0.out.b0
  have hw0 := HF0.out.sz
  go_upto_region 3 with (at_builtin; (refine appB47 w0 rfl (.tmp 4) (.tmp 6) rfl (w.heap.size + 2) (.slice none 0 0) [] bs A c lo hi rfl (OwnB.nil _ _) (by rw [HN.out]; rfl) HA.out (by simp only [List.length_nil]; have := HL.out; omega) hw0 ?_); intro v1 w1 hO1 hG1; rw [List.nil_append] at hO1; have hB1 := hG1.below hw0 (fun k hk => by simp [Value.ownBlock] at hk); obtain ⟨A2, c2, rfl, _, _, _⟩ := OwnB.form hO1 HN.out; have HO1 := Lib.hid hO1; have HF1 := Lib.hid (HF0.out.on' (B := w.heap.size + 2) hB1 (Nat.le_refl _) hw0); have f1 := HF1.out.b0.frozen 1; have k1 := HF1.out.b0.cell 1; clear hO1 hG1 hB1)
  have HF2 := Lib.hid (HF1.out.set0 1 (Value.slice A2 n c2) rfl)
  have HO2 : Hid (OwnB (w1.setCell ⟨w.heap.size, 1, none⟩ (Value.slice A2 n c2)) (w.heap.size + 2) (Value.slice A2 n c2) bs) := Lib.hid (HO1.out.keepH fun k hk => by
    have h1 := HO1.out.block k hk
    exact Below.heap_setCell _ _ _ k (by simp; omega))
  generalize w1.setCell ⟨w.heap.size, 1, none⟩ (Value.slice A2 n c2) = w2 at *
  clear f1 k1 HF1 HO1
  go_wp2_with (first
    | (refine wpList_load_row rfl 34 _ rfl (w.heap.size) rfl 34 _ (0, 0) _ HF2.out.b0 Tryz.underlying34 rfl (by kernel_rfl) ?_)
    | (refine wpList_store_row rfl 34 _ _ rfl rfl (w.heap.size + 1) rfl _ _ _ rfl HF2.out.b1 rfl (by kernel_rfl) (List.all_eq_true.1 rfl) ?_; rintro w3 hT3 hB3))
  exact bodyPost_ret (v := .agg #[Value.bool b, Value.slice A2 n c2]) (results_cell_row rfl _ _ (w.heap.size + 1) _ _ _ _ rfl hB3 Tryz.underlying34 rfl (by kernel_rfl)) rfl ⟨⟨_, rfl, (HO2.out.keepH fun k hk => by
    have h1 := HO2.out.block k hk
    exact hT3.other (by omega)).mono (by omega)⟩, hT3.below HF2.out.be (by omega) HF2.out.be.size⟩
end Go.Proofs.YtjbdmaehomhdeaaGreat

namespace Go.Proofs.YtjbdmaehomhdeaaGreat
open Go.RowKit

set_option maxRecDepth 100000 in
set_option maxHeartbeats 20000000 in
theorem law_DeltaReads (x : NV) (w : World) (hx : Nd w x) :
    Calls Tryz.prog 4 #[x.val] w fun e w' => e = .returned (.bool true) ∧ Below w.heap.size w w' := by
  obtain ⟨b, A, c, bs⟩ := x
  obtain ⟨hr, hc, hs, hl⟩ := hx
  simp only at hr hc hs hl
  have HRD := Lib.hid (fun (W : World) (h : Rd byteCell 1 W 0 W.heap.size A bs) => ref_DecodeD 0 c b A bs W h hc hs hl)
  have HR := Lib.hid hr
  have HS := Lib.hid hs
  have HL := Lib.hid hl
  clear hr hc hs hl
  unfold NV.val
  simp only
  obtain ⟨nb, hnb⟩ : ∃ n, n = bs.length := ⟨_, rfl⟩
  rw [← hnb]
  rw [← hnb] at HRD
  have HNB := Lib.hid hnb
  clear hnb
  have hnl : nb ≤ 140737488351232 := by rw [HNB.out]; exact HL.out
  have hF := Fr.one w 34 #[Value.bool b, Value.slice A nb c]
  go_enter Tryz.func4, Tryz.ntmps4
  go_upto_region 1 with (fail)
  generalize w.alloc (.cells #[Value.bool b, Value.slice A nb c] 34) = w0 at *
  have HF0 := Lib.hid hF
  clear hF
  go_wp2_with fail
  refine (awake11 w0).mono ?_
  rintro e w1 ⟨rfl, hb1⟩
  have HF1 := Lib.hid (HF0.out.on hb1)
  have HR1 : Hid (Rd byteCell 1 w1 0 w.heap.size A bs) := Lib.hid (HR.out.below HF1.out.be)
  have hs1 : w.heap.size + 1 ≤ w1.heap.size := HF1.out.sz
  clear hb1 HF0
  go_wp2_with (refine wpList_load_row rfl 34 _ rfl (w.heap.size) rfl 34 _ (0, 0) _ HF1.out.b0 Tryz.underlying34 rfl (by kernel_rfl) ?_)
  refine (law_own b bs nb HNB.out.symm A c 0 w.heap.size w1 HR1.out (by omega) HL.out).mono ?_
  rintro e w2 ⟨⟨v2, rfl, hO2⟩, hb2⟩
  obtain ⟨A2, c2, rfl, hc2, hR2, _⟩ := OwnB.form hO2 HNB.out.symm
  have HO2 := Lib.hid hO2
  have HR2 := Lib.hid hR2
  have HC2 := Lib.hid hc2
  have HF2 := Lib.hid (HF1.out.on hb2)
  have hs2 := hb2.size
  have HA2 : Hid (∀ k, A2.map (·.block) = some k → w1.heap.size ≤ k ∧ k < w2.heap.size) := Lib.hid fun k hk => by
    rcases HO2.out.2 with ⟨e, _⟩ | ⟨g, cap, cur, e, hg, hh, _⟩
    · injection e with e1 e2 e3
      subst e1; simp at hk
    · injection e with e1 e2 e3
      subst e1
      simp at hk
      subst hk
      exact ⟨hg, Blk.lt (cs := cur) (t := 5) hh⟩
  clear hO2 hb2 hR2 hc2 HR1 HF1
  go_upto_region 3 with (fail)
  have hb3 : Below w2.heap.size w2 (w2.alloc (.cells #[Value.bool b, Value.slice A2 nb c2] 34)) := (Below.refl _ _).alloc (Nat.le_refl _) _
  have hk3 : Blk (w2.alloc (.cells #[Value.bool b, Value.slice A2 nb c2] 34)) w2.heap.size 34 #[Value.bool b, Value.slice A2 nb c2] := Blk.new _ _ _
  generalize w2.alloc (.cells #[Value.bool b, Value.slice A2 nb c2] 34) = w3 at *
  have HF3 := Lib.hid (HF2.out.on hb3)
  have HR3 := Lib.hid ((HR2.out.below hb3).mono (Nat.le_refl _) hb3.size)
  have HB23 := Lib.hid hb3
  obtain ⟨g3, hg3⟩ : ∃ g, g = w2.heap.size := ⟨_, rfl⟩
  rw [← hg3] at hk3
  rw [← hg3]
  have HK3 := Lib.hid hk3
  have hs3 : g3 < w3.heap.size := hk3.lt
  have HG3 := Lib.hid hg3
  clear hb3 hk3 hg3
  obtain ⟨n0, n1⟩ := Blk.cells2' HK3.out
  go_wp2_with fail
  have HD := delta_Decode w1.heap.size c2 b A2 bs w3 HR3.out (by rw [← HNB.out]; exact HC2.out) HS.out HL.out
  rw [← HNB.out] at HD
  refine HD.mono ?_
  rintro e w4 ⟨A4, A4', c4, c4', rfl, hP4, hb4⟩
  clear HD n0 n1
  obtain ⟨d, hd⟩ : ∃ q, q = decodedD b bs := ⟨_, rfl⟩
  obtain ⟨en, hen⟩ : ∃ n, n = decodeDE b bs := ⟨_, rfl⟩
  rw [← hd] at hP4
  rw [← hd, ← hen]
  obtain ⟨ni, hni⟩ : ∃ n, n = d.right.items.length := ⟨_, rfl⟩
  obtain ⟨nk, hnk⟩ : ∃ n, n = d.right.kids.length := ⟨_, rfl⟩
  unfold Delta.val
  rw [← hni, ← hnk]
  have HDD := Lib.hid hd
  have HEN := Lib.hid hen
  have HNI := Lib.hid hni
  have HNK := Lib.hid hnk
  have HP4 := Lib.hid hP4
  have HF4 := Lib.hid (HF3.out.on hb4)
  have HK4 := Lib.hid (HK3.out.below hb4 HK3.out.lt)
  have HB34 := Lib.hid hb4
  have hs4 := hb4.size
  clear hd hen hni hnk hP4 hb4 HR2 HR3 HF2 HF3
  go_wp2_with fail
  have hb5 : Below w4.heap.size w4 (w4.alloc (.cells #[Value.int IntKind.i64 d.kind, Value.string d.item.key, Value.string d.item.value, Value.int IntKind.i64 d.item.no, Value.bool d.item.gone, Value.string d.key, Value.int IntKind.i64 d.page, Value.int IntKind.i64 d.right.level, Value.string d.right.low, Value.string d.right.high, Value.bool d.right.last, Value.int IntKind.i64 d.right.side, Value.slice A4 ni c4, Value.slice A4' nk c4'] 29)) := (Below.refl _ _).alloc (Nat.le_refl _) _
  have hk5 : Blk (w4.alloc (.cells #[Value.int IntKind.i64 d.kind, Value.string d.item.key, Value.string d.item.value, Value.int IntKind.i64 d.item.no, Value.bool d.item.gone, Value.string d.key, Value.int IntKind.i64 d.page, Value.int IntKind.i64 d.right.level, Value.string d.right.low, Value.string d.right.high, Value.bool d.right.last, Value.int IntKind.i64 d.right.side, Value.slice A4 ni c4, Value.slice A4' nk c4'] 29)) w4.heap.size 29 #[Value.int IntKind.i64 d.kind, Value.string d.item.key, Value.string d.item.value, Value.int IntKind.i64 d.item.no, Value.bool d.item.gone, Value.string d.key, Value.int IntKind.i64 d.page, Value.int IntKind.i64 d.right.level, Value.string d.right.low, Value.string d.right.high, Value.bool d.right.last, Value.int IntKind.i64 d.right.side, Value.slice A4 ni c4, Value.slice A4' nk c4'] := Blk.new _ _ _
  generalize w4.alloc (.cells #[Value.int IntKind.i64 d.kind, Value.string d.item.key, Value.string d.item.value, Value.int IntKind.i64 d.item.no, Value.bool d.item.gone, Value.string d.key, Value.int IntKind.i64 d.page, Value.int IntKind.i64 d.right.level, Value.string d.right.low, Value.string d.right.high, Value.bool d.right.last, Value.int IntKind.i64 d.right.side, Value.slice A4 ni c4, Value.slice A4' nk c4'] 29) = w5 at *
  have HF5 := Lib.hid (HF4.out.on hb5)
  have HI5 := Lib.hid (HK4.out.below hb5 HK4.out.lt)
  have HP5 := Lib.hid (HP4.out.below hb5)
  have HB25 : Hid (Below w2.heap.size w2 w5) := Lib.hid (HB23.out.trans ((HB34.out.mono HB23.out.size).trans (hb5.mono (by have := HB23.out.size; omega))))
  have hs5 := hb5.size
  obtain ⟨g5, hg5⟩ : ∃ g, g = w4.heap.size := ⟨_, rfl⟩
  rw [← hg5] at hk5
  rw [← hg5]
  have HK5 := Lib.hid hk5
  have HG5 := Lib.hid hg5
  clear hb5 hk5 hg5 HP4 HF4 HK4 HK3 HB34 HB23
  -- the owner writes over his bytes
  have HX : Hid (∀ j, j < nb → ∃ g cur, A2 = some ⟨g, 0, none⟩ ∧ w1.heap.size ≤ g ∧ g < w2.heap.size ∧ cur.size = c2 ∧ nb ≤ c2 ∧ Blk w5 g 5 cur) := Lib.hid fun j hj => by
    obtain ⟨g, cur, e, h1, h2, _, h3, h4⟩ := own_block HO2.out HNB.out.symm (by omega)
    exact ⟨g, cur, e, h1, h4.lt, h3, h2, h4.below HB25.out h4.lt⟩
  go_loopw [7] (fun i wr => ∃ j : Nat, j ≤ nb ∧ i = .int .i64 j ∧ Hid (∀ k, A2.map (·.block) ≠ some k → wr.heap[k]? = w5.heap[k]?) ∧ Hid (wr.heap.size = w5.heap.size ∧ wr.os = w5.os ∧ wr.tape = w5.tape ∧ wr.output = w5.output) ∧ Hid (∀ l, l < nb → ∃ g cur, A2 = some ⟨g, 0, none⟩ ∧ w1.heap.size ≤ g ∧ g < w2.heap.size ∧ cur.size = c2 ∧ nb ≤ c2 ∧ Blk wr g 5 cur)) (fun i _ => nb - (intOf i).toNat)
  case atStart => exact ⟨0, Nat.zero_le _, rfl, Lib.hid (fun _ _ => rfl), Lib.hid ⟨rfl, rfl, rfl, rfl⟩, HX⟩
  case round =>
    obtain ⟨j, hj, rfl, HF, HZ, HXr⟩ := hrel
    have HIr : Hid (Blk wr g3 34 #[Value.bool b, Value.slice A2 nb c2]) := Lib.hid ((HF.out _ (fun e => by have := (HA2.out _ e).2; have := HG3.out; omega)).trans HI5.out)
    obtain ⟨n0, n1⟩ := Blk.cells2' HIr.out
    by_cases hlt : j < nb
    · obtain ⟨g, cur, rfl, hg1, hg2, hcs, hnc, hblk⟩ := HXr.out j hlt
      have HBK := Lib.hid hblk
      have hji : (j : Int) < (nb : Int) := by omega
      have hj0 : (0 : Int) ≤ (j : Int) := by omega
      have cj : wr.cell? ⟨g, j, none⟩ = some cur[j] := (hblk.cell j).trans (Array.getElem?_eq_getElem (by omega))
      have fj := hblk.frozen j
      have HCS := Lib.hid hcs
      generalize cur[j] = oj at cj
      clear hblk hcs
      go_wp2
      go_roundw
      case rel =>
        refine ⟨j + 1, by omega, by go_num, Lib.hid (fun k hk => ?_), Lib.hid ?_, Lib.hid (fun l hl => ?_)⟩
        · rw [Below.heap_setCell wr _ _ k (fun e => hk (by simp [e]))]
          exact HF.out k hk
        · exact ⟨by simpa using HZ.out.1, HZ.out.2.1, HZ.out.2.2.1, HZ.out.2.2.2⟩
        · exact ⟨g, _, rfl, hg1, hg2, by simpa using HCS.out, hnc, HBK.out.set_ j _⟩
      case measure => simp [intOf]; omega
    · obtain rfl : j = nb := by omega
      have HBr : Hid (Below w.heap.size w wr) := Lib.hid (by
        have h4 := HF5.out.be
        refine ⟨HZ.out.2.1.trans h4.os, HZ.out.2.2.1.trans h4.tape, HZ.out.2.2.2.trans h4.output, by rw [HZ.out.1]; exact h4.size, fun k hk => ?_⟩
        rw [HF.out k (fun e => by have := (HA2.out k e).1; omega)]
        exact h4.block k hk)
      have HFr : Hid (Fr w wr [(34, #[Value.bool b, Value.slice A j c])]) := Lib.hid ⟨HBr.out, by rw [HZ.out.1]; exact HF5.out.sz, fun k t cs hk => by
        have hk1 : k < 1 := (List.getElem?_eq_some_iff.1 hk).1
        exact (HF.out _ (fun e => by have := (HA2.out _ e).1; omega)).trans (HF5.out.bl k t cs hk)⟩
      have HPr : Hid (Pg wr w3.heap.size wr.heap.size d.right A4 A4' c4 c4') := Lib.hid (by
        have key : ∀ q : Addr, w3.heap.size ≤ q.block → q.block < w4.heap.size → wr.cell? q = w5.cell? q := fun q h1 h2 => World.cell?_of_block (HF.out q.block (fun e => by have := (HA2.out _ e).2; have := HG3.out; omega))
        exact Pg.mono ⟨HP5.out.items.keep key, HP5.out.kids.keep key, HP5.out.li, HP5.out.lk, HP5.out.bi, HP5.out.bk⟩ (Nat.le_refl _) (by rw [HZ.out.1]; exact hs5))
      have HK5r : Hid (Blk wr g5 29 #[Value.int IntKind.i64 d.kind, Value.string d.item.key, Value.string d.item.value, Value.int IntKind.i64 d.item.no, Value.bool d.item.gone, Value.string d.key, Value.int IntKind.i64 d.page, Value.int IntKind.i64 d.right.level, Value.string d.right.low, Value.string d.right.high, Value.bool d.right.last, Value.int IntKind.i64 d.right.side, Value.slice A4 ni c4, Value.slice A4' nk c4']) := Lib.hid ((HF.out _ (fun e => by have := (HA2.out _ e).2; have := HG3.out; have := HG5.out; omega)).trans HK5.out)
      have hsr : w3.heap.size ≤ wr.heap.size := by rw [HZ.out.1]; omega
      clear HF HZ HXr HX HP5 HK5 HF5 HI5 HIr hj hlt HO2 HA2 HB25
      go_wp2_with (refine wpList_load_row rfl 34 _ rfl (w.heap.size) rfl 34 _ (0, 0) _ HFr.out.b0 Tryz.underlying34 rfl (by kernel_rfl) ?_)
      refine (HRD.out wr ((HR.out.below HBr.out).mono (Nat.le_refl _) HBr.out.size)).mono ?_
      rintro e w6 ⟨A6, A6', c6, c6', rfl, hP6, hb6⟩
      rw [← HDD.out] at hP6
      rw [← HDD.out, ← HEN.out]
      unfold Delta.val
      rw [← HNI.out, ← HNK.out]
      have HF6 := Lib.hid (HFr.out.on hb6)
      have HK56 := Lib.hid (HK5r.out.below hb6 HK5r.out.lt)
      have HP6 := Lib.hid hP6
      have HP46 := Lib.hid ((HPr.out.below hb6).mono (Nat.le_refl _) hb6.size)
      have hs6 := hb6.size
      clear hP6 hb6 n0 n1
      go_upto_region 9 with (fail)
      have hb7 : Below w6.heap.size w6 (w6.alloc (.cells #[Value.int IntKind.i64 d.kind, Value.string d.item.key, Value.string d.item.value, Value.int IntKind.i64 d.item.no, Value.bool d.item.gone, Value.string d.key, Value.int IntKind.i64 d.page, Value.int IntKind.i64 d.right.level, Value.string d.right.low, Value.string d.right.high, Value.bool d.right.last, Value.int IntKind.i64 d.right.side, Value.slice A6 ni c6, Value.slice A6' nk c6'] 29)) := (Below.refl _ _).alloc (Nat.le_refl _) _
      have hk7 : Blk (w6.alloc (.cells #[Value.int IntKind.i64 d.kind, Value.string d.item.key, Value.string d.item.value, Value.int IntKind.i64 d.item.no, Value.bool d.item.gone, Value.string d.key, Value.int IntKind.i64 d.page, Value.int IntKind.i64 d.right.level, Value.string d.right.low, Value.string d.right.high, Value.bool d.right.last, Value.int IntKind.i64 d.right.side, Value.slice A6 ni c6, Value.slice A6' nk c6'] 29)) w6.heap.size 29 #[Value.int IntKind.i64 d.kind, Value.string d.item.key, Value.string d.item.value, Value.int IntKind.i64 d.item.no, Value.bool d.item.gone, Value.string d.key, Value.int IntKind.i64 d.page, Value.int IntKind.i64 d.right.level, Value.string d.right.low, Value.string d.right.high, Value.bool d.right.last, Value.int IntKind.i64 d.right.side, Value.slice A6 ni c6, Value.slice A6' nk c6'] := Blk.new _ _ _
      generalize w6.alloc (.cells #[Value.int IntKind.i64 d.kind, Value.string d.item.key, Value.string d.item.value, Value.int IntKind.i64 d.item.no, Value.bool d.item.gone, Value.string d.key, Value.int IntKind.i64 d.page, Value.int IntKind.i64 d.right.level, Value.string d.right.low, Value.string d.right.high, Value.bool d.right.last, Value.int IntKind.i64 d.right.side, Value.slice A6 ni c6, Value.slice A6' nk c6'] 29) = w7 at *
      have HF7 := Lib.hid (HF6.out.on hb7)
      have HK57 := Lib.hid (HK56.out.below hb7 HK56.out.lt)
      have HP67 := Lib.hid ((HP6.out.below hb7).mono (Nat.le_refl _) hb7.size)
      have HP47 := Lib.hid ((HP46.out.below hb7).mono (Nat.le_refl _) hb7.size)
      have hs7 := hb7.size
      obtain ⟨g7, hg7⟩ : ∃ g, g = w6.heap.size := ⟨_, rfl⟩
      rw [← hg7] at hk7
      rw [← hg7]
      have HK7 := Lib.hid hk7
      clear hb7 hk7 hg7 HF6 HK56 HP6 HP46
      have HSA := Lib.hid (ref_SameD d A4 A4' A6 A6' c4 c4' c6 c6' _ _ w7 HP47.out HP67.out)
      unfold Delta.val at HSA
      rw [← HNI.out, ← HNK.out] at HSA
      go_wp2_with (first
    | (refine wpList_load_row rfl 29 _ rfl (g5) rfl 29 _ (0, 0) _ HK57.out Tryz.underlying29 rfl (by kernel_rfl) ?_)
    | (refine wpList_load_row rfl 29 _ rfl (g7) rfl 29 _ (0, 0) _ HK7.out Tryz.underlying29 rfl (by kernel_rfl) ?_))
      refine HSA.out.mono ?_
      rintro e w8 ⟨rfl, hb8⟩
      have HF8 := Lib.hid (HF7.out.on hb8)
      have HK58 := Lib.hid (HK57.out.below hb8 HK57.out.lt)
      have HP48 := Lib.hid ((HP47.out.below hb8).mono (Nat.le_refl _) hb8.size)
      have hs8 := hb8.size
      clear hb8 HSA HF7 HK57 HP47 HP67 HK7
      cases hfm : formD b bs with
      | false =>
        have he : en = 111 := by rw [HEN.out]; unfold decodeDE; rw [hfm]; rfl
        have HF := Lib.hid hfm
        clear hfm HEN
        subst he
        go_wp2
        go_ret
        exact ⟨rfl, HF8.out.be⟩
      | true =>
        have he : en = 0 := by rw [HEN.out]; unfold decodeDE; rw [hfm]; rfl
        have hqt : d = toldD bs := by rw [HDD.out]; unfold decodedD; rw [hfm]; rfl
        have hfm2 := hfm
        unfold formD at hfm2
        rw [Bool.and_eq_true, Bool.and_eq_true, decide_eq_true_eq, ← hqt] at hfm2
        obtain ⟨hb0, hmb, hby⟩ := hfm2
        have hbf : b = false := by cases b; rfl; cases hb0
        have HMB := Lib.hid hmb
        have HBY := Lib.hid hby
        clear hfm hqt hb0 hmb hby HEN HRD HDD
        subst he hbf
        have HE := Lib.hid (delta_Encode d A4 A4' c4 c4' w3.heap.size w8 HP48.out)
        unfold Delta.val at HE
        rw [← HNI.out, ← HNK.out, HMB.out] at HE
        simp only [cond_true] at HE
        rw [HBY.out] at HE
        go_wp2_with (refine wpList_load_row rfl 29 _ rfl (g5) rfl 29 _ (0, 0) _ HK58.out Tryz.underlying29 rfl (by kernel_rfl) ?_)
        refine HE.out.mono ?_
        rintro e w9 ⟨v9, rfl, hO9, hb9⟩
        obtain ⟨A9, c9, rfl, _, hR9, _⟩ := OwnB.form hO9 HNB.out.symm
        have HF9 := Lib.hid (HF8.out.on hb9)
        have HR9 := Lib.hid hR9
        clear hO9 hb9 hR9 HE
        go_upto_region 13 with (fail)
        have hb10 : Below w9.heap.size w9 (w9.alloc (.cells #[Value.bool false, Value.slice A9 j c9] 34)) := (Below.refl _ _).alloc (Nat.le_refl _) _
        have hk10 : Blk (w9.alloc (.cells #[Value.bool false, Value.slice A9 j c9] 34)) w9.heap.size 34 #[Value.bool false, Value.slice A9 j c9] := Blk.new _ _ _
        generalize w9.alloc (.cells #[Value.bool false, Value.slice A9 j c9] 34) = w10 at *
        have HF10 := Lib.hid (HF9.out.on hb10)
        have HR10 := Lib.hid (HR9.out.below hb10)
        have hs10 := hb10.size
        obtain ⟨g10, hg10⟩ : ∃ g, g = w9.heap.size := ⟨_, rfl⟩
        rw [← hg10] at hk10
        rw [← hg10]
        have HK10 := Lib.hid hk10
        have HRA : Hid (Rd byteCell 1 w10 0 w.heap.size A bs) := Lib.hid (HR.out.below HF10.out.be)
        have HSN := Lib.hid (ref_SameN false bs j HNB.out.symm A9 A c9 c _ _ _ _ w10 HR10.out hs10 HRA.out HF10.out.be.size HS.out)
        clear hb10 hk10 hg10 hs10
        obtain ⟨q0, q1⟩ := Blk.cells2' HK10.out
        obtain ⟨a0, a1⟩ := Blk.cells2' HF10.out.b0
        go_wp2_with (go_at_call 13; refine HSN.out.mono ?_; rintro e w11 ⟨rfl, hb11⟩; have HF11 := Lib.hid (HF10.out.on hb11); clear hb11)
        go_ret
        exact ⟨rfl, HF11.out.be⟩
end Go.Proofs.YtjbdmaehomhdeaaGreat
