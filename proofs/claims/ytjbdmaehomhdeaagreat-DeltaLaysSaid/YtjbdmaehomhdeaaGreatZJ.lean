/- The reference's Copied: a page's lists in memory of one's own. -/
import Derived.Test.YtjbdmaehomhdeaaGreatZG
import Derived.Test.YtjbdmaehomhdeaaGreatRowS
import Derived.Test.YtjbdmaehomhdeaaGreatZB
import Derived.Test.YtjbdmaehomhdeaaGreatZF
import Derived.Test.YtjbdmaehomhdeaaGreatZS
set_option linter.unusedSimpArgs false
set_option linter.unusedVariables false
namespace Go.Proofs.YtjbdmaehomhdeaaGreat
open Go.RowKit

/-- in the beginning of a row: a list's cells -/
def Has (cur : Array Value) (m : Nat) (cs : List Value) : Prop := cur.size = m ∧ cur.toList.take cs.length = cs
theorem Has.nil {cur : Array Value} {m : Nat} (h : cur.size = m) : Has cur m [] := ⟨h, rfl⟩
theorem Has.put {cur : Array Value} {m o : Nat} {cs x : List Value} (h : Has cur m cs) (ho : o = cs.length) (hx : cs.length + x.length ≤ m) : Has (rowPut cur o x) m (cs ++ x) := by
  subst ho
  have hl : cur.toList.length = m := by simp [h.1]
  refine ⟨by rw [rowPut_size (by rw [h.1]; exact hx), h.1], ?_⟩
  rw [rowPut_list, List.length_append, h.2, List.take_left' (by simp)]
theorem Has.ownItem {w : World} {base g n cap : Nat} {l : List Item} {cur : Array Value} (h : Has cur (cap * 4) (l.flatMap Item.cells)) (hb : Blk w g 23 cur) (hg : base ≤ g) (hl : n = l.length) (hn : n ≤ cap) (hm : cap ≤ maxLen) : OwnItem w base (.slice (some ⟨g, 0, none⟩) n cap) l := by
  have h2 := h.2
  rw [Item.cells_length] at h2
  exact ⟨by rw [Item.cells_length], .inr ⟨g, cap, cur, by rw [hl], hg, hb, by rw [← hl]; exact hn, hm, h.1, h2⟩⟩
theorem Item.take_next {l : List Item} {k : Nat} (h : k < l.length) : (l.take (k + 1)).flatMap Item.cells = (l.take k).flatMap Item.cells ++ l[k].cells := by
  rw [List.take_succ_eq_append_getElem h, List.flatMap_append]
  simp
theorem Has.ownKid {w : World} {base g n cap : Nat} {l : List Kid} {cur : Array Value} (h : Has cur (cap * 2) (l.flatMap Kid.cells)) (hb : Blk w g 61 cur) (hg : base ≤ g) (hl : n = l.length) (hn : n ≤ cap) (hm : cap ≤ maxLen) : OwnKid w base (.slice (some ⟨g, 0, none⟩) n cap) l := by
  have h2 := h.2
  rw [Kid.cells_length] at h2
  exact ⟨by rw [Kid.cells_length], .inr ⟨g, cap, cur, by rw [hl], hg, hb, by rw [← hl]; exact hn, hm, h.1, h2⟩⟩
theorem Kid.take_next {l : List Kid} {k : Nat} (h : k < l.length) : (l.take (k + 1)).flatMap Kid.cells = (l.take k).flatMap Kid.cells ++ l[k].cells := by
  rw [List.take_succ_eq_append_getElem h, List.flatMap_append]
  simp
/-- the page in a copy of one's own: its lists in rows with room for one more -/
def PostCp (w : World) (p : Page) (e : Ending) (w' : World) : Prop := ∃ g g', e = .returned (p.val (some ⟨g, 0, none⟩) (p.items.length + 1) (some ⟨g', 0, none⟩) (p.kids.length + 1)) ∧ g ≠ g' ∧ OwnItem w' w.heap.size (.slice (some ⟨g, 0, none⟩) p.items.length (p.items.length + 1)) p.items ∧ OwnKid w' w.heap.size (.slice (some ⟨g', 0, none⟩) p.kids.length (p.kids.length + 1)) p.kids ∧ Below w.heap.size w w'
set_option maxRecDepth 100000 in
set_option maxHeartbeats 20000000 in
theorem ref_Copied (p : Page) (A A' : Option Addr) (c c' lo : Nat) (w : World) (hp : Pg w lo w.heap.size p A A' c c') (hli : p.items.length ≤ 2932031007317) (hlk : p.kids.length ≤ 5864062014634) :
    Calls Tryz.prog 8 #[p.val A c A' c'] w (PostCp w p) := by
  have HP := Lib.hid hp
  clear hp
  unfold Page.val Page.raw
  obtain ⟨ni, hni⟩ : ∃ n, n = p.items.length := ⟨_, rfl⟩
  obtain ⟨nk, hnk⟩ : ∃ n, n = p.kids.length := ⟨_, rfl⟩
  rw [← hni, ← hnk]
  rw [← hni] at hli
  rw [← hnk] at hlk
  have HNI := Lib.hid hni
  have HNK := Lib.hid hnk
  clear hni hnk
  obtain ⟨i1, a1, b1, s1, y1⟩ := info_parts info_item
  obtain ⟨i2, a2, b2, s2, y2⟩ := info_parts info_kid
  have hmI := fun W => run_make_rowN (P := Tryz.prog) 24 23 i1 _ Tryz.underlying24 a1 b1 .i64 .i64 (ni + 1) (ni + 1) (Nat.le_refl _) (by rw [y1]; omega) (by omega) W
  have hmK := fun W => run_make_rowN (P := Tryz.prog) 25 61 i2 _ Tryz.underlying25 a2 b2 .i64 .i64 (nk + 1) (nk + 1) (Nat.le_refl _) (by rw [y2]; omega) (by omega) W
  simp only [s1, s2] at hmI hmK
  clear s1 s2 y1 y2 a1 a2 b1 b2
  generalize hzi : madeCells _ ((ni + 1) * 4) = zi at hmI
  generalize hzk : madeCells _ ((nk + 1) * 2) = zk at hmK
  have HZI : Hid (zi.size = (ni + 1) * 4) := Lib.hid (by rw [← hzi, size_madeCells])
  have HZK : Hid (zk.size = (nk + 1) * 2) := Lib.hid (by rw [← hzk, size_madeCells])
  clear hzi hzk
  have hF := ((Fr.two w 27 27 #[Value.int IntKind.i64 p.level, Value.string p.low, Value.string p.high, Value.bool p.last, Value.int IntKind.i64 p.side, Value.slice A ni c, Value.slice A' nk c'] #[Value.int IntKind.i64 0, Value.string { data := #[] }, Value.string { data := #[] }, Value.bool false, Value.int IntKind.i64 0, Value.slice none 0 0, Value.slice none 0 0]).alloc (by simp) 23 zi).alloc (by simp) 61 zk
  push_cast at hmI hmK
  go_enter Tryz.func8, Tryz.ntmps8
  go_upto_region 3 with (fail)
  generalize (((w.alloc (.cells #[Value.int IntKind.i64 p.level, Value.string p.low, Value.string p.high, Value.bool p.last, Value.int IntKind.i64 p.side, Value.slice A ni c, Value.slice A' nk c'] 27)).alloc (.cells #[Value.int IntKind.i64 0, Value.string { data := #[] }, Value.string { data := #[] }, Value.bool false, Value.int IntKind.i64 0, Value.slice none 0 0, Value.slice none 0 0] 27)).alloc (.cells zi 23)).alloc (.cells zk 61) = w0 at *
  have HF0 : Hid (Fr w w0 [(27, #[Value.int IntKind.i64 p.level, Value.string p.low, Value.string p.high, Value.bool p.last, Value.int IntKind.i64 p.side, Value.slice A ni c, Value.slice A' nk c']), (27, #[Value.int IntKind.i64 0, Value.string { data := #[] }, Value.string { data := #[] }, Value.bool false, Value.int IntKind.i64 0, Value.slice none 0 0, Value.slice none 0 0]), (23, zi), (61, zk)]) := Lib.hid hF
  clear hF hmI hmK
  go_wp2_with fail
  go_loopw [5] (fun i wr => ∃ k : Nat, k ≤ ni ∧ i = .int .i64 k ∧ Hid (∃ cur, Fr w wr [(27, #[Value.int IntKind.i64 p.level, Value.string p.low, Value.string p.high, Value.bool p.last, Value.int IntKind.i64 p.side, Value.slice A ni c, Value.slice A' nk c']), (27, #[Value.int IntKind.i64 0, Value.string { data := #[] }, Value.string { data := #[] }, Value.bool false, Value.int IntKind.i64 0, Value.slice none 0 0, Value.slice none 0 0]), (23, cur), (61, zk)] ∧ Has cur ((ni + 1) * 4) ((p.items.take k).flatMap Item.cells))) (fun i _ => ni - (intOf i).toNat)
  case atStart => exact ⟨0, Nat.zero_le _, rfl, Lib.hid ⟨zi, HF0.out, Has.nil HZI.out⟩⟩
  case round =>
    obtain ⟨k, hk, rfl, HX⟩ := hrel
    obtain ⟨cur, hfr, hcur⟩ := HX.out
    have HFr := Lib.hid hfr
    have HC := Lib.hid hcur
    clear hfr hcur HX
    obtain ⟨z0, z1, z2, z3, z4, z5, z6⟩ := Blk.cells7 HFr.out.b0
    by_cases hlt : k < ni
    · obtain ⟨ad, x, rfl, hx, h1, h2, c0, c1, c2, c3⟩ := (HP.out.items.below HFr.out.be).item (i := k) (by rw [← HNI.out]; exact hlt)
      have hk0 : (0 : Int) ≤ (k : Int) := by omega
      have hki : (k : Int) < (ni : Int) := by omega
      have hki2 : (k : Int) < (ni : Int) + 1 := by omega
      have hki3 : (k : Int) < ((ni + 1 : Nat) : Int) := by omega
      have hfit : k * 4 + x.cells.length ≤ cur.size := by rw [HC.out.1]; show k * 4 + 4 ≤ _; omega
      go_wp2_with (refine wpList_store_part rfl 23 _ _ rfl rfl (w.heap.size + 2) (k * 4) rfl 23 x.cells cur rfl HFr.out.b2 hfit (by kernel_rfl) (Item.one x) ?_; rintro wE hTE hE; have HFE := Lib.hid (HFr.out.t2 hTE hE); clear hTE hE)
      go_roundw
      case rel =>
        refine ⟨k + 1, by omega, by go_num, Lib.hid ⟨_, HFE.out, ?_⟩⟩
        have hlt' : k < p.items.length := by rw [← HNI.out]; exact hlt
        obtain rfl : p.items[k] = x := by have := hx.out; rw [List.getElem?_eq_getElem hlt'] at this; exact Option.some.inj this
        rw [Item.take_next hlt']
        exact HC.out.put (by rw [Item.cells_length, List.length_take, Nat.min_eq_left (by omega)]) (by rw [Item.cells_length, List.length_take, Nat.min_eq_left (by omega)]; show k * 4 + 4 ≤ _; omega)
      case measure => simp [intOf]; omega
    · obtain rfl : k = ni := by omega
      have HCI : Hid (Has cur ((k + 1) * 4) (p.items.flatMap Item.cells)) := Lib.hid (by have := HC.out; rw [List.take_of_length_le (by rw [← HNI.out]; exact Nat.le_refl _)] at this; exact this)
      clear HC hlt hk HF0
      go_wp2_with fail
      clear z0 z1 z2 z3 z4 z5 z6
      go_loopw [6] (fun i wr => ∃ j : Nat, j ≤ nk ∧ i = .int .i64 j ∧ Hid (∃ cur', Fr w wr [(27, #[Value.int IntKind.i64 p.level, Value.string p.low, Value.string p.high, Value.bool p.last, Value.int IntKind.i64 p.side, Value.slice A k c, Value.slice A' nk c']), (27, #[Value.int IntKind.i64 0, Value.string { data := #[] }, Value.string { data := #[] }, Value.bool false, Value.int IntKind.i64 0, Value.slice none 0 0, Value.slice none 0 0]), (23, cur), (61, cur')] ∧ Has cur' ((nk + 1) * 2) ((p.kids.take j).flatMap Kid.cells))) (fun i _ => nk - (intOf i).toNat)
      case atStart => exact ⟨0, Nat.zero_le _, rfl, Lib.hid ⟨zk, HFr.out, Has.nil HZK.out⟩⟩
      case round =>
        obtain ⟨j, hj, rfl, HX⟩ := hrel
        obtain ⟨cur', hfr, hcur⟩ := HX.out
        clear HFr
        have HFr := Lib.hid hfr
        have HC := Lib.hid hcur
        clear hfr hcur HX
        obtain ⟨z0, z1, z2, z3, z4, z5, z6⟩ := Blk.cells7 HFr.out.b0
        by_cases hlt : j < nk
        · obtain ⟨ad, x, rfl, hx, h1, h2, c0, c1⟩ := (HP.out.kids.below HFr.out.be).kid (i := j) (by rw [← HNK.out]; exact hlt)
          have hk0 : (0 : Int) ≤ (j : Int) := by omega
          have hki : (j : Int) < (nk : Int) := by omega
          have hki2 : (j : Int) < (nk : Int) + 1 := by omega
          have hki3 : (j : Int) < ((nk + 1 : Nat) : Int) := by omega
          have hfit : j * 2 + x.cells.length ≤ cur'.size := by rw [HC.out.1]; show j * 2 + 2 ≤ _; omega
          go_wp2_with (refine wpList_store_part rfl 61 _ _ rfl rfl (w.heap.size + 3) (j * 2) rfl 61 x.cells cur' rfl HFr.out.b3 hfit (by kernel_rfl) (Kid.one x) ?_; rintro wE hTE hE; have HFE := Lib.hid (HFr.out.turn (k := 3) hTE hE (by simp)); clear hTE hE)
          go_roundw
          case rel =>
            refine ⟨j + 1, by omega, by go_num, Lib.hid ⟨_, HFE.out, ?_⟩⟩
            have hlt' : j < p.kids.length := by rw [← HNK.out]; exact hlt
            obtain rfl : p.kids[j] = x := by have := hx.out; rw [List.getElem?_eq_getElem hlt'] at this; exact Option.some.inj this
            rw [Kid.take_next hlt']
            exact HC.out.put (by rw [Kid.cells_length, List.length_take, Nat.min_eq_left (by omega)]) (by rw [Kid.cells_length, List.length_take, Nat.min_eq_left (by omega)]; show j * 2 + 2 ≤ _; omega)
          case measure => simp [intOf]; omega
        · obtain rfl : j = nk := by omega
          have HCK : Hid (Has cur' ((j + 1) * 2) (p.kids.flatMap Kid.cells)) := Lib.hid (by have := HC.out; rw [List.take_of_length_le (by rw [← HNK.out]; exact Nat.le_refl _)] at this; exact this)
          clear HC hlt hj
          have f5 := HFr.out.b0.frozen 5
          go_upto_region 12 with (fail)
          have HF1 : Hid (Fr w (wr.setCell ⟨w.heap.size, 5, none⟩ (Value.slice (some ⟨w.heap.size + 2, 0, none⟩) k (k + 1))) ((27, #[Value.int IntKind.i64 p.level, Value.string p.low, Value.string p.high, Value.bool p.last, Value.int IntKind.i64 p.side, Value.slice (some ⟨w.heap.size + 2, 0, none⟩) k (k + 1), Value.slice A' j c']) :: (27, #[Value.int IntKind.i64 0, Value.string { data := #[] }, Value.string { data := #[] }, Value.bool false, Value.int IntKind.i64 0, Value.slice none 0 0, Value.slice none 0 0]) :: (23, cur) :: (61, cur') :: [])) := Lib.hid (HFr.out.set0 5 _ rfl)
          generalize wr.setCell ⟨w.heap.size, 5, none⟩ (Value.slice (some ⟨w.heap.size + 2, 0, none⟩) k (k + 1)) = wr1 at *
          clear z0 z1 z2 z3 z4 z5 z6 f5 HFr
          obtain ⟨z0, z1, z2, z3, z4, z5, z6⟩ := Blk.cells7 HF1.out.b0
          have f6 := HF1.out.b0.frozen 6
          go_upto_region 13 with (fail)
          have HF2 : Hid (Fr w (wr1.setCell ⟨w.heap.size, 6, none⟩ (Value.slice (some ⟨w.heap.size + 3, 0, none⟩) j (j + 1))) ((27, #[Value.int IntKind.i64 p.level, Value.string p.low, Value.string p.high, Value.bool p.last, Value.int IntKind.i64 p.side, Value.slice (some ⟨w.heap.size + 2, 0, none⟩) k (k + 1), Value.slice (some ⟨w.heap.size + 3, 0, none⟩) j (j + 1)]) :: (27, #[Value.int IntKind.i64 0, Value.string { data := #[] }, Value.string { data := #[] }, Value.bool false, Value.int IntKind.i64 0, Value.slice none 0 0, Value.slice none 0 0]) :: (23, cur) :: (61, cur') :: [])) := Lib.hid (HF1.out.set0 6 _ rfl)
          generalize wr1.setCell ⟨w.heap.size, 6, none⟩ (Value.slice (some ⟨w.heap.size + 3, 0, none⟩) j (j + 1)) = wr2 at *
          clear z0 z1 z2 z3 z4 z5 z6 f6 HF1
          go_wp2_with (first
    | (refine wpList_load_row rfl 27 _ rfl (w.heap.size) rfl 27 _ (0, 0) _ HF2.out.b0 Tryz.underlying27 rfl (by kernel_rfl) ?_)
    | (refine wpList_store_row rfl 27 _ _ rfl rfl (w.heap.size + 1) rfl _ _ _ rfl HF2.out.b1 rfl (by kernel_rfl) (List.all_eq_true.1 rfl) ?_; rintro w3 hT3 hB3))
          have HF3 := HF2.out.t1 hT3 hB3
          exact bodyPost_ret (v := .agg #[Value.int IntKind.i64 p.level, Value.string p.low, Value.string p.high, Value.bool p.last, Value.int IntKind.i64 p.side, Value.slice (some ⟨w.heap.size + 2, 0, none⟩) k (k + 1), Value.slice (some ⟨w.heap.size + 3, 0, none⟩) j (j + 1)]) (results_cell_row rfl _ _ (w.heap.size + 1) _ _ _ _ rfl hB3 Tryz.underlying27 rfl (by kernel_rfl)) rfl ⟨w.heap.size + 2, w.heap.size + 3, by unfold Page.val Page.raw; rw [← HNI.out, ← HNK.out], by omega, by rw [← HNI.out]; exact HCI.out.ownItem HF3.b2 (by omega) HNI.out (by omega) (by simp only [maxLen]; omega), by rw [← HNK.out]; exact HCK.out.ownKid HF3.b3 (by omega) HNK.out (by omega) (by simp only [maxLen]; omega), HF3.be⟩
end Go.Proofs.YtjbdmaehomhdeaaGreat

namespace Go.Proofs.YtjbdmaehomhdeaaGreat
open Go.RowKit

/-- all blocks but two as they were -/
structure But (w w' : World) (g g' : Nat) : Prop where
  os : w'.os = w.os
  tape : w'.tape = w.tape
  output : w'.output = w.output
  size : w.heap.size ≤ w'.heap.size
  block : ∀ k, k < w.heap.size → k ≠ g → k ≠ g' → w'.heap[k]? = w.heap[k]?
section
variable {w w1 w2 : World} {g g' k : Nat}
theorem But.refl (w : World) (g g' : Nat) : But w w g g' := ⟨rfl, rfl, rfl, Nat.le_refl _, fun _ _ _ _ => rfl⟩
theorem But.on (h : But w w1 g g') (hb : Below w1.heap.size w1 w2) : But w w2 g g' :=
  ⟨hb.os.trans h.os, hb.tape.trans h.tape, hb.output.trans h.output, Nat.le_trans h.size hb.size, fun k h1 h2 h3 => (hb.block k (Nat.lt_of_lt_of_le h1 h.size)).trans (h.block k h1 h2 h3)⟩
theorem But.turn (h : But w w1 g g') (hT : Turned w1 w2 k) (hk : k = g ∨ k = g') : But w w2 g g' := by
  have h0 := hT.below (Below.refl 0 w1) (Nat.zero_le _) (Nat.zero_le _)
  refine ⟨h0.os.trans h.os, h0.tape.trans h.tape, h0.output.trans h.output, by rw [hT.sz]; exact h.size, fun j h1 h2 h3 => ?_⟩
  rw [hT.other (by omega)]
  exact h.block j h1 h2 h3
theorem But.grown (h : But w w1 g g') (hG : w1.grownBy w2 (some k)) (hk : k = g ∨ k = g') : But w w2 g g' := by
  have h0 := Below.grown (Below.refl 0 w1) hG (Nat.zero_le _) (fun _ _ => Nat.zero_le _)
  refine ⟨h0.os.trans h.os, h0.tape.trans h.tape, h0.output.trans h.output, Nat.le_trans h.size h0.size, fun j h1 h2 h3 => ?_⟩
  rw [hG.block j (Nat.lt_of_lt_of_le h1 h.size) (fun e => by have := Option.some.inj e; omega)]
  exact h.block j h1 h2 h3
theorem But.set (h : But w w1 g g') (i : Nat) (u : Value) (hk : k = g ∨ k = g') : But w (w1.setCell ⟨k, i, none⟩ u) g g' :=
  ⟨h.os, h.tape, h.output, by simpa using h.size, fun j h1 h2 h3 => (Below.heap_setCell w1 ⟨k, i, none⟩ u j (by simp; omega)).trans (h.block j h1 h2 h3)⟩
end
theorem hasRow_alloc {w : World} {e : TypeId} {s g k : Nat} {cur : Array Value} (hb : Blk w g e cur) (hs : cur.size = (k + 1) * s) (hm : k + 1 ≤ maxLen) (o : Obj) : (w.alloc o).ownsRow 0 e s (.slice (some ⟨g, 0, none⟩) k (k + 1)) k (cur.toList.take (k * s)) := by
  refine ⟨?_, .inr ⟨g, k + 1, cur, rfl, Nat.zero_le _, hb.alloc o, Nat.le_succ _, hm, hs, rfl⟩⟩
  rw [List.length_take, Array.length_toList, hs]
  exact Nat.min_eq_left (Nat.mul_le_mul_right _ (Nat.le_succ _))
theorem ownsRow_blk {w : World} {base s g n cap m : Nat} {e : TypeId} {xs : List Value} (h : w.ownsRow base e s (.slice (some ⟨g, 0, none⟩) n cap) m xs) : ∃ cur, Blk w g e cur ∧ cur.size = cap * s ∧ base ≤ g := by
  rcases h.2 with ⟨e, _⟩ | ⟨g0, cap0, cur, e, hg, hb, hn, hm, hs, ht⟩
  · cases e
  · cases e
    exact ⟨cur, hb, hs, hg⟩
theorem new_cells {w : World} {e : TypeId} {cs : List Value} : ∀ j u, cs[j]? = some u → (w.alloc (.cells cs.toArray e)).cell? ((⟨w.heap.size, 0, none⟩ : Addr).add j) = some u := fun j u h => by
  rw [show (⟨w.heap.size, 0, none⟩ : Addr).add j = ⟨w.heap.size, j, none⟩ by unfold Addr.add; split <;> simp_all]
  rw [(Blk.new w e cs.toArray).cell j, List.getElem?_toArray]
  exact h
def qI : Item := ⟨⟨#[63]⟩, ⟨#[]⟩, 0, false⟩
def qK : Kid := ⟨⟨#[63]⟩, 0⟩
set_option maxRecDepth 100000 in
set_option maxHeartbeats 20000000 in
theorem ref_Spoilt (p : Page) (g g' base : Nat) (w : World) (hne : g ≠ g') (hI : OwnItem w base (.slice (some ⟨g, 0, none⟩) p.items.length (p.items.length + 1)) p.items) (hK : OwnKid w base (.slice (some ⟨g', 0, none⟩) p.kids.length (p.kids.length + 1)) p.kids) (hli : p.items.length ≤ 2932031007317) (hlk : p.kids.length ≤ 5864062014634) :
    Calls Tryz.prog 11 #[p.val (some ⟨g, 0, none⟩) (p.items.length + 1) (some ⟨g', 0, none⟩) (p.kids.length + 1)] w fun e w' => e = .returned (.tuple #[]) ∧ But w w' g g' := by
  obtain ⟨ci, hbi, hci, _⟩ := ownsRow_blk hI
  obtain ⟨ck, hbk, hck, _⟩ := ownsRow_blk hK
  have hgl := hbi.lt
  have hgl' := hbk.lt
  clear hI hK
  unfold Page.val Page.raw
  obtain ⟨ni, hni⟩ : ∃ n, n = p.items.length := ⟨_, rfl⟩
  obtain ⟨nk, hnk⟩ : ∃ n, n = p.kids.length := ⟨_, rfl⟩
  rw [← hni, ← hnk]
  rw [← hni] at hli hci
  rw [← hnk] at hlk hck
  clear hni hnk
  obtain ⟨i1, a1, b1, s1, y1⟩ := info_parts info_item
  obtain ⟨i2, a2, b2, s2, y2⟩ := info_parts info_kid
  clear b1 b2 y1 y2
  have HI1 := Lib.hid a1
  have HI2 := Lib.hid a2
  have HS1 := Lib.hid s1
  have HS2 := Lib.hid s2
  clear a1 a2 s1 s2
  have HCI := Lib.hid hci
  have HCK := Lib.hid hck
  have hbx : Blk (w.alloc (.cells #[Value.int IntKind.i64 p.level, Value.string p.low, Value.string p.high, Value.bool p.last, Value.int IntKind.i64 p.side, Value.slice (some ⟨g, 0, none⟩) ni (ni + 1), Value.slice (some ⟨g', 0, none⟩) nk (nk + 1)] 27)) w.heap.size 27 #[Value.int IntKind.i64 p.level, Value.string p.low, Value.string p.high, Value.bool p.last, Value.int IntKind.i64 p.side, Value.slice (some ⟨g, 0, none⟩) ni (ni + 1), Value.slice (some ⟨g', 0, none⟩) nk (nk + 1)] := Blk.new _ _ _
  have hbt : But w (w.alloc (.cells #[Value.int IntKind.i64 p.level, Value.string p.low, Value.string p.high, Value.bool p.last, Value.int IntKind.i64 p.side, Value.slice (some ⟨g, 0, none⟩) ni (ni + 1), Value.slice (some ⟨g', 0, none⟩) nk (nk + 1)] 27)) g g' := (But.refl w g g').on ((Below.refl _ _).alloc (Nat.le_refl _) _)
  have hbi0 := hbi.alloc (.cells #[Value.int IntKind.i64 p.level, Value.string p.low, Value.string p.high, Value.bool p.last, Value.int IntKind.i64 p.side, Value.slice (some ⟨g, 0, none⟩) ni (ni + 1), Value.slice (some ⟨g', 0, none⟩) nk (nk + 1)] 27)
  have hbk0 := hbk.alloc (.cells #[Value.int IntKind.i64 p.level, Value.string p.low, Value.string p.high, Value.bool p.last, Value.int IntKind.i64 p.side, Value.slice (some ⟨g, 0, none⟩) ni (ni + 1), Value.slice (some ⟨g', 0, none⟩) nk (nk + 1)] 27)
  obtain ⟨b0, hb0⟩ : ∃ b, b = w.heap.size := ⟨_, rfl⟩
  rw [← hb0] at hbx hgl hgl'
  clear hbi hbk hci hck
  go_enter Tryz.func11, Tryz.ntmps11
  go_upto_region 1 with (fail)
  rw [← hb0]
  generalize w.alloc (.cells #[Value.int IntKind.i64 p.level, Value.string p.low, Value.string p.high, Value.bool p.last, Value.int IntKind.i64 p.side, Value.slice (some ⟨g, 0, none⟩) ni (ni + 1), Value.slice (some ⟨g', 0, none⟩) nk (nk + 1)] 27) = w0 at *
  clear hb0
  have HX : Hid (Blk w0 b0 27 #[Value.int IntKind.i64 p.level, Value.string p.low, Value.string p.high, Value.bool p.last, Value.int IntKind.i64 p.side, Value.slice (some ⟨g, 0, none⟩) ni (ni + 1), Value.slice (some ⟨g', 0, none⟩) nk (nk + 1)]) := Lib.hid hbx
  have HT : Hid (But w w0 g g') := Lib.hid hbt
  have HA : Hid (∃ cur : Array Value, Blk w0 g 23 cur ∧ cur.size = (ni + 1) * 4) := Lib.hid ⟨ci, hbi0, HCI.out⟩
  have HB : Hid (∃ cur : Array Value, Blk w0 g' 61 cur ∧ cur.size = (nk + 1) * 2) := Lib.hid ⟨ck, hbk0, HCK.out⟩
  clear hbx hbt hbi0 hbk0
  go_wp2_with fail
  go_loopw [2] (fun i wr => ∃ k : Nat, k ≤ ni ∧ i = .int .i64 k ∧ Hid (Blk wr b0 27 #[Value.int IntKind.i64 p.level, Value.string p.low, Value.string p.high, Value.bool p.last, Value.int IntKind.i64 p.side, Value.slice (some ⟨g, 0, none⟩) ni (ni + 1), Value.slice (some ⟨g', 0, none⟩) nk (nk + 1)]) ∧ Hid (But w wr g g') ∧ Hid (∃ cur : Array Value, Blk wr g 23 cur ∧ cur.size = (ni + 1) * 4) ∧ Hid (∃ cur : Array Value, Blk wr g' 61 cur ∧ cur.size = (nk + 1) * 2)) (fun i _ => ni - (intOf i).toNat)
  case atStart => exact ⟨0, Nat.zero_le _, rfl, HX, HT, HA, HB⟩
  case round =>
    clear HX HT HA HB
    obtain ⟨k, hk, rfl, HX, HT, HA, HB⟩ := hrel
    obtain ⟨z0, z1, z2, z3, z4, z5, z6⟩ := Blk.cells7 HX.out
    by_cases hlt : k < ni
    · obtain ⟨cur, hcb, hcs⟩ := HA.out
      have HCB := Lib.hid hcb
      have hk0 : (0 : Int) ≤ (k : Int) := by omega
      have hki : (k : Int) < (ni : Int) := by omega
      have hfit : k * 4 + qI.cells.length ≤ cur.size := by rw [hcs]; show k * 4 + 4 ≤ _; omega
      have HCS := Lib.hid hcs
      clear hcb hcs HA
      go_wp2_with (refine wpList_store_part rfl 23 _ _ rfl rfl g (k * 4) rfl 23 qI.cells cur rfl HCB.out hfit (by kernel_rfl) (Item.one qI) ?_; rintro wE hTE hE; have HTE := Lib.hid hTE; have HE := Lib.hid hE; clear hTE hE)
      go_roundw
      case rel =>
        exact ⟨k + 1, by omega, by go_num, Lib.hid (HTE.out.blk HX.out (by omega)), Lib.hid (HT.out.turn HTE.out (.inl rfl)), Lib.hid ⟨_, HE.out, by rw [rowPut_size hfit]; exact HCS.out⟩, Lib.hid (by obtain ⟨c2, h1, h2⟩ := HB.out; exact ⟨c2, HTE.out.blk h1 (by omega), h2⟩)⟩
      case measure => simp [intOf]; omega
    · obtain rfl : k = ni := by omega
      clear hlt hk
      go_wp2_with fail
      clear z0 z1 z2 z3 z4 z5 z6
      go_loopw [3] (fun i wr => ∃ j : Nat, j ≤ nk ∧ i = .int .i64 j ∧ Hid (Blk wr b0 27 #[Value.int IntKind.i64 p.level, Value.string p.low, Value.string p.high, Value.bool p.last, Value.int IntKind.i64 p.side, Value.slice (some ⟨g, 0, none⟩) k (k + 1), Value.slice (some ⟨g', 0, none⟩) nk (nk + 1)]) ∧ Hid (But w wr g g') ∧ Hid (∃ cur : Array Value, Blk wr g 23 cur ∧ cur.size = (k + 1) * 4) ∧ Hid (∃ cur : Array Value, Blk wr g' 61 cur ∧ cur.size = (nk + 1) * 2)) (fun i _ => nk - (intOf i).toNat)
      case atStart => exact ⟨0, Nat.zero_le _, rfl, HX, HT, HA, HB⟩
      case round =>
        clear HX HT HA HB
        obtain ⟨j, hj, rfl, HX, HT, HA, HB⟩ := hrel
        obtain ⟨z0, z1, z2, z3, z4, z5, z6⟩ := Blk.cells7 HX.out
        by_cases hlt : j < nk
        · obtain ⟨cur, hcb, hcs⟩ := HB.out
          have HCB := Lib.hid hcb
          have hk0 : (0 : Int) ≤ (j : Int) := by omega
          have hki : (j : Int) < (nk : Int) := by omega
          have hfit : j * 2 + qK.cells.length ≤ cur.size := by rw [hcs]; show j * 2 + 2 ≤ _; omega
          have HCS := Lib.hid hcs
          clear hcb hcs HB
          go_wp2_with (refine wpList_store_part rfl 61 _ _ rfl rfl g' (j * 2) rfl 61 qK.cells cur rfl HCB.out hfit (by kernel_rfl) (Kid.one qK) ?_; rintro wE hTE hE; have HTE := Lib.hid hTE; have HE := Lib.hid hE; clear hTE hE)
          go_roundw
          case rel =>
            exact ⟨j + 1, by omega, by go_num, Lib.hid (HTE.out.blk HX.out (by omega)), Lib.hid (HT.out.turn HTE.out (.inr rfl)), Lib.hid (by obtain ⟨c2, h1, h2⟩ := HA.out; exact ⟨c2, HTE.out.blk h1 (by omega), h2⟩), Lib.hid ⟨_, HE.out, by rw [rowPut_size hfit]; exact HCS.out⟩⟩
          case measure => simp [intOf]; omega
        · obtain rfl : j = nk := by omega
          clear hlt hj
          obtain ⟨cur, hcb, hcs⟩ := HA.out
          have hown := hasRow_alloc hcb hcs (by simp only [maxLen]; omega) (.cells #[Value.string { data := #[33] }, Value.string { data := #[] }, Value.int IntKind.i64 0, Value.bool false] 23)
          have HOW := Lib.hid hown
          clear hcb hcs hown HA
          go_upto_region 10 with (at_builtin; (refine wpList_append_fits _ rfl (.tmp 31) (.tmp 33) 24 rfl 0 23 i1 4 Tryz.underlying24 HI1.out HS1.out g k (k + 1) _ rfl HOW.out ⟨wr.heap.size, 0, none⟩ 1 1 [Value.string { data := #[33] }, Value.string { data := #[] }, Value.int IntKind.i64 0, Value.bool false] rfl rfl new_cells (List.all_eq_true.1 rfl) (Nat.le_refl _) ?_); intro w1 hO1 hG1; have HO1 := Lib.hid hO1; have HG1 := Lib.hid hG1; clear hO1 hG1)
          obtain ⟨c1, hc1, hs1, _⟩ := ownsRow_blk HO1.out
          obtain ⟨c2, hc2, hs2⟩ := HB.out
          have hwr := HX.out.lt
          have hwg := hc2.lt
          have HT1 : Hid (But w w1 g g') := Lib.hid ((HT.out.on ((Below.refl _ _).alloc (Nat.le_refl _) _)).grown HG1.out (.inl rfl))
          have HX1 : Hid (Blk w1 b0 27 #[Value.int IntKind.i64 p.level, Value.string p.low, Value.string p.high, Value.bool p.last, Value.int IntKind.i64 p.side, Value.slice (some ⟨g, 0, none⟩) k (k + 1), Value.slice (some ⟨g', 0, none⟩) j (j + 1)]) := Lib.hid ((HG1.out.block b0 (by simp; omega) (fun e => by have := Option.some.inj e; omega)).trans (HX.out.alloc _))
          have HK1 : Hid (Blk w1 g' 61 c2 ∧ c2.size = (j + 1) * 2) := Lib.hid ⟨(HG1.out.block g' (by simp; omega) (fun e => hne (Option.some.inj e).symm)).trans (hc2.alloc _), hs2⟩
          have q7 : w1.cell? ⟨g, k * 4 + 2, none⟩ = some c1[k * 4 + 2] := (hc1.cell (k * 4 + 2)).trans (Array.getElem?_eq_getElem (by omega))
          have f7 := hc1.frozen (k * 4 + 2)
          generalize c1[k * 4 + 2] = o7 at q7
          clear hc1 hs1 hc2 hs2 hwr hwg HO1 HG1 HOW HX HT HB z0 z1 z2 z3 z4 z5 z6
          have hk0 : (0 : Int) ≤ (k : Int) := by omega
          have hk1 : (k : Int) < (k : Int) + 1 := by omega
          have hk2 : ((k : Int) + 1) - 1 = (k : Int) := by omega
          go_upto_region 11 with (fail)
          have HT2 : Hid (But w (w1.setCell ⟨g, k * 4 + 2, none⟩ (Value.int IntKind.i64 7)) g g') := Lib.hid (HT1.out.set _ _ (.inl rfl))
          have HX2 : Hid (Blk (w1.setCell ⟨g, k * 4 + 2, none⟩ (Value.int IntKind.i64 7)) b0 27 #[Value.int IntKind.i64 p.level, Value.string p.low, Value.string p.high, Value.bool p.last, Value.int IntKind.i64 p.side, Value.slice (some ⟨g, 0, none⟩) k (k + 1), Value.slice (some ⟨g', 0, none⟩) j (j + 1)]) := Lib.hid (HX1.out.far (by simp; omega) _)
          have HK2 : Hid (Blk (w1.setCell ⟨g, k * 4 + 2, none⟩ (Value.int IntKind.i64 7)) g' 61 c2) := Lib.hid (HK1.out.1.far (fun e => hne e.symm) _)
          generalize w1.setCell ⟨g, k * 4 + 2, none⟩ (Value.int IntKind.i64 7) = w2 at *
          clear q7 f7 HT1 HX1
          obtain ⟨z0, z1, z2, z3, z4, z5, z6⟩ := Blk.cells7 HX2.out
          have hown := hasRow_alloc HK2.out HK1.out.2 (by simp only [maxLen]; omega) (.cells #[Value.string { data := #[33] }, Value.int IntKind.i64 0] 61)
          have HOW := Lib.hid hown
          clear hown
          go_upto_region 12 with (at_builtin; (refine wpList_append_fits _ rfl (.tmp 42) (.tmp 44) 25 rfl 0 61 i2 2 Tryz.underlying25 HI2.out HS2.out g' j (j + 1) _ rfl HOW.out ⟨w2.heap.size, 0, none⟩ 1 1 [Value.string { data := #[33] }, Value.int IntKind.i64 0] rfl rfl new_cells (List.all_eq_true.1 rfl) (Nat.le_refl _) ?_); intro w3 hO3 hG3; have HO3 := Lib.hid hO3; have HG3 := Lib.hid hG3; clear hO3 hG3)
          obtain ⟨c3, hc3, hs3, _⟩ := ownsRow_blk HO3.out
          have HT3 : Hid (But w w3 g g') := Lib.hid ((HT2.out.on ((Below.refl _ _).alloc (Nat.le_refl _) _)).grown HG3.out (.inr rfl))
          have q7 : w3.cell? ⟨g', j * 2 + 1, none⟩ = some c3[j * 2 + 1] := (hc3.cell (j * 2 + 1)).trans (Array.getElem?_eq_getElem (by omega))
          have f7 := hc3.frozen (j * 2 + 1)
          generalize c3[j * 2 + 1] = o7 at q7
          clear hc3 hs3 HO3 HG3 HOW HX2 HT2 HK2 HK1 z0 z1 z2 z3 z4 z5 z6 hk0 hk1 hk2
          have hk0 : (0 : Int) ≤ (j : Int) := by omega
          have hk1 : (j : Int) < (j : Int) + 1 := by omega
          have hk2 : ((j : Int) + 1) - 1 = (j : Int) := by omega
          go_wp2
          exact bodyPost_end (v := .tuple #[]) (by simp [results, Tryz.results11, go_sem]) rfl ⟨rfl, HT3.out.set _ _ (.inr rfl)⟩
end Go.Proofs.YtjbdmaehomhdeaaGreat

namespace Go.Proofs.YtjbdmaehomhdeaaGreat
open Go.RowKit

set_option maxRecDepth 100000 in
set_option maxHeartbeats 2000000 in
theorem ref_BaseN (p : Page) (A A' : Option Addr) (c c' lo : Nat) (w : World) (hp : Pg w lo w.heap.size p A A' c c') :
    Calls Tryz.prog 15 #[p.val A c A' c'] w (PostN w p.ok (cond p.ok p.bytes []) p.check) := by
  have H1 := Lib.hid hp
  clear hp
  have HEN := Lib.hid (fun w1 h => ref_Encode p A A' c c' lo w1 h)
  unfold Page.val Page.raw at HEN
  unfold Page.val Page.raw
  obtain ⟨ni, hni⟩ : ∃ n, n = p.items.length := ⟨_, rfl⟩
  obtain ⟨nk, hnk⟩ : ∃ n, n = p.kids.length := ⟨_, rfl⟩
  rw [← hni, ← hnk]
  rw [← hni, ← hnk] at HEN
  clear hni hnk
  have hB : Below w.heap.size w ((w.alloc (.cells #[Value.int IntKind.i64 p.level, Value.string p.low, Value.string p.high, Value.bool p.last, Value.int IntKind.i64 p.side, Value.slice A ni c, Value.slice A' nk c'] 27)).alloc (.cells #[Value.bool false, Value.slice none 0 0] 34)) := ((Below.refl _ _).alloc (Nat.le_refl _) _).alloc (by simp) _
  have hN : Blk ((w.alloc (.cells #[Value.int IntKind.i64 p.level, Value.string p.low, Value.string p.high, Value.bool p.last, Value.int IntKind.i64 p.side, Value.slice A ni c, Value.slice A' nk c'] 27)).alloc (.cells #[Value.bool false, Value.slice none 0 0] 34)) (w.heap.size + 1) 34 #[Value.bool false, Value.slice none 0 0] := by
    have := Blk.new (w.alloc (.cells #[Value.int IntKind.i64 p.level, Value.string p.low, Value.string p.high, Value.bool p.last, Value.int IntKind.i64 p.side, Value.slice A ni c, Value.slice A' nk c'] 27)) 34 #[Value.bool false, Value.slice none 0 0]
    simpa using this
  go_enter Tryz.func15, Tryz.ntmps15
  go_wp2_with fail
  generalize (w.alloc (.cells #[Value.int IntKind.i64 p.level, Value.string p.low, Value.string p.high, Value.bool p.last, Value.int IntKind.i64 p.side, Value.slice A ni c, Value.slice A' nk c'] 27)).alloc (.cells #[Value.bool false, Value.slice none 0 0] 34) = w0 at *
  have HB := Lib.hid hB
  have HN := Lib.hid hN
  refine (HEN.out w0 ((H1.out.below hB).mono (Nat.le_refl _) hB.size)).mono ?_
  clear hB hN
  rintro e w1 ⟨v1, rfl, hO1, hb1⟩
  have HB1 : Hid (Below w.heap.size w w1) := Lib.hid (HB.out.trans (hb1.mono HB.out.size))
  have HN1 := Lib.hid (HN.out.below hb1 HN.out.lt)
  have hs := HN.out.lt
  cases hok : p.ok with
  | false =>
    have HC0 : Hid (p.check = 101) := Lib.hid (by unfold Page.check; rw [hok]; rfl)
    rw [hok] at hO1
    have HOK := Lib.hid hok
    clear hok hb1
    rw [HC0.out]
    obtain ⟨n0, n1⟩ := Blk.cells2' HN1.out
    have nf : ∀ i, w1.frozen? ⟨w.heap.size + 1, i, none⟩ = false := HN1.out.frozen
    have HE : Hid (Blk ((w1.setCell ⟨w.heap.size + 1, 0, none⟩ (.bool false)).setCell ⟨w.heap.size + 1, 1, none⟩ (.slice none 0 0)) (w.heap.size + 1) 34 #[.bool false, .slice none 0 0]) := Lib.hid ((HN1.out.set_ 0 _).set_ 1 _)
    have HBE : Hid (Below w.heap.size w ((w1.setCell ⟨w.heap.size + 1, 0, none⟩ (.bool false)).setCell ⟨w.heap.size + 1, 1, none⟩ (.slice none 0 0))) := Lib.hid ((HB1.out.setCell (p := ⟨w.heap.size + 1, 0, none⟩) (by simp) _).setCell (p := ⟨w.heap.size + 1, 1, none⟩) (by simp) _)
    clear hO1
    go_wp2
    generalize ((w1.setCell ⟨w.heap.size + 1, 0, none⟩ (.bool false)).setCell ⟨w.heap.size + 1, 1, none⟩ (.slice none 0 0)) = wE at *
    obtain ⟨e0, e1⟩ := Blk.cells2' HE.out
    exact bodyPost_ret (v := .tuple #[.agg #[.bool false, .slice none 0 0], .int .i64 101]) (by simp [results, Tryz.results15, go_sem, e0, e1]) rfl (by rw [HOK.out, HC0.out]; exact ⟨.slice none 0 0, rfl, OwnB.nil _ _, HBE.out⟩)
  | true =>
    have HC0 : Hid (p.check = 0) := Lib.hid (by unfold Page.check; rw [hok]; rfl)
    rw [hok, cond_true] at hO1
    have HOK := Lib.hid hok
    clear hok hb1
    rw [HC0.out]
    have hO1' := hO1.mono (Nat.le_trans (Nat.le_of_lt (by omega : w.heap.size < w0.heap.size)) (Nat.le_refl _))
    obtain ⟨A1, c1, rfl, _, _, hob⟩ := OwnB.form hO1 rfl
    obtain ⟨n1l, hn1l⟩ : ∃ n, n = p.bytes.length := ⟨_, rfl⟩
    rw [← hn1l]
    rw [← hn1l] at hO1' hob
    have HO1 := Lib.hid hO1'
    have HOB := Lib.hid hob
    clear hO1 hO1' hob hn1l
    obtain ⟨n0, n1⟩ := Blk.cells2' HN1.out
    have nf : ∀ i, w1.frozen? ⟨w.heap.size + 1, i, none⟩ = false := HN1.out.frozen
    have HE : Hid (Blk ((w1.setCell ⟨w.heap.size + 1, 0, none⟩ (.bool true)).setCell ⟨w.heap.size + 1, 1, none⟩ (.slice A1 n1l c1)) (w.heap.size + 1) 34 #[.bool true, .slice A1 n1l c1]) := Lib.hid ((HN1.out.set_ 0 _).set_ 1 _)
    have HBE : Hid (Below w.heap.size w ((w1.setCell ⟨w.heap.size + 1, 0, none⟩ (.bool true)).setCell ⟨w.heap.size + 1, 1, none⟩ (.slice A1 n1l c1))) := Lib.hid ((HB1.out.setCell (p := ⟨w.heap.size + 1, 0, none⟩) (by simp) _).setCell (p := ⟨w.heap.size + 1, 1, none⟩) (by simp) _)
    have HOE : Hid (OwnB ((w1.setCell ⟨w.heap.size + 1, 0, none⟩ (.bool true)).setCell ⟨w.heap.size + 1, 1, none⟩ (.slice A1 n1l c1)) w.heap.size (.slice A1 n1l c1) p.bytes) := Lib.hid (OwnB.keepH HO1.out fun k hk => by
      have := (HOB.out k hk).1
      rw [Below.heap_setCell _ _ _ k (by simp; omega), Below.heap_setCell _ _ _ k (by simp; omega)])
    go_wp2
    generalize ((w1.setCell ⟨w.heap.size + 1, 0, none⟩ (.bool true)).setCell ⟨w.heap.size + 1, 1, none⟩ (.slice A1 n1l c1)) = wE at *
    obtain ⟨e0, e1⟩ := Blk.cells2' HE.out
    exact bodyPost_ret (v := .tuple #[.agg #[.bool true, .slice A1 n1l c1], .int .i64 0]) (by simp [results, Tryz.results15, go_sem, e0, e1]) rfl (by rw [HOK.out, HC0.out]; exact ⟨.slice A1 n1l c1, rfl, HOE.out, HBE.out⟩)
end Go.Proofs.YtjbdmaehomhdeaaGreat
