/- Clones. -/
import Derived.Test.YtjbdmaehomhdeaaGreatZC
import Derived.Test.YtjbdmaehomhdeaaGreatZA
import Derived.WalkSpells
import Derived.Deep.RegionLaw
import Derived.Lib.Bytealg
import Derived.Laws.Externs
set_option linter.unusedSimpArgs false
set_option linter.unusedVariables false
namespace Go.Proofs.YtjbdmaehomhdeaaGreat
open Go.RowKit

theorem Rd.flatItem {w : World} {lo hi : Nat} {ad : Addr} {l : List Item} (h : Rd Item.cells 4 w lo hi (some ad) l) : ∀ j u, (l.flatMap Item.cells)[j]? = some u → w.cell? (ad.add j) = some u := by
  intro j u hu
  have hj : j < (l.flatMap Item.cells).length := (List.getElem?_eq_some_iff.1 hu).1
  rw [Item.cells_length] at hj
  obtain ⟨ad', e, _, _, hc⟩ := h (by intro e; subst e; simp at hj)
  obtain rfl := Option.some.inj e
  have hi : j / 4 < l.length := by omega
  have h1 : (l.flatMap Item.cells)[(j / 4) * 4 + j % 4]? = (l[j / 4].cells)[j % 4]? := by
    have hsplit : l.flatMap Item.cells = (l.take (j / 4)).flatMap Item.cells ++ (l[j / 4].cells ++ (l.drop (j / 4 + 1)).flatMap Item.cells) := by
      conv => lhs; rw [← List.take_append_drop (j / 4) l, List.drop_eq_getElem_cons hi]
      rw [List.flatMap_append, List.flatMap_cons]
    rw [hsplit, List.getElem?_append_right (by rw [Item.cells_length, List.length_take]; omega), Item.cells_length, List.length_take, Nat.min_eq_left (by omega), Nat.add_sub_cancel_left]
    rw [List.getElem?_append_left (by simp [Item.cells]; omega)]
  have h2 : (j / 4) * 4 + j % 4 = j := by omega
  rw [h2, hu] at h1
  have := hc (j / 4) _ (List.getElem?_eq_getElem hi) (j % 4) u h1.symm
  rwa [h2] at this
theorem Item.one (x : Item) : ∀ u ∈ x.cells, u.oneCell' = true := by
  intro u hu
  simp [Item.cells] at hu
  rcases hu with rfl | rfl | rfl | rfl <;> rfl
theorem Item.ones (l : List Item) : ∀ u ∈ l.flatMap Item.cells, u.oneCell' = true := by
  intro u hu
  obtain ⟨x, _, hx⟩ := List.mem_flatMap.1 hu
  exact Item.one x u hx
theorem OwnItem.mono {w : World} {b b' : Nat} {v : Value} {l : List Item} (h : OwnItem w b v l) (hb : b' ≤ b) : OwnItem w b' v l := by
  refine ⟨h.1, ?_⟩
  rcases h.2 with hn | ⟨g, cap, cur, rfl, hg, rest⟩
  · exact .inl hn
  · exact .inr ⟨g, cap, cur, rfl, Nat.le_trans hb hg, rest⟩
theorem OwnItem.below {w w' : World} {b B : Nat} {v : Value} {l : List Item} (h : OwnItem w b v l) (hb : Below B w w') (hB : w.heap.size ≤ B) : OwnItem w' b v l :=
  h.keep fun k hk => hb.block k (Nat.lt_of_lt_of_le (h.block k hk).2 hB)
theorem OwnItem.setLow {w : World} {b g i : Nat} {v : Value} {l : List Item} (h : OwnItem w b v l) (hg : g < b) (u : Value) : OwnItem (w.setCell ⟨g, i, none⟩ u) b v l :=
  h.keep fun k hk => Below.heap_setCell w ⟨g, i, none⟩ u k (by have := (h.block k hk).1; simp; omega)
def PostCItem (w : World) (l : List Item) (e : Ending) (w' : World) : Prop := ∃ v, e = .returned v ∧ OwnItem w' w.heap.size v l ∧ Below w.heap.size w w'

set_option maxRecDepth 100000 in
set_option maxHeartbeats 1000000 in
theorem clone_item (A : Option Addr) (c lo : Nat) (l : List Item) (w : World) (hr : Rd Item.cells 4 w lo w.heap.size A l) (hlen : l.length ≤ 1000000) :
    Calls Tryz.prog 41 #[.slice A l.length c] w (PostCItem w l) := by
  have HR := Lib.hid hr
  clear hr
  obtain ⟨n, hn⟩ : ∃ n, n = l.length := ⟨_, rfl⟩
  rw [← hn]
  have HN := Lib.hid hn
  rw [← hn] at hlen
  clear hn
  go_enter Tryz.func41, Tryz.ntmps41
  cases A with
  | none =>
    have HL : Hid (l = []) := Lib.hid (by
      cases l with
      | nil => rfl
      | cons a l => obtain ⟨_, e, _⟩ := HR.out (by simp); cases e)
    have hq : ∀ W, (binOp .eql 24 (.slice none n c) (.slice none 0 0)).run Tryz.prog W = .ok (.bool true) W := fun W => Go.Lib.run_eql_slice_nil (P := Tryz.prog) W 24 23 none n c 0 0 Tryz.underlying24
    go_wp2
    go_ret
    exact ⟨_, rfl, by rw [HL.out]; exact OwnItem.nil _ _, Below.refl _ _⟩
  | some ad =>
    have hq : ∀ W, (binOp .eql 24 (.slice (some ad) n c) (.slice none 0 0)).run Tryz.prog W = .ok (.bool false) W := fun W => Go.Lib.run_eql_slice_nil (P := Tryz.prog) W 24 23 (some ad) n c 0 0 Tryz.underlying24
    obtain ⟨i0, hi0, hz0, hz1, hz2⟩ := info_parts info_item
    have HI0 := Lib.hid hi0
    have HZ0 := Lib.hid hz0
    have HZ1 := Lib.hid hz1
    have HZ2 := Lib.hid hz2
    clear hi0 hz0 hz1 hz2
    have HF : Hid (∀ o, ∀ j u, (l.flatMap Item.cells)[j]? = some u → (w.alloc o).cell? (ad.add j) = some u) := Lib.hid fun o => Rd.flatItem (lo := lo) (hi := w.heap.size) (HR.out.below ((Below.refl _ _).alloc (Nat.le_refl _) o))
    go_wp2_with (at_builtin; (refine wpList_append_own _ rfl (.tmp 5) (.tmp 6) 24 rfl w.heap.size 23 i0 _ 4 (12 * 4) Tryz.underlying24 HI0.out HZ0.out HZ1.out HZ2.out rfl (by omega) _ 0 [] rfl (World.ownsRow_made w #[] 0 (Nat.le_refl _) (by decide) rfl) ad n c (l.flatMap Item.cells) rfl (by rw [Item.cells_length, HN.out]) (HF.out _) (Item.ones l) (by simp only [maxLen]; omega) (by omega) (by simp) ?_); intro v' w' hO hG _)
    go_ret
    refine ⟨v', rfl, ?_, ?_⟩
    · unfold OwnItem
      rw [Nat.zero_add, List.nil_append] at hO
      rw [← HN.out]; exact hO
    · exact ((Below.refl _ _).alloc (Nat.le_refl _) _).grown hG (by simp) (fun k hk => by cases hk; exact Nat.le_refl _)

theorem Rd.flatKid {w : World} {lo hi : Nat} {ad : Addr} {l : List Kid} (h : Rd Kid.cells 2 w lo hi (some ad) l) : ∀ j u, (l.flatMap Kid.cells)[j]? = some u → w.cell? (ad.add j) = some u := by
  intro j u hu
  have hj : j < (l.flatMap Kid.cells).length := (List.getElem?_eq_some_iff.1 hu).1
  rw [Kid.cells_length] at hj
  obtain ⟨ad', e, _, _, hc⟩ := h (by intro e; subst e; simp at hj)
  obtain rfl := Option.some.inj e
  have hi : j / 2 < l.length := by omega
  have h1 : (l.flatMap Kid.cells)[(j / 2) * 2 + j % 2]? = (l[j / 2].cells)[j % 2]? := by
    have hsplit : l.flatMap Kid.cells = (l.take (j / 2)).flatMap Kid.cells ++ (l[j / 2].cells ++ (l.drop (j / 2 + 1)).flatMap Kid.cells) := by
      conv => lhs; rw [← List.take_append_drop (j / 2) l, List.drop_eq_getElem_cons hi]
      rw [List.flatMap_append, List.flatMap_cons]
    rw [hsplit, List.getElem?_append_right (by rw [Kid.cells_length, List.length_take]; omega), Kid.cells_length, List.length_take, Nat.min_eq_left (by omega), Nat.add_sub_cancel_left]
    rw [List.getElem?_append_left (by simp [Kid.cells]; omega)]
  have h2 : (j / 2) * 2 + j % 2 = j := by omega
  rw [h2, hu] at h1
  have := hc (j / 2) _ (List.getElem?_eq_getElem hi) (j % 2) u h1.symm
  rwa [h2] at this
theorem Kid.one (x : Kid) : ∀ u ∈ x.cells, u.oneCell' = true := by
  intro u hu
  simp [Kid.cells] at hu
  rcases hu with rfl | rfl | rfl | rfl <;> rfl
theorem Kid.ones (l : List Kid) : ∀ u ∈ l.flatMap Kid.cells, u.oneCell' = true := by
  intro u hu
  obtain ⟨x, _, hx⟩ := List.mem_flatMap.1 hu
  exact Kid.one x u hx
theorem OwnKid.mono {w : World} {b b' : Nat} {v : Value} {l : List Kid} (h : OwnKid w b v l) (hb : b' ≤ b) : OwnKid w b' v l := by
  refine ⟨h.1, ?_⟩
  rcases h.2 with hn | ⟨g, cap, cur, rfl, hg, rest⟩
  · exact .inl hn
  · exact .inr ⟨g, cap, cur, rfl, Nat.le_trans hb hg, rest⟩
theorem OwnKid.below {w w' : World} {b B : Nat} {v : Value} {l : List Kid} (h : OwnKid w b v l) (hb : Below B w w') (hB : w.heap.size ≤ B) : OwnKid w' b v l :=
  h.keep fun k hk => hb.block k (Nat.lt_of_lt_of_le (h.block k hk).2 hB)
theorem OwnKid.setLow {w : World} {b g i : Nat} {v : Value} {l : List Kid} (h : OwnKid w b v l) (hg : g < b) (u : Value) : OwnKid (w.setCell ⟨g, i, none⟩ u) b v l :=
  h.keep fun k hk => Below.heap_setCell w ⟨g, i, none⟩ u k (by have := (h.block k hk).1; simp; omega)
def PostCKid (w : World) (l : List Kid) (e : Ending) (w' : World) : Prop := ∃ v, e = .returned v ∧ OwnKid w' w.heap.size v l ∧ Below w.heap.size w w'

set_option maxRecDepth 100000 in
set_option maxHeartbeats 1000000 in
theorem clone_kid (A : Option Addr) (c lo : Nat) (l : List Kid) (w : World) (hr : Rd Kid.cells 2 w lo w.heap.size A l) (hlen : l.length ≤ 1000000) :
    Calls Tryz.prog 42 #[.slice A l.length c] w (PostCKid w l) := by
  have HR := Lib.hid hr
  clear hr
  obtain ⟨n, hn⟩ : ∃ n, n = l.length := ⟨_, rfl⟩
  rw [← hn]
  have HN := Lib.hid hn
  rw [← hn] at hlen
  clear hn
  go_enter Tryz.func42, Tryz.ntmps42
  cases A with
  | none =>
    have HL : Hid (l = []) := Lib.hid (by
      cases l with
      | nil => rfl
      | cons a l => obtain ⟨_, e, _⟩ := HR.out (by simp); cases e)
    have hq : ∀ W, (binOp .eql 25 (.slice none n c) (.slice none 0 0)).run Tryz.prog W = .ok (.bool true) W := fun W => Go.Lib.run_eql_slice_nil (P := Tryz.prog) W 25 61 none n c 0 0 Tryz.underlying25
    go_wp2
    go_ret
    exact ⟨_, rfl, by rw [HL.out]; exact OwnKid.nil _ _, Below.refl _ _⟩
  | some ad =>
    have hq : ∀ W, (binOp .eql 25 (.slice (some ad) n c) (.slice none 0 0)).run Tryz.prog W = .ok (.bool false) W := fun W => Go.Lib.run_eql_slice_nil (P := Tryz.prog) W 25 61 (some ad) n c 0 0 Tryz.underlying25
    obtain ⟨i0, hi0, hz0, hz1, hz2⟩ := info_parts info_kid
    have HI0 := Lib.hid hi0
    have HZ0 := Lib.hid hz0
    have HZ1 := Lib.hid hz1
    have HZ2 := Lib.hid hz2
    clear hi0 hz0 hz1 hz2
    have HF : Hid (∀ o, ∀ j u, (l.flatMap Kid.cells)[j]? = some u → (w.alloc o).cell? (ad.add j) = some u) := Lib.hid fun o => Rd.flatKid (lo := lo) (hi := w.heap.size) (HR.out.below ((Below.refl _ _).alloc (Nat.le_refl _) o))
    go_wp2_with (at_builtin; (refine wpList_append_own _ rfl (.tmp 5) (.tmp 6) 25 rfl w.heap.size 61 i0 _ 2 (12 * 2) Tryz.underlying25 HI0.out HZ0.out HZ1.out HZ2.out rfl (by omega) _ 0 [] rfl (World.ownsRow_made w #[] 0 (Nat.le_refl _) (by decide) rfl) ad n c (l.flatMap Kid.cells) rfl (by rw [Kid.cells_length, HN.out]) (HF.out _) (Kid.ones l) (by simp only [maxLen]; omega) (by omega) (by simp) ?_); intro v' w' hO hG _)
    go_ret
    refine ⟨v', rfl, ?_, ?_⟩
    · unfold OwnKid
      rw [Nat.zero_add, List.nil_append] at hO
      rw [← HN.out]; exact hO
    · exact ((Below.refl _ _).alloc (Nat.le_refl _) _).grown hG (by simp) (fun k hk => by cases hk; exact Nat.le_refl _)

/-- a page's value, its lists as they are -/
def Page.valW (p : Page) (vi vk : Value) : Value := .agg #[.int .i64 p.level, .string p.low, .string p.high, .bool p.last, .int .i64 p.side, vi, vk]
def PostO (w : World) (p : Page) (e : Ending) (w' : World) : Prop := ∃ vi vk, e = .returned (p.valW vi vk) ∧ OwnItem w' w.heap.size vi p.items ∧ OwnKid w' w.heap.size vk p.kids ∧ Below w.heap.size w w'

set_option maxRecDepth 100000 in
set_option maxHeartbeats 4000000 in
theorem page_own (p : Page) (A A' : Option Addr) (c c' lo : Nat) (w : World) (hp : Pg w lo w.heap.size p A A' c c') (hli : p.items.length ≤ 1000000) (hlk : p.kids.length ≤ 1000000) :
    Calls Tryz.prog 117 #[p.val A c A' c'] w (PostO w p) := by
  have HCI := Lib.hid (fun w1 h => clone_item A c lo p.items w1 h hli)
  have HCK := Lib.hid (fun w1 h => clone_kid A' c' lo p.kids w1 h hlk)
  have H1 := Lib.hid hp
  clear hp
  unfold Page.val Page.raw
  obtain ⟨ni, hni⟩ : ∃ n, n = p.items.length := ⟨_, rfl⟩
  obtain ⟨nk, hnk⟩ : ∃ n, n = p.kids.length := ⟨_, rfl⟩
  rw [← hni, ← hnk]
  rw [← hni] at HCI
  rw [← hnk] at HCK
  clear hni hnk hli hlk
  have hP : Blk ((w.alloc (.cells #[Value.int IntKind.i64 p.level, Value.string p.low, Value.string p.high, Value.bool p.last, Value.int IntKind.i64 p.side, Value.slice A ni c, Value.slice A' nk c'] 27)).alloc (.cells #[Value.int IntKind.i64 0, Value.string { data := #[] }, Value.string { data := #[] }, Value.bool false, Value.int IntKind.i64 0, Value.slice none 0 0, Value.slice none 0 0] 27)) w.heap.size 27 #[Value.int IntKind.i64 p.level, Value.string p.low, Value.string p.high, Value.bool p.last, Value.int IntKind.i64 p.side, Value.slice A ni c, Value.slice A' nk c'] := (Blk.new _ _ _).alloc _
  have hR : Blk ((w.alloc (.cells #[Value.int IntKind.i64 p.level, Value.string p.low, Value.string p.high, Value.bool p.last, Value.int IntKind.i64 p.side, Value.slice A ni c, Value.slice A' nk c'] 27)).alloc (.cells #[Value.int IntKind.i64 0, Value.string { data := #[] }, Value.string { data := #[] }, Value.bool false, Value.int IntKind.i64 0, Value.slice none 0 0, Value.slice none 0 0] 27)) (w.heap.size + 1) 27 #[Value.int IntKind.i64 0, Value.string { data := #[] }, Value.string { data := #[] }, Value.bool false, Value.int IntKind.i64 0, Value.slice none 0 0, Value.slice none 0 0] := by
    have := Blk.new (w.alloc (.cells #[Value.int IntKind.i64 p.level, Value.string p.low, Value.string p.high, Value.bool p.last, Value.int IntKind.i64 p.side, Value.slice A ni c, Value.slice A' nk c'] 27)) 27 #[Value.int IntKind.i64 0, Value.string { data := #[] }, Value.string { data := #[] }, Value.bool false, Value.int IntKind.i64 0, Value.slice none 0 0, Value.slice none 0 0]
    simpa using this
  have hB : Below w.heap.size w ((w.alloc (.cells #[Value.int IntKind.i64 p.level, Value.string p.low, Value.string p.high, Value.bool p.last, Value.int IntKind.i64 p.side, Value.slice A ni c, Value.slice A' nk c'] 27)).alloc (.cells #[Value.int IntKind.i64 0, Value.string { data := #[] }, Value.string { data := #[] }, Value.bool false, Value.int IntKind.i64 0, Value.slice none 0 0, Value.slice none 0 0] 27)) := ((Below.refl _ _).alloc (Nat.le_refl _) _).alloc (by simp) _
  go_enter Tryz.func117, Tryz.ntmps117
  go_upto_region 1 with (fail)
  generalize (w.alloc (.cells #[Value.int IntKind.i64 p.level, Value.string p.low, Value.string p.high, Value.bool p.last, Value.int IntKind.i64 p.side, Value.slice A ni c, Value.slice A' nk c'] 27)).alloc (.cells #[Value.int IntKind.i64 0, Value.string { data := #[] }, Value.string { data := #[] }, Value.bool false, Value.int IntKind.i64 0, Value.slice none 0 0, Value.slice none 0 0] 27) = w0 at *
  have HP := Lib.hid hP
  have HR := Lib.hid hR
  have HB := Lib.hid hB
  clear hP hR hB
  obtain ⟨q0, q1, q2, q3, q4, q5, q6⟩ := Blk.cells7 HP.out
  have hsz := HB.out.size
  have HRI : Hid (∀ W, Below w.heap.size w W → Rd Item.cells 4 W lo W.heap.size A p.items) := Lib.hid fun W h => (H1.out.items.below h).mono (Nat.le_refl _) h.size
  have HRK : Hid (∀ W, Below w.heap.size w W → Rd Kid.cells 2 W lo W.heap.size A' p.kids) := Lib.hid fun W h => (H1.out.kids.below h).mono (Nat.le_refl _) h.size
  clear q0 q1 q2 q3 q4
  have hps := HP.out.lt
  go_cut [] (fun wc => Hid (∃ E1 d1 E2 d2, Blk wc w.heap.size 27 #[Value.int IntKind.i64 p.level, Value.string p.low, Value.string p.high, Value.bool p.last, Value.int IntKind.i64 p.side, Value.slice E1 p.items.length d1, Value.slice E2 p.kids.length d2] ∧ Blk wc (w.heap.size + 1) 27 #[Value.int IntKind.i64 0, Value.string { data := #[] }, Value.string { data := #[] }, Value.bool false, Value.int IntKind.i64 0, Value.slice none 0 0, Value.slice none 0 0] ∧ OwnItem wc (w.heap.size + 2) (.slice E1 p.items.length d1) p.items ∧ OwnKid wc (w.heap.size + 2) (.slice E2 p.kids.length d2) p.kids ∧ Below w.heap.size w wc))
  case first =>
    go_region_law (go_simp; first
        | (go_at_call 41; refine (HCI.out _ (HRI.out _ HB.out.drew)).mono ?_; rintro e w1 ⟨v1, rfl, hO1, hB1⟩; have HO1 := Lib.hid hO1; obtain ⟨E1, d1, rfl, _, _⟩ := hO1.form; clear hO1; have HB1 := Lib.hid hB1; have HW1 : Hid (Below w.heap.size w w1) := Lib.hid (HB.out.drew.trans (hB1.mono hsz)); have HP1 : Hid (Blk w1 w.heap.size 27 #[Value.int IntKind.i64 p.level, Value.string p.low, Value.string p.high, Value.bool p.last, Value.int IntKind.i64 p.side, Value.slice A ni c, Value.slice A' nk c']) := Lib.hid (HP.out.drew.below hB1 HP.out.lt); have HR1 : Hid (Blk w1 (w.heap.size + 1) 27 _) := Lib.hid (HR.out.drew.below hB1 HR.out.lt); have hsz1 : w0.drew.heap.size ≤ w1.heap.size := hB1.size; clear hB1; have k5 : w1.cell? ⟨w.heap.size, 5, none⟩ = some (.slice A ni c) := HP1.out.cell 5; have k6 : w1.cell? ⟨w.heap.size, 6, none⟩ = some (.slice A' nk c') := HP1.out.cell 6; have g5 : w1.frozen? ⟨w.heap.size, 5, none⟩ = false := HP1.out.frozen 5)
        | (go_at_call 42; first
          | (refine (HCK.out w1 (HRK.out _ HW1.out)).mono ?_; rintro e w2 ⟨v2, rfl, hO2, hB2⟩; have HO2 := Lib.hid hO2; obtain ⟨E2, d2, rfl, _, _⟩ := hO2.form; clear hO2; have HW2 : Hid (Below w.heap.size w w2) := Lib.hid (HW1.out.trans (hB2.mono HW1.out.size)); have HP2 : Hid (Blk w2 w.heap.size 27 #[Value.int IntKind.i64 p.level, Value.string p.low, Value.string p.high, Value.bool p.last, Value.int IntKind.i64 p.side, Value.slice A ni c, Value.slice A' nk c']) := Lib.hid (HP1.out.below hB2 HP1.out.lt); have k5 : w2.cell? ⟨w.heap.size, 5, none⟩ = some (.slice A ni c) := HP2.out.cell 5; have k6 : w2.cell? ⟨w.heap.size, 6, none⟩ = some (.slice A' nk c') := HP2.out.cell 6; have g5 : w2.frozen? ⟨w.heap.size, 5, none⟩ = false := HP2.out.frozen 5; have g6 : w2.frozen? ⟨w.heap.size, 6, none⟩ = false := HP2.out.frozen 6; have tok1 : True := trivial)
          | (refine (HCK.out (w1.setCell ⟨w.heap.size, 5, none⟩ (.slice E1 p.items.length d1)) (HRK.out _ (HW1.out.setCell (p := ⟨w.heap.size, 5, none⟩) (Nat.le_refl _) _))).mono ?_; rintro e w2 ⟨v2, rfl, hO2, hB2⟩; have HO2 := Lib.hid hO2; obtain ⟨E2, d2, rfl, _, _⟩ := hO2.form; clear hO2; have HW2 : Hid (Below w.heap.size w w2) := Lib.hid ((HW1.out.setCell (p := ⟨w.heap.size, 5, none⟩) (Nat.le_refl _) _).trans (hB2.mono (by simpa using HW1.out.size))); have HP2 : Hid (Blk w2 w.heap.size 27 #[Value.int IntKind.i64 p.level, Value.string p.low, Value.string p.high, Value.bool p.last, Value.int IntKind.i64 p.side, Value.slice E1 p.items.length d1, Value.slice A' nk c']) := Lib.hid ((HP1.out.set_ 5 _).below hB2 (by simpa using HP1.out.lt)); have k6 : w2.cell? ⟨w.heap.size, 6, none⟩ = some (.slice A' nk c') := HP2.out.cell 6; have g6 : w2.frozen? ⟨w.heap.size, 6, none⟩ = false := HP2.out.frozen 6; have tok2 : True := trivial)))
    all_goals
      go_wp2
      go_meet
      case rel =>
        have hS2 : w.heap.size + 2 ≤ w0.drew.heap.size := by have := HR.out.lt; show _ ≤ w0.heap.size; omega
        first
          | exact Lib.hid ⟨E1, d1, E2, d2, (HP2.out.set_ 5 _).set_ 6 _, (((HR1.out.below hB2 HR1.out.lt).far (by simp) _).far (by simp) _), (((HO1.out.mono hS2).below hB2 (Nat.le_refl _)).setLow (by omega) _).setLow (by omega) _, ((HO2.out.mono (Nat.le_trans hS2 hsz1)).setLow (by omega) _).setLow (by omega) _, ((HW2.out.setCell (p := ⟨w.heap.size, 5, none⟩) (Nat.le_refl _) _).setCell (p := ⟨w.heap.size, 6, none⟩) (Nat.le_refl _) _)⟩
          | exact Lib.hid ⟨E1, d1, E2, d2, HP2.out.set_ 6 _, ((HR1.out.far (by simp) _).below hB2 (by simpa using HR1.out.lt)).far (by simp) _, (((HO1.out.mono hS2).setLow (by omega) _).below hB2 (Nat.le_refl _)).setLow (by omega) _, (HO2.out.mono (by simpa using Nat.le_trans hS2 hsz1)).setLow (by omega) _, (HW2.out.setCell (p := ⟨w.heap.size, 6, none⟩) (Nat.le_refl _) _)⟩
  case rest =>
    obtain ⟨E1, d1, E2, d2, hP, hR, hO1, hO2, hB⟩ := hcut.out
    have HOA := Lib.hid hO1
    have HOB := Lib.hid hO2
    have HBA := Lib.hid hB
    have HRA := Lib.hid hR
    obtain ⟨ni, hni⟩ : ∃ n, n = p.items.length := ⟨_, rfl⟩
    obtain ⟨nk, hnk⟩ : ∃ n, n = p.kids.length := ⟨_, rfl⟩
    rw [← hni] at hP HOA
    rw [← hnk] at hP HOB
    obtain ⟨y0, y1, y2, y3, y4, y5, y6⟩ := Blk.cells7 hP
    obtain ⟨z0, z1, z2, z3, z4, z5, z6⟩ := Blk.cells7 hR
    have hfz : ∀ i, wc.frozen? ⟨w.heap.size + 1, i, none⟩ = false := hR.frozen
    clear hP hR hO1 hO2 hB hni hnk q5 q6
    have HE : Hid (Blk (((((((wc.setCell ⟨w.heap.size + 1, 0, none⟩ (Value.int IntKind.i64 p.level)).setCell ⟨w.heap.size + 1, 1, none⟩ (Value.string p.low)).setCell ⟨w.heap.size + 1, 2, none⟩ (Value.string p.high)).setCell ⟨w.heap.size + 1, 3, none⟩ (Value.bool p.last)).setCell ⟨w.heap.size + 1, 4, none⟩ (Value.int IntKind.i64 p.side)).setCell ⟨w.heap.size + 1, 5, none⟩ (Value.slice E1 ni d1)).setCell ⟨w.heap.size + 1, 6, none⟩ (Value.slice E2 nk d2)) (w.heap.size + 1) 27 #[Value.int IntKind.i64 p.level, Value.string p.low, Value.string p.high, Value.bool p.last, Value.int IntKind.i64 p.side, Value.slice E1 ni d1, Value.slice E2 nk d2]) := Lib.hid (((((((HRA.out.set_ 0 (Value.int IntKind.i64 p.level)).set_ 1 (Value.string p.low)).set_ 2 (Value.string p.high)).set_ 3 (Value.bool p.last)).set_ 4 (Value.int IntKind.i64 p.side)).set_ 5 (Value.slice E1 ni d1)).set_ 6 (Value.slice E2 nk d2))
    have HBE : Hid (Below w.heap.size w (((((((wc.setCell ⟨w.heap.size + 1, 0, none⟩ (Value.int IntKind.i64 p.level)).setCell ⟨w.heap.size + 1, 1, none⟩ (Value.string p.low)).setCell ⟨w.heap.size + 1, 2, none⟩ (Value.string p.high)).setCell ⟨w.heap.size + 1, 3, none⟩ (Value.bool p.last)).setCell ⟨w.heap.size + 1, 4, none⟩ (Value.int IntKind.i64 p.side)).setCell ⟨w.heap.size + 1, 5, none⟩ (Value.slice E1 ni d1)).setCell ⟨w.heap.size + 1, 6, none⟩ (Value.slice E2 nk d2))) := Lib.hid (((((((HBA.out.setCell (p := ⟨w.heap.size + 1, 0, none⟩) (by simp) (Value.int IntKind.i64 p.level)).setCell (p := ⟨w.heap.size + 1, 1, none⟩) (by simp) (Value.string p.low)).setCell (p := ⟨w.heap.size + 1, 2, none⟩) (by simp) (Value.string p.high)).setCell (p := ⟨w.heap.size + 1, 3, none⟩) (by simp) (Value.bool p.last)).setCell (p := ⟨w.heap.size + 1, 4, none⟩) (by simp) (Value.int IntKind.i64 p.side)).setCell (p := ⟨w.heap.size + 1, 5, none⟩) (by simp) (Value.slice E1 ni d1)).setCell (p := ⟨w.heap.size + 1, 6, none⟩) (by simp) (Value.slice E2 nk d2))
    have HOE : Hid (OwnItem (((((((wc.setCell ⟨w.heap.size + 1, 0, none⟩ (Value.int IntKind.i64 p.level)).setCell ⟨w.heap.size + 1, 1, none⟩ (Value.string p.low)).setCell ⟨w.heap.size + 1, 2, none⟩ (Value.string p.high)).setCell ⟨w.heap.size + 1, 3, none⟩ (Value.bool p.last)).setCell ⟨w.heap.size + 1, 4, none⟩ (Value.int IntKind.i64 p.side)).setCell ⟨w.heap.size + 1, 5, none⟩ (Value.slice E1 ni d1)).setCell ⟨w.heap.size + 1, 6, none⟩ (Value.slice E2 nk d2)) w.heap.size (.slice E1 ni d1) p.items ∧ OwnKid (((((((wc.setCell ⟨w.heap.size + 1, 0, none⟩ (Value.int IntKind.i64 p.level)).setCell ⟨w.heap.size + 1, 1, none⟩ (Value.string p.low)).setCell ⟨w.heap.size + 1, 2, none⟩ (Value.string p.high)).setCell ⟨w.heap.size + 1, 3, none⟩ (Value.bool p.last)).setCell ⟨w.heap.size + 1, 4, none⟩ (Value.int IntKind.i64 p.side)).setCell ⟨w.heap.size + 1, 5, none⟩ (Value.slice E1 ni d1)).setCell ⟨w.heap.size + 1, 6, none⟩ (Value.slice E2 nk d2)) w.heap.size (.slice E2 nk d2) p.kids) := Lib.hid ⟨((((((((HOA.out.setLow (by omega) _).setLow (by omega) _).setLow (by omega) _).setLow (by omega) _).setLow (by omega) _).setLow (by omega) _).setLow (by omega) _).mono (by omega)), ((((((((HOB.out.setLow (by omega) _).setLow (by omega) _).setLow (by omega) _).setLow (by omega) _).setLow (by omega) _).setLow (by omega) _).setLow (by omega) _).mono (by omega))⟩
    go_wp2
    generalize (((((((wc.setCell ⟨w.heap.size + 1, 0, none⟩ (Value.int IntKind.i64 p.level)).setCell ⟨w.heap.size + 1, 1, none⟩ (Value.string p.low)).setCell ⟨w.heap.size + 1, 2, none⟩ (Value.string p.high)).setCell ⟨w.heap.size + 1, 3, none⟩ (Value.bool p.last)).setCell ⟨w.heap.size + 1, 4, none⟩ (Value.int IntKind.i64 p.side)).setCell ⟨w.heap.size + 1, 5, none⟩ (Value.slice E1 ni d1)).setCell ⟨w.heap.size + 1, 6, none⟩ (Value.slice E2 nk d2)) = wE at *
    obtain ⟨e0, e1, e2, e3, e4, e5, e6⟩ := Blk.cells7 HE.out
    exact bodyPost_ret (v := .agg #[Value.int IntKind.i64 p.level, Value.string p.low, Value.string p.high, Value.bool p.last, Value.int IntKind.i64 p.side, Value.slice E1 ni d1, Value.slice E2 nk d2]) (by simp [results, Tryz.results117, go_sem, e0, e1, e2, e3, e4, e5, e6]) rfl ⟨.slice E1 ni d1, .slice E2 nk d2, rfl, HOE.out.1, HOE.out.2, HBE.out⟩
end Go.Proofs.YtjbdmaehomhdeaaGreat

namespace Go.Proofs.YtjbdmaehomhdeaaGreat
open Go.RowKit

def PostIItem (w : World) (base : Nat) (v : Value) (l : List Item) (e : Ending) (w' : World) : Prop := ∃ v', e = .returned v' ∧ OwnItem w' base v' l ∧ w.grownBy w' v.ownBlock

set_option maxRecDepth 100000 in
set_option maxHeartbeats 1000000 in
theorem insert_end_item (base g0 : Nat) (v : Value) (l : List Item) (x : Item) (w : World) (hown : OwnItem w base v l) (hblk : Blk w g0 23 x.cells.toArray) (hlen : l.length ≤ 1000) (hbase : base ≤ w.heap.size) :
    Calls Tryz.prog 118 #[v, .int .i64 (l.length : Nat), .slice (some ⟨g0, 0, none⟩) 1 1] w (PostIItem w base v (l ++ [x])) := by
  have HO := Lib.hid hown
  obtain ⟨A, c, rfl, hc, _⟩ := hown.form
  have hcm : c ≤ maxLen := by
    rcases hown.2 with ⟨e, _⟩ | ⟨g, cap, cur, e, _, _, _, hm, _⟩
    · injection e with e1 e2 e3; omega
    · injection e with e1 e2 e3; omega
  unfold maxLen at hcm
  obtain ⟨i0, hi0, hz0, hz1, hz2⟩ := info_parts info_item
  have HI0 := Lib.hid hi0
  have HZ0 := Lib.hid hz0
  have HZ1 := Lib.hid hz1
  have HZ2 := Lib.hid hz2
  have HBK := Lib.hid hblk
  clear hi0 hz0 hz1 hz2 hown hblk
  obtain ⟨n, hn⟩ : ∃ n, n = l.length := ⟨_, rfl⟩
  rw [← hn] at hc hlen HO
  rw [← hn]
  have HN := Lib.hid hn
  clear hn
  have hnn : ((n : Int) == (n : Int)) = true := beq_self_eq_true _
  go_enter Tryz.func118, Tryz.ntmps118
  have hn0 : (0 : Int) ≤ (n : Int) := by omega
  have hnc : (n : Int) ≤ (c : Int) := by omega
  by_cases hcn : c = n
  all_goals
    go_wp2_with (at_builtin; (refine wpList_append_own _ rfl (.tmp 23) (.tmp 24) 24 rfl base 23 i0 _ 4 (12 * 4) Tryz.underlying24 HI0.out HZ0.out HZ1.out HZ2.out rfl (by omega) _ n (l.flatMap Item.cells) rfl (by have := HO.out; unfold OwnItem at this; rw [← HN.out] at this; exact this) ⟨g0, 0, none⟩ 1 1 x.cells rfl (by rfl) (World.news_of_block (cs := x.cells.toArray) (t := 23) (fr := (0, 0)) HBK.out) (Item.one x) (by simp only [maxLen]; omega) (by omega) hbase ?_); intro v' w' hO hG _)
    go_ret
    exact ⟨v', rfl, by unfold OwnItem; rw [List.length_append, List.flatMap_append, ← HN.out]; simpa using hO, hG⟩

def PostIKid (w : World) (base : Nat) (v : Value) (l : List Kid) (e : Ending) (w' : World) : Prop := ∃ v', e = .returned v' ∧ OwnKid w' base v' l ∧ w.grownBy w' v.ownBlock

set_option maxRecDepth 100000 in
set_option maxHeartbeats 1000000 in
theorem insert_end_kid (base g0 : Nat) (v : Value) (l : List Kid) (x : Kid) (w : World) (hown : OwnKid w base v l) (hblk : Blk w g0 61 x.cells.toArray) (hlen : l.length ≤ 1000) (hbase : base ≤ w.heap.size) :
    Calls Tryz.prog 135 #[v, .int .i64 (l.length : Nat), .slice (some ⟨g0, 0, none⟩) 1 1] w (PostIKid w base v (l ++ [x])) := by
  have HO := Lib.hid hown
  obtain ⟨A, c, rfl, hc, _⟩ := hown.form
  have hcm : c ≤ maxLen := by
    rcases hown.2 with ⟨e, _⟩ | ⟨g, cap, cur, e, _, _, _, hm, _⟩
    · injection e with e1 e2 e3; omega
    · injection e with e1 e2 e3; omega
  unfold maxLen at hcm
  obtain ⟨i0, hi0, hz0, hz1, hz2⟩ := info_parts info_kid
  have HI0 := Lib.hid hi0
  have HZ0 := Lib.hid hz0
  have HZ1 := Lib.hid hz1
  have HZ2 := Lib.hid hz2
  have HBK := Lib.hid hblk
  clear hi0 hz0 hz1 hz2 hown hblk
  obtain ⟨n, hn⟩ : ∃ n, n = l.length := ⟨_, rfl⟩
  rw [← hn] at hc hlen HO
  rw [← hn]
  have HN := Lib.hid hn
  clear hn
  have hnn : ((n : Int) == (n : Int)) = true := beq_self_eq_true _
  go_enter Tryz.func135, Tryz.ntmps135
  have hn0 : (0 : Int) ≤ (n : Int) := by omega
  have hnc : (n : Int) ≤ (c : Int) := by omega
  by_cases hcn : c = n
  all_goals
    go_wp2_with (at_builtin; (refine wpList_append_own _ rfl (.tmp 23) (.tmp 24) 25 rfl base 61 i0 _ 2 (12 * 2) Tryz.underlying25 HI0.out HZ0.out HZ1.out HZ2.out rfl (by omega) _ n (l.flatMap Kid.cells) rfl (by have := HO.out; unfold OwnKid at this; rw [← HN.out] at this; exact this) ⟨g0, 0, none⟩ 1 1 x.cells rfl (by rfl) (World.news_of_block (cs := x.cells.toArray) (t := 61) (fr := (0, 0)) HBK.out) (Kid.one x) (by simp only [maxLen]; omega) (by omega) hbase ?_); intro v' w' hO hG _)
    go_ret
    exact ⟨v', rfl, by unfold OwnKid; rw [List.length_append, List.flatMap_append, ← HN.out]; simpa using hO, hG⟩

end Go.Proofs.YtjbdmaehomhdeaaGreat

namespace Go.Proofs.YtjbdmaehomhdeaaGreat
open Go.RowKit

def cmpB (a b : ByteArray) : Int := Go.Lib.compareBytes a.data.toList b.data.toList
theorem cmpL_neg : ∀ x y : List UInt8, decide (Go.Lib.compareBytes x y < 0) = Op.bytesLess x y
  | [], [] => by simp [Go.Lib.compareBytes, Op.bytesLess]
  | [], b :: y => by simp [Go.Lib.compareBytes, Op.bytesLess]
  | a :: x, [] => by simp [Go.Lib.compareBytes, Op.bytesLess]
  | a :: x, b :: y => by
    have ih := cmpL_neg x y
    unfold Go.Lib.compareBytes Op.bytesLess
    by_cases h1 : a < b
    · simp [h1]
    · by_cases h2 : b < a
      · have hne : ¬ a = b := fun e => by subst e; exact h1 h2
        simp [h1, h2, hne]
      · have he : a = b := UInt8.toNat_inj.1 (by
          have g1 : ¬ a.toNat < b.toNat := fun h => h1 (UInt8.lt_iff_toNat_lt.2 h)
          have g2 : ¬ b.toNat < a.toNat := fun h => h2 (UInt8.lt_iff_toNat_lt.2 h)
          omega)
        subst he
        simp [h1, ih]
theorem cmpL_zero : ∀ x y : List UInt8, Go.Lib.compareBytes x y = 0 ↔ x = y
  | [], [] => by simp [Go.Lib.compareBytes]
  | [], b :: y => by simp [Go.Lib.compareBytes]
  | a :: x, [] => by simp [Go.Lib.compareBytes]
  | a :: x, b :: y => by
    have ih := cmpL_zero x y
    unfold Go.Lib.compareBytes
    by_cases h1 : a < b
    · have hne : ¬ a = b := fun e => by subst e; exact absurd h1 (UInt8.lt_irrefl a)
      simp [h1, hne]
    · by_cases h2 : b < a
      · have hne : ¬ a = b := fun e => by subst e; exact h1 h2
        simp [h1, h2, hne]
      · have he : a = b := UInt8.toNat_inj.1 (by
          have g1 : ¬ a.toNat < b.toNat := fun h => h1 (UInt8.lt_iff_toNat_lt.2 h)
          have g2 : ¬ b.toNat < a.toNat := fun h => h2 (UInt8.lt_iff_toNat_lt.2 h)
          omega)
        subst he
        simp [h1, ih]
theorem cmpB_neg (a b : ByteArray) : decide (cmpB a b < 0) = lt a b := by
  unfold cmpB lt
  rw [cmpL_neg, ByteArray.toList_eq, ByteArray.toList_eq]
theorem cmpB_zero (a b : ByteArray) : cmpB a b = 0 ↔ a = b := by
  unfold cmpB
  rw [cmpL_zero]
  constructor
  · intro h; cases a; cases b; simp at h; rw [h]
  · rintro rfl; rfl

set_option maxHeartbeats 1000000 in
set_option maxRecDepth 100000 in
theorem bytealg_CompareString (a b : ByteArray) (w : World) :
    Calls Tryz.prog 124 #[.string a, .string b] w fun e w' => e = .returned (.int .i64 (cmpB a b)) ∧ w = w' := by
  unfold cmpB
  go_enter Tryz.func124, Tryz.ntmps124
  go_wp2
  rw [run_callFunc_extern (P := Tryz.prog) (f := 126) (fn := Tryz.f126) (by kernel_rfl) (by kernel_rfl) (by kernel_rfl) (by kernel_rfl) (e := Extern.BytealgCompare.compare) (by kernel_rfl), Go.Lib.run_compareString]
  simp only [Result.andThen]
  rw [Oper.upon_value]
  go_wp2
  go_ret
  exact ⟨rfl, rfl⟩

set_option maxHeartbeats 1000000 in
theorem strings_Compare (a b : ByteArray) (w : World) :
    Calls Tryz.prog 121 #[.string a, .string b] w fun e w' => e = .returned (.int .i64 (cmpB a b)) ∧ w = w' := by
  go_enter Tryz.func121, Tryz.ntmps121
  go_wp2_with (go_at_call 124; refine (bytealg_CompareString _ _ _).mono ?_; rintro e w' ⟨rfl, rfl⟩)
  go_ret
  exact ⟨rfl, rfl⟩
end Go.Proofs.YtjbdmaehomhdeaaGreat

namespace Go.Proofs.YtjbdmaehomhdeaaGreat
open Go.RowKit

/-- how many keys lie ahead of one -/
def posOf {α : Type} (key : α → ByteArray) (l : List α) (k : ByteArray) : Nat := (l.takeWhile (fun y => lt (key y) k)).length
/-- whether the thing there has it -/
def isAt {α : Type} (key : α → ByteArray) (l : List α) (k : ByteArray) : Bool := match l[posOf key l k]? with
  | some y => decide (key y = k)
  | none => false
/-- keys rise strictly -/
def Sorted {α : Type} (key : α → ByteArray) (l : List α) : Prop := ∀ (i j : Nat) (x y : α), i < j → l[i]? = some x → l[j]? = some y → lt (key x) (key y) = true
theorem posOf_le {α : Type} (key : α → ByteArray) (l : List α) (k : ByteArray) : posOf key l k ≤ l.length := by
  unfold posOf
  induction l with
  | nil => simp
  | cons a l ih =>
    rw [List.takeWhile_cons]
    split <;> simp <;> omega
theorem posOf_eq {α : Type} {key : α → ByteArray} {l : List α} {k : ByteArray} {i : Nat} (hi : i ≤ l.length) (h1 : ∀ a x, a < i → l[a]? = some x → lt (key x) k = true) (h2 : ∀ x, l[i]? = some x → lt (key x) k = false) : posOf key l k = i := by
  unfold posOf
  induction l generalizing i with
  | nil => simp at hi; simp [hi]
  | cons a l ih =>
    rw [List.takeWhile_cons]
    cases i with
    | zero =>
      rw [if_neg (by rw [h2 a rfl]; simp)]; rfl
    | succ i =>
      rw [if_pos (h1 0 a (by omega) rfl)]
      simp only [List.length_cons] at hi ⊢
      rw [ih (i := i) (by omega) (fun b x hb hx => h1 (b + 1) x (by omega) (by simpa using hx)) (fun x hx => h2 x (by simpa using hx))]
theorem bytesLess_trans : ∀ x y z : List UInt8, Op.bytesLess x y = true → Op.bytesLess y z = true → Op.bytesLess x z = true
  | [], [], _ => by simp [Op.bytesLess]
  | [], b :: y, [] => by simp [Op.bytesLess]
  | [], b :: y, c :: z => by simp [Op.bytesLess]
  | a :: x, [], _ => by simp [Op.bytesLess]
  | a :: x, b :: y, [] => by simp [Op.bytesLess]
  | a :: x, b :: y, c :: z => by
    have ih := bytesLess_trans x y z
    simp only [Op.bytesLess, Bool.or_eq_true, Bool.and_eq_true, decide_eq_true_eq, beq_iff_eq]
    simp only [UInt8.lt_iff_toNat_lt, ← UInt8.toNat_inj]
    rintro (h1 | ⟨h1, h1'⟩) (h2 | ⟨h2, h2'⟩)
    · left; omega
    · left; omega
    · left; omega
    · right; exact ⟨by omega, ih h1' h2'⟩
theorem lt_trans {a b c : ByteArray} (h1 : lt a b = true) (h2 : lt b c = true) : lt a c = true := bytesLess_trans _ _ _ h1 h2
theorem lt_asymm {a b : ByteArray} (h1 : lt a b = true) : lt b a = false := by
  cases h : lt b a with
  | false => rfl
  | true => have := lt_trans h1 h; rw [lt_irr] at this; cases this
theorem sorted_of_rises {α : Type} {key : α → ByteArray} {p : Page} {l : List α} (h : rises p (l.map key) = true) : Sorted key l := by
  have h : Rises p (l.map key) := by
    unfold rises at h
    exact @of_decide_eq_true _ (Classical.propDecidable _) h
  have one : ∀ (d i : Nat) (x y : α), l[i]? = some x → l[i + d + 1]? = some y → lt (key x) (key y) = true := by
    intro d
    induction d with
    | zero =>
      intro i x y hx hy
      have := (h (i + 0 + 1) (key y) (by rw [List.getElem?_map, hy]; rfl)).2 i (key x) rfl (by rw [List.getElem?_map, hx]; rfl)
      exact this
    | succ d ih =>
      intro i x y hx hy
      have hlt : i + (d + 1) + 1 < l.length := (List.getElem?_eq_some_iff.1 hy).1
      have hz : l[i + d + 1]? = some l[i + d + 1] := List.getElem?_eq_getElem (by omega)
      have h2 := (h (i + (d + 1) + 1) (key y) (by rw [List.getElem?_map, hy]; rfl)).2 (i + d + 1) (key l[i + d + 1]) (by omega) (by rw [List.getElem?_map, hz]; rfl)
      exact lt_trans (ih i x _ hx hz) h2
  intro i j x y hij hx hy
  have := one (j - i - 1) i x y hx (by rw [show i + (j - i - 1) + 1 = j by omega]; exact hy)
  exact this

set_option maxHeartbeats 1000000 in
theorem place_cmp_item (g : Nat) (k v : ByteArray) (n : Int) (gn : Bool) (s : ByteArray) (w : World) (hf : Blk w g 133 #[.func (.func 91) #[] #[]]) :
    Calls Tryz.prog 120 #[.agg #[.string k, .string v, .int .i64 n, .bool gn], .string s, .pointer (some ⟨g, 0, none⟩)] w fun e w' => e = .returned (.int .i64 (cmpB k s)) ∧ Below w.heap.size w w' := by
  have hc : ∀ o, (w.alloc o).cell? ⟨g, 0, none⟩ = some (.func (.func 91) #[] #[]) := fun o => (hf.alloc o).cell 0
  clear hf
  go_enter Tryz.func120, Tryz.ntmps120
  go_wp2_with (first
    | (go_at_call 91; refine (page_itemKey _ _ _ _ _).mono ?_; rintro e w1 ⟨rfl, hb1⟩)
    | (go_at_call 121; refine (strings_Compare _ _ _).mono ?_; rintro e w2 ⟨rfl, rfl⟩))
  go_ret
  exact ⟨rfl, ((Below.refl _ _).alloc (Nat.le_refl _) _).trans (hb1.mono (by simp))⟩

def PostPl {α : Type} (key : α → ByteArray) (l : List α) (s : ByteArray) (w : World) (e : Ending) (w' : World) : Prop := e = .returned (.tuple #[.int .i64 (posOf key l s : Nat), .bool (isAt key l s)]) ∧ Below w.heap.size w w'

set_option maxRecDepth 100000 in
set_option maxHeartbeats 4000000 in
theorem search_item (A : Option Addr) (c lo g : Nat) (l : List Item) (s : ByteArray) (w : World) (hr : Rd Item.cells 4 w lo w.heap.size A l) (hlen : l.length ≤ 140737488351232) (hs : Sorted Item.key l) (hf : Blk w g 133 #[.func (.func 91) #[] #[]]) :
    Calls Tryz.prog 119 #[.slice A l.length c, .string s, .func (.func 120) #[] #[.pointer (some ⟨g, 0, none⟩)]] w (PostPl Item.key l s w) := by
  have HR := Lib.hid hr
  have HS := Lib.hid hs
  have HF := Lib.hid hf
  clear hr hs hf
  obtain ⟨n, hn⟩ : ∃ n, n = l.length := ⟨_, rfl⟩
  rw [← hn]
  rw [← hn] at hlen
  have HN := Lib.hid hn
  clear hn
  go_enter Tryz.func119, Tryz.ntmps119
  go_wp2
  go_loopw [9, 10] (fun i j wr => ∃ a b : Nat, a ≤ b ∧ b ≤ n ∧ i = .int .i64 a ∧ j = .int .i64 b ∧ Hid (Below w.heap.size w wr) ∧ Hid (∀ q x, q < a → l[q]? = some x → lt x.key s = true) ∧ Hid (∀ q x, b ≤ q → l[q]? = some x → lt x.key s = false)) (fun i j _ => (intOf j).toNat - (intOf i).toNat)
  case atStart => exact ⟨0, n, Nat.zero_le _, Nat.le_refl _, rfl, rfl, Lib.hid (Below.refl _ _), Lib.hid (fun q x h => by omega), Lib.hid (fun q x h hx => by rw [List.getElem?_eq_none (by rw [← HN.out]; exact h)] at hx; cases hx)⟩
  case round =>
    obtain ⟨a, b, hab, hbn, rfl, rfl, HB, HA1, HA2⟩ := hrel
    by_cases hlt : a < b
    · have hlt' : (a : Int) < (b : Int) := by omega
      go_upto_region 5 with (fail)
      rw [show ((a : Int) + (b : Int)) / 2 = (((a + b) / 2 : Nat) : Int) by omega]
      obtain ⟨h, hh⟩ : ∃ h, h = (a + b) / 2 := ⟨_, rfl⟩
      rw [← hh]
      have hah : a ≤ h := by omega
      have hhb : h < b := by omega
      have hhn : h < n := by omega
      have hh0 : (0 : Int) ≤ (h : Int) := by omega
      have hhn' : (h : Int) < (n : Int) := by omega
      clear hh
      obtain ⟨ad, x, rfl, hx, h1, h2, c0, c1, c2, c3⟩ := (HR.out.below HB.out).item (i := h) (by rw [← HN.out]; exact hhn)
      have HFr : Hid (Blk wr g 133 #[.func (.func 91) #[] #[]]) := Lib.hid (HF.out.below HB.out HF.out.lt)
      have hcm := cmpB_neg x.key s
      cases hl : lt x.key s with
      | true =>
        rw [hl] at hcm
        have HL := Lib.hid hl
        clear hl
        go_wp2_with (go_at_call 120; refine (place_cmp_item g _ _ _ _ s _ HFr.out).mono ?_; rintro e w1 ⟨rfl, hb1⟩)
        go_roundw
        case rel => exact ⟨h + 1, b, by omega, hbn, by go_num, rfl, Lib.hid (HB.out.trans (hb1.mono HB.out.size)), Lib.hid (fun q y hq hy => by
          rcases Nat.lt_or_ge q h with hqh | hqh
          · exact lt_trans (HS.out q h y x hqh hy hx.out) HL.out
          · obtain rfl : q = h := by omega
            rw [hx.out] at hy; cases hy; exact HL.out), HA2⟩
        case measure => simp [intOf]; omega
      | false =>
        rw [hl] at hcm
        have HL := Lib.hid hl
        clear hl
        go_wp2_with (go_at_call 120; refine (place_cmp_item g _ _ _ _ s _ HFr.out).mono ?_; rintro e w1 ⟨rfl, hb1⟩)
        go_roundw
        case rel => exact ⟨a, h, hah, by omega, rfl, rfl, Lib.hid (HB.out.trans (hb1.mono HB.out.size)), HA1, Lib.hid (fun q y hq hy => by
          rcases Nat.lt_or_ge h q with hqh | hqh
          · cases hly : lt y.key s with
            | false => rfl
            | true =>
              have := lt_trans (HS.out h q x y hqh hx.out hy) hly
              rw [HL.out] at this; cases this
          · obtain rfl : q = h := by omega
            rw [hx.out] at hy; cases hy; exact HL.out)⟩
        case measure => simp [intOf]; omega
    · obtain rfl : a = b := by omega
      have HPO : Hid (posOf Item.key l s = a) := Lib.hid (posOf_eq (by rw [← HN.out]; exact hbn) HA1.out (fun x hx => HA2.out a x (Nat.le_refl _) hx))
      clear hlt hab
      by_cases han : a < n
      · have han' : (a : Int) < (n : Int) := by omega
        have han0 : (0 : Int) ≤ (a : Int) := by omega
        obtain ⟨ad, x, rfl, hx, h1, h2, c0, c1, c2, c3⟩ := (HR.out.below HB.out).item (i := a) (by rw [← HN.out]; exact han)
        have HFr : Hid (Blk wr g 133 #[.func (.func 91) #[] #[]]) := Lib.hid (HF.out.below HB.out HF.out.lt)
        have HIS : Hid (isAt Item.key l s = decide (x.key = s)) := Lib.hid (by unfold isAt; rw [HPO.out, hx.out])
        have hcz : (cmpB x.key s == 0) = decide (x.key = s) := by
          rw [Bool.eq_iff_iff, beq_iff_eq, decide_eq_true_iff]; exact cmpB_zero _ _
        obtain ⟨cb, hcb⟩ : ∃ cb, cb = cmpB x.key s := ⟨_, rfl⟩
        obtain ⟨db, hdb⟩ : ∃ db, db = decide (x.key = s) := ⟨_, rfl⟩
        rw [← hcb, ← hdb] at hcz
        have HCB := Lib.hid hcb
        have HDB := Lib.hid hdb
        clear hcb hdb
        go_wp2_with (go_at_call 120; refine (place_cmp_item g _ _ _ _ s _ HFr.out).mono ?_; rw [← HCB.out]; rintro e w1 ⟨rfl, hb1⟩)
        go_ret2
        exact ⟨by rw [HPO.out, HIS.out, ← HDB.out]; rfl, HB.out.trans (hb1.mono HB.out.size)⟩
      · have HIS : Hid (isAt Item.key l s = false) := Lib.hid (by unfold isAt; rw [HPO.out, List.getElem?_eq_none (by rw [← HN.out]; omega)])
        have han' : ¬ (a : Int) < (n : Int) := by omega
        go_wp2
        go_ret2
        exact ⟨by rw [HPO.out, HIS.out]; rfl, HB.out⟩

set_option maxHeartbeats 1000000 in
theorem place_item (A : Option Addr) (c lo : Nat) (l : List Item) (s : ByteArray) (w : World) (hr : Rd Item.cells 4 w lo w.heap.size A l) (hlen : l.length ≤ 140737488351232) (hs : Sorted Item.key l) :
    Calls Tryz.prog 116 #[.slice A l.length c, .string s, .func (.func 91) #[] #[]] w (PostPl Item.key l s w) := by
  have HSE := Lib.hid (fun g w1 h1 h2 => search_item A c lo g l s w1 h1 hlen hs h2)
  have HR := Lib.hid hr
  clear hr hs
  obtain ⟨n, hn⟩ : ∃ n, n = l.length := ⟨_, rfl⟩
  rw [← hn]
  rw [← hn] at HSE
  clear hn hlen
  go_enter Tryz.func116, Tryz.ntmps116
  have hb : Below w.heap.size w (w.alloc (.cells #[.func (.func 91) #[] #[]] 133)) := (Below.refl _ _).alloc (Nat.le_refl _) _
  have hk : Blk (w.alloc (.cells #[.func (.func 91) #[] #[]] 133)) w.heap.size 133 #[.func (.func 91) #[] #[]] := Blk.new _ _ _
  go_wp2_with fail
  generalize w.alloc (.cells #[.func (.func 91) #[] #[]] 133) = w0 at *
  refine (HSE.out _ w0 ((HR.out.below hb).mono (Nat.le_refl _) hb.size) hk).mono ?_
  rintro e w1 ⟨rfl, hb1⟩
  have HB : Hid (Below w.heap.size w w1) := Lib.hid (hb.trans (hb1.mono hb.size))
  clear hb hk hb1
  go_wp2
  go_ret2
  exact ⟨rfl, HB.out⟩
end Go.Proofs.YtjbdmaehomhdeaaGreat
