/- Clones. -/
import Derived.Test.YtjbdmaehomhdeaaC1
import Derived.Test.YtjbdmaehomhdeaaA8
import Derived.WalkSpells
import Derived.Deep.RegionLaw
namespace Go.Proofs.Ytjbdmaehomhdeaa
open Go.RowKit

theorem Rd.flatItem {w : World} {lo hi : Nat} {ad : Addr} {l : List Item} (h : Rd Item.cells 4 w lo hi (some ad) l) : ∀ j u, (l.flatMap Item.cells)[j]? = some u → w.cell? (ad.add j) = some u := by
  intro j u hu
  have hj : j < (l.flatMap Item.cells).length := (List.getElem?_eq_some_iff.1 hu).1
  rw [Item.cells_length] at hj
  obtain ⟨ad', e, _, _, hc⟩ := h (by intro e; subst e; simp at hj)
  obtain rfl := Option.some.inj e
  have hi : j / 4 < l.length := by omega
  have h1 : (l.flatMap Item.cells)[(j / 4) * 4 + j % 4]? = (l[j / 4].cells)[j % 4]? := by
    have hsplit : l.flatMap Item.cells = (l.take (j / 4)).flatMap Item.cells ++ (l[j / 4].cells ++ (l.drop (j / 4 + 1)).flatMap Item.cells) := by
      conv => lhs; rw [← List.take_append_drop (j / 4) l, List.drop_eq_getElem_cons hi]
      rw [List.flatMap_append, List.flatMap_cons]
    rw [hsplit, List.getElem?_append_right (by rw [Item.cells_length, List.length_take]; omega), Item.cells_length, List.length_take, Nat.min_eq_left (by omega), Nat.add_sub_cancel_left]
    rw [List.getElem?_append_left (by simp [Item.cells]; omega)]
  have h2 : (j / 4) * 4 + j % 4 = j := by omega
  rw [h2, hu] at h1
  have := hc (j / 4) _ (List.getElem?_eq_getElem hi) (j % 4) u h1.symm
  rwa [h2] at this
theorem Item.one (x : Item) : ∀ u ∈ x.cells, u.oneCell' = true := by
  intro u hu
  simp [Item.cells] at hu
  rcases hu with rfl | rfl | rfl | rfl <;> rfl
theorem Item.ones (l : List Item) : ∀ u ∈ l.flatMap Item.cells, u.oneCell' = true := by
  intro u hu
  obtain ⟨x, _, hx⟩ := List.mem_flatMap.1 hu
  exact Item.one x u hx
theorem OwnItem.mono {w : World} {b b' : Nat} {v : Value} {l : List Item} (h : OwnItem w b v l) (hb : b' ≤ b) : OwnItem w b' v l := by
  refine ⟨h.1, ?_⟩
  rcases h.2 with hn | ⟨g, cap, cur, rfl, hg, rest⟩
  · exact .inl hn
  · exact .inr ⟨g, cap, cur, rfl, Nat.le_trans hb hg, rest⟩
theorem OwnItem.below {w w' : World} {b B : Nat} {v : Value} {l : List Item} (h : OwnItem w b v l) (hb : Below B w w') (hB : w.heap.size ≤ B) : OwnItem w' b v l :=
  h.keep fun k hk => hb.block k (Nat.lt_of_lt_of_le (h.block k hk).2 hB)
theorem OwnItem.setLow {w : World} {b g i : Nat} {v : Value} {l : List Item} (h : OwnItem w b v l) (hg : g < b) (u : Value) : OwnItem (w.setCell ⟨g, i, none⟩ u) b v l :=
  h.keep fun k hk => Below.heap_setCell w ⟨g, i, none⟩ u k (by have := (h.block k hk).1; simp; omega)
def PostCItem (w : World) (l : List Item) (e : Ending) (w' : World) : Prop := ∃ v, e = .returned v ∧ OwnItem w' w.heap.size v l ∧ Below w.heap.size w w'

set_option maxRecDepth 100000 in
set_option maxHeartbeats 1000000 in
theorem clone_item (A : Option Addr) (c lo : Nat) (l : List Item) (w : World) (hr : Rd Item.cells 4 w lo w.heap.size A l) (hlen : l.length ≤ 1000000) :
    Calls Try.prog 45 #[.slice A l.length c] w (PostCItem w l) := by
  have HR := Lib.hid hr
  clear hr
  obtain ⟨n, hn⟩ : ∃ n, n = l.length := ⟨_, rfl⟩
  rw [← hn]
  have HN := Lib.hid hn
  rw [← hn] at hlen
  clear hn
  go_enter Try.func45, Try.ntmps45
  cases A with
  | none =>
    have HL : Hid (l = []) := Lib.hid (by
      cases l with
      | nil => rfl
      | cons a l => obtain ⟨_, e, _⟩ := HR.out (by simp); cases e)
    have hq : ∀ W, (binOp .eql 24 (.slice none n c) (.slice none 0 0)).run Try.prog W = .ok (.bool true) W := fun W => Go.Lib.run_eql_slice_nil (P := Try.prog) W 24 39 none n c 0 0 Try.underlying24
    go_wp2
    go_ret
    exact ⟨_, rfl, by rw [HL.out]; exact OwnItem.nil _ _, Below.refl _ _⟩
  | some ad =>
    have hq : ∀ W, (binOp .eql 24 (.slice (some ad) n c) (.slice none 0 0)).run Try.prog W = .ok (.bool false) W := fun W => Go.Lib.run_eql_slice_nil (P := Try.prog) W 24 39 (some ad) n c 0 0 Try.underlying24
    obtain ⟨i0, hi0, hz0, hz1, hz2⟩ := info_parts info_item
    have HI0 := Lib.hid hi0
    have HZ0 := Lib.hid hz0
    have HZ1 := Lib.hid hz1
    have HZ2 := Lib.hid hz2
    clear hi0 hz0 hz1 hz2
    have HF : Hid (∀ o, ∀ j u, (l.flatMap Item.cells)[j]? = some u → (w.alloc o).cell? (ad.add j) = some u) := Lib.hid fun o => Rd.flatItem (lo := lo) (hi := w.heap.size) (HR.out.below ((Below.refl _ _).alloc (Nat.le_refl _) o))
    go_wp2_with (at_builtin; (refine wpList_append_own _ rfl (.tmp 5) (.tmp 6) 24 rfl w.heap.size 39 i0 _ 4 (12 * 4) Try.underlying24 HI0.out HZ0.out HZ1.out HZ2.out rfl (by omega) _ 0 [] rfl (World.ownsRow_made w #[] 0 (Nat.le_refl _) (by decide) rfl) ad n c (l.flatMap Item.cells) rfl (by rw [Item.cells_length, HN.out]) (HF.out _) (Item.ones l) (by simp only [maxLen]; omega) (by omega) (by simp) ?_); intro v' w' hO hG _)
    go_ret
    refine ⟨v', rfl, ?_, ?_⟩
    · unfold OwnItem
      rw [Nat.zero_add, List.nil_append] at hO
      rw [← HN.out]; exact hO
    · exact ((Below.refl _ _).alloc (Nat.le_refl _) _).grown hG (by simp) (fun k hk => by cases hk; exact Nat.le_refl _)

theorem Rd.flatKid {w : World} {lo hi : Nat} {ad : Addr} {l : List Kid} (h : Rd Kid.cells 2 w lo hi (some ad) l) : ∀ j u, (l.flatMap Kid.cells)[j]? = some u → w.cell? (ad.add j) = some u := by
  intro j u hu
  have hj : j < (l.flatMap Kid.cells).length := (List.getElem?_eq_some_iff.1 hu).1
  rw [Kid.cells_length] at hj
  obtain ⟨ad', e, _, _, hc⟩ := h (by intro e; subst e; simp at hj)
  obtain rfl := Option.some.inj e
  have hi : j / 2 < l.length := by omega
  have h1 : (l.flatMap Kid.cells)[(j / 2) * 2 + j % 2]? = (l[j / 2].cells)[j % 2]? := by
    have hsplit : l.flatMap Kid.cells = (l.take (j / 2)).flatMap Kid.cells ++ (l[j / 2].cells ++ (l.drop (j / 2 + 1)).flatMap Kid.cells) := by
      conv => lhs; rw [← List.take_append_drop (j / 2) l, List.drop_eq_getElem_cons hi]
      rw [List.flatMap_append, List.flatMap_cons]
    rw [hsplit, List.getElem?_append_right (by rw [Kid.cells_length, List.length_take]; omega), Kid.cells_length, List.length_take, Nat.min_eq_left (by omega), Nat.add_sub_cancel_left]
    rw [List.getElem?_append_left (by simp [Kid.cells]; omega)]
  have h2 : (j / 2) * 2 + j % 2 = j := by omega
  rw [h2, hu] at h1
  have := hc (j / 2) _ (List.getElem?_eq_getElem hi) (j % 2) u h1.symm
  rwa [h2] at this
theorem Kid.one (x : Kid) : ∀ u ∈ x.cells, u.oneCell' = true := by
  intro u hu
  simp [Kid.cells] at hu
  rcases hu with rfl | rfl | rfl | rfl <;> rfl
theorem Kid.ones (l : List Kid) : ∀ u ∈ l.flatMap Kid.cells, u.oneCell' = true := by
  intro u hu
  obtain ⟨x, _, hx⟩ := List.mem_flatMap.1 hu
  exact Kid.one x u hx
theorem OwnKid.mono {w : World} {b b' : Nat} {v : Value} {l : List Kid} (h : OwnKid w b v l) (hb : b' ≤ b) : OwnKid w b' v l := by
  refine ⟨h.1, ?_⟩
  rcases h.2 with hn | ⟨g, cap, cur, rfl, hg, rest⟩
  · exact .inl hn
  · exact .inr ⟨g, cap, cur, rfl, Nat.le_trans hb hg, rest⟩
theorem OwnKid.below {w w' : World} {b B : Nat} {v : Value} {l : List Kid} (h : OwnKid w b v l) (hb : Below B w w') (hB : w.heap.size ≤ B) : OwnKid w' b v l :=
  h.keep fun k hk => hb.block k (Nat.lt_of_lt_of_le (h.block k hk).2 hB)
theorem OwnKid.setLow {w : World} {b g i : Nat} {v : Value} {l : List Kid} (h : OwnKid w b v l) (hg : g < b) (u : Value) : OwnKid (w.setCell ⟨g, i, none⟩ u) b v l :=
  h.keep fun k hk => Below.heap_setCell w ⟨g, i, none⟩ u k (by have := (h.block k hk).1; simp; omega)
def PostCKid (w : World) (l : List Kid) (e : Ending) (w' : World) : Prop := ∃ v, e = .returned v ∧ OwnKid w' w.heap.size v l ∧ Below w.heap.size w w'

set_option maxRecDepth 100000 in
set_option maxHeartbeats 1000000 in
theorem clone_kid (A : Option Addr) (c lo : Nat) (l : List Kid) (w : World) (hr : Rd Kid.cells 2 w lo w.heap.size A l) (hlen : l.length ≤ 1000000) :
    Calls Try.prog 46 #[.slice A l.length c] w (PostCKid w l) := by
  have HR := Lib.hid hr
  clear hr
  obtain ⟨n, hn⟩ : ∃ n, n = l.length := ⟨_, rfl⟩
  rw [← hn]
  have HN := Lib.hid hn
  rw [← hn] at hlen
  clear hn
  go_enter Try.func46, Try.ntmps46
  cases A with
  | none =>
    have HL : Hid (l = []) := Lib.hid (by
      cases l with
      | nil => rfl
      | cons a l => obtain ⟨_, e, _⟩ := HR.out (by simp); cases e)
    have hq : ∀ W, (binOp .eql 25 (.slice none n c) (.slice none 0 0)).run Try.prog W = .ok (.bool true) W := fun W => Go.Lib.run_eql_slice_nil (P := Try.prog) W 25 60 none n c 0 0 Try.underlying25
    go_wp2
    go_ret
    exact ⟨_, rfl, by rw [HL.out]; exact OwnKid.nil _ _, Below.refl _ _⟩
  | some ad =>
    have hq : ∀ W, (binOp .eql 25 (.slice (some ad) n c) (.slice none 0 0)).run Try.prog W = .ok (.bool false) W := fun W => Go.Lib.run_eql_slice_nil (P := Try.prog) W 25 60 (some ad) n c 0 0 Try.underlying25
    obtain ⟨i0, hi0, hz0, hz1, hz2⟩ := info_parts info_kid
    have HI0 := Lib.hid hi0
    have HZ0 := Lib.hid hz0
    have HZ1 := Lib.hid hz1
    have HZ2 := Lib.hid hz2
    clear hi0 hz0 hz1 hz2
    have HF : Hid (∀ o, ∀ j u, (l.flatMap Kid.cells)[j]? = some u → (w.alloc o).cell? (ad.add j) = some u) := Lib.hid fun o => Rd.flatKid (lo := lo) (hi := w.heap.size) (HR.out.below ((Below.refl _ _).alloc (Nat.le_refl _) o))
    go_wp2_with (at_builtin; (refine wpList_append_own _ rfl (.tmp 5) (.tmp 6) 25 rfl w.heap.size 60 i0 _ 2 (12 * 2) Try.underlying25 HI0.out HZ0.out HZ1.out HZ2.out rfl (by omega) _ 0 [] rfl (World.ownsRow_made w #[] 0 (Nat.le_refl _) (by decide) rfl) ad n c (l.flatMap Kid.cells) rfl (by rw [Kid.cells_length, HN.out]) (HF.out _) (Kid.ones l) (by simp only [maxLen]; omega) (by omega) (by simp) ?_); intro v' w' hO hG _)
    go_ret
    refine ⟨v', rfl, ?_, ?_⟩
    · unfold OwnKid
      rw [Nat.zero_add, List.nil_append] at hO
      rw [← HN.out]; exact hO
    · exact ((Below.refl _ _).alloc (Nat.le_refl _) _).grown hG (by simp) (fun k hk => by cases hk; exact Nat.le_refl _)

/-- a page's value, its lists as they are -/
def Page.valW (p : Page) (vi vk : Value) : Value := .agg #[.int .i64 p.level, .string p.low, .string p.high, .bool p.last, .int .i64 p.side, vi, vk]
def PostO (w : World) (p : Page) (e : Ending) (w' : World) : Prop := ∃ vi vk, e = .returned (p.valW vi vk) ∧ OwnItem w' w.heap.size vi p.items ∧ OwnKid w' w.heap.size vk p.kids ∧ Below w.heap.size w w'

set_option maxRecDepth 100000 in
set_option maxHeartbeats 4000000 in
theorem page_own (p : Page) (A A' : Option Addr) (c c' lo : Nat) (w : World) (hp : Pg w lo w.heap.size p A A' c c') (hli : p.items.length ≤ 1000000) (hlk : p.kids.length ≤ 1000000) :
    Calls Try.prog 49 #[p.val A c A' c'] w (PostO w p) := by
  have HCI := Lib.hid (fun w1 h => clone_item A c lo p.items w1 h hli)
  have HCK := Lib.hid (fun w1 h => clone_kid A' c' lo p.kids w1 h hlk)
  have H1 := Lib.hid hp
  clear hp
  unfold Page.val Page.raw
  obtain ⟨ni, hni⟩ : ∃ n, n = p.items.length := ⟨_, rfl⟩
  obtain ⟨nk, hnk⟩ : ∃ n, n = p.kids.length := ⟨_, rfl⟩
  rw [← hni, ← hnk]
  rw [← hni] at HCI
  rw [← hnk] at HCK
  clear hni hnk hli hlk
  have hP : Blk ((w.alloc (.cells #[Value.int IntKind.i64 p.level, Value.string p.low, Value.string p.high, Value.bool p.last, Value.int IntKind.i64 p.side, Value.slice A ni c, Value.slice A' nk c'] 27)).alloc (.cells #[Value.int IntKind.i64 0, Value.string { data := #[] }, Value.string { data := #[] }, Value.bool false, Value.int IntKind.i64 0, Value.slice none 0 0, Value.slice none 0 0] 27)) w.heap.size 27 #[Value.int IntKind.i64 p.level, Value.string p.low, Value.string p.high, Value.bool p.last, Value.int IntKind.i64 p.side, Value.slice A ni c, Value.slice A' nk c'] := (Blk.new _ _ _).alloc _
  have hR : Blk ((w.alloc (.cells #[Value.int IntKind.i64 p.level, Value.string p.low, Value.string p.high, Value.bool p.last, Value.int IntKind.i64 p.side, Value.slice A ni c, Value.slice A' nk c'] 27)).alloc (.cells #[Value.int IntKind.i64 0, Value.string { data := #[] }, Value.string { data := #[] }, Value.bool false, Value.int IntKind.i64 0, Value.slice none 0 0, Value.slice none 0 0] 27)) (w.heap.size + 1) 27 #[Value.int IntKind.i64 0, Value.string { data := #[] }, Value.string { data := #[] }, Value.bool false, Value.int IntKind.i64 0, Value.slice none 0 0, Value.slice none 0 0] := by
    have := Blk.new (w.alloc (.cells #[Value.int IntKind.i64 p.level, Value.string p.low, Value.string p.high, Value.bool p.last, Value.int IntKind.i64 p.side, Value.slice A ni c, Value.slice A' nk c'] 27)) 27 #[Value.int IntKind.i64 0, Value.string { data := #[] }, Value.string { data := #[] }, Value.bool false, Value.int IntKind.i64 0, Value.slice none 0 0, Value.slice none 0 0]
    simpa using this
  have hB : Below w.heap.size w ((w.alloc (.cells #[Value.int IntKind.i64 p.level, Value.string p.low, Value.string p.high, Value.bool p.last, Value.int IntKind.i64 p.side, Value.slice A ni c, Value.slice A' nk c'] 27)).alloc (.cells #[Value.int IntKind.i64 0, Value.string { data := #[] }, Value.string { data := #[] }, Value.bool false, Value.int IntKind.i64 0, Value.slice none 0 0, Value.slice none 0 0] 27)) := ((Below.refl _ _).alloc (Nat.le_refl _) _).alloc (by simp) _
  go_enter Try.func49, Try.ntmps49
  go_upto_region 1 with (fail)
  generalize (w.alloc (.cells #[Value.int IntKind.i64 p.level, Value.string p.low, Value.string p.high, Value.bool p.last, Value.int IntKind.i64 p.side, Value.slice A ni c, Value.slice A' nk c'] 27)).alloc (.cells #[Value.int IntKind.i64 0, Value.string { data := #[] }, Value.string { data := #[] }, Value.bool false, Value.int IntKind.i64 0, Value.slice none 0 0, Value.slice none 0 0] 27) = w0 at *
  have HP := Lib.hid hP
  have HR := Lib.hid hR
  have HB := Lib.hid hB
  clear hP hR hB
  obtain ⟨q0, q1, q2, q3, q4, q5, q6⟩ := Blk.cells7 HP.out
  have hsz := HB.out.size
  have HRI : Hid (∀ W, Below w.heap.size w W → Rd Item.cells 4 W lo W.heap.size A p.items) := Lib.hid fun W h => (H1.out.items.below h).mono (Nat.le_refl _) h.size
  have HRK : Hid (∀ W, Below w.heap.size w W → Rd Kid.cells 2 W lo W.heap.size A' p.kids) := Lib.hid fun W h => (H1.out.kids.below h).mono (Nat.le_refl _) h.size
  clear q0 q1 q2 q3 q4
  have hps := HP.out.lt
  go_cut [] (fun wc => Hid (∃ E1 d1 E2 d2, Blk wc w.heap.size 27 #[Value.int IntKind.i64 p.level, Value.string p.low, Value.string p.high, Value.bool p.last, Value.int IntKind.i64 p.side, Value.slice E1 p.items.length d1, Value.slice E2 p.kids.length d2] ∧ Blk wc (w.heap.size + 1) 27 #[Value.int IntKind.i64 0, Value.string { data := #[] }, Value.string { data := #[] }, Value.bool false, Value.int IntKind.i64 0, Value.slice none 0 0, Value.slice none 0 0] ∧ OwnItem wc (w.heap.size + 2) (.slice E1 p.items.length d1) p.items ∧ OwnKid wc (w.heap.size + 2) (.slice E2 p.kids.length d2) p.kids ∧ Below w.heap.size w wc))
  case first =>
    go_region_law (go_simp; first
        | (go_at_call 45; refine (HCI.out _ (HRI.out _ HB.out.drew)).mono ?_; rintro e w1 ⟨v1, rfl, hO1, hB1⟩; have HO1 := Lib.hid hO1; obtain ⟨E1, d1, rfl, _, _⟩ := hO1.form; clear hO1; have HB1 := Lib.hid hB1; have HW1 : Hid (Below w.heap.size w w1) := Lib.hid (HB.out.drew.trans (hB1.mono hsz)); have HP1 : Hid (Blk w1 w.heap.size 27 #[Value.int IntKind.i64 p.level, Value.string p.low, Value.string p.high, Value.bool p.last, Value.int IntKind.i64 p.side, Value.slice A ni c, Value.slice A' nk c']) := Lib.hid (HP.out.drew.below hB1 HP.out.lt); have HR1 : Hid (Blk w1 (w.heap.size + 1) 27 _) := Lib.hid (HR.out.drew.below hB1 HR.out.lt); have hsz1 : w0.drew.heap.size ≤ w1.heap.size := hB1.size; clear hB1; have k5 : w1.cell? ⟨w.heap.size, 5, none⟩ = some (.slice A ni c) := HP1.out.cell 5; have k6 : w1.cell? ⟨w.heap.size, 6, none⟩ = some (.slice A' nk c') := HP1.out.cell 6; have g5 : w1.frozen? ⟨w.heap.size, 5, none⟩ = false := HP1.out.frozen 5)
        | (go_at_call 46; first
          | (refine (HCK.out w1 (HRK.out _ HW1.out)).mono ?_; rintro e w2 ⟨v2, rfl, hO2, hB2⟩; have HO2 := Lib.hid hO2; obtain ⟨E2, d2, rfl, _, _⟩ := hO2.form; clear hO2; have HW2 : Hid (Below w.heap.size w w2) := Lib.hid (HW1.out.trans (hB2.mono HW1.out.size)); have HP2 : Hid (Blk w2 w.heap.size 27 #[Value.int IntKind.i64 p.level, Value.string p.low, Value.string p.high, Value.bool p.last, Value.int IntKind.i64 p.side, Value.slice A ni c, Value.slice A' nk c']) := Lib.hid (HP1.out.below hB2 HP1.out.lt); have k5 : w2.cell? ⟨w.heap.size, 5, none⟩ = some (.slice A ni c) := HP2.out.cell 5; have k6 : w2.cell? ⟨w.heap.size, 6, none⟩ = some (.slice A' nk c') := HP2.out.cell 6; have g5 : w2.frozen? ⟨w.heap.size, 5, none⟩ = false := HP2.out.frozen 5; have g6 : w2.frozen? ⟨w.heap.size, 6, none⟩ = false := HP2.out.frozen 6; have tok1 : True := trivial)
          | (refine (HCK.out (w1.setCell ⟨w.heap.size, 5, none⟩ (.slice E1 p.items.length d1)) (HRK.out _ (HW1.out.setCell (p := ⟨w.heap.size, 5, none⟩) (Nat.le_refl _) _))).mono ?_; rintro e w2 ⟨v2, rfl, hO2, hB2⟩; have HO2 := Lib.hid hO2; obtain ⟨E2, d2, rfl, _, _⟩ := hO2.form; clear hO2; have HW2 : Hid (Below w.heap.size w w2) := Lib.hid ((HW1.out.setCell (p := ⟨w.heap.size, 5, none⟩) (Nat.le_refl _) _).trans (hB2.mono (by simpa using HW1.out.size))); have HP2 : Hid (Blk w2 w.heap.size 27 #[Value.int IntKind.i64 p.level, Value.string p.low, Value.string p.high, Value.bool p.last, Value.int IntKind.i64 p.side, Value.slice E1 p.items.length d1, Value.slice A' nk c']) := Lib.hid ((HP1.out.set_ 5 _).below hB2 (by simpa using HP1.out.lt)); have k6 : w2.cell? ⟨w.heap.size, 6, none⟩ = some (.slice A' nk c') := HP2.out.cell 6; have g6 : w2.frozen? ⟨w.heap.size, 6, none⟩ = false := HP2.out.frozen 6; have tok2 : True := trivial)))
    all_goals
      go_wp2
      go_meet
      case rel =>
        have hS2 : w.heap.size + 2 ≤ w0.drew.heap.size := by have := HR.out.lt; show _ ≤ w0.heap.size; omega
        first
          | exact Lib.hid ⟨E1, d1, E2, d2, (HP2.out.set_ 5 _).set_ 6 _, (((HR1.out.below hB2 HR1.out.lt).far (by simp) _).far (by simp) _), (((HO1.out.mono hS2).below hB2 (Nat.le_refl _)).setLow (by omega) _).setLow (by omega) _, ((HO2.out.mono (Nat.le_trans hS2 hsz1)).setLow (by omega) _).setLow (by omega) _, ((HW2.out.setCell (p := ⟨w.heap.size, 5, none⟩) (Nat.le_refl _) _).setCell (p := ⟨w.heap.size, 6, none⟩) (Nat.le_refl _) _)⟩
          | exact Lib.hid ⟨E1, d1, E2, d2, HP2.out.set_ 6 _, ((HR1.out.far (by simp) _).below hB2 (by simpa using HR1.out.lt)).far (by simp) _, (((HO1.out.mono hS2).setLow (by omega) _).below hB2 (Nat.le_refl _)).setLow (by omega) _, (HO2.out.mono (by simpa using Nat.le_trans hS2 hsz1)).setLow (by omega) _, (HW2.out.setCell (p := ⟨w.heap.size, 6, none⟩) (Nat.le_refl _) _)⟩
  case rest =>
    obtain ⟨E1, d1, E2, d2, hP, hR, hO1, hO2, hB⟩ := hcut.out
    have HOA := Lib.hid hO1
    have HOB := Lib.hid hO2
    have HBA := Lib.hid hB
    have HRA := Lib.hid hR
    obtain ⟨ni, hni⟩ : ∃ n, n = p.items.length := ⟨_, rfl⟩
    obtain ⟨nk, hnk⟩ : ∃ n, n = p.kids.length := ⟨_, rfl⟩
    rw [← hni] at hP HOA
    rw [← hnk] at hP HOB
    obtain ⟨y0, y1, y2, y3, y4, y5, y6⟩ := Blk.cells7 hP
    obtain ⟨z0, z1, z2, z3, z4, z5, z6⟩ := Blk.cells7 hR
    have hfz : ∀ i, wc.frozen? ⟨w.heap.size + 1, i, none⟩ = false := hR.frozen
    clear hP hR hO1 hO2 hB hni hnk q5 q6
    have HE : Hid (Blk (((((((wc.setCell ⟨w.heap.size + 1, 0, none⟩ (Value.int IntKind.i64 p.level)).setCell ⟨w.heap.size + 1, 1, none⟩ (Value.string p.low)).setCell ⟨w.heap.size + 1, 2, none⟩ (Value.string p.high)).setCell ⟨w.heap.size + 1, 3, none⟩ (Value.bool p.last)).setCell ⟨w.heap.size + 1, 4, none⟩ (Value.int IntKind.i64 p.side)).setCell ⟨w.heap.size + 1, 5, none⟩ (Value.slice E1 ni d1)).setCell ⟨w.heap.size + 1, 6, none⟩ (Value.slice E2 nk d2)) (w.heap.size + 1) 27 #[Value.int IntKind.i64 p.level, Value.string p.low, Value.string p.high, Value.bool p.last, Value.int IntKind.i64 p.side, Value.slice E1 ni d1, Value.slice E2 nk d2]) := Lib.hid (((((((HRA.out.set_ 0 (Value.int IntKind.i64 p.level)).set_ 1 (Value.string p.low)).set_ 2 (Value.string p.high)).set_ 3 (Value.bool p.last)).set_ 4 (Value.int IntKind.i64 p.side)).set_ 5 (Value.slice E1 ni d1)).set_ 6 (Value.slice E2 nk d2))
    have HBE : Hid (Below w.heap.size w (((((((wc.setCell ⟨w.heap.size + 1, 0, none⟩ (Value.int IntKind.i64 p.level)).setCell ⟨w.heap.size + 1, 1, none⟩ (Value.string p.low)).setCell ⟨w.heap.size + 1, 2, none⟩ (Value.string p.high)).setCell ⟨w.heap.size + 1, 3, none⟩ (Value.bool p.last)).setCell ⟨w.heap.size + 1, 4, none⟩ (Value.int IntKind.i64 p.side)).setCell ⟨w.heap.size + 1, 5, none⟩ (Value.slice E1 ni d1)).setCell ⟨w.heap.size + 1, 6, none⟩ (Value.slice E2 nk d2))) := Lib.hid (((((((HBA.out.setCell (p := ⟨w.heap.size + 1, 0, none⟩) (by simp) (Value.int IntKind.i64 p.level)).setCell (p := ⟨w.heap.size + 1, 1, none⟩) (by simp) (Value.string p.low)).setCell (p := ⟨w.heap.size + 1, 2, none⟩) (by simp) (Value.string p.high)).setCell (p := ⟨w.heap.size + 1, 3, none⟩) (by simp) (Value.bool p.last)).setCell (p := ⟨w.heap.size + 1, 4, none⟩) (by simp) (Value.int IntKind.i64 p.side)).setCell (p := ⟨w.heap.size + 1, 5, none⟩) (by simp) (Value.slice E1 ni d1)).setCell (p := ⟨w.heap.size + 1, 6, none⟩) (by simp) (Value.slice E2 nk d2))
    have HOE : Hid (OwnItem (((((((wc.setCell ⟨w.heap.size + 1, 0, none⟩ (Value.int IntKind.i64 p.level)).setCell ⟨w.heap.size + 1, 1, none⟩ (Value.string p.low)).setCell ⟨w.heap.size + 1, 2, none⟩ (Value.string p.high)).setCell ⟨w.heap.size + 1, 3, none⟩ (Value.bool p.last)).setCell ⟨w.heap.size + 1, 4, none⟩ (Value.int IntKind.i64 p.side)).setCell ⟨w.heap.size + 1, 5, none⟩ (Value.slice E1 ni d1)).setCell ⟨w.heap.size + 1, 6, none⟩ (Value.slice E2 nk d2)) w.heap.size (.slice E1 ni d1) p.items ∧ OwnKid (((((((wc.setCell ⟨w.heap.size + 1, 0, none⟩ (Value.int IntKind.i64 p.level)).setCell ⟨w.heap.size + 1, 1, none⟩ (Value.string p.low)).setCell ⟨w.heap.size + 1, 2, none⟩ (Value.string p.high)).setCell ⟨w.heap.size + 1, 3, none⟩ (Value.bool p.last)).setCell ⟨w.heap.size + 1, 4, none⟩ (Value.int IntKind.i64 p.side)).setCell ⟨w.heap.size + 1, 5, none⟩ (Value.slice E1 ni d1)).setCell ⟨w.heap.size + 1, 6, none⟩ (Value.slice E2 nk d2)) w.heap.size (.slice E2 nk d2) p.kids) := Lib.hid ⟨((((((((HOA.out.setLow (by omega) _).setLow (by omega) _).setLow (by omega) _).setLow (by omega) _).setLow (by omega) _).setLow (by omega) _).setLow (by omega) _).mono (by omega)), ((((((((HOB.out.setLow (by omega) _).setLow (by omega) _).setLow (by omega) _).setLow (by omega) _).setLow (by omega) _).setLow (by omega) _).setLow (by omega) _).mono (by omega))⟩
    go_wp2
    generalize (((((((wc.setCell ⟨w.heap.size + 1, 0, none⟩ (Value.int IntKind.i64 p.level)).setCell ⟨w.heap.size + 1, 1, none⟩ (Value.string p.low)).setCell ⟨w.heap.size + 1, 2, none⟩ (Value.string p.high)).setCell ⟨w.heap.size + 1, 3, none⟩ (Value.bool p.last)).setCell ⟨w.heap.size + 1, 4, none⟩ (Value.int IntKind.i64 p.side)).setCell ⟨w.heap.size + 1, 5, none⟩ (Value.slice E1 ni d1)).setCell ⟨w.heap.size + 1, 6, none⟩ (Value.slice E2 nk d2)) = wE at *
    obtain ⟨e0, e1, e2, e3, e4, e5, e6⟩ := Blk.cells7 HE.out
    exact bodyPost_ret (v := .agg #[Value.int IntKind.i64 p.level, Value.string p.low, Value.string p.high, Value.bool p.last, Value.int IntKind.i64 p.side, Value.slice E1 ni d1, Value.slice E2 nk d2]) (by simp [results, Try.results49, go_sem, e0, e1, e2, e3, e4, e5, e6]) rfl ⟨.slice E1 ni d1, .slice E2 nk d2, rfl, HOE.out.1, HOE.out.2, HBE.out⟩
end Go.Proofs.Ytjbdmaehomhdeaa
