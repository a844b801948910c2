/- delta.may. -/
import Derived.Test.YtjbdmaehomhdeaaGreatF1
set_option linter.unusedSimpArgs false
set_option linter.unusedVariables false
namespace Go.Proofs.YtjbdmaehomhdeaaGreat
open Go.RowKit

theorem as_1_1 (v : Value) (W : World) : (Instr.typeAssert (.iface 67 v) 64 67 true).run Tryz.prog W = .ok (.tuple #[v, .bool true]) W := by kernel_rfl
theorem as_1_6 (v : Value) (W : World) : (Instr.typeAssert (.iface 67 v) 64 79 true).run Tryz.prog W = .ok (.tuple #[.agg #[Value.int IntKind.i64 0, Value.string { data := #[] }, Value.string { data := #[] }, Value.bool false, Value.int IntKind.i64 0, Value.slice none 0 0, Value.slice none 0 0], .bool false]) W := by kernel_rfl
theorem as_1_5 (v : Value) (W : World) : (Instr.typeAssert (.iface 67 v) 64 77 true).run Tryz.prog W = .ok (.tuple #[.agg #[.int .i64 0], .bool false]) W := by kernel_rfl
theorem as_2_1 (v : Value) (W : World) : (Instr.typeAssert (.iface 71 v) 64 67 true).run Tryz.prog W = .ok (.tuple #[.agg #[Value.string { data := #[] }, Value.string { data := #[] }, Value.int IntKind.i64 0, Value.bool false], .bool false]) W := by kernel_rfl
theorem as_2_6 (v : Value) (W : World) : (Instr.typeAssert (.iface 71 v) 64 79 true).run Tryz.prog W = .ok (.tuple #[.agg #[Value.int IntKind.i64 0, Value.string { data := #[] }, Value.string { data := #[] }, Value.bool false, Value.int IntKind.i64 0, Value.slice none 0 0, Value.slice none 0 0], .bool false]) W := by kernel_rfl
theorem as_2_5 (v : Value) (W : World) : (Instr.typeAssert (.iface 71 v) 64 77 true).run Tryz.prog W = .ok (.tuple #[.agg #[.int .i64 0], .bool false]) W := by kernel_rfl
theorem as_3_1 (v : Value) (W : World) : (Instr.typeAssert (.iface 73 v) 64 67 true).run Tryz.prog W = .ok (.tuple #[.agg #[Value.string { data := #[] }, Value.string { data := #[] }, Value.int IntKind.i64 0, Value.bool false], .bool false]) W := by kernel_rfl
theorem as_3_6 (v : Value) (W : World) : (Instr.typeAssert (.iface 73 v) 64 79 true).run Tryz.prog W = .ok (.tuple #[.agg #[Value.int IntKind.i64 0, Value.string { data := #[] }, Value.string { data := #[] }, Value.bool false, Value.int IntKind.i64 0, Value.slice none 0 0, Value.slice none 0 0], .bool false]) W := by kernel_rfl
theorem as_3_5 (v : Value) (W : World) : (Instr.typeAssert (.iface 73 v) 64 77 true).run Tryz.prog W = .ok (.tuple #[.agg #[.int .i64 0], .bool false]) W := by kernel_rfl
theorem as_4_1 (v : Value) (W : World) : (Instr.typeAssert (.iface 75 v) 64 67 true).run Tryz.prog W = .ok (.tuple #[.agg #[Value.string { data := #[] }, Value.string { data := #[] }, Value.int IntKind.i64 0, Value.bool false], .bool false]) W := by kernel_rfl
theorem as_4_6 (v : Value) (W : World) : (Instr.typeAssert (.iface 75 v) 64 79 true).run Tryz.prog W = .ok (.tuple #[.agg #[Value.int IntKind.i64 0, Value.string { data := #[] }, Value.string { data := #[] }, Value.bool false, Value.int IntKind.i64 0, Value.slice none 0 0, Value.slice none 0 0], .bool false]) W := by kernel_rfl
theorem as_4_5 (v : Value) (W : World) : (Instr.typeAssert (.iface 75 v) 64 77 true).run Tryz.prog W = .ok (.tuple #[.agg #[.int .i64 0], .bool false]) W := by kernel_rfl
theorem as_5_1 (v : Value) (W : World) : (Instr.typeAssert (.iface 77 v) 64 67 true).run Tryz.prog W = .ok (.tuple #[.agg #[Value.string { data := #[] }, Value.string { data := #[] }, Value.int IntKind.i64 0, Value.bool false], .bool false]) W := by kernel_rfl
theorem as_5_6 (v : Value) (W : World) : (Instr.typeAssert (.iface 77 v) 64 79 true).run Tryz.prog W = .ok (.tuple #[.agg #[Value.int IntKind.i64 0, Value.string { data := #[] }, Value.string { data := #[] }, Value.bool false, Value.int IntKind.i64 0, Value.slice none 0 0, Value.slice none 0 0], .bool false]) W := by kernel_rfl
theorem as_5_5 (v : Value) (W : World) : (Instr.typeAssert (.iface 77 v) 64 77 true).run Tryz.prog W = .ok (.tuple #[v, .bool true]) W := by kernel_rfl
theorem as_6_1 (v : Value) (W : World) : (Instr.typeAssert (.iface 79 v) 64 67 true).run Tryz.prog W = .ok (.tuple #[.agg #[Value.string { data := #[] }, Value.string { data := #[] }, Value.int IntKind.i64 0, Value.bool false], .bool false]) W := by kernel_rfl
theorem as_6_6 (v : Value) (W : World) : (Instr.typeAssert (.iface 79 v) 64 79 true).run Tryz.prog W = .ok (.tuple #[v, .bool true]) W := by kernel_rfl
theorem as_6_5 (v : Value) (W : World) : (Instr.typeAssert (.iface 79 v) 64 77 true).run Tryz.prog W = .ok (.tuple #[.agg #[.int .i64 0], .bool false]) W := by kernel_rfl

noncomputable def Delta.may (d : Delta) (k : Int) : Bool :=
  decide (1 ≤ k ∧ k ≤ 6) && (d.bareB k && (if k = 1 then d.item.check == 0 else if k = 6 then d.right.ok else ((k == 5) || isKey d.key) && ((k == 4) || isPage d.page)))

theorem Blk.cells14 {w : World} {g : Nat} {t : TypeId} {a b c d e f h i j k l m n p : Value} (q : Blk w g t #[a, b, c, d, e, f, h, i, j, k, l, m, n, p]) :
    w.cell? ⟨g, 0, none⟩ = some a ∧ w.cell? ⟨g, 1, none⟩ = some b ∧ w.cell? ⟨g, 2, none⟩ = some c ∧ w.cell? ⟨g, 3, none⟩ = some d ∧ w.cell? ⟨g, 4, none⟩ = some e ∧ w.cell? ⟨g, 5, none⟩ = some f ∧ w.cell? ⟨g, 6, none⟩ = some h ∧
    w.cell? ⟨g, 7, none⟩ = some i ∧ w.cell? ⟨g, 8, none⟩ = some j ∧ w.cell? ⟨g, 9, none⟩ = some k ∧ w.cell? ⟨g, 10, none⟩ = some l ∧ w.cell? ⟨g, 11, none⟩ = some m ∧ w.cell? ⟨g, 12, none⟩ = some n ∧ w.cell? ⟨g, 13, none⟩ = some p :=
  ⟨q.cell 0, q.cell 1, q.cell 2, q.cell 3, q.cell 4, q.cell 5, q.cell 6, q.cell 7, q.cell 8, q.cell 9, q.cell 10, q.cell 11, q.cell 12, q.cell 13⟩

set_option maxRecDepth 100000 in
set_option maxHeartbeats 4000000 in
theorem delta_may1 (d : Delta) (A A' : Option Addr) (ni nk c c' lo : Nat) (hni : ni = d.right.items.length) (hnk : nk = d.right.kids.length) (w : World) (hp : Pg w lo w.heap.size d.right A A' c c') :
    Calls Tryz.prog 29 #[.agg #[Value.int IntKind.i64 1, Value.string d.item.key, Value.string d.item.value, Value.int IntKind.i64 d.item.no, Value.bool d.item.gone, Value.string d.key, Value.int IntKind.i64 d.page, Value.int IntKind.i64 d.right.level, Value.string d.right.low, Value.string d.right.high, Value.bool d.right.last, Value.int IntKind.i64 d.right.side, Value.slice A ni c, Value.slice A' nk c']] w fun e w' => e = .returned (.bool (d.may 1)) ∧ Below w.heap.size w w' := by
  have HBR := Lib.hid (fun w1 => delta_bare d 1 A A' ni nk c c' hni hnk (by rw [hni]; exact hp.bi) (by rw [hnk]; exact hp.bk) w1)
  clear hni hnk hp
  have a1 := as_1_1
  have a6 := as_1_6
  have hb : Below w.heap.size w (w.alloc (.cells #[Value.int IntKind.i64 1, Value.string d.item.key, Value.string d.item.value, Value.int IntKind.i64 d.item.no, Value.bool d.item.gone, Value.string d.key, Value.int IntKind.i64 d.page, Value.int IntKind.i64 d.right.level, Value.string d.right.low, Value.string d.right.high, Value.bool d.right.last, Value.int IntKind.i64 d.right.side, Value.slice A ni c, Value.slice A' nk c'] 29)) := (Below.refl _ _).alloc (Nat.le_refl _) _
  have hd : Blk (w.alloc (.cells #[Value.int IntKind.i64 1, Value.string d.item.key, Value.string d.item.value, Value.int IntKind.i64 d.item.no, Value.bool d.item.gone, Value.string d.key, Value.int IntKind.i64 d.page, Value.int IntKind.i64 d.right.level, Value.string d.right.low, Value.string d.right.high, Value.bool d.right.last, Value.int IntKind.i64 d.right.side, Value.slice A ni c, Value.slice A' nk c'] 29)) w.heap.size 29 #[Value.int IntKind.i64 1, Value.string d.item.key, Value.string d.item.value, Value.int IntKind.i64 d.item.no, Value.bool d.item.gone, Value.string d.key, Value.int IntKind.i64 d.page, Value.int IntKind.i64 d.right.level, Value.string d.right.low, Value.string d.right.high, Value.bool d.right.last, Value.int IntKind.i64 d.right.side, Value.slice A ni c, Value.slice A' nk c'] := Blk.new _ _ _
  go_enter Tryz.func29, Tryz.ntmps29
  go_upto_region 1 with (fail)
  generalize w.alloc (.cells #[Value.int IntKind.i64 1, Value.string d.item.key, Value.string d.item.value, Value.int IntKind.i64 d.item.no, Value.bool d.item.gone, Value.string d.key, Value.int IntKind.i64 d.page, Value.int IntKind.i64 d.right.level, Value.string d.right.low, Value.string d.right.high, Value.bool d.right.last, Value.int IntKind.i64 d.right.side, Value.slice A ni c, Value.slice A' nk c'] 29) = w0 at *
  obtain ⟨q0, q1, q2, q3, q4, q5, q6, q7, q8, q9, q10, q11, q12, q13⟩ := Blk.cells14 hd
  have HD := Lib.hid hd
  have HB := Lib.hid hb
  clear hd hb
  go_upto_region 2 with (go_at_call 30; refine (delta_of1 d A A' ni nk c c' _).mono ?_; rintro e w1 ⟨rfl, hb1⟩)
  have HB1 : Hid (Below w.heap.size w w1) := Lib.hid (HB.out.trans (hb1.mono HB.out.size))
  have HD1 := Lib.hid (HD.out.below hb1 HD.out.lt)
  clear q0 q1 q2 q3 q4 q5 q6 q7 q8 q9 q10 q11 q12 q13 hb1
  obtain ⟨q0, q1, q2, q3, q4, q5, q6, q7, q8, q9, q10, q11, q12, q13⟩ := Blk.cells14 HD1.out
  cases hbb : d.bareB 1 with
  | false =>
    have HV : Hid (d.may 1 = false) := Lib.hid (by unfold Delta.may; rw [hbb]; simp)
    have HBB := Lib.hid hbb
    clear hbb
    go_wp2_with (go_at_call 57; refine (HBR.out _).mono ?_; rw [HBB.out]; rintro e w2 ⟨rfl, hb2⟩)
    go_ret
    exact ⟨ret_bool HV.out.symm, HB1.out.trans (hb2.mono HB1.out.size)⟩
  | true =>
    have HV : Hid (d.may 1 = (d.item.check == 0)) := Lib.hid (by unfold Delta.may; rw [hbb]; simp)
    have HBB := Lib.hid hbb
    clear hbb
    go_upto_region 4 with (go_at_call 57; refine (HBR.out _).mono ?_; rw [HBB.out]; rintro e w2 ⟨rfl, hb2⟩)
    have HB2 : Hid (Below w.heap.size w w2) := Lib.hid (HB1.out.trans (hb2.mono HB1.out.size))
    have HD2 := Lib.hid (HD1.out.below hb2 HD1.out.lt)
    clear q0 q1 q2 q3 q4 q5 q6 q7 q8 q9 q10 q11 q12 q13 hb2
    go_wp2_with (go_at_call 58; refine (page_CheckItem d.item _).mono ?_; rintro e w3 ⟨rfl, hb3⟩)
    go_ret
    exact ⟨ret_bool (by rw [HV.out]), HB2.out.trans (((Below.refl _ _).alloc (Nat.le_refl _) _).trans (hb3.mono (by simp)) |>.mono HB2.out.size)⟩

set_option maxRecDepth 100000 in
set_option maxHeartbeats 4000000 in
theorem delta_may2 (d : Delta) (A A' : Option Addr) (ni nk c c' lo : Nat) (hni : ni = d.right.items.length) (hnk : nk = d.right.kids.length) (w : World) (hp : Pg w lo w.heap.size d.right A A' c c') :
    Calls Tryz.prog 29 #[.agg #[Value.int IntKind.i64 2, Value.string d.item.key, Value.string d.item.value, Value.int IntKind.i64 d.item.no, Value.bool d.item.gone, Value.string d.key, Value.int IntKind.i64 d.page, Value.int IntKind.i64 d.right.level, Value.string d.right.low, Value.string d.right.high, Value.bool d.right.last, Value.int IntKind.i64 d.right.side, Value.slice A ni c, Value.slice A' nk c']] w fun e w' => e = .returned (.bool (d.may 2)) ∧ Below w.heap.size w w' := by
  have HBR := Lib.hid (fun w1 => delta_bare d 2 A A' ni nk c c' hni hnk (by rw [hni]; exact hp.bi) (by rw [hnk]; exact hp.bk) w1)
  clear hni hnk hp
  have a1 := as_2_1
  have a6 := as_2_6
  have hb : Below w.heap.size w (w.alloc (.cells #[Value.int IntKind.i64 2, Value.string d.item.key, Value.string d.item.value, Value.int IntKind.i64 d.item.no, Value.bool d.item.gone, Value.string d.key, Value.int IntKind.i64 d.page, Value.int IntKind.i64 d.right.level, Value.string d.right.low, Value.string d.right.high, Value.bool d.right.last, Value.int IntKind.i64 d.right.side, Value.slice A ni c, Value.slice A' nk c'] 29)) := (Below.refl _ _).alloc (Nat.le_refl _) _
  have hd : Blk (w.alloc (.cells #[Value.int IntKind.i64 2, Value.string d.item.key, Value.string d.item.value, Value.int IntKind.i64 d.item.no, Value.bool d.item.gone, Value.string d.key, Value.int IntKind.i64 d.page, Value.int IntKind.i64 d.right.level, Value.string d.right.low, Value.string d.right.high, Value.bool d.right.last, Value.int IntKind.i64 d.right.side, Value.slice A ni c, Value.slice A' nk c'] 29)) w.heap.size 29 #[Value.int IntKind.i64 2, Value.string d.item.key, Value.string d.item.value, Value.int IntKind.i64 d.item.no, Value.bool d.item.gone, Value.string d.key, Value.int IntKind.i64 d.page, Value.int IntKind.i64 d.right.level, Value.string d.right.low, Value.string d.right.high, Value.bool d.right.last, Value.int IntKind.i64 d.right.side, Value.slice A ni c, Value.slice A' nk c'] := Blk.new _ _ _
  go_enter Tryz.func29, Tryz.ntmps29
  go_upto_region 1 with (fail)
  generalize w.alloc (.cells #[Value.int IntKind.i64 2, Value.string d.item.key, Value.string d.item.value, Value.int IntKind.i64 d.item.no, Value.bool d.item.gone, Value.string d.key, Value.int IntKind.i64 d.page, Value.int IntKind.i64 d.right.level, Value.string d.right.low, Value.string d.right.high, Value.bool d.right.last, Value.int IntKind.i64 d.right.side, Value.slice A ni c, Value.slice A' nk c'] 29) = w0 at *
  obtain ⟨q0, q1, q2, q3, q4, q5, q6, q7, q8, q9, q10, q11, q12, q13⟩ := Blk.cells14 hd
  have HD := Lib.hid hd
  have HB := Lib.hid hb
  clear hd hb
  go_upto_region 2 with (go_at_call 30; refine (delta_of2 d A A' ni nk c c' _).mono ?_; rintro e w1 ⟨rfl, hb1⟩)
  have HB1 : Hid (Below w.heap.size w w1) := Lib.hid (HB.out.trans (hb1.mono HB.out.size))
  have HD1 := Lib.hid (HD.out.below hb1 HD.out.lt)
  clear q0 q1 q2 q3 q4 q5 q6 q7 q8 q9 q10 q11 q12 q13 hb1
  obtain ⟨q0, q1, q2, q3, q4, q5, q6, q7, q8, q9, q10, q11, q12, q13⟩ := Blk.cells14 HD1.out
  cases hbb : d.bareB 2 with
  | false =>
    have HV : Hid (d.may 2 = false) := Lib.hid (by unfold Delta.may; rw [hbb]; simp)
    have HBB := Lib.hid hbb
    clear hbb
    go_wp2_with (go_at_call 57; refine (HBR.out _).mono ?_; rw [HBB.out]; rintro e w2 ⟨rfl, hb2⟩)
    go_ret
    exact ⟨ret_bool HV.out.symm, HB1.out.trans (hb2.mono HB1.out.size)⟩
  | true =>
    have HV : Hid (d.may 2 = (isKey d.key && isPage d.page)) := Lib.hid (by unfold Delta.may; rw [hbb]; simp)
    have HBB := Lib.hid hbb
    clear hbb
    go_upto_region 4 with (go_at_call 57; refine (HBR.out _).mono ?_; rw [HBB.out]; rintro e w2 ⟨rfl, hb2⟩)
    have HB2 : Hid (Below w.heap.size w w2) := Lib.hid (HB1.out.trans (hb2.mono HB1.out.size))
    have HD2 := Lib.hid (HD1.out.below hb2 HD1.out.lt)
    clear q0 q1 q2 q3 q4 q5 q6 q7 q8 q9 q10 q11 q12 q13 hb2
    have hd3 : Blk (World.alloc (World.alloc w2 (.cells #[Value.string { data := #[] }, Value.string { data := #[] }, Value.int IntKind.i64 0, Value.bool false] 67)) (.cells #[Value.int IntKind.i64 0, Value.string { data := #[] }, Value.string { data := #[] }, Value.bool false, Value.int IntKind.i64 0, Value.slice none 0 0, Value.slice none 0 0] 79)) w.heap.size 29 #[Value.int IntKind.i64 2, Value.string d.item.key, Value.string d.item.value, Value.int IntKind.i64 d.item.no, Value.bool d.item.gone, Value.string d.key, Value.int IntKind.i64 d.page, Value.int IntKind.i64 d.right.level, Value.string d.right.low, Value.string d.right.high, Value.bool d.right.last, Value.int IntKind.i64 d.right.side, Value.slice A ni c, Value.slice A' nk c'] := (HD2.out.alloc _).alloc _
    have hb3 : Below w.heap.size w (World.alloc (World.alloc w2 (.cells #[Value.string { data := #[] }, Value.string { data := #[] }, Value.int IntKind.i64 0, Value.bool false] 67)) (.cells #[Value.int IntKind.i64 0, Value.string { data := #[] }, Value.string { data := #[] }, Value.bool false, Value.int IntKind.i64 0, Value.slice none 0 0, Value.slice none 0 0] 79)) := (HB2.out.alloc HB2.out.size _).alloc (by have := HB2.out.size; simp; omega) _
    go_upto_region 10 with (fail)
    generalize (World.alloc (World.alloc w2 (.cells #[Value.string { data := #[] }, Value.string { data := #[] }, Value.int IntKind.i64 0, Value.bool false] 67)) (.cells #[Value.int IntKind.i64 0, Value.string { data := #[] }, Value.string { data := #[] }, Value.bool false, Value.int IntKind.i64 0, Value.slice none 0 0, Value.slice none 0 0] 79)) = w3 at *
    have HB3 := Lib.hid hb3
    obtain ⟨q0, q1, q2, q3, q4, q5, q6, q7, q8, q9, q10, q11, q12, q13⟩ := Blk.cells14 hd3
    clear hd3 hb3
    cases hk : isKey d.key <;> cases hg : isPage d.page
    all_goals
      have Hhk := Lib.hid hk
      have Hhg := Lib.hid hg
      go_wp2_with (first | (go_at_call 59; refine (delta_isKey _ _).mono ?_; rintro e w4 ⟨rfl, rfl⟩) | (go_at_call 60; refine (delta_isPage _ _).mono ?_; rintro e w4 ⟨rfl, rfl⟩))
      go_ret
      exact ⟨ret_bool (by rw [HV.out, Hhk.out, Hhg.out]; try rfl), HB3.out⟩

set_option maxRecDepth 100000 in
set_option maxHeartbeats 4000000 in
theorem delta_may3 (d : Delta) (A A' : Option Addr) (ni nk c c' lo : Nat) (hni : ni = d.right.items.length) (hnk : nk = d.right.kids.length) (w : World) (hp : Pg w lo w.heap.size d.right A A' c c') :
    Calls Tryz.prog 29 #[.agg #[Value.int IntKind.i64 3, Value.string d.item.key, Value.string d.item.value, Value.int IntKind.i64 d.item.no, Value.bool d.item.gone, Value.string d.key, Value.int IntKind.i64 d.page, Value.int IntKind.i64 d.right.level, Value.string d.right.low, Value.string d.right.high, Value.bool d.right.last, Value.int IntKind.i64 d.right.side, Value.slice A ni c, Value.slice A' nk c']] w fun e w' => e = .returned (.bool (d.may 3)) ∧ Below w.heap.size w w' := by
  have HBR := Lib.hid (fun w1 => delta_bare d 3 A A' ni nk c c' hni hnk (by rw [hni]; exact hp.bi) (by rw [hnk]; exact hp.bk) w1)
  clear hni hnk hp
  have a1 := as_3_1
  have a6 := as_3_6
  have hb : Below w.heap.size w (w.alloc (.cells #[Value.int IntKind.i64 3, Value.string d.item.key, Value.string d.item.value, Value.int IntKind.i64 d.item.no, Value.bool d.item.gone, Value.string d.key, Value.int IntKind.i64 d.page, Value.int IntKind.i64 d.right.level, Value.string d.right.low, Value.string d.right.high, Value.bool d.right.last, Value.int IntKind.i64 d.right.side, Value.slice A ni c, Value.slice A' nk c'] 29)) := (Below.refl _ _).alloc (Nat.le_refl _) _
  have hd : Blk (w.alloc (.cells #[Value.int IntKind.i64 3, Value.string d.item.key, Value.string d.item.value, Value.int IntKind.i64 d.item.no, Value.bool d.item.gone, Value.string d.key, Value.int IntKind.i64 d.page, Value.int IntKind.i64 d.right.level, Value.string d.right.low, Value.string d.right.high, Value.bool d.right.last, Value.int IntKind.i64 d.right.side, Value.slice A ni c, Value.slice A' nk c'] 29)) w.heap.size 29 #[Value.int IntKind.i64 3, Value.string d.item.key, Value.string d.item.value, Value.int IntKind.i64 d.item.no, Value.bool d.item.gone, Value.string d.key, Value.int IntKind.i64 d.page, Value.int IntKind.i64 d.right.level, Value.string d.right.low, Value.string d.right.high, Value.bool d.right.last, Value.int IntKind.i64 d.right.side, Value.slice A ni c, Value.slice A' nk c'] := Blk.new _ _ _
  go_enter Tryz.func29, Tryz.ntmps29
  go_upto_region 1 with (fail)
  generalize w.alloc (.cells #[Value.int IntKind.i64 3, Value.string d.item.key, Value.string d.item.value, Value.int IntKind.i64 d.item.no, Value.bool d.item.gone, Value.string d.key, Value.int IntKind.i64 d.page, Value.int IntKind.i64 d.right.level, Value.string d.right.low, Value.string d.right.high, Value.bool d.right.last, Value.int IntKind.i64 d.right.side, Value.slice A ni c, Value.slice A' nk c'] 29) = w0 at *
  obtain ⟨q0, q1, q2, q3, q4, q5, q6, q7, q8, q9, q10, q11, q12, q13⟩ := Blk.cells14 hd
  have HD := Lib.hid hd
  have HB := Lib.hid hb
  clear hd hb
  go_upto_region 2 with (go_at_call 30; refine (delta_of3 d A A' ni nk c c' _).mono ?_; rintro e w1 ⟨rfl, hb1⟩)
  have HB1 : Hid (Below w.heap.size w w1) := Lib.hid (HB.out.trans (hb1.mono HB.out.size))
  have HD1 := Lib.hid (HD.out.below hb1 HD.out.lt)
  clear q0 q1 q2 q3 q4 q5 q6 q7 q8 q9 q10 q11 q12 q13 hb1
  obtain ⟨q0, q1, q2, q3, q4, q5, q6, q7, q8, q9, q10, q11, q12, q13⟩ := Blk.cells14 HD1.out
  cases hbb : d.bareB 3 with
  | false =>
    have HV : Hid (d.may 3 = false) := Lib.hid (by unfold Delta.may; rw [hbb]; simp)
    have HBB := Lib.hid hbb
    clear hbb
    go_wp2_with (go_at_call 57; refine (HBR.out _).mono ?_; rw [HBB.out]; rintro e w2 ⟨rfl, hb2⟩)
    go_ret
    exact ⟨ret_bool HV.out.symm, HB1.out.trans (hb2.mono HB1.out.size)⟩
  | true =>
    have HV : Hid (d.may 3 = (isKey d.key && isPage d.page)) := Lib.hid (by unfold Delta.may; rw [hbb]; simp)
    have HBB := Lib.hid hbb
    clear hbb
    go_upto_region 4 with (go_at_call 57; refine (HBR.out _).mono ?_; rw [HBB.out]; rintro e w2 ⟨rfl, hb2⟩)
    have HB2 : Hid (Below w.heap.size w w2) := Lib.hid (HB1.out.trans (hb2.mono HB1.out.size))
    have HD2 := Lib.hid (HD1.out.below hb2 HD1.out.lt)
    clear q0 q1 q2 q3 q4 q5 q6 q7 q8 q9 q10 q11 q12 q13 hb2
    have hd3 : Blk (World.alloc (World.alloc w2 (.cells #[Value.string { data := #[] }, Value.string { data := #[] }, Value.int IntKind.i64 0, Value.bool false] 67)) (.cells #[Value.int IntKind.i64 0, Value.string { data := #[] }, Value.string { data := #[] }, Value.bool false, Value.int IntKind.i64 0, Value.slice none 0 0, Value.slice none 0 0] 79)) w.heap.size 29 #[Value.int IntKind.i64 3, Value.string d.item.key, Value.string d.item.value, Value.int IntKind.i64 d.item.no, Value.bool d.item.gone, Value.string d.key, Value.int IntKind.i64 d.page, Value.int IntKind.i64 d.right.level, Value.string d.right.low, Value.string d.right.high, Value.bool d.right.last, Value.int IntKind.i64 d.right.side, Value.slice A ni c, Value.slice A' nk c'] := (HD2.out.alloc _).alloc _
    have hb3 : Below w.heap.size w (World.alloc (World.alloc w2 (.cells #[Value.string { data := #[] }, Value.string { data := #[] }, Value.int IntKind.i64 0, Value.bool false] 67)) (.cells #[Value.int IntKind.i64 0, Value.string { data := #[] }, Value.string { data := #[] }, Value.bool false, Value.int IntKind.i64 0, Value.slice none 0 0, Value.slice none 0 0] 79)) := (HB2.out.alloc HB2.out.size _).alloc (by have := HB2.out.size; simp; omega) _
    go_upto_region 10 with (fail)
    generalize (World.alloc (World.alloc w2 (.cells #[Value.string { data := #[] }, Value.string { data := #[] }, Value.int IntKind.i64 0, Value.bool false] 67)) (.cells #[Value.int IntKind.i64 0, Value.string { data := #[] }, Value.string { data := #[] }, Value.bool false, Value.int IntKind.i64 0, Value.slice none 0 0, Value.slice none 0 0] 79)) = w3 at *
    have HB3 := Lib.hid hb3
    obtain ⟨q0, q1, q2, q3, q4, q5, q6, q7, q8, q9, q10, q11, q12, q13⟩ := Blk.cells14 hd3
    clear hd3 hb3
    cases hk : isKey d.key <;> cases hg : isPage d.page
    all_goals
      have Hhk := Lib.hid hk
      have Hhg := Lib.hid hg
      go_wp2_with (first | (go_at_call 59; refine (delta_isKey _ _).mono ?_; rintro e w4 ⟨rfl, rfl⟩) | (go_at_call 60; refine (delta_isPage _ _).mono ?_; rintro e w4 ⟨rfl, rfl⟩))
      go_ret
      exact ⟨ret_bool (by rw [HV.out, Hhk.out, Hhg.out]; try rfl), HB3.out⟩

set_option maxRecDepth 100000 in
set_option maxHeartbeats 4000000 in
theorem delta_may4 (d : Delta) (A A' : Option Addr) (ni nk c c' lo : Nat) (hni : ni = d.right.items.length) (hnk : nk = d.right.kids.length) (w : World) (hp : Pg w lo w.heap.size d.right A A' c c') :
    Calls Tryz.prog 29 #[.agg #[Value.int IntKind.i64 4, Value.string d.item.key, Value.string d.item.value, Value.int IntKind.i64 d.item.no, Value.bool d.item.gone, Value.string d.key, Value.int IntKind.i64 d.page, Value.int IntKind.i64 d.right.level, Value.string d.right.low, Value.string d.right.high, Value.bool d.right.last, Value.int IntKind.i64 d.right.side, Value.slice A ni c, Value.slice A' nk c']] w fun e w' => e = .returned (.bool (d.may 4)) ∧ Below w.heap.size w w' := by
  have HBR := Lib.hid (fun w1 => delta_bare d 4 A A' ni nk c c' hni hnk (by rw [hni]; exact hp.bi) (by rw [hnk]; exact hp.bk) w1)
  clear hni hnk hp
  have a1 := as_4_1
  have a6 := as_4_6
  have hb : Below w.heap.size w (w.alloc (.cells #[Value.int IntKind.i64 4, Value.string d.item.key, Value.string d.item.value, Value.int IntKind.i64 d.item.no, Value.bool d.item.gone, Value.string d.key, Value.int IntKind.i64 d.page, Value.int IntKind.i64 d.right.level, Value.string d.right.low, Value.string d.right.high, Value.bool d.right.last, Value.int IntKind.i64 d.right.side, Value.slice A ni c, Value.slice A' nk c'] 29)) := (Below.refl _ _).alloc (Nat.le_refl _) _
  have hd : Blk (w.alloc (.cells #[Value.int IntKind.i64 4, Value.string d.item.key, Value.string d.item.value, Value.int IntKind.i64 d.item.no, Value.bool d.item.gone, Value.string d.key, Value.int IntKind.i64 d.page, Value.int IntKind.i64 d.right.level, Value.string d.right.low, Value.string d.right.high, Value.bool d.right.last, Value.int IntKind.i64 d.right.side, Value.slice A ni c, Value.slice A' nk c'] 29)) w.heap.size 29 #[Value.int IntKind.i64 4, Value.string d.item.key, Value.string d.item.value, Value.int IntKind.i64 d.item.no, Value.bool d.item.gone, Value.string d.key, Value.int IntKind.i64 d.page, Value.int IntKind.i64 d.right.level, Value.string d.right.low, Value.string d.right.high, Value.bool d.right.last, Value.int IntKind.i64 d.right.side, Value.slice A ni c, Value.slice A' nk c'] := Blk.new _ _ _
  go_enter Tryz.func29, Tryz.ntmps29
  go_upto_region 1 with (fail)
  generalize w.alloc (.cells #[Value.int IntKind.i64 4, Value.string d.item.key, Value.string d.item.value, Value.int IntKind.i64 d.item.no, Value.bool d.item.gone, Value.string d.key, Value.int IntKind.i64 d.page, Value.int IntKind.i64 d.right.level, Value.string d.right.low, Value.string d.right.high, Value.bool d.right.last, Value.int IntKind.i64 d.right.side, Value.slice A ni c, Value.slice A' nk c'] 29) = w0 at *
  obtain ⟨q0, q1, q2, q3, q4, q5, q6, q7, q8, q9, q10, q11, q12, q13⟩ := Blk.cells14 hd
  have HD := Lib.hid hd
  have HB := Lib.hid hb
  clear hd hb
  go_upto_region 2 with (go_at_call 30; refine (delta_of4 d A A' ni nk c c' _).mono ?_; rintro e w1 ⟨rfl, hb1⟩)
  have HB1 : Hid (Below w.heap.size w w1) := Lib.hid (HB.out.trans (hb1.mono HB.out.size))
  have HD1 := Lib.hid (HD.out.below hb1 HD.out.lt)
  clear q0 q1 q2 q3 q4 q5 q6 q7 q8 q9 q10 q11 q12 q13 hb1
  obtain ⟨q0, q1, q2, q3, q4, q5, q6, q7, q8, q9, q10, q11, q12, q13⟩ := Blk.cells14 HD1.out
  cases hbb : d.bareB 4 with
  | false =>
    have HV : Hid (d.may 4 = false) := Lib.hid (by unfold Delta.may; rw [hbb]; simp)
    have HBB := Lib.hid hbb
    clear hbb
    go_wp2_with (go_at_call 57; refine (HBR.out _).mono ?_; rw [HBB.out]; rintro e w2 ⟨rfl, hb2⟩)
    go_ret
    exact ⟨ret_bool HV.out.symm, HB1.out.trans (hb2.mono HB1.out.size)⟩
  | true =>
    have HV : Hid (d.may 4 = isKey d.key) := Lib.hid (by unfold Delta.may; rw [hbb]; simp)
    have HBB := Lib.hid hbb
    clear hbb
    go_upto_region 4 with (go_at_call 57; refine (HBR.out _).mono ?_; rw [HBB.out]; rintro e w2 ⟨rfl, hb2⟩)
    have HB2 : Hid (Below w.heap.size w w2) := Lib.hid (HB1.out.trans (hb2.mono HB1.out.size))
    have HD2 := Lib.hid (HD1.out.below hb2 HD1.out.lt)
    clear q0 q1 q2 q3 q4 q5 q6 q7 q8 q9 q10 q11 q12 q13 hb2
    have hd3 : Blk (World.alloc (World.alloc w2 (.cells #[Value.string { data := #[] }, Value.string { data := #[] }, Value.int IntKind.i64 0, Value.bool false] 67)) (.cells #[Value.int IntKind.i64 0, Value.string { data := #[] }, Value.string { data := #[] }, Value.bool false, Value.int IntKind.i64 0, Value.slice none 0 0, Value.slice none 0 0] 79)) w.heap.size 29 #[Value.int IntKind.i64 4, Value.string d.item.key, Value.string d.item.value, Value.int IntKind.i64 d.item.no, Value.bool d.item.gone, Value.string d.key, Value.int IntKind.i64 d.page, Value.int IntKind.i64 d.right.level, Value.string d.right.low, Value.string d.right.high, Value.bool d.right.last, Value.int IntKind.i64 d.right.side, Value.slice A ni c, Value.slice A' nk c'] := (HD2.out.alloc _).alloc _
    have hb3 : Below w.heap.size w (World.alloc (World.alloc w2 (.cells #[Value.string { data := #[] }, Value.string { data := #[] }, Value.int IntKind.i64 0, Value.bool false] 67)) (.cells #[Value.int IntKind.i64 0, Value.string { data := #[] }, Value.string { data := #[] }, Value.bool false, Value.int IntKind.i64 0, Value.slice none 0 0, Value.slice none 0 0] 79)) := (HB2.out.alloc HB2.out.size _).alloc (by have := HB2.out.size; simp; omega) _
    go_upto_region 10 with (fail)
    generalize (World.alloc (World.alloc w2 (.cells #[Value.string { data := #[] }, Value.string { data := #[] }, Value.int IntKind.i64 0, Value.bool false] 67)) (.cells #[Value.int IntKind.i64 0, Value.string { data := #[] }, Value.string { data := #[] }, Value.bool false, Value.int IntKind.i64 0, Value.slice none 0 0, Value.slice none 0 0] 79)) = w3 at *
    have HB3 := Lib.hid hb3
    obtain ⟨q0, q1, q2, q3, q4, q5, q6, q7, q8, q9, q10, q11, q12, q13⟩ := Blk.cells14 hd3
    clear hd3 hb3
    cases hk : isKey d.key
    all_goals
      have Hhk := Lib.hid hk
      go_wp2_with (first | (go_at_call 59; refine (delta_isKey _ _).mono ?_; rintro e w4 ⟨rfl, rfl⟩) | (go_at_call 60; refine (delta_isPage _ _).mono ?_; rintro e w4 ⟨rfl, rfl⟩))
      go_ret
      exact ⟨ret_bool (by rw [HV.out, Hhk.out]; try rfl), HB3.out⟩

set_option maxRecDepth 100000 in
set_option maxHeartbeats 4000000 in
theorem delta_may5 (d : Delta) (A A' : Option Addr) (ni nk c c' lo : Nat) (hni : ni = d.right.items.length) (hnk : nk = d.right.kids.length) (w : World) (hp : Pg w lo w.heap.size d.right A A' c c') :
    Calls Tryz.prog 29 #[.agg #[Value.int IntKind.i64 5, Value.string d.item.key, Value.string d.item.value, Value.int IntKind.i64 d.item.no, Value.bool d.item.gone, Value.string d.key, Value.int IntKind.i64 d.page, Value.int IntKind.i64 d.right.level, Value.string d.right.low, Value.string d.right.high, Value.bool d.right.last, Value.int IntKind.i64 d.right.side, Value.slice A ni c, Value.slice A' nk c']] w fun e w' => e = .returned (.bool (d.may 5)) ∧ Below w.heap.size w w' := by
  have HBR := Lib.hid (fun w1 => delta_bare d 5 A A' ni nk c c' hni hnk (by rw [hni]; exact hp.bi) (by rw [hnk]; exact hp.bk) w1)
  clear hni hnk hp
  have a1 := as_5_1
  have a6 := as_5_6
  have hb : Below w.heap.size w (w.alloc (.cells #[Value.int IntKind.i64 5, Value.string d.item.key, Value.string d.item.value, Value.int IntKind.i64 d.item.no, Value.bool d.item.gone, Value.string d.key, Value.int IntKind.i64 d.page, Value.int IntKind.i64 d.right.level, Value.string d.right.low, Value.string d.right.high, Value.bool d.right.last, Value.int IntKind.i64 d.right.side, Value.slice A ni c, Value.slice A' nk c'] 29)) := (Below.refl _ _).alloc (Nat.le_refl _) _
  have hd : Blk (w.alloc (.cells #[Value.int IntKind.i64 5, Value.string d.item.key, Value.string d.item.value, Value.int IntKind.i64 d.item.no, Value.bool d.item.gone, Value.string d.key, Value.int IntKind.i64 d.page, Value.int IntKind.i64 d.right.level, Value.string d.right.low, Value.string d.right.high, Value.bool d.right.last, Value.int IntKind.i64 d.right.side, Value.slice A ni c, Value.slice A' nk c'] 29)) w.heap.size 29 #[Value.int IntKind.i64 5, Value.string d.item.key, Value.string d.item.value, Value.int IntKind.i64 d.item.no, Value.bool d.item.gone, Value.string d.key, Value.int IntKind.i64 d.page, Value.int IntKind.i64 d.right.level, Value.string d.right.low, Value.string d.right.high, Value.bool d.right.last, Value.int IntKind.i64 d.right.side, Value.slice A ni c, Value.slice A' nk c'] := Blk.new _ _ _
  go_enter Tryz.func29, Tryz.ntmps29
  go_upto_region 1 with (fail)
  generalize w.alloc (.cells #[Value.int IntKind.i64 5, Value.string d.item.key, Value.string d.item.value, Value.int IntKind.i64 d.item.no, Value.bool d.item.gone, Value.string d.key, Value.int IntKind.i64 d.page, Value.int IntKind.i64 d.right.level, Value.string d.right.low, Value.string d.right.high, Value.bool d.right.last, Value.int IntKind.i64 d.right.side, Value.slice A ni c, Value.slice A' nk c'] 29) = w0 at *
  obtain ⟨q0, q1, q2, q3, q4, q5, q6, q7, q8, q9, q10, q11, q12, q13⟩ := Blk.cells14 hd
  have HD := Lib.hid hd
  have HB := Lib.hid hb
  clear hd hb
  go_upto_region 2 with (go_at_call 30; refine (delta_of5 d A A' ni nk c c' _).mono ?_; rintro e w1 ⟨rfl, hb1⟩)
  have HB1 : Hid (Below w.heap.size w w1) := Lib.hid (HB.out.trans (hb1.mono HB.out.size))
  have HD1 := Lib.hid (HD.out.below hb1 HD.out.lt)
  clear q0 q1 q2 q3 q4 q5 q6 q7 q8 q9 q10 q11 q12 q13 hb1
  obtain ⟨q0, q1, q2, q3, q4, q5, q6, q7, q8, q9, q10, q11, q12, q13⟩ := Blk.cells14 HD1.out
  cases hbb : d.bareB 5 with
  | false =>
    have HV : Hid (d.may 5 = false) := Lib.hid (by unfold Delta.may; rw [hbb]; simp)
    have HBB := Lib.hid hbb
    clear hbb
    go_wp2_with (go_at_call 57; refine (HBR.out _).mono ?_; rw [HBB.out]; rintro e w2 ⟨rfl, hb2⟩)
    go_ret
    exact ⟨ret_bool HV.out.symm, HB1.out.trans (hb2.mono HB1.out.size)⟩
  | true =>
    have HV : Hid (d.may 5 = isPage d.page) := Lib.hid (by unfold Delta.may; rw [hbb]; simp)
    have HBB := Lib.hid hbb
    clear hbb
    go_upto_region 4 with (go_at_call 57; refine (HBR.out _).mono ?_; rw [HBB.out]; rintro e w2 ⟨rfl, hb2⟩)
    have HB2 : Hid (Below w.heap.size w w2) := Lib.hid (HB1.out.trans (hb2.mono HB1.out.size))
    have HD2 := Lib.hid (HD1.out.below hb2 HD1.out.lt)
    clear q0 q1 q2 q3 q4 q5 q6 q7 q8 q9 q10 q11 q12 q13 hb2
    have hd3 : Blk (World.alloc (World.alloc w2 (.cells #[Value.string { data := #[] }, Value.string { data := #[] }, Value.int IntKind.i64 0, Value.bool false] 67)) (.cells #[Value.int IntKind.i64 0, Value.string { data := #[] }, Value.string { data := #[] }, Value.bool false, Value.int IntKind.i64 0, Value.slice none 0 0, Value.slice none 0 0] 79)) w.heap.size 29 #[Value.int IntKind.i64 5, Value.string d.item.key, Value.string d.item.value, Value.int IntKind.i64 d.item.no, Value.bool d.item.gone, Value.string d.key, Value.int IntKind.i64 d.page, Value.int IntKind.i64 d.right.level, Value.string d.right.low, Value.string d.right.high, Value.bool d.right.last, Value.int IntKind.i64 d.right.side, Value.slice A ni c, Value.slice A' nk c'] := (HD2.out.alloc _).alloc _
    have hb3 : Below w.heap.size w (World.alloc (World.alloc w2 (.cells #[Value.string { data := #[] }, Value.string { data := #[] }, Value.int IntKind.i64 0, Value.bool false] 67)) (.cells #[Value.int IntKind.i64 0, Value.string { data := #[] }, Value.string { data := #[] }, Value.bool false, Value.int IntKind.i64 0, Value.slice none 0 0, Value.slice none 0 0] 79)) := (HB2.out.alloc HB2.out.size _).alloc (by have := HB2.out.size; simp; omega) _
    go_upto_region 10 with (fail)
    generalize (World.alloc (World.alloc w2 (.cells #[Value.string { data := #[] }, Value.string { data := #[] }, Value.int IntKind.i64 0, Value.bool false] 67)) (.cells #[Value.int IntKind.i64 0, Value.string { data := #[] }, Value.string { data := #[] }, Value.bool false, Value.int IntKind.i64 0, Value.slice none 0 0, Value.slice none 0 0] 79)) = w3 at *
    have HB3 := Lib.hid hb3
    obtain ⟨q0, q1, q2, q3, q4, q5, q6, q7, q8, q9, q10, q11, q12, q13⟩ := Blk.cells14 hd3
    clear hd3 hb3
    cases hg : isPage d.page
    all_goals
      have Hhg := Lib.hid hg
      go_wp2_with (first | (go_at_call 59; refine (delta_isKey _ _).mono ?_; rintro e w4 ⟨rfl, rfl⟩) | (go_at_call 60; refine (delta_isPage _ _).mono ?_; rintro e w4 ⟨rfl, rfl⟩))
      go_ret
      exact ⟨ret_bool (by rw [HV.out, Hhg.out]; try rfl), HB3.out⟩

set_option maxRecDepth 100000 in
set_option maxHeartbeats 4000000 in
theorem delta_may6 (d : Delta) (A A' : Option Addr) (ni nk c c' lo : Nat) (hni : ni = d.right.items.length) (hnk : nk = d.right.kids.length) (w : World) (hp : Pg w lo w.heap.size d.right A A' c c') :
    Calls Tryz.prog 29 #[.agg #[Value.int IntKind.i64 6, Value.string d.item.key, Value.string d.item.value, Value.int IntKind.i64 d.item.no, Value.bool d.item.gone, Value.string d.key, Value.int IntKind.i64 d.page, Value.int IntKind.i64 d.right.level, Value.string d.right.low, Value.string d.right.high, Value.bool d.right.last, Value.int IntKind.i64 d.right.side, Value.slice A ni c, Value.slice A' nk c']] w fun e w' => e = .returned (.bool (d.may 6)) ∧ Below w.heap.size w w' := by
  have HBR := Lib.hid (fun w1 => delta_bare d 6 A A' ni nk c c' hni hnk (by rw [hni]; exact hp.bi) (by rw [hnk]; exact hp.bk) w1)
  have HRD : Hid (∀ W, Below w.heap.size w W → Pg W lo W.heap.size d.right A A' c c') := Lib.hid fun W h => (hp.below h).mono (Nat.le_refl _) h.size
  have HCH := Lib.hid (fun w1 h => page_Check d.right A A' c c' lo w1 h)
  unfold Page.val Page.raw at HCH
  rw [← hni, ← hnk] at HCH
  clear hni hnk hp
  have a1 := as_6_1
  have a6 := as_6_6
  have hb : Below w.heap.size w (w.alloc (.cells #[Value.int IntKind.i64 6, Value.string d.item.key, Value.string d.item.value, Value.int IntKind.i64 d.item.no, Value.bool d.item.gone, Value.string d.key, Value.int IntKind.i64 d.page, Value.int IntKind.i64 d.right.level, Value.string d.right.low, Value.string d.right.high, Value.bool d.right.last, Value.int IntKind.i64 d.right.side, Value.slice A ni c, Value.slice A' nk c'] 29)) := (Below.refl _ _).alloc (Nat.le_refl _) _
  have hd : Blk (w.alloc (.cells #[Value.int IntKind.i64 6, Value.string d.item.key, Value.string d.item.value, Value.int IntKind.i64 d.item.no, Value.bool d.item.gone, Value.string d.key, Value.int IntKind.i64 d.page, Value.int IntKind.i64 d.right.level, Value.string d.right.low, Value.string d.right.high, Value.bool d.right.last, Value.int IntKind.i64 d.right.side, Value.slice A ni c, Value.slice A' nk c'] 29)) w.heap.size 29 #[Value.int IntKind.i64 6, Value.string d.item.key, Value.string d.item.value, Value.int IntKind.i64 d.item.no, Value.bool d.item.gone, Value.string d.key, Value.int IntKind.i64 d.page, Value.int IntKind.i64 d.right.level, Value.string d.right.low, Value.string d.right.high, Value.bool d.right.last, Value.int IntKind.i64 d.right.side, Value.slice A ni c, Value.slice A' nk c'] := Blk.new _ _ _
  go_enter Tryz.func29, Tryz.ntmps29
  go_upto_region 1 with (fail)
  generalize w.alloc (.cells #[Value.int IntKind.i64 6, Value.string d.item.key, Value.string d.item.value, Value.int IntKind.i64 d.item.no, Value.bool d.item.gone, Value.string d.key, Value.int IntKind.i64 d.page, Value.int IntKind.i64 d.right.level, Value.string d.right.low, Value.string d.right.high, Value.bool d.right.last, Value.int IntKind.i64 d.right.side, Value.slice A ni c, Value.slice A' nk c'] 29) = w0 at *
  obtain ⟨q0, q1, q2, q3, q4, q5, q6, q7, q8, q9, q10, q11, q12, q13⟩ := Blk.cells14 hd
  have HD := Lib.hid hd
  have HB := Lib.hid hb
  clear hd hb
  go_upto_region 2 with (go_at_call 30; refine (delta_of6 d A A' ni nk c c' _).mono ?_; rintro e w1 ⟨rfl, hb1⟩)
  have HB1 : Hid (Below w.heap.size w w1) := Lib.hid (HB.out.trans (hb1.mono HB.out.size))
  have HD1 := Lib.hid (HD.out.below hb1 HD.out.lt)
  clear q0 q1 q2 q3 q4 q5 q6 q7 q8 q9 q10 q11 q12 q13 hb1
  obtain ⟨q0, q1, q2, q3, q4, q5, q6, q7, q8, q9, q10, q11, q12, q13⟩ := Blk.cells14 HD1.out
  cases hbb : d.bareB 6 with
  | false =>
    have HV : Hid (d.may 6 = false) := Lib.hid (by unfold Delta.may; rw [hbb]; simp)
    have HBB := Lib.hid hbb
    clear hbb
    go_wp2_with (go_at_call 57; refine (HBR.out _).mono ?_; rw [HBB.out]; rintro e w2 ⟨rfl, hb2⟩)
    go_ret
    exact ⟨ret_bool HV.out.symm, HB1.out.trans (hb2.mono HB1.out.size)⟩
  | true =>
    have HV : Hid (d.may 6 = d.right.ok) := Lib.hid (by unfold Delta.may; rw [hbb]; simp)
    have HBB := Lib.hid hbb
    clear hbb
    go_upto_region 4 with (go_at_call 57; refine (HBR.out _).mono ?_; rw [HBB.out]; rintro e w2 ⟨rfl, hb2⟩)
    have HB2 : Hid (Below w.heap.size w w2) := Lib.hid (HB1.out.trans (hb2.mono HB1.out.size))
    have HD2 := Lib.hid (HD1.out.below hb2 HD1.out.lt)
    clear q0 q1 q2 q3 q4 q5 q6 q7 q8 q9 q10 q11 q12 q13 hb2
    have hb3 : Below w.heap.size w (World.alloc (World.alloc w2 (.cells #[Value.string { data := #[] }, Value.string { data := #[] }, Value.int IntKind.i64 0, Value.bool false] 67)) (.cells #[Value.int IntKind.i64 d.right.level, Value.string d.right.low, Value.string d.right.high, Value.bool d.right.last, Value.int IntKind.i64 d.right.side, Value.slice A ni c, Value.slice A' nk c'] 79)) := (HB2.out.alloc HB2.out.size _).alloc (by have := HB2.out.size; simp; omega) _
    go_wp2_with fail
    generalize (World.alloc (World.alloc w2 (.cells #[Value.string { data := #[] }, Value.string { data := #[] }, Value.int IntKind.i64 0, Value.bool false] 67)) (.cells #[Value.int IntKind.i64 d.right.level, Value.string d.right.low, Value.string d.right.high, Value.bool d.right.last, Value.int IntKind.i64 d.right.side, Value.slice A ni c, Value.slice A' nk c'] 79)) = w3 at *
    have HB3 := Lib.hid hb3
    refine (HCH.out w3 (HRD.out w3 hb3)).mono ?_
    clear hb3
    cases hok : d.right.ok
    all_goals
      have hc : d.right.check = cond d.right.ok 0 101 := rfl
      rw [hok] at hc
      have HOK := Lib.hid hok
      have HC := Lib.hid hc
      clear hok hc
      rw [HC.out]
      rintro e w4 ⟨rfl, hb4⟩
      have HB4 : Hid (Below w.heap.size w w4) := Lib.hid (HB3.out.trans (hb4.mono HB3.out.size))
      clear hb4
      go_wp2
      go_ret
      exact ⟨ret_bool (by rw [HV.out, HOK.out]; try rfl), HB4.out⟩

set_option maxHeartbeats 1000000 in
theorem delta_may0 (d : Delta) (k : Int) (hk : ¬ (1 ≤ k ∧ k ≤ 6)) (A A' : Option Addr) (ni nk c c' : Nat) (w : World) :
    Calls Tryz.prog 29 #[.agg #[Value.int IntKind.i64 k, Value.string d.item.key, Value.string d.item.value, Value.int IntKind.i64 d.item.no, Value.bool d.item.gone, Value.string d.key, Value.int IntKind.i64 d.page, Value.int IntKind.i64 d.right.level, Value.string d.right.low, Value.string d.right.high, Value.bool d.right.last, Value.int IntKind.i64 d.right.side, Value.slice A ni c, Value.slice A' nk c']] w fun e w' => e = .returned (.bool (d.may k)) ∧ Below w.heap.size w w' := by
  have HV : Hid (d.may k = false) := Lib.hid (by unfold Delta.may; rw [decide_eq_false hk]; rfl)
  have hb : Below w.heap.size w (w.alloc (.cells #[Value.int IntKind.i64 k, Value.string d.item.key, Value.string d.item.value, Value.int IntKind.i64 d.item.no, Value.bool d.item.gone, Value.string d.key, Value.int IntKind.i64 d.page, Value.int IntKind.i64 d.right.level, Value.string d.right.low, Value.string d.right.high, Value.bool d.right.last, Value.int IntKind.i64 d.right.side, Value.slice A ni c, Value.slice A' nk c'] 29)) := (Below.refl _ _).alloc (Nat.le_refl _) _
  have hd : Blk (w.alloc (.cells #[Value.int IntKind.i64 k, Value.string d.item.key, Value.string d.item.value, Value.int IntKind.i64 d.item.no, Value.bool d.item.gone, Value.string d.key, Value.int IntKind.i64 d.page, Value.int IntKind.i64 d.right.level, Value.string d.right.low, Value.string d.right.high, Value.bool d.right.last, Value.int IntKind.i64 d.right.side, Value.slice A ni c, Value.slice A' nk c'] 29)) w.heap.size 29 #[Value.int IntKind.i64 k, Value.string d.item.key, Value.string d.item.value, Value.int IntKind.i64 d.item.no, Value.bool d.item.gone, Value.string d.key, Value.int IntKind.i64 d.page, Value.int IntKind.i64 d.right.level, Value.string d.right.low, Value.string d.right.high, Value.bool d.right.last, Value.int IntKind.i64 d.right.side, Value.slice A ni c, Value.slice A' nk c'] := Blk.new _ _ _
  go_enter Tryz.func29, Tryz.ntmps29
  go_upto_region 1 with (fail)
  generalize w.alloc (.cells #[Value.int IntKind.i64 k, Value.string d.item.key, Value.string d.item.value, Value.int IntKind.i64 d.item.no, Value.bool d.item.gone, Value.string d.key, Value.int IntKind.i64 d.page, Value.int IntKind.i64 d.right.level, Value.string d.right.low, Value.string d.right.high, Value.bool d.right.last, Value.int IntKind.i64 d.right.side, Value.slice A ni c, Value.slice A' nk c'] 29) = w0 at *
  obtain ⟨q0, q1, q2, q3, q4, q5, q6, q7, q8, q9, q10, q11, q12, q13⟩ := Blk.cells14 hd
  have HB := Lib.hid hb
  clear hd hb
  go_wp2_with (go_at_call 30; refine (delta_of0 d k hk A A' ni nk c c' _).mono ?_; rintro e w1 ⟨rfl, hb1⟩)
  go_ret
  exact ⟨ret_bool HV.out.symm, HB.out.trans (hb1.mono HB.out.size)⟩

/-- may a change be? -/
noncomputable def Delta.mayB (d : Delta) : Bool := d.may d.kind
theorem delta_may (d : Delta) (A A' : Option Addr) (c c' lo : Nat) (w : World) (hp : Pg w lo w.heap.size d.right A A' c c') :
    Calls Tryz.prog 29 #[d.val A c A' c'] w fun e w' => e = .returned (.bool d.mayB) ∧ Below w.heap.size w w' := by
  unfold Delta.val Delta.mayB
  by_cases h : 1 ≤ d.kind ∧ d.kind ≤ 6
  · have h6 : d.kind = 1 ∨ d.kind = 2 ∨ d.kind = 3 ∨ d.kind = 4 ∨ d.kind = 5 ∨ d.kind = 6 := by omega
    rcases h6 with e | e | e | e | e | e
    · rw [e]; exact delta_may1 d A A' _ _ c c' lo rfl rfl w hp
    · rw [e]; exact delta_may2 d A A' _ _ c c' lo rfl rfl w hp
    · rw [e]; exact delta_may3 d A A' _ _ c c' lo rfl rfl w hp
    · rw [e]; exact delta_may4 d A A' _ _ c c' lo rfl rfl w hp
    · rw [e]; exact delta_may5 d A A' _ _ c c' lo rfl rfl w hp
    · rw [e]; exact delta_may6 d A A' _ _ c c' lo rfl rfl w hp
  · exact delta_may0 d d.kind h A A' _ _ c c' w
end Go.Proofs.YtjbdmaehomhdeaaGreat
