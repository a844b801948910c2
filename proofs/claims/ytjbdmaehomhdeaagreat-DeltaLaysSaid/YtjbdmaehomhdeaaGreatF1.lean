/- delta: isKey, isPage, of, bare. -/
import Derived.Test.YtjbdmaehomhdeaaGreatZS
set_option linter.unusedSimpArgs false
set_option linter.unusedVariables false
namespace Go.Proofs.YtjbdmaehomhdeaaGreat
open Go.RowKit

structure Delta where
  kind : Int
  item : Item
  key : ByteArray
  page : Int
  right : Page
/-- a change's value; its page's lists at addresses -/
def Delta.val (d : Delta) (A : Option Addr) (c : Nat) (A' : Option Addr) (c' : Nat) : Value :=
  .agg #[.int .i64 d.kind, .string d.item.key, .string d.item.value, .int .i64 d.item.no, .bool d.item.gone, .string d.key, .int .i64 d.page,
    .int .i64 d.right.level, .string d.right.low, .string d.right.high, .bool d.right.last, .int .i64 d.right.side, .slice A d.right.items.length c, .slice A' d.right.kids.length c']

set_option maxHeartbeats 400000 in
theorem delta_isKey (s : ByteArray) (w : World) :
    Calls Tryz.prog 59 #[.string s] w fun e w' => e = .returned (.bool (isKey s)) ∧ w = w' := by
  go_enter Tryz.func59, Tryz.ntmps59
  go_wp2
  all_goals go_ret
  all_goals exact ⟨ret_bool (by first | exact isKey_yes ‹_› | exact isKey_no ‹_›), rfl⟩

set_option maxHeartbeats 400000 in
theorem delta_isPage (n : Int) (w : World) :
    Calls Tryz.prog 60 #[.int .i64 n] w fun e w' => e = .returned (.bool (isPage n)) ∧ w = w' := by
  go_enter Tryz.func60, Tryz.ntmps60
  go_wp2
  all_goals go_ret
  all_goals exact ⟨ret_bool (by first | exact isPage_yes ‹_› | exact isPage_no ‹_›), rfl⟩


set_option maxHeartbeats 1000000 in
theorem delta_of1 (d : Delta) (A A' : Option Addr) (ni nk c c' : Nat) (w : World) :
    Calls Tryz.prog 30 #[.agg #[Value.int IntKind.i64 1, Value.string d.item.key, Value.string d.item.value, Value.int IntKind.i64 d.item.no, Value.bool d.item.gone, Value.string d.key, Value.int IntKind.i64 d.page, Value.int IntKind.i64 d.right.level, Value.string d.right.low, Value.string d.right.high, Value.bool d.right.last, Value.int IntKind.i64 d.right.side, Value.slice A ni c, Value.slice A' nk c']] w fun e w' => e = .returned (.iface 67 (.agg #[.string d.item.key, .string d.item.value, .int .i64 d.item.no, .bool d.item.gone])) ∧ Below w.heap.size w w' := by
  go_enter Tryz.func30, Tryz.ntmps30
  go_wp2
  go_ret
  exact ⟨rfl, (Below.refl _ _).alloc (Nat.le_refl _) _⟩

set_option maxHeartbeats 1000000 in
theorem delta_of2 (d : Delta) (A A' : Option Addr) (ni nk c c' : Nat) (w : World) :
    Calls Tryz.prog 30 #[.agg #[Value.int IntKind.i64 2, Value.string d.item.key, Value.string d.item.value, Value.int IntKind.i64 d.item.no, Value.bool d.item.gone, Value.string d.key, Value.int IntKind.i64 d.page, Value.int IntKind.i64 d.right.level, Value.string d.right.low, Value.string d.right.high, Value.bool d.right.last, Value.int IntKind.i64 d.right.side, Value.slice A ni c, Value.slice A' nk c']] w fun e w' => e = .returned (.iface 71 (.agg #[.string d.key, .int .i64 d.page])) ∧ Below w.heap.size w w' := by
  go_enter Tryz.func30, Tryz.ntmps30
  go_wp2
  go_ret
  exact ⟨rfl, (Below.refl _ _).alloc (Nat.le_refl _) _⟩

set_option maxHeartbeats 1000000 in
theorem delta_of3 (d : Delta) (A A' : Option Addr) (ni nk c c' : Nat) (w : World) :
    Calls Tryz.prog 30 #[.agg #[Value.int IntKind.i64 3, Value.string d.item.key, Value.string d.item.value, Value.int IntKind.i64 d.item.no, Value.bool d.item.gone, Value.string d.key, Value.int IntKind.i64 d.page, Value.int IntKind.i64 d.right.level, Value.string d.right.low, Value.string d.right.high, Value.bool d.right.last, Value.int IntKind.i64 d.right.side, Value.slice A ni c, Value.slice A' nk c']] w fun e w' => e = .returned (.iface 73 (.agg #[.string d.key, .int .i64 d.page])) ∧ Below w.heap.size w w' := by
  go_enter Tryz.func30, Tryz.ntmps30
  go_wp2
  go_ret
  exact ⟨rfl, (Below.refl _ _).alloc (Nat.le_refl _) _⟩

set_option maxHeartbeats 1000000 in
theorem delta_of4 (d : Delta) (A A' : Option Addr) (ni nk c c' : Nat) (w : World) :
    Calls Tryz.prog 30 #[.agg #[Value.int IntKind.i64 4, Value.string d.item.key, Value.string d.item.value, Value.int IntKind.i64 d.item.no, Value.bool d.item.gone, Value.string d.key, Value.int IntKind.i64 d.page, Value.int IntKind.i64 d.right.level, Value.string d.right.low, Value.string d.right.high, Value.bool d.right.last, Value.int IntKind.i64 d.right.side, Value.slice A ni c, Value.slice A' nk c']] w fun e w' => e = .returned (.iface 75 (.agg #[.string d.key])) ∧ Below w.heap.size w w' := by
  go_enter Tryz.func30, Tryz.ntmps30
  go_wp2
  go_ret
  exact ⟨rfl, (Below.refl _ _).alloc (Nat.le_refl _) _⟩

set_option maxHeartbeats 1000000 in
theorem delta_of5 (d : Delta) (A A' : Option Addr) (ni nk c c' : Nat) (w : World) :
    Calls Tryz.prog 30 #[.agg #[Value.int IntKind.i64 5, Value.string d.item.key, Value.string d.item.value, Value.int IntKind.i64 d.item.no, Value.bool d.item.gone, Value.string d.key, Value.int IntKind.i64 d.page, Value.int IntKind.i64 d.right.level, Value.string d.right.low, Value.string d.right.high, Value.bool d.right.last, Value.int IntKind.i64 d.right.side, Value.slice A ni c, Value.slice A' nk c']] w fun e w' => e = .returned (.iface 77 (.agg #[.int .i64 d.page])) ∧ Below w.heap.size w w' := by
  go_enter Tryz.func30, Tryz.ntmps30
  go_wp2
  go_ret
  exact ⟨rfl, (Below.refl _ _).alloc (Nat.le_refl _) _⟩

set_option maxHeartbeats 1000000 in
theorem delta_of6 (d : Delta) (A A' : Option Addr) (ni nk c c' : Nat) (w : World) :
    Calls Tryz.prog 30 #[.agg #[Value.int IntKind.i64 6, Value.string d.item.key, Value.string d.item.value, Value.int IntKind.i64 d.item.no, Value.bool d.item.gone, Value.string d.key, Value.int IntKind.i64 d.page, Value.int IntKind.i64 d.right.level, Value.string d.right.low, Value.string d.right.high, Value.bool d.right.last, Value.int IntKind.i64 d.right.side, Value.slice A ni c, Value.slice A' nk c']] w fun e w' => e = .returned (.iface 79 (.agg #[.int .i64 d.right.level, .string d.right.low, .string d.right.high, .bool d.right.last, .int .i64 d.right.side, .slice A ni c, .slice A' nk c'])) ∧ Below w.heap.size w w' := by
  go_enter Tryz.func30, Tryz.ntmps30
  go_wp2
  go_ret
  exact ⟨rfl, (Below.refl _ _).alloc (Nat.le_refl _) _⟩

set_option maxHeartbeats 1000000 in
theorem delta_of0 (d : Delta) (k : Int) (hk : ¬ (1 ≤ k ∧ k ≤ 6)) (A A' : Option Addr) (ni nk c c' : Nat) (w : World) :
    Calls Tryz.prog 30 #[.agg #[Value.int IntKind.i64 k, Value.string d.item.key, Value.string d.item.value, Value.int IntKind.i64 d.item.no, Value.bool d.item.gone, Value.string d.key, Value.int IntKind.i64 d.page, Value.int IntKind.i64 d.right.level, Value.string d.right.low, Value.string d.right.high, Value.bool d.right.last, Value.int IntKind.i64 d.right.side, Value.slice A ni c, Value.slice A' nk c']] w fun e w' => e = .returned .nilIface ∧ Below w.heap.size w w' := by
  have h1 : (k == 1) = false := by rw [beq_eq_false_iff_ne]; omega
  have h2 : (k == 2) = false := by rw [beq_eq_false_iff_ne]; omega
  have h3 : (k == 3) = false := by rw [beq_eq_false_iff_ne]; omega
  have h4 : (k == 4) = false := by rw [beq_eq_false_iff_ne]; omega
  have h5 : (k == 5) = false := by rw [beq_eq_false_iff_ne]; omega
  have h6 : (k == 6) = false := by rw [beq_eq_false_iff_ne]; omega
  go_enter Tryz.func30, Tryz.ntmps30
  go_wp2
  go_ret
  exact ⟨rfl, (Below.refl _ _).alloc (Nat.le_refl _) _⟩

def Item.none : Item := ⟨⟨#[]⟩, ⟨#[]⟩, 0, false⟩
def Page.bareB (p : Page) : Bool := (p.level == 0) && (p.low.toList.isEmpty && (p.high.toList.isEmpty && ((!p.last) && ((p.side == 0) && (((p.items.length : Int) + (p.kids.length : Int)) == 0)))))
def Delta.b1 (d : Delta) (k : Int) : Bool := d.item.same Item.none || (k == 1)
def Delta.b2 (d : Delta) (k : Int) : Bool := d.key.toList.isEmpty || ((k == 2) || ((k == 3) || (k == 4)))
def Delta.b3 (d : Delta) (k : Int) : Bool := (d.page == 0) || ((k == 2) || ((k == 3) || (k == 5)))
def Delta.bareB (d : Delta) (k : Int) : Bool := d.b1 k && (d.b2 k && (d.b3 k && (d.right.bareB || (k == 6))))
set_option maxRecDepth 100000 in
set_option maxHeartbeats 4000000 in
theorem delta_bare (d : Delta) (k : Int) (A A' : Option Addr) (ni nk c c' : Nat) (hni : ni = d.right.items.length) (hnk : nk = d.right.kids.length) (hn1 : ni ≤ 140737488351232) (hn2 : nk ≤ 140737488351232) (w : World) :
    Calls Tryz.prog 57 #[.agg #[Value.int IntKind.i64 k, Value.string d.item.key, Value.string d.item.value, Value.int IntKind.i64 d.item.no, Value.bool d.item.gone, Value.string d.key, Value.int IntKind.i64 d.page, Value.int IntKind.i64 d.right.level, Value.string d.right.low, Value.string d.right.high, Value.bool d.right.last, Value.int IntKind.i64 d.right.side, Value.slice A ni c, Value.slice A' nk c']] w fun e w' => e = .returned (.bool (d.bareB k)) ∧ Below w.heap.size w w' := by
  have HNI := Lib.hid hni
  have HNK := Lib.hid hnk
  clear hni hnk
  have hb : Below w.heap.size w (w.alloc (.cells #[Value.int IntKind.i64 k, Value.string d.item.key, Value.string d.item.value, Value.int IntKind.i64 d.item.no, Value.bool d.item.gone, Value.string d.key, Value.int IntKind.i64 d.page, Value.int IntKind.i64 d.right.level, Value.string d.right.low, Value.string d.right.high, Value.bool d.right.last, Value.int IntKind.i64 d.right.side, Value.slice A ni c, Value.slice A' nk c'] 29)) := (Below.refl _ _).alloc (Nat.le_refl _) _
  have hd : Blk (w.alloc (.cells #[Value.int IntKind.i64 k, Value.string d.item.key, Value.string d.item.value, Value.int IntKind.i64 d.item.no, Value.bool d.item.gone, Value.string d.key, Value.int IntKind.i64 d.page, Value.int IntKind.i64 d.right.level, Value.string d.right.low, Value.string d.right.high, Value.bool d.right.last, Value.int IntKind.i64 d.right.side, Value.slice A ni c, Value.slice A' nk c'] 29)) w.heap.size 29 #[Value.int IntKind.i64 k, Value.string d.item.key, Value.string d.item.value, Value.int IntKind.i64 d.item.no, Value.bool d.item.gone, Value.string d.key, Value.int IntKind.i64 d.page, Value.int IntKind.i64 d.right.level, Value.string d.right.low, Value.string d.right.high, Value.bool d.right.last, Value.int IntKind.i64 d.right.side, Value.slice A ni c, Value.slice A' nk c'] := Blk.new _ _ _
  go_enter Tryz.func57, Tryz.ntmps57
  go_upto_region 2 with (fail)
  generalize w.alloc (.cells #[Value.int IntKind.i64 k, Value.string d.item.key, Value.string d.item.value, Value.int IntKind.i64 d.item.no, Value.bool d.item.gone, Value.string d.key, Value.int IntKind.i64 d.page, Value.int IntKind.i64 d.right.level, Value.string d.right.low, Value.string d.right.high, Value.bool d.right.last, Value.int IntKind.i64 d.right.side, Value.slice A ni c, Value.slice A' nk c'] 29) = w0 at *
  have q0 : w0.cell? ⟨w.heap.size, 0, none⟩ = some (.int .i64 k) := hd.cell 0
  have q1 : w0.cell? ⟨w.heap.size, 1, none⟩ = some (.string d.item.key) := hd.cell 1
  have q2 : w0.cell? ⟨w.heap.size, 2, none⟩ = some (.string d.item.value) := hd.cell 2
  have q3 : w0.cell? ⟨w.heap.size, 3, none⟩ = some (.int .i64 d.item.no) := hd.cell 3
  have q4 : w0.cell? ⟨w.heap.size, 4, none⟩ = some (.bool d.item.gone) := hd.cell 4
  have q5 : w0.cell? ⟨w.heap.size, 5, none⟩ = some (.string d.key) := hd.cell 5
  have q6 : w0.cell? ⟨w.heap.size, 6, none⟩ = some (.int .i64 d.page) := hd.cell 6
  have q7 : w0.cell? ⟨w.heap.size, 7, none⟩ = some (.int .i64 d.right.level) := hd.cell 7
  have q8 : w0.cell? ⟨w.heap.size, 8, none⟩ = some (.string d.right.low) := hd.cell 8
  have q9 : w0.cell? ⟨w.heap.size, 9, none⟩ = some (.string d.right.high) := hd.cell 9
  have q10 : w0.cell? ⟨w.heap.size, 10, none⟩ = some (.bool d.right.last) := hd.cell 10
  have q11 : w0.cell? ⟨w.heap.size, 11, none⟩ = some (.int .i64 d.right.side) := hd.cell 11
  have q12 : w0.cell? ⟨w.heap.size, 12, none⟩ = some (.slice A ni c) := hd.cell 12
  have q13 : w0.cell? ⟨w.heap.size, 13, none⟩ = some (.slice A' nk c') := hd.cell 13
  have HB := Lib.hid hb
  clear hb hd
  go_cut [4] (fun v wc => v = .bool (d.b1 k) ∧ w0 = wc)
  case first =>
    have hE : ∀ W, (binOp .eql 23 (.agg #[.string d.item.key, .string d.item.value, .int .i64 d.item.no, .bool d.item.gone]) (.agg #[Value.string { data := #[] }, Value.string { data := #[] }, Value.int IntKind.i64 0, Value.bool false])).run Tryz.prog W = .ok (.bool (d.item.same Item.none)) W := fun W => eql_item d.item Item.none W
    cases hs : d.item.same Item.none
    all_goals
      rw [hs] at hE
      have HS := Lib.hid hs
      clear hs
      cases hk1 : (k == 1)
      all_goals
        have HK := Lib.hid hk1
        go_wp2
        go_meet
        exact ⟨by unfold Delta.b1; rw [HS.out, HK.out]; simp, rfl⟩
  case rest =>
    obtain ⟨rfl, rfl⟩ := hcut
    go_upto_region 3 with (fail)
    go_cut [5] (fun v wc => v = .bool (d.b2 k) ∧ w0 = wc)
    case first =>
      cases ht0 : (d.key.toList.isEmpty) with
      | true =>
        have Hht0 := Lib.hid ht0
        go_wp2
        go_meet
        exact ⟨by unfold Delta.b2; simp only [Hht0.out]; simp, rfl⟩
      | false =>
        cases ht1 : (k == 2) with
        | true =>
          have Hht0 := Lib.hid ht0
          have Hht1 := Lib.hid ht1
          go_wp2
          go_meet
          exact ⟨by unfold Delta.b2; simp only [Hht0.out, Hht1.out]; simp, rfl⟩
        | false =>
          cases ht2 : (k == 3) with
          | true =>
            have Hht0 := Lib.hid ht0
            have Hht1 := Lib.hid ht1
            have Hht2 := Lib.hid ht2
            go_wp2
            go_meet
            exact ⟨by unfold Delta.b2; simp only [Hht0.out, Hht1.out, Hht2.out]; simp, rfl⟩
          | false =>
            cases ht3 : (k == 4) with
            | true =>
              have Hht0 := Lib.hid ht0
              have Hht1 := Lib.hid ht1
              have Hht2 := Lib.hid ht2
              have Hht3 := Lib.hid ht3
              go_wp2
              go_meet
              exact ⟨by unfold Delta.b2; simp only [Hht0.out, Hht1.out, Hht2.out, Hht3.out]; simp, rfl⟩
            | false =>
              have Hht0 := Lib.hid ht0
              have Hht1 := Lib.hid ht1
              have Hht2 := Lib.hid ht2
              have Hht3 := Lib.hid ht3
              go_wp2
              go_meet
              exact ⟨by unfold Delta.b2; simp only [Hht0.out, Hht1.out, Hht2.out, Hht3.out]; simp, rfl⟩
    case rest =>
      obtain ⟨rfl, rfl⟩ := hcut
      go_upto_region 4 with (fail)
      go_cut [6] (fun v wc => v = .bool (d.b3 k) ∧ w0 = wc)
      case first =>
        cases ht0 : (d.page == 0) with
        | true =>
          have Hht0 := Lib.hid ht0
          go_wp2
          go_meet
          exact ⟨by unfold Delta.b3; simp only [Hht0.out]; simp, rfl⟩
        | false =>
          cases ht1 : (k == 2) with
          | true =>
            have Hht0 := Lib.hid ht0
            have Hht1 := Lib.hid ht1
            go_wp2
            go_meet
            exact ⟨by unfold Delta.b3; simp only [Hht0.out, Hht1.out]; simp, rfl⟩
          | false =>
            cases ht2 : (k == 3) with
            | true =>
              have Hht0 := Lib.hid ht0
              have Hht1 := Lib.hid ht1
              have Hht2 := Lib.hid ht2
              go_wp2
              go_meet
              exact ⟨by unfold Delta.b3; simp only [Hht0.out, Hht1.out, Hht2.out]; simp, rfl⟩
            | false =>
              cases ht3 : (k == 5) with
              | true =>
                have Hht0 := Lib.hid ht0
                have Hht1 := Lib.hid ht1
                have Hht2 := Lib.hid ht2
                have Hht3 := Lib.hid ht3
                go_wp2
                go_meet
                exact ⟨by unfold Delta.b3; simp only [Hht0.out, Hht1.out, Hht2.out, Hht3.out]; simp, rfl⟩
              | false =>
                have Hht0 := Lib.hid ht0
                have Hht1 := Lib.hid ht1
                have Hht2 := Lib.hid ht2
                have Hht3 := Lib.hid ht3
                go_wp2
                go_meet
                exact ⟨by unfold Delta.b3; simp only [Hht0.out, Hht1.out, Hht2.out, Hht3.out]; simp, rfl⟩
      case rest =>
        obtain ⟨rfl, rfl⟩ := hcut
        have hr : Blk (w0.alloc (.cells #[Value.int IntKind.i64 d.right.level, Value.string d.right.low, Value.string d.right.high, Value.bool d.right.last, Value.int IntKind.i64 d.right.side, Value.slice A ni c, Value.slice A' nk c'] 27)) w0.heap.size 27 #[Value.int IntKind.i64 d.right.level, Value.string d.right.low, Value.string d.right.high, Value.bool d.right.last, Value.int IntKind.i64 d.right.side, Value.slice A ni c, Value.slice A' nk c'] := Blk.new _ _ _
        have hB : Below w0.heap.size w0 (w0.alloc (.cells #[Value.int IntKind.i64 d.right.level, Value.string d.right.low, Value.string d.right.high, Value.bool d.right.last, Value.int IntKind.i64 d.right.side, Value.slice A ni c, Value.slice A' nk c'] 27)) := (Below.refl _ _).alloc (Nat.le_refl _) _
        have HBE : Hid (Below w.heap.size w (w0.alloc (.cells #[Value.int IntKind.i64 d.right.level, Value.string d.right.low, Value.string d.right.high, Value.bool d.right.last, Value.int IntKind.i64 d.right.side, Value.slice A ni c, Value.slice A' nk c'] 27))) := Lib.hid (HB.out.trans (hB.mono HB.out.size))
        go_upto_region 6 with (fail)
        generalize w0.alloc (.cells #[Value.int IntKind.i64 d.right.level, Value.string d.right.low, Value.string d.right.high, Value.bool d.right.last, Value.int IntKind.i64 d.right.side, Value.slice A ni c, Value.slice A' nk c'] 27) = w1 at *
        obtain ⟨r0, r1, r2, r3, r4, r5, r6⟩ := Blk.cells7 hr
        clear hr hB q0 q1 q2 q3 q4 q5 q6 q7 q8 q9 q10 q11 q12 q13
        have HN : Hid (d.right.bareB = ((d.right.level == 0) && (d.right.low.toList.isEmpty && (d.right.high.toList.isEmpty && ((!d.right.last) && ((d.right.side == 0) && (((ni : Int) + (nk : Int)) == 0))))))) := Lib.hid (by unfold Page.bareB; rw [HNI.out, HNK.out])
        go_cut [8] (fun v wc => v = .bool d.right.bareB ∧ w1 = wc)
        case first =>
          cases ht0 : (d.right.level == 0) with
          | true =>
            cases ht1 : (d.right.low.toList.isEmpty) with
            | true =>
              cases ht2 : (d.right.high.toList.isEmpty) with
              | true =>
                cases ht3 : (!d.right.last) with
                | true =>
                  cases ht4 : (d.right.side == 0) with
                  | true =>
                    cases ht5 : (((ni : Int) + (nk : Int)) == 0) with
                    | true =>
                      have Hht0 := Lib.hid ht0
                      have Hht1 := Lib.hid ht1
                      have Hht2 := Lib.hid ht2
                      have Hht3 := Lib.hid ht3
                      have Hht4 := Lib.hid ht4
                      have Hht5 := Lib.hid ht5
                      go_wp2
                      go_meet
                      exact ⟨by rw [HN.out]; simp only [Hht0.out, Hht1.out, Hht2.out, Hht3.out, Hht4.out, Hht5.out]; simp, rfl⟩
                    | false =>
                      have Hht0 := Lib.hid ht0
                      have Hht1 := Lib.hid ht1
                      have Hht2 := Lib.hid ht2
                      have Hht3 := Lib.hid ht3
                      have Hht4 := Lib.hid ht4
                      have Hht5 := Lib.hid ht5
                      go_wp2
                      go_meet
                      exact ⟨by rw [HN.out]; simp only [Hht0.out, Hht1.out, Hht2.out, Hht3.out, Hht4.out, Hht5.out]; simp, rfl⟩
                  | false =>
                    have Hht0 := Lib.hid ht0
                    have Hht1 := Lib.hid ht1
                    have Hht2 := Lib.hid ht2
                    have Hht3 := Lib.hid ht3
                    have Hht4 := Lib.hid ht4
                    go_wp2
                    go_meet
                    exact ⟨by rw [HN.out]; simp only [Hht0.out, Hht1.out, Hht2.out, Hht3.out, Hht4.out]; simp, rfl⟩
                | false =>
                  have Hht0 := Lib.hid ht0
                  have Hht1 := Lib.hid ht1
                  have Hht2 := Lib.hid ht2
                  have Hht3 := Lib.hid ht3
                  go_wp2
                  go_meet
                  exact ⟨by rw [HN.out]; simp only [Hht0.out, Hht1.out, Hht2.out, Hht3.out]; simp, rfl⟩
              | false =>
                have Hht0 := Lib.hid ht0
                have Hht1 := Lib.hid ht1
                have Hht2 := Lib.hid ht2
                go_wp2
                go_meet
                exact ⟨by rw [HN.out]; simp only [Hht0.out, Hht1.out, Hht2.out]; simp, rfl⟩
            | false =>
              have Hht0 := Lib.hid ht0
              have Hht1 := Lib.hid ht1
              go_wp2
              go_meet
              exact ⟨by rw [HN.out]; simp only [Hht0.out, Hht1.out]; simp, rfl⟩
          | false =>
            have Hht0 := Lib.hid ht0
            go_wp2
            go_meet
            exact ⟨by rw [HN.out]; simp only [Hht0.out]; simp, rfl⟩
        case rest =>
          obtain ⟨rfl, rfl⟩ := hcut
          obtain ⟨x1, hx1⟩ : ∃ b, b = d.b1 k := ⟨_, rfl⟩
          obtain ⟨x2, hx2⟩ : ∃ b, b = d.b2 k := ⟨_, rfl⟩
          obtain ⟨x3, hx3⟩ : ∃ b, b = d.b3 k := ⟨_, rfl⟩
          obtain ⟨x4, hx4⟩ : ∃ b, b = d.right.bareB := ⟨_, rfl⟩
          have HV : Hid (d.bareB k = (x1 && (x2 && (x3 && (x4 || (k == 6)))))) := Lib.hid (by unfold Delta.bareB; rw [hx1, hx2, hx3, hx4])
          rw [← hx1, ← hx2, ← hx3, ← hx4]
          clear hx1 hx2 hx3 hx4 r0 r1 r2 r3 r4 r5 r6
          cases hk6 : (k == 6)
          all_goals
            have HK6 := Lib.hid hk6
            cases x1 <;> cases x2 <;> cases x3 <;> cases x4
          all_goals
            go_wp2
            go_ret
            exact ⟨ret_bool (by rw [HV.out, HK6.out]; simp), HBE.out⟩
end Go.Proofs.YtjbdmaehomhdeaaGreat
