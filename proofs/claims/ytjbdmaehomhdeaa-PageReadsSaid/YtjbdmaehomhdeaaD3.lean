/- Insert, at the end. -/
import Derived.Test.YtjbdmaehomhdeaaD2
namespace Go.Proofs.Ytjbdmaehomhdeaa
open Go.RowKit

def PostIItem (w : World) (base : Nat) (v : Value) (l : List Item) (e : Ending) (w' : World) : Prop := ∃ v', e = .returned v' ∧ OwnItem w' base v' l ∧ w.grownBy w' v.ownBlock

set_option maxRecDepth 100000 in
set_option maxHeartbeats 1000000 in
theorem insert_end_item (base g0 : Nat) (v : Value) (l : List Item) (x : Item) (w : World) (hown : OwnItem w base v l) (hblk : Blk w g0 39 x.cells.toArray) (hlen : l.length ≤ 1000) (hbase : base ≤ w.heap.size) :
    Calls Try.prog 50 #[v, .int .i64 (l.length : Nat), .slice (some ⟨g0, 0, none⟩) 1 1] w (PostIItem w base v (l ++ [x])) := by
  have HO := Lib.hid hown
  obtain ⟨A, c, rfl, hc, _⟩ := hown.form
  have hcm : c ≤ maxLen := by
    rcases hown.2 with ⟨e, _⟩ | ⟨g, cap, cur, e, _, _, _, hm, _⟩
    · injection e with e1 e2 e3; omega
    · injection e with e1 e2 e3; omega
  unfold maxLen at hcm
  obtain ⟨i0, hi0, hz0, hz1, hz2⟩ := info_parts info_item
  have HI0 := Lib.hid hi0
  have HZ0 := Lib.hid hz0
  have HZ1 := Lib.hid hz1
  have HZ2 := Lib.hid hz2
  have HBK := Lib.hid hblk
  clear hi0 hz0 hz1 hz2 hown hblk
  obtain ⟨n, hn⟩ : ∃ n, n = l.length := ⟨_, rfl⟩
  rw [← hn] at hc hlen HO
  rw [← hn]
  have HN := Lib.hid hn
  clear hn
  have hnn : ((n : Int) == (n : Int)) = true := beq_self_eq_true _
  go_enter Try.func50, Try.ntmps50
  have hn0 : (0 : Int) ≤ (n : Int) := by omega
  have hnc : (n : Int) ≤ (c : Int) := by omega
  by_cases hcn : c = n
  all_goals
    go_wp2_with (at_builtin; (refine wpList_append_own _ rfl (.tmp 23) (.tmp 24) 24 rfl base 39 i0 _ 4 (12 * 4) Try.underlying24 HI0.out HZ0.out HZ1.out HZ2.out rfl (by omega) _ n (l.flatMap Item.cells) rfl (by have := HO.out; unfold OwnItem at this; rw [← HN.out] at this; exact this) ⟨g0, 0, none⟩ 1 1 x.cells rfl (by rfl) (World.news_of_block (cs := x.cells.toArray) (t := 39) (fr := (0, 0)) HBK.out) (Item.one x) (by simp only [maxLen]; omega) (by omega) hbase ?_); intro v' w' hO hG _)
    go_ret
    exact ⟨v', rfl, by unfold OwnItem; rw [List.length_append, List.flatMap_append, ← HN.out]; simpa using hO, hG⟩

def PostIKid (w : World) (base : Nat) (v : Value) (l : List Kid) (e : Ending) (w' : World) : Prop := ∃ v', e = .returned v' ∧ OwnKid w' base v' l ∧ w.grownBy w' v.ownBlock

set_option maxRecDepth 100000 in
set_option maxHeartbeats 1000000 in
theorem insert_end_kid (base g0 : Nat) (v : Value) (l : List Kid) (x : Kid) (w : World) (hown : OwnKid w base v l) (hblk : Blk w g0 60 x.cells.toArray) (hlen : l.length ≤ 1000) (hbase : base ≤ w.heap.size) :
    Calls Try.prog 119 #[v, .int .i64 (l.length : Nat), .slice (some ⟨g0, 0, none⟩) 1 1] w (PostIKid w base v (l ++ [x])) := by
  have HO := Lib.hid hown
  obtain ⟨A, c, rfl, hc, _⟩ := hown.form
  have hcm : c ≤ maxLen := by
    rcases hown.2 with ⟨e, _⟩ | ⟨g, cap, cur, e, _, _, _, hm, _⟩
    · injection e with e1 e2 e3; omega
    · injection e with e1 e2 e3; omega
  unfold maxLen at hcm
  obtain ⟨i0, hi0, hz0, hz1, hz2⟩ := info_parts info_kid
  have HI0 := Lib.hid hi0
  have HZ0 := Lib.hid hz0
  have HZ1 := Lib.hid hz1
  have HZ2 := Lib.hid hz2
  have HBK := Lib.hid hblk
  clear hi0 hz0 hz1 hz2 hown hblk
  obtain ⟨n, hn⟩ : ∃ n, n = l.length := ⟨_, rfl⟩
  rw [← hn] at hc hlen HO
  rw [← hn]
  have HN := Lib.hid hn
  clear hn
  have hnn : ((n : Int) == (n : Int)) = true := beq_self_eq_true _
  go_enter Try.func119, Try.ntmps119
  have hn0 : (0 : Int) ≤ (n : Int) := by omega
  have hnc : (n : Int) ≤ (c : Int) := by omega
  by_cases hcn : c = n
  all_goals
    go_wp2_with (at_builtin; (refine wpList_append_own _ rfl (.tmp 23) (.tmp 24) 25 rfl base 60 i0 _ 2 (12 * 2) Try.underlying25 HI0.out HZ0.out HZ1.out HZ2.out rfl (by omega) _ n (l.flatMap Kid.cells) rfl (by have := HO.out; unfold OwnKid at this; rw [← HN.out] at this; exact this) ⟨g0, 0, none⟩ 1 1 x.cells rfl (by rfl) (World.news_of_block (cs := x.cells.toArray) (t := 60) (fr := (0, 0)) HBK.out) (Kid.one x) (by simp only [maxLen]; omega) (by omega) hbase ?_); intro v' w' hO hG _)
    go_ret
    exact ⟨v', rfl, by unfold OwnKid; rw [List.length_append, List.flatMap_append, ← HN.out]; simpa using hO, hG⟩

end Go.Proofs.Ytjbdmaehomhdeaa
