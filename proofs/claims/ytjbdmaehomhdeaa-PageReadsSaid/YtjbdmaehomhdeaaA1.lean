import Derived.Test.YtjbdmaehomhdeaaBase
namespace Go.Proofs.Ytjbdmaehomhdeaa
open Go.RowKit

theorem isKey_yes {s : ByteArray} (h1 : (1 : Int) ≤ s.size) : decide ((s.size : Int) ≤ 16) = isKey s := by
  unfold isKey; rw [decide_eq_decide]; omega
theorem isKey_no {s : ByteArray} (h1 : (s.size : Int) < 1) : false = isKey s := by
  unfold isKey; simp; omega
theorem isPage_yes {n : Int} (h1 : 1 ≤ n) : decide (n ≤ 512) = isPage n := by
  unfold isPage; rw [decide_eq_decide]; omega
theorem isPage_no {n : Int} (h1 : n < 1) : false = isPage n := by
  unfold isPage; simp; omega

set_option maxHeartbeats 400000 in
theorem page_isKey (s : ByteArray) (w : World) :
    Calls Try.prog 53 #[.string s] w fun e w' => e = .returned (.bool (isKey s)) ∧ w = w' := by
  go_enter Try.func53, Try.ntmps53
  go_wp2
  all_goals go_ret
  all_goals exact ⟨ret_bool (by first | exact isKey_yes ‹_› | exact isKey_no ‹_›), rfl⟩

set_option maxHeartbeats 400000 in
theorem page_isPage (n : Int) (w : World) :
    Calls Try.prog 54 #[.int .i64 n] w fun e w' => e = .returned (.bool (isPage n)) ∧ w = w' := by
  go_enter Try.func54, Try.ntmps54
  go_wp2
  all_goals go_ret
  all_goals exact ⟨ret_bool (by first | exact isPage_yes ‹_› | exact isPage_no ‹_›), rfl⟩

set_option maxHeartbeats 400000 in
theorem page_Covers (p : Page) (A A' : Option Addr) (n c n' c' : Nat) (k : ByteArray) (w : World)  :
    Calls Try.prog 44 #[.agg #[.int .i64 p.level, .string p.low, .string p.high, .bool p.last, .int .i64 p.side, .slice A n c, .slice A' n' c'], .string k] w fun e w' => e = .returned (.bool (p.covers k)) ∧ Below w.heap.size w w' := by
  go_enter Try.func44, Try.ntmps44
  go_wp2
  all_goals go_ret
  all_goals refine ⟨?_, (Below.refl _ _).alloc (Nat.le_refl _) _⟩
  all_goals simp_all [Page.covers, lt]

set_option maxHeartbeats 400000 in
theorem page_CheckItem (x : Item) (w : World) :
    Calls Try.prog 24 #[x.val] w fun e w' => e = .returned (.int .i64 x.check) ∧ Below w.heap.size w w' := by
  unfold Item.val
  go_enter Try.func24, Try.ntmps24
  go_wp2_with (go_at_call 53; refine (page_isKey _ _).mono ?_; rintro e w' ⟨rfl, rfl⟩)
  all_goals go_ret
  all_goals refine ⟨ret_i64 ?_, (Below.refl _ _).alloc (Nat.le_refl _) _⟩
  all_goals unfold Item.check Item.May
  all_goals grind
end Go.Proofs.Ytjbdmaehomhdeaa
