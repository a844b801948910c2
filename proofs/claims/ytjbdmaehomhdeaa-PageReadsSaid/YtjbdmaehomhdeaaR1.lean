/- The reference's small functions: the same words as the program's. -/
import Derived.Test.YtjbdmaehomhdeaaB2
import Derived.Test.YtjbdmaehomhdeaaA3
namespace Go.Proofs.Ytjbdmaehomhdeaa
open Go.RowKit

set_option maxHeartbeats 400000 in
theorem ref_key (s : ByteArray) (w : World) :
    Calls Try.prog 40 #[.string s] w fun e w' => e = .returned (.bool (isKey s)) ∧ w = w' := by
  go_enter Try.func40, Try.ntmps40
  go_wp2
  all_goals go_ret
  all_goals exact ⟨ret_bool (by first | exact isKey_yes ‹_› | exact isKey_no ‹_›), rfl⟩

set_option maxHeartbeats 400000 in
theorem ref_number (n : Int) (w : World) :
    Calls Try.prog 41 #[.int .i64 n] w fun e w' => e = .returned (.bool (isPage n)) ∧ w = w' := by
  go_enter Try.func41, Try.ntmps41
  go_wp2
  all_goals go_ret
  all_goals exact ⟨ret_bool (by first | exact isPage_yes ‹_› | exact isPage_no ‹_›), rfl⟩

set_option maxHeartbeats 400000 in
theorem ref_Covers (p : Page) (A A' : Option Addr) (n c n' c' : Nat) (k : ByteArray) (w : World)  :
    Calls Try.prog 42 #[p.raw A n c A' n' c', .string k] w fun e w' => e = .returned (.bool (p.covers k)) ∧ Below w.heap.size w w' := by
  unfold Page.raw
  go_enter Try.func42, Try.ntmps42
  go_wp2
  all_goals go_ret
  all_goals refine ⟨?_, (Below.refl _ _).alloc (Nat.le_refl _) _⟩
  all_goals simp_all [Page.covers, lt]

set_option maxHeartbeats 1000000 in
theorem ref_CheckItem (x : Item) (w : World) :
    Calls Try.prog 92 #[x.val] w fun e w' => e = .returned (.int .i64 x.check) ∧ Below w.heap.size w w' := by
  unfold Item.val
  go_enter Try.func92, Try.ntmps92
  go_wp2
  all_goals go_ret
  all_goals refine ⟨ret_i64 ?_, (Below.refl _ _).alloc (Nat.le_refl _) _⟩
  all_goals unfold Item.check Item.May isKey
  all_goals grind
end Go.Proofs.Ytjbdmaehomhdeaa
