import Derived.Test.YtjbdmaehomhdeaaA3
namespace Go.Proofs.Ytjbdmaehomhdeaa
open Go.RowKit

/-- a kid that may not be -/
def Kid.bad (x : Kid) : Bool := !isPage x.page || decide ((x.key.size : Int) > 16)

set_option maxHeartbeats 400000 in
theorem inner_bad (x : Kid) (w : World) :
    Calls Try.prog 77 #[x.val] w fun e w' => e = .returned (.bool x.bad) ∧ Below w.heap.size w w' := by
  unfold Kid.val
  go_enter Try.func77, Try.ntmps77
  go_wp2_with (go_at_call 54; refine (page_isPage _ _).mono ?_; rintro e w' ⟨rfl, rfl⟩)
  all_goals go_ret
  all_goals refine ⟨ret_bool ?_, (Below.refl _ _).alloc (Nat.le_refl _) _⟩
  all_goals unfold Kid.bad
  all_goals simp_all

set_option maxHeartbeats 400000 in
theorem indexFunc_inner (A : Option Addr) (c lo : Nat) (l : List Kid) (w : World) (hr : Rd Kid.cells 2 w lo w.heap.size A l) (hlen : l.length ≤ 140737488351232) :
    Calls Try.prog 91 #[.slice A l.length c, .func (.func 77) #[] #[]] w fun e w' => e = .returned (.int .i64 (idx (fun x => x.bad) l)) ∧ Below w.heap.size w w' := by
  have HR := Lib.hid hr
  clear hr
  go_enter Try.func91, Try.ntmps91
  go_wp2
  go_loopw [8] (fun i wr => ∃ k : Nat, k ≤ l.length ∧ i = .int .i64 k ∧ Hid (Below w.heap.size w wr) ∧ Hid (∀ j y, j < k → l[j]? = some y → (y.bad) = false)) (fun i _ => l.length - (intOf i).toNat)
  case atStart => exact ⟨0, Nat.zero_le _, rfl, Lib.hid (Below.refl _ _), Lib.hid (by intro j y h; omega)⟩
  case round =>
    obtain ⟨k, hk, rfl, hb, hno⟩ := hrel
    by_cases hlt : k < l.length
    · obtain ⟨ad, x, rfl, hx, h1, h2, c0, c1⟩ := (HR.out.below hb.out).kid hlt
      cases hq : (x.bad) with
      | true =>
        have HQ := Lib.hid hq
        go_wp2_with (go_at_call 77; refine (inner_bad x _).mono ?_; rintro e w1 ⟨rfl, hb1⟩)
        go_ret
        exact ⟨ret_i64 (idx_hit hx.out HQ.out hno.out).symm, hb.out.trans (hb1.mono (hb.out.size))⟩
      | false =>
        have HQ := Lib.hid hq
        go_wp2_with (go_at_call 77; refine (inner_bad x _).mono ?_; rintro e w1 ⟨rfl, hb1⟩)
        go_roundw
        case rel => exact ⟨k + 1, by omega, by go_num, Lib.hid (hb.out.trans (hb1.mono hb.out.size)), Lib.hid (by
          intro j y hj hy
          rcases Nat.lt_or_ge j k with h | h
          · exact hno.out j y h hy
          · obtain rfl : j = k := by omega
            rw [hx.out] at hy; cases hy; exact HQ.out)⟩
        case measure => simp [intOf]; omega
    · go_wp2
      go_ret
      exact ⟨ret_i64 (idx_none (fun j y hj hy => hno.out j y (by omega) hy)).symm, hb.out⟩

set_option maxHeartbeats 400000 in
theorem contains_inner (A : Option Addr) (c lo : Nat) (l : List Kid) (w : World) (hr : Rd Kid.cells 2 w lo w.heap.size A l) (hlen : l.length ≤ 140737488351232) :
    Calls Try.prog 78 #[.slice A l.length c, .func (.func 77) #[] #[]] w fun e w' => e = .returned (.bool (l.any (fun x => x.bad))) ∧ Below w.heap.size w w' := by
  go_enter Try.func78, Try.ntmps78
  go_wp2_with (go_at_call 91; refine (indexFunc_inner A c lo l _ hr hlen).mono ?_; rintro e w1 ⟨rfl, hb1⟩)
  go_ret
  exact ⟨ret_bool (idx_any _ _), hb1⟩
end Go.Proofs.Ytjbdmaehomhdeaa
