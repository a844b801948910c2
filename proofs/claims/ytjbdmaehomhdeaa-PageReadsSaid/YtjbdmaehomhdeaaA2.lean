import Derived.Test.YtjbdmaehomhdeaaA1
namespace Go.Proofs.Ytjbdmaehomhdeaa
open Go.RowKit

set_option maxHeartbeats 400000 in
theorem leaf_bad (x : Item) (w : World) :
    Calls Try.prog 74 #[x.val] w fun e w' => e = .returned (.bool (x.check != 0)) ∧ Below w.heap.size w w' := by
  unfold Item.val
  go_enter Try.func74, Try.ntmps74
  go_wp2_with (go_at_call 24; refine (page_CheckItem x _).mono ?_; rintro e w' ⟨rfl, hb⟩)
  go_ret
  exact ⟨rfl, ((Below.refl _ _).alloc (Nat.le_refl _) _).trans (hb.mono (by simp))⟩

/-- where a predicate is first true; -1: nowhere -/
def idx {α : Type} (p : α → Bool) (l : List α) : Int := if (l.findIdx p) < l.length then (l.findIdx p : Int) else -1


theorem idx_hit {α : Type} {p : α → Bool} {l : List α} {k : Nat} {x : α} (hx : l[k]? = some x) (hp : p x = true) (hno : ∀ j y, j < k → l[j]? = some y → p y = false) : idx p l = (k : Int) := by
  have hk : k < l.length := by
    rcases Nat.lt_or_ge k l.length with h | h
    · exact h
    · rw [List.getElem?_eq_none h] at hx; cases hx
  have hk2 : l[k] = x := by rw [List.getElem?_eq_getElem hk] at hx; exact Option.some.inj hx
  have : l.findIdx p = k := by
    rw [List.findIdx_eq hk]
    exact ⟨by rw [hk2]; exact hp, fun j hj => hno j _ hj (List.getElem?_eq_getElem (by omega))⟩
  unfold idx
  rw [this, if_pos hk]
theorem idx_none {α : Type} {p : α → Bool} {l : List α} (hno : ∀ j y, j < l.length → l[j]? = some y → p y = false) : idx p l = -1 := by
  have : l.findIdx p = l.length := by
    rw [List.findIdx_eq_length]
    intro x hx
    obtain ⟨j, hj, e⟩ := List.getElem_of_mem hx
    exact hno j x hj (by rw [List.getElem?_eq_getElem hj, e])
  unfold idx
  rw [this, if_neg (by omega)]

theorem idx_any {α : Type} (p : α → Bool) (l : List α) : decide (idx p l ≥ 0) = l.any p := by
  unfold idx
  split
  · rename_i h
    rw [List.findIdx_lt_length] at h
    obtain ⟨x, hx, hp⟩ := h
    rw [decide_eq_true (by omega)]
    symm; rw [List.any_eq_true]; exact ⟨x, hx, hp⟩
  · rename_i h
    rw [List.findIdx_lt_length] at h
    rw [decide_eq_false (by omega)]
    symm; rw [List.any_eq_false]
    intro x hx hp
    exact h ⟨x, hx, hp⟩

set_option maxHeartbeats 400000 in
theorem indexFunc_leaf (A : Option Addr) (c lo : Nat) (l : List Item) (w : World) (hr : Rd Item.cells 4 w lo w.heap.size A l) (hlen : l.length ≤ 140737488351232) :
    Calls Try.prog 51 #[.slice A l.length c, .func (.func 74) #[] #[]] w fun e w' => e = .returned (.int .i64 (idx (fun x => x.check != 0) l)) ∧ Below w.heap.size w w' := by
  have HR := Lib.hid hr
  clear hr
  go_enter Try.func51, Try.ntmps51
  go_wp2
  go_loopw [8] (fun i wr => ∃ k : Nat, k ≤ l.length ∧ i = .int .i64 k ∧ Hid (Below w.heap.size w wr) ∧ Hid (∀ j y, j < k → l[j]? = some y → (y.check != 0) = false)) (fun i _ => l.length - (intOf i).toNat)
  case atStart => exact ⟨0, Nat.zero_le _, rfl, Lib.hid (Below.refl _ _), Lib.hid (by intro j y h; omega)⟩
  case round =>
    obtain ⟨k, hk, rfl, hb, hno⟩ := hrel
    by_cases hlt : k < l.length
    · obtain ⟨ad, x, rfl, hx, h1, h2, c0, c1, c2, c3⟩ := (HR.out.below hb.out).item hlt
      cases hq : (x.check != 0) with
      | true =>
        have HQ := Lib.hid hq
        go_wp2_with (go_at_call 74; refine (leaf_bad x _).mono ?_; rintro e w1 ⟨rfl, hb1⟩)
        go_ret
        exact ⟨ret_i64 (idx_hit hx.out HQ.out hno.out).symm, hb.out.trans (hb1.mono (hb.out.size))⟩
      | false =>
        have HQ := Lib.hid hq
        go_wp2_with (go_at_call 74; refine (leaf_bad x _).mono ?_; rintro e w1 ⟨rfl, hb1⟩)
        go_roundw
        case rel => exact ⟨k + 1, by omega, by go_num, Lib.hid (hb.out.trans (hb1.mono hb.out.size)), Lib.hid (by
          intro j y hj hy
          rcases Nat.lt_or_ge j k with h | h
          · exact hno.out j y h hy
          · obtain rfl : j = k := by omega
            rw [hx.out] at hy; cases hy; exact HQ.out)⟩
        case measure => simp [intOf]; omega
    · go_wp2
      go_ret
      exact ⟨ret_i64 (idx_none (fun j y hj hy => hno.out j y (by omega) hy)).symm, hb.out⟩

set_option maxHeartbeats 400000 in
theorem contains_leaf (A : Option Addr) (c lo : Nat) (l : List Item) (w : World) (hr : Rd Item.cells 4 w lo w.heap.size A l) (hlen : l.length ≤ 140737488351232) :
    Calls Try.prog 75 #[.slice A l.length c, .func (.func 74) #[] #[]] w fun e w' => e = .returned (.bool (l.any (fun x => x.check != 0))) ∧ Below w.heap.size w w' := by
  go_enter Try.func75, Try.ntmps75
  go_wp2_with (go_at_call 51; refine (indexFunc_leaf A c lo l _ hr hlen).mono ?_; rintro e w1 ⟨rfl, hb1⟩)
  go_ret
  exact ⟨ret_bool (idx_any _ _), hb1⟩
end Go.Proofs.Ytjbdmaehomhdeaa
